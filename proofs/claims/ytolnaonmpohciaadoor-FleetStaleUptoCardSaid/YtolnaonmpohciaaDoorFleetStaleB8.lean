/-
  FleetStale: for every input whose bulk is at most 1048576 the law returns true, and each argument reads behind the call as it read before; part 8 of 9 of the proof: an interpreter of the model's code over typed data, proved sound; the functions that the law reaches, printed as Lean functions and tied; the plain law. Own texts laid one behind the other.
-/
import Derived.Test.YtolnaonmpohciaaDoorFleetStaleB7
set_option linter.unusedSimpArgs false
set_option linter.unnecessarySimpa false
set_option linter.unusedVariables false
set_option linter.unusedSectionVars false
/-
  Functions of the program as pure Lean functions, and the ties; printed by wip/tools/emit.py.
-/
set_option maxRecDepth 100000
namespace Go.Proofs.YtolnaonmpohciaaDoor
open Go Go.Yard
variable {R : Type}

/-! ### humpyard/fleet.See -/
abbrev fleet_See_ty (R : Type) : Type := Yard.Ctl → Yard.State → (Yard.Ctl → (List Int) → Bool → Option R) → Option R
abbrev fleet_See_p : List Pat := [.agg [.str, .int .i64, .int .i64, .int .i64, .int .i64, .int .i64, .sl (.int .i64), .int .i64, .bool, .int .i64, .bool, .int .i64, .str, .int .i64, .int .i64, .sl .stop, .sl .way], .agg [.int .i64, .int .i64, .str, .int .i64, .int .i64, .bool, .int .i64, .int .i64, .bool, .int .i64]]
abbrev fleet_See_q : List HPat := []
noncomputable def fleet_See_rr (fn : fleet_See_ty R) : Run R fleet_See_p fleet_See_q := fun x y k => fn (⟨x.1.1, x.1.2.1, x.1.2.2.1, x.1.2.2.2.1, x.1.2.2.2.2.1, x.1.2.2.2.2.2.1, x.1.2.2.2.2.2.2.1, x.1.2.2.2.2.2.2.2.1, (t8 x.1).1, (t8 x.1).2.1, (t8 x.1).2.2.1, ⟨(t8 x.1).2.2.2.1, (t8 x.1).2.2.2.2.1, (t8 x.1).2.2.2.2.2.1, (t8 x.1).2.2.2.2.2.2.1, (t8 x.1).2.2.2.2.2.2.2.1, (t8 (t8 x.1)).1⟩⟩ : Yard.Ctl) (⟨x.2.1.1, x.2.1.2.1, x.2.1.2.2.1, x.2.1.2.2.2.1, x.2.1.2.2.2.2.1, x.2.1.2.2.2.2.2.1, x.2.1.2.2.2.2.2.2.1, x.2.1.2.2.2.2.2.2.2.1, (t8 x.2.1).1, (t8 x.2.1).2.1⟩ : Yard.State) (fun q0 q1 q2 => k (.tuple [.agg [.str q0.vehicle, .int .i64 q0.header, .int .i64 q0.order, .int .i64 q0.update, .int .i64 q0.boot, .int .i64 q0.seen, .sl (.int .i64) q0.path .no, .int .i64 q0.seq, .bool q0.open_, .int .i64 q0.rel, .bool q0.wait, .int .i64 q0.pending.header, .str q0.pending.vehicle, .int .i64 q0.pending.order, .int .i64 q0.pending.update, .sl .stop q0.pending.nodes .no, .sl .way q0.pending.edges .no], .sl (.int .i64) q1 .no, .bool q2]) [])
noncomputable def fleet_See_s (fn : fleet_See_ty R) := specBy fleet_See_p fleet_See_q (fleet_See_rr fn)
section
variable (fleet_ctl_done_dbb7 : fleet_ctl_done_dbb7_ty R) (fleet_ctl_done_b801 : fleet_ctl_done_b801_ty R) (fleet_ctl_goes_a984 : fleet_ctl_goes_a984_ty R) (fleet_ctl_goes_4f52 : fleet_ctl_goes_4f52_ty R) (fleet_own : fleet_own_ty R) (fleet_right : fleet_right_ty R) (state_Newer : state_Newer_ty R) (state_Right : state_Right_ty R)
noncomputable def fleet_See_E : List (Ent R) := [(41, false, (fleet_ctl_done_b801_s fleet_ctl_done_b801 (fleet_ctl_done_dbb7_s fleet_ctl_done_dbb7 specNo))), (42, false, (fleet_ctl_goes_4f52_s fleet_ctl_goes_4f52 (fleet_ctl_goes_a984_s fleet_ctl_goes_a984 specNo))), (25, false, (fleet_own_s fleet_own specNo)), (34, true, (fleet_right_s fleet_right specNo)), (40, true, (state_Newer_s state_Newer specNo)), (39, true, (state_Right_s state_Right specNo))]
noncomputable def fleet_See_X (x1 : Yard.Ctl) (x2 : Yard.State) (k0 : Yard.Ctl → (List Int) → Bool → Option R) : Option R :=
  fleet_own x1 (fun y3 => fleet_right x1 (fun y4 => bif (!y4) then (k0 y3 ([] : List Int) false) else (state_Right x2 (fun y5 => bif (!y5) then (k0 y3 ([] : List Int) false) else (bif (!(x2.vehicle == x1.vehicle)) then (k0 y3 ([] : List Int) false) else (state_Newer x2 (⟨x1.seen, x1.boot, ([] : Str), 0, 0, false, 0, 0, false, 0⟩ : Yard.State) (fun y6 => bif (!y6) then (k0 y3 ([] : List Int) false) else (let j24 := fun (z8 : Bool) => bif z8 then (fleet_ctl_done_dbb7 (⟨y3.vehicle, y3.header, y3.order, y3.update, x2.boot, x2.header, y3.path, y3.seq, y3.open_, y3.rel, y3.wait, ⟨y3.pending.header, y3.pending.vehicle, y3.pending.order, y3.pending.update, y3.pending.nodes, y3.pending.edges⟩⟩ : Yard.Ctl) (fun y9 y10 y11 y12 y13 y14 y15 y16 y17 y18 y19 y20 y21 y22 y23 => bif (x2.order == 0) then (k0 (⟨y9, y10, y11, y12, y13, y14, y15, y16, y17, y18, y19, ⟨y20, y21, y22, y23, ([] : List Stop), ([] : List Yard.Way)⟩⟩ : Yard.Ctl) ([] : List Int) true) else (bif (x2.order != x1.order) then (k0 (⟨y9, y10, y11, y12, y13, y14, y15, y16, y17, y18, y19, ⟨y20, y21, y22, y23, ([] : List Stop), ([] : List Yard.Way)⟩⟩ : Yard.Ctl) ([] : List Int) true) else (let j121 := bif x1.open_ then (bif (!x2.live) then (fleet_ctl_done_b801 y9 y10 y11 y12 y13 y14 y15 y16 y17 y18 y19 y20 y21 y22 y23 (fun y106 y107 y108 y109 y110 y111 y112 y113 y114 y115 y116 y117 y118 y119 y120 => k0 (⟨y106, y107, y108, y109, y110, y111, y112, y113, false, 0, y116, ⟨y117, y118, y119, y120, ([] : List Stop), ([] : List Yard.Way)⟩⟩ : Yard.Ctl) ([] : List Int) true)) else (k0 (⟨y9, y10, y11, y12, y13, y14, y15, y16, y17, y18, y19, ⟨y20, y21, y22, y23, ([] : List Stop), ([] : List Yard.Way)⟩⟩ : Yard.Ctl) ([] : List Int) true)) else (k0 (⟨y9, y10, y11, y12, y13, y14, y15, y16, y17, y18, y19, ⟨y20, y21, y22, y23, ([] : List Stop), ([] : List Yard.Way)⟩⟩ : Yard.Ctl) ([] : List Int) true); bif (decide ((IntKind.i64.wrap (x2.seq - x1.seq)) > (0 : Int))) then (bif ((Int.tmod (IntKind.i64.wrap (x2.seq - x1.seq)) 2) == 0) then (bif (decide ((IntKind.i64.wrap (x2.seq - x1.seq)) < (x1.path.length : Int))) then (fleet_ctl_goes_a984 (IntKind.i64.wrap (x2.seq - x1.seq)) y9 y10 y11 y12 y13 y14 y15 y16 y17 y18 y19 y20 y21 y22 y23 (fun y43 y44 y45 y46 y47 y48 y49 y50 y51 y52 y53 y54 y55 y56 y57 y58 => bif x1.open_ then (bif (!x2.live) then (fleet_ctl_done_b801 y44 y45 y46 y47 y48 y49 y50 y51 y52 y53 y54 y55 y56 y57 y58 (fun y75 y76 y77 y78 y79 y80 y81 y82 y83 y84 y85 y86 y87 y88 y89 => k0 (⟨y75, y76, y77, y78, y79, y80, y81, y82, false, 0, y85, ⟨y86, y87, y88, y89, ([] : List Stop), ([] : List Yard.Way)⟩⟩ : Yard.Ctl) y43 true)) else (k0 (⟨y44, y45, y46, y47, y48, y49, y50, y51, y52, y53, y54, ⟨y55, y56, y57, y58, ([] : List Stop), ([] : List Yard.Way)⟩⟩ : Yard.Ctl) y43 true)) else (k0 (⟨y44, y45, y46, y47, y48, y49, y50, y51, y52, y53, y54, ⟨y55, y56, y57, y58, ([] : List Stop), ([] : List Yard.Way)⟩⟩ : Yard.Ctl) y43 true))) else (j121)) else (j121)) else (j121))))) else (let j123 := fun (z122 : Bool) => bif z122 then (k0 (⟨y3.vehicle, y3.header, y3.order, y3.update, x2.boot, x2.header, y3.path, y3.seq, y3.open_, y3.rel, y3.wait, ⟨y3.pending.header, y3.pending.vehicle, y3.pending.order, y3.pending.update, y3.pending.nodes, y3.pending.edges⟩⟩ : Yard.Ctl) ([] : List Int) true) else (let j127 := fun (z124 : Bool) => bif z124 then (fleet_ctl_goes_4f52 (IntKind.i64.wrap (x2.seq - x1.seq)) (⟨y3.vehicle, y3.header, y3.order, y3.update, x2.boot, x2.header, y3.path, y3.seq, y3.open_, y3.rel, y3.wait, ⟨y3.pending.header, y3.pending.vehicle, y3.pending.order, y3.pending.update, y3.pending.nodes, y3.pending.edges⟩⟩ : Yard.Ctl) (fun y125 y126 => bif x1.open_ then (bif (!x2.live) then (fleet_ctl_done_dbb7 y126 (fun y144 y145 y146 y147 y148 y149 y150 y151 y152 y153 y154 y155 y156 y157 y158 => k0 (⟨y144, y145, y146, y147, y148, y149, y150, y151, false, 0, y154, ⟨y155, y156, y157, y158, ([] : List Stop), ([] : List Yard.Way)⟩⟩ : Yard.Ctl) y125 true)) else (k0 y126 y125 true)) else (k0 y126 y125 true))) else (let j175 := fun (z159 : Bool) => bif z159 then (fleet_ctl_done_dbb7 (⟨y3.vehicle, y3.header, y3.order, y3.update, x2.boot, x2.header, y3.path, y3.seq, y3.open_, y3.rel, y3.wait, ⟨y3.pending.header, y3.pending.vehicle, y3.pending.order, y3.pending.update, y3.pending.nodes, y3.pending.edges⟩⟩ : Yard.Ctl) (fun y160 y161 y162 y163 y164 y165 y166 y167 y168 y169 y170 y171 y172 y173 y174 => k0 (⟨y160, y161, y162, y163, y164, y165, y166, y167, false, 0, y170, ⟨y171, y172, y173, y174, ([] : List Stop), ([] : List Yard.Way)⟩⟩ : Yard.Ctl) ([] : List Int) true)) else (k0 (⟨y3.vehicle, y3.header, y3.order, y3.update, x2.boot, x2.header, y3.path, y3.seq, y3.open_, y3.rel, y3.wait, ⟨y3.pending.header, y3.pending.vehicle, y3.pending.order, y3.pending.update, y3.pending.nodes, y3.pending.edges⟩⟩ : Yard.Ctl) ([] : List Int) true); bif x1.open_ then (j175 (!x2.live)) else (j175 false)); bif (decide ((IntKind.i64.wrap (x2.seq - x1.seq)) > (0 : Int))) then (bif ((Int.tmod (IntKind.i64.wrap (x2.seq - x1.seq)) 2) == 0) then (j127 (decide ((IntKind.i64.wrap (x2.seq - x1.seq)) < (x1.path.length : Int)))) else (j127 false)) else (j127 false)); bif (x2.order == 0) then (j123 true) else (j123 (x2.order != x1.order))); bif x1.wait then (j24 (decide (x2.accepted ≥ x1.pending.header))) else (j24 false)))))))))
theorem fleet_See_ok : Tied (R := R) tt (fleet_See_E fleet_ctl_done_dbb7 fleet_ctl_done_b801 fleet_ctl_goes_a984 fleet_ctl_goes_4f52 fleet_own fleet_right state_Newer state_Right) noT false Tryd.f18 fleet_See_p fleet_See_q (fleet_See_rr (fleet_See_X fleet_ctl_done_dbb7 fleet_ctl_done_b801 fleet_ctl_goes_a984 fleet_ctl_goes_4f52 fleet_own fleet_right state_Newer state_Right)) := fun x y k => by kernel_rfl
end
theorem fleet_See_EOk : EntOk (R := R) Tryd.prog (fleet_See_E (R := R) fleet_ctl_done_dbb7 fleet_ctl_done_b801 fleet_ctl_goes_a984 fleet_ctl_goes_4f52 fleet_own fleet_right state_Newer state_Right) := .f (fleet_ctl_done_b801_S_ok R _ (fleet_ctl_done_dbb7_S_ok R _ (specNo_ok _))) rfl <| .f (fleet_ctl_goes_4f52_S_ok R _ (fleet_ctl_goes_a984_S_ok R _ (specNo_ok _))) rfl <| .d (fleet_own_S_ok R) rfl <| .c (fleet_right_S_ok R) <| .c (state_Newer_S_ok R) <| .c (state_Right_S_ok R) <| .n
noncomputable def fleet_See : fleet_See_ty R := fun x1 x2 k0 => fleet_See_X fleet_ctl_done_dbb7 fleet_ctl_done_b801 fleet_ctl_goes_a984 fleet_ctl_goes_4f52 fleet_own fleet_right state_Newer state_Right x1 x2 k0
theorem fleet_See_S_ok (R : Type) : OkS Tryd.prog 18 (fleet_See_s (fleet_See (R := R))) := tie_ok TT mixed (fleet_See_EOk (R := R)) rfl rfl rfl rfl noT_ok (fleet_See_ok fleet_ctl_done_dbb7 fleet_ctl_done_b801 fleet_ctl_goes_a984 fleet_ctl_goes_4f52 fleet_own fleet_right state_Newer state_Right)

/-! ### humpyard/humpyardref08.Same -/
abbrev ref08_Same_ty (R : Type) : Type := Order → Order → (Bool → Option R) → Option R
abbrev ref08_Same_p : List Pat := [.agg [.int .i64, .str, .int .i64, .int .i64, .sl .stop, .sl .way], .agg [.int .i64, .str, .int .i64, .int .i64, .sl .stop, .sl .way]]
abbrev ref08_Same_q : List HPat := []
noncomputable def ref08_Same_rr (fn : ref08_Same_ty R) : Run R ref08_Same_p ref08_Same_q := fun x y k => fn (⟨x.1.1, x.1.2.1, x.1.2.2.1, x.1.2.2.2.1, x.1.2.2.2.2.1, x.1.2.2.2.2.2.1⟩ : Order) (⟨x.2.1.1, x.2.1.2.1, x.2.1.2.2.1, x.2.1.2.2.2.1, x.2.1.2.2.2.2.1, x.2.1.2.2.2.2.2.1⟩ : Order) (fun q0 => k (.bool q0) [])
noncomputable def ref08_Same_s (fn : ref08_Same_ty R) := specBy ref08_Same_p ref08_Same_q (ref08_Same_rr fn)
abbrev ref08_Same_4_0_ty (R : Type) : Type := Nat → Int → Order → Order → (Order → Order → Option R) → (Bool → Order → Order → Option R) → Option R
abbrev ref08_Same_9_0_ty (R : Type) : Type := Nat → Int → Order → Order → (Option R) → (Bool → Option R) → Option R
noncomputable def ref08_Same_4_0_h : Hint := { live := [2, 3, 5], own := [], rows := [], cells := [], drop := [], out := [2, 3, 4] }
abbrev ref08_Same_4_0_D : Type := Int × Order × Order
noncomputable def ref08_Same_4_0_enc : ref08_Same_4_0_D → St := fun d => ⟨U 2 (.ptr 0 0 :: .ptr 1 0 :: .undef :: .int .i64 d.1 :: U 81 ([])), [.cells [.int .i64 d.2.1.header, .str d.2.1.vehicle, .int .i64 d.2.1.order, .int .i64 d.2.1.update, .sl .stop d.2.1.nodes .no, .sl .way d.2.1.edges .no], .cells [.int .i64 d.2.2.header, .str d.2.2.vehicle, .int .i64 d.2.2.order, .int .i64 d.2.2.update, .sl .stop d.2.2.nodes .no, .sl .way d.2.2.edges .no]]⟩
noncomputable def ref08_Same_4_0_x0 (K : Ex → St → Option R) (q0 : Order) (q1 : Order) : Option R := K (.exit 0) ⟨U 2 (.ptr 0 0 :: .ptr 1 0 :: U 83 ([])), [.cells [.int .i64 q0.header, .str q0.vehicle, .int .i64 q0.order, .int .i64 q0.update, .sl .stop q0.nodes .no, .sl .way q0.edges .no], .cells [.int .i64 q1.header, .str q1.vehicle, .int .i64 q1.order, .int .i64 q1.update, .sl .stop q1.nodes .no, .sl .way q1.edges .no]]⟩
noncomputable def ref08_Same_4_0_x1 (K : Ex → St → Option R) (q0 : Bool) (q1 : Order) (q2 : Order) : Option R := K (.ret) ⟨U 2 (.ptr 0 0 :: .ptr 1 0 :: .bool q0 :: U 82 ([])), [.cells [.int .i64 q1.header, .str q1.vehicle, .int .i64 q1.order, .int .i64 q1.update, .sl .stop q1.nodes .no, .sl .way q1.edges .no], .cells [.int .i64 q2.header, .str q2.vehicle, .int .i64 q2.order, .int .i64 q2.update, .sl .stop q2.nodes .no, .sl .way q2.edges .no]]⟩
abbrev ref08_Same_4_0_p : List Pat := PU 2 (.leaf (.ptr 0 0) :: .leaf (.ptr 1 0) :: .leaf (.undef) :: .leaf (.int .i64) :: PU 81 ([]))
abbrev ref08_Same_4_0_q : List HPat := [.cells [.int .i64, .str, .int .i64, .int .i64, .sl .stop, .sl .way], .cells [.int .i64, .str, .int .i64, .int .i64, .sl .stop, .sl .way]]
noncomputable def ref08_Same_4_0_f (x : Pat.dens ref08_Same_4_0_p) (y : HPat.dens ref08_Same_4_0_q) : Nat := (Int.natAbs x.2.2.2.2.2.1 + Order.fu (⟨y.1.1, y.1.2.1, y.1.2.2.1, y.1.2.2.2.1, y.1.2.2.2.2.1, y.1.2.2.2.2.2.1⟩ : Order) + Order.fu (⟨y.2.1.1, y.2.1.2.1, y.2.1.2.2.1, y.2.1.2.2.2.1, y.2.1.2.2.2.2.1, y.2.1.2.2.2.2.2.1⟩ : Order) + 64)
noncomputable def ref08_Same_4_0_d (x : Pat.dens ref08_Same_4_0_p) (y : HPat.dens ref08_Same_4_0_q) : ref08_Same_4_0_D := (x.2.2.2.2.2.1, (⟨y.1.1, y.1.2.1, y.1.2.2.1, y.1.2.2.2.1, y.1.2.2.2.2.1, y.1.2.2.2.2.2.1⟩ : Order), (⟨y.2.1.1, y.2.1.2.1, y.2.1.2.2.1, y.2.1.2.2.2.1, y.2.1.2.2.2.2.1, y.2.1.2.2.2.2.2.1⟩ : Order))
noncomputable def ref08_Same_4_0_rr (L : ref08_Same_4_0_ty R) : LRun R ref08_Same_4_0_p ref08_Same_4_0_q := fun x y K => L (ref08_Same_4_0_f x y) x.2.2.2.2.2.1 (⟨y.1.1, y.1.2.1, y.1.2.2.1, y.1.2.2.2.1, y.1.2.2.2.2.1, y.1.2.2.2.2.2.1⟩ : Order) (⟨y.2.1.1, y.2.1.2.1, y.2.1.2.2.1, y.2.1.2.2.2.1, y.2.1.2.2.2.2.1, y.2.1.2.2.2.2.2.1⟩ : Order) (ref08_Same_4_0_x0 K) (ref08_Same_4_0_x1 K)
noncomputable def ref08_Same_9_0_h : Hint := { live := [2, 3, 6], own := [], rows := [], cells := [], drop := [], out := [4] }
abbrev ref08_Same_9_0_D : Type := Int × Order × Order
noncomputable def ref08_Same_9_0_enc : ref08_Same_9_0_D → St := fun d => ⟨U 2 (.ptr 0 0 :: .ptr 1 0 :: U 2 (.int .i64 d.1 :: U 80 ([]))), [.cells [.int .i64 d.2.1.header, .str d.2.1.vehicle, .int .i64 d.2.1.order, .int .i64 d.2.1.update, .sl .stop d.2.1.nodes .no, .sl .way d.2.1.edges .no], .cells [.int .i64 d.2.2.header, .str d.2.2.vehicle, .int .i64 d.2.2.order, .int .i64 d.2.2.update, .sl .stop d.2.2.nodes .no, .sl .way d.2.2.edges .no]]⟩
noncomputable def ref08_Same_9_0_x0 (K : Ex → St → Option R) : Option R := K (.exit 2) ⟨U 87 ([]), []⟩
noncomputable def ref08_Same_9_0_x1 (K : Ex → St → Option R) (q0 : Bool) : Option R := K (.ret) ⟨U 4 (.bool q0 :: U 82 ([])), []⟩
abbrev ref08_Same_9_0_p : List Pat := PU 2 (.leaf (.ptr 0 0) :: .leaf (.ptr 1 0) :: PU 2 (.leaf (.int .i64) :: PU 80 ([])))
abbrev ref08_Same_9_0_q : List HPat := [.cells [.int .i64, .str, .int .i64, .int .i64, .sl .stop, .sl .way], .cells [.int .i64, .str, .int .i64, .int .i64, .sl .stop, .sl .way]]
noncomputable def ref08_Same_9_0_f (x : Pat.dens ref08_Same_9_0_p) (y : HPat.dens ref08_Same_9_0_q) : Nat := (Int.natAbs x.2.2.2.2.2.2.1 + Order.fu (⟨y.1.1, y.1.2.1, y.1.2.2.1, y.1.2.2.2.1, y.1.2.2.2.2.1, y.1.2.2.2.2.2.1⟩ : Order) + Order.fu (⟨y.2.1.1, y.2.1.2.1, y.2.1.2.2.1, y.2.1.2.2.2.1, y.2.1.2.2.2.2.1, y.2.1.2.2.2.2.2.1⟩ : Order) + 64)
noncomputable def ref08_Same_9_0_d (x : Pat.dens ref08_Same_9_0_p) (y : HPat.dens ref08_Same_9_0_q) : ref08_Same_9_0_D := (x.2.2.2.2.2.2.1, (⟨y.1.1, y.1.2.1, y.1.2.2.1, y.1.2.2.2.1, y.1.2.2.2.2.1, y.1.2.2.2.2.2.1⟩ : Order), (⟨y.2.1.1, y.2.1.2.1, y.2.1.2.2.1, y.2.1.2.2.2.1, y.2.1.2.2.2.2.1, y.2.1.2.2.2.2.2.1⟩ : Order))
noncomputable def ref08_Same_9_0_rr (L : ref08_Same_9_0_ty R) : LRun R ref08_Same_9_0_p ref08_Same_9_0_q := fun x y K => L (ref08_Same_9_0_f x y) x.2.2.2.2.2.2.1 (⟨y.1.1, y.1.2.1, y.1.2.2.1, y.1.2.2.2.1, y.1.2.2.2.2.1, y.1.2.2.2.2.2.1⟩ : Order) (⟨y.2.1.1, y.2.1.2.1, y.2.1.2.2.1, y.2.1.2.2.2.1, y.2.1.2.2.2.2.1, y.2.1.2.2.2.2.2.1⟩ : Order) (ref08_Same_9_0_x0 K) (ref08_Same_9_0_x1 K)
section
variable (ref08_Same_4_0_L : ref08_Same_4_0_ty R) (ref08_Same_9_0_L : ref08_Same_9_0_ty R)
noncomputable def ref08_Same_4_0_B (rec' : Int → Order → Order → Option R) (x4 : Int) (x5 : Order) (x6 : Order) (e0 : Order → Order → Option R) (e1 : Bool → Order → Order → Option R) : Option R :=
  bif (decide (x4 < (x5.nodes.length : Int))) then (chk (decide ((0 : Int) ≤ x4) && decide (x4 < x5.nodes.length)) (chk (decide ((0 : Int) ≤ x4) && decide (x4 < x6.nodes.length)) (bif (!((x5.nodes.getD x4.toNat (Ty.dflt .stop)).node == (x6.nodes.getD x4.toNat (Ty.dflt .stop)).node && ((x5.nodes.getD x4.toNat (Ty.dflt .stop)).seq == (x6.nodes.getD x4.toNat (Ty.dflt .stop)).seq && ((x5.nodes.getD x4.toNat (Ty.dflt .stop)).released == (x6.nodes.getD x4.toNat (Ty.dflt .stop)).released && true)))) then (e1 false x5 x6) else (rec' (IntKind.i64.wrap (x4 + 1)) x5 x6)))) else (e0 x5 x6)
noncomputable def ref08_Same_4_0_s (K : Ex → St → Option R) (rc : ref08_Same_4_0_D → Option R) (d : ref08_Same_4_0_D) : Option R := ref08_Same_4_0_B (fun z0 z1 z2 => rc (z0, z1, z2)) d.1 d.2.1 d.2.2 (ref08_Same_4_0_x0 K) (ref08_Same_4_0_x1 K)
noncomputable def ref08_Same_9_0_B (rec' : Int → Order → Order → Option R) (x12 : Int) (x13 : Order) (x14 : Order) (e0 : Option R) (e1 : Bool → Option R) : Option R :=
  bif (decide (x12 < (x13.edges.length : Int))) then (chk (decide ((0 : Int) ≤ x12) && decide (x12 < x13.edges.length)) (chk (decide ((0 : Int) ≤ x12) && decide (x12 < x14.edges.length)) (bif (!((x13.edges.getD x12.toNat (Ty.dflt .way)).edge == (x14.edges.getD x12.toNat (Ty.dflt .way)).edge && ((x13.edges.getD x12.toNat (Ty.dflt .way)).seq == (x14.edges.getD x12.toNat (Ty.dflt .way)).seq && ((x13.edges.getD x12.toNat (Ty.dflt .way)).released == (x14.edges.getD x12.toNat (Ty.dflt .way)).released && true)))) then (e1 false) else (rec' (IntKind.i64.wrap (x12 + 1)) x13 x14)))) else (e0)
noncomputable def ref08_Same_9_0_s (K : Ex → St → Option R) (rc : ref08_Same_9_0_D → Option R) (d : ref08_Same_9_0_D) : Option R := ref08_Same_9_0_B (fun z0 z1 z2 => rc (z0, z1, z2)) d.1 d.2.1 d.2.2 (ref08_Same_9_0_x0 K) (ref08_Same_9_0_x1 K)
noncomputable def ref08_Same_T : Nat → Option (Hint × LSpec R) := fun i => match i with
  | 4 => some (ref08_Same_4_0_h, (loopBy ref08_Same_4_0_p ref08_Same_4_0_q (ref08_Same_4_0_rr ref08_Same_4_0_L) loopNo))
  | 9 => some (ref08_Same_9_0_h, (loopBy ref08_Same_9_0_p ref08_Same_9_0_q (ref08_Same_9_0_rr ref08_Same_9_0_L) loopNo))
  | _ => none
theorem ref08_Same_4_0_B_ok (K : Ex → St → Option R) (rc : St → Option R) (d : ref08_Same_4_0_D) : roundOf tt (envL []) (ref08_Same_T ref08_Same_4_0_L ref08_Same_9_0_L) 0 ((loopsOf (codeOf Tryd.f17)).getD 0 .skip) ref08_Same_4_0_h (ref08_Same_4_0_enc d) rc K = ref08_Same_4_0_s K (fun d => rc (ref08_Same_4_0_enc d)) d := by kernel_rfl
theorem ref08_Same_9_0_B_ok (K : Ex → St → Option R) (rc : St → Option R) (d : ref08_Same_9_0_D) : roundOf tt (envL []) (ref08_Same_T ref08_Same_4_0_L ref08_Same_9_0_L) 0 ((loopsOf (codeOf Tryd.f17)).getD 1 .skip) ref08_Same_9_0_h (ref08_Same_9_0_enc d) rc K = ref08_Same_9_0_s K (fun d => rc (ref08_Same_9_0_enc d)) d := by kernel_rfl
noncomputable def ref08_Same_X (x1 : Order) (x2 : Order) (k0 : Bool → Option R) : Option R :=
  bif (x1.header != x2.header) then (k0 false) else (bif (!(x1.vehicle == x2.vehicle)) then (k0 false) else (bif (x1.order != x2.order) then (k0 false) else (bif (x1.update != x2.update) then (k0 false) else (bif ((x1.nodes.length : Int) != (x2.nodes.length : Int)) then (k0 false) else (bif ((x1.edges.length : Int) != (x2.edges.length : Int)) then (k0 false) else (ref08_Same_4_0_L (Int.natAbs 0 + Order.fu x1 + Order.fu x2 + 64) 0 x1 x2 (fun y7 y8 => ref08_Same_9_0_L (Int.natAbs 0 + Order.fu y7 + Order.fu y8 + 64) 0 y7 y8 (k0 true) (fun y15 => k0 y15)) (fun y9 y10 y11 => k0 y9)))))))
theorem ref08_Same_ok : Tied (R := R) tt [] (ref08_Same_T ref08_Same_4_0_L ref08_Same_9_0_L) false Tryd.f17 ref08_Same_p ref08_Same_q (ref08_Same_rr (ref08_Same_X ref08_Same_4_0_L ref08_Same_9_0_L)) := fun x y k => by kernel_rfl
end
noncomputable def ref08_Same_4_0_L : ref08_Same_4_0_ty R
  | 0, _, _, _, _, _ => none
  | n + 1, x0', x1', x2', e0, e1 => ref08_Same_4_0_B (fun x0' x1' x2' => ref08_Same_4_0_L n x0' x1' x2' e0 e1) x0' x1' x2' e0 e1
noncomputable def ref08_Same_4_0_A (K : Ex → St → Option R) (n : Nat) (d : ref08_Same_4_0_D) : Option R := ref08_Same_4_0_L n d.1 d.2.1 d.2.2 (ref08_Same_4_0_x0 K) (ref08_Same_4_0_x1 K)
noncomputable def ref08_Same_9_0_L : ref08_Same_9_0_ty R
  | 0, _, _, _, _, _ => none
  | n + 1, x0', x1', x2', e0, e1 => ref08_Same_9_0_B (fun x0' x1' x2' => ref08_Same_9_0_L n x0' x1' x2' e0 e1) x0' x1' x2' e0 e1
noncomputable def ref08_Same_9_0_A (K : Ex → St → Option R) (n : Nat) (d : ref08_Same_9_0_D) : Option R := ref08_Same_9_0_L n d.1 d.2.1 d.2.2 (ref08_Same_9_0_x0 K) (ref08_Same_9_0_x1 K)
theorem ref08_Same_4_0_ok (other : LSpec R) (ho : LsOk tt (envL []) (ref08_Same_T (R := R) ref08_Same_4_0_L ref08_Same_9_0_L) 0 ((loopsOf (codeOf Tryd.f17)).getD 0 .skip) ref08_Same_4_0_h other) : LsOk tt (envL []) (ref08_Same_T (R := R) ref08_Same_4_0_L ref08_Same_9_0_L) 0 ((loopsOf (codeOf Tryd.f17)).getD 0 .skip) ref08_Same_4_0_h (loopBy ref08_Same_4_0_p ref08_Same_4_0_q (ref08_Same_4_0_rr (ref08_Same_4_0_L)) other) :=
  loopBy_tie (A := ref08_Same_4_0_A) ho (loop_tie ref08_Same_4_0_enc (ref08_Same_4_0_s) (ref08_Same_4_0_A) (fun _ _ => by kernel_rfl) (ref08_Same_4_0_B_ok ref08_Same_4_0_L ref08_Same_9_0_L) (fun _ _ _ => by kernel_rfl)) ref08_Same_4_0_f ref08_Same_4_0_d (fun _ _ => by kernel_rfl) (fun _ _ _ => by kernel_rfl)
theorem ref08_Same_9_0_ok (other : LSpec R) (ho : LsOk tt (envL []) (ref08_Same_T (R := R) ref08_Same_4_0_L ref08_Same_9_0_L) 0 ((loopsOf (codeOf Tryd.f17)).getD 1 .skip) ref08_Same_9_0_h other) : LsOk tt (envL []) (ref08_Same_T (R := R) ref08_Same_4_0_L ref08_Same_9_0_L) 0 ((loopsOf (codeOf Tryd.f17)).getD 1 .skip) ref08_Same_9_0_h (loopBy ref08_Same_9_0_p ref08_Same_9_0_q (ref08_Same_9_0_rr (ref08_Same_9_0_L)) other) :=
  loopBy_tie (A := ref08_Same_9_0_A) ho (loop_tie ref08_Same_9_0_enc (ref08_Same_9_0_s) (ref08_Same_9_0_A) (fun _ _ => by kernel_rfl) (ref08_Same_9_0_B_ok ref08_Same_4_0_L ref08_Same_9_0_L) (fun _ _ _ => by kernel_rfl)) ref08_Same_9_0_f ref08_Same_9_0_d (fun _ _ => by kernel_rfl) (fun _ _ _ => by kernel_rfl)
noncomputable def ref08_Same : ref08_Same_ty R := fun x1 x2 k0 => ref08_Same_X ref08_Same_4_0_L ref08_Same_9_0_L x1 x2 k0
theorem ref08_Same_loops (R : Type) : ∀ a ∈ loopsOf (codeOf Tryd.f17), LoopOk tt (envL []) (ref08_Same_T (R := R) ref08_Same_4_0_L ref08_Same_9_0_L) 0 a := by
  refine loops_ok 2 (by kernel_rfl) fun i hi => ?_
  match i, hi with
  | 0, _ => exact loopOk_some (by kernel_rfl) (ref08_Same_4_0_ok _ loopNo_ok)
  | 1, _ => exact loopOk_some (by kernel_rfl) (ref08_Same_9_0_ok _ loopNo_ok)
  | n + 2, hi => omega
theorem ref08_Same_S_ok (R : Type) : OkS Tryd.prog 17 (ref08_Same_s (ref08_Same (R := R))) := tie_ok TT mixed .n rfl rfl rfl rfl (ref08_Same_loops R) (ref08_Same_ok ref08_Same_4_0_L ref08_Same_9_0_L)

/-! ### humpyard/humpyardlaw11.Ints -/
abbrev law11_Ints_ty (R : Type) : Type := (List Int) → (List Int) → (Bool → Option R) → Option R
abbrev law11_Ints_p : List Pat := [.leaf (.sl (.int .i64)), .leaf (.sl (.int .i64))]
abbrev law11_Ints_q : List HPat := []
noncomputable def law11_Ints_rr (fn : law11_Ints_ty R) : Run R law11_Ints_p law11_Ints_q := fun x y k => fn x.1 x.2.1 (fun q0 => k (.bool q0) [])
noncomputable def law11_Ints_s (fn : law11_Ints_ty R) := specBy law11_Ints_p law11_Ints_q (law11_Ints_rr fn)
abbrev law11_Ints_4_0_ty (R : Type) : Type := Nat → (List Int) → (List Int) → Int → (Option R) → (Bool → Option R) → Option R
noncomputable def law11_Ints_4_0_h : Hint := { live := [0, 1, 5], own := [], rows := [], cells := [], drop := [], out := [4] }
abbrev law11_Ints_4_0_D : Type := (List Int) × (List Int) × Int
noncomputable def law11_Ints_4_0_enc : law11_Ints_4_0_D → St := fun d => ⟨.sl (.int .i64) d.1 .no :: .sl (.int .i64) d.2.1 .no :: U 3 (.int .i64 d.2.2 :: U 20 ([])), []⟩
noncomputable def law11_Ints_4_0_x0 (K : Ex → St → Option R) : Option R := K (.exit 0) ⟨U 26 ([]), []⟩
noncomputable def law11_Ints_4_0_x1 (K : Ex → St → Option R) (q0 : Bool) : Option R := K (.ret) ⟨U 4 (.bool q0 :: U 21 ([])), []⟩
abbrev law11_Ints_4_0_p : List Pat := .leaf (.sl (.int .i64)) :: .leaf (.sl (.int .i64)) :: PU 3 (.leaf (.int .i64) :: PU 20 ([]))
abbrev law11_Ints_4_0_q : List HPat := []
noncomputable def law11_Ints_4_0_f (x : Pat.dens law11_Ints_4_0_p) (y : HPat.dens law11_Ints_4_0_q) : Nat := (List.length x.1 + List.length x.2.1 + Int.natAbs x.2.2.2.2.2.1 + 64)
noncomputable def law11_Ints_4_0_d (x : Pat.dens law11_Ints_4_0_p) (y : HPat.dens law11_Ints_4_0_q) : law11_Ints_4_0_D := (x.1, x.2.1, x.2.2.2.2.2.1)
noncomputable def law11_Ints_4_0_rr (L : law11_Ints_4_0_ty R) : LRun R law11_Ints_4_0_p law11_Ints_4_0_q := fun x y K => L (law11_Ints_4_0_f x y) x.1 x.2.1 x.2.2.2.2.2.1 (law11_Ints_4_0_x0 K) (law11_Ints_4_0_x1 K)
section
variable (law11_Ints_4_0_L : law11_Ints_4_0_ty R)
noncomputable def law11_Ints_4_0_B (rec' : (List Int) → (List Int) → Int → Option R) (x3 : List Int) (x4 : List Int) (x5 : Int) (e0 : Option R) (e1 : Bool → Option R) : Option R :=
  bif (decide (x5 < (x3.length : Int))) then (chk (decide ((0 : Int) ≤ x5) && decide (x5 < x3.length)) (chk (decide ((0 : Int) ≤ x5) && decide (x5 < x4.length)) (bif ((x3.getD x5.toNat (Ty.dflt (.int .i64))) != (x4.getD x5.toNat (Ty.dflt (.int .i64)))) then (e1 false) else (rec' x3 x4 (IntKind.i64.wrap (x5 + 1)))))) else (e0)
noncomputable def law11_Ints_4_0_s (K : Ex → St → Option R) (rc : law11_Ints_4_0_D → Option R) (d : law11_Ints_4_0_D) : Option R := law11_Ints_4_0_B (fun z0 z1 z2 => rc (z0, z1, z2)) d.1 d.2.1 d.2.2 (law11_Ints_4_0_x0 K) (law11_Ints_4_0_x1 K)
noncomputable def law11_Ints_T : Nat → Option (Hint × LSpec R) := fun i => match i with
  | 4 => some (law11_Ints_4_0_h, (loopBy law11_Ints_4_0_p law11_Ints_4_0_q (law11_Ints_4_0_rr law11_Ints_4_0_L) loopNo))
  | _ => none
theorem law11_Ints_4_0_B_ok (K : Ex → St → Option R) (rc : St → Option R) (d : law11_Ints_4_0_D) : roundOf tt (envL []) (law11_Ints_T law11_Ints_4_0_L) 0 ((loopsOf (codeOf Tryd.f20)).getD 0 .skip) law11_Ints_4_0_h (law11_Ints_4_0_enc d) rc K = law11_Ints_4_0_s K (fun d => rc (law11_Ints_4_0_enc d)) d := by kernel_rfl
noncomputable def law11_Ints_X (x1 : List Int) (x2 : List Int) (k0 : Bool → Option R) : Option R :=
  bif ((x1.length : Int) != (x2.length : Int)) then (k0 false) else (law11_Ints_4_0_L (List.length x1 + List.length x2 + Int.natAbs 0 + 64) x1 x2 0 (k0 true) (fun y6 => k0 y6))
theorem law11_Ints_ok : Tied (R := R) tt [] (law11_Ints_T law11_Ints_4_0_L) false Tryd.f20 law11_Ints_p law11_Ints_q (law11_Ints_rr (law11_Ints_X law11_Ints_4_0_L)) := fun x y k => by kernel_rfl
end
noncomputable def law11_Ints_4_0_L : law11_Ints_4_0_ty R
  | 0, _, _, _, _, _ => none
  | n + 1, x0', x1', x2', e0, e1 => law11_Ints_4_0_B (fun x0' x1' x2' => law11_Ints_4_0_L n x0' x1' x2' e0 e1) x0' x1' x2' e0 e1
noncomputable def law11_Ints_4_0_A (K : Ex → St → Option R) (n : Nat) (d : law11_Ints_4_0_D) : Option R := law11_Ints_4_0_L n d.1 d.2.1 d.2.2 (law11_Ints_4_0_x0 K) (law11_Ints_4_0_x1 K)
theorem law11_Ints_4_0_ok (other : LSpec R) (ho : LsOk tt (envL []) (law11_Ints_T (R := R) law11_Ints_4_0_L) 0 ((loopsOf (codeOf Tryd.f20)).getD 0 .skip) law11_Ints_4_0_h other) : LsOk tt (envL []) (law11_Ints_T (R := R) law11_Ints_4_0_L) 0 ((loopsOf (codeOf Tryd.f20)).getD 0 .skip) law11_Ints_4_0_h (loopBy law11_Ints_4_0_p law11_Ints_4_0_q (law11_Ints_4_0_rr (law11_Ints_4_0_L)) other) :=
  loopBy_tie (A := law11_Ints_4_0_A) ho (loop_tie law11_Ints_4_0_enc (law11_Ints_4_0_s) (law11_Ints_4_0_A) (fun _ _ => by kernel_rfl) (law11_Ints_4_0_B_ok law11_Ints_4_0_L) (fun _ _ _ => by kernel_rfl)) law11_Ints_4_0_f law11_Ints_4_0_d (fun _ _ => by kernel_rfl) (fun _ _ _ => by kernel_rfl)
noncomputable def law11_Ints : law11_Ints_ty R := fun x1 x2 k0 => law11_Ints_X law11_Ints_4_0_L x1 x2 k0
theorem law11_Ints_loops (R : Type) : ∀ a ∈ loopsOf (codeOf Tryd.f20), LoopOk tt (envL []) (law11_Ints_T (R := R) law11_Ints_4_0_L) 0 a := by
  refine loops_ok 1 (by kernel_rfl) fun i hi => ?_
  match i, hi with
  | 0, _ => exact loopOk_some (by kernel_rfl) (law11_Ints_4_0_ok _ loopNo_ok)
  | n + 1, hi => omega
theorem law11_Ints_S_ok (R : Type) : OkS Tryd.prog 20 (law11_Ints_s (law11_Ints (R := R))) := tie_ok TT mixed .n rfl rfl rfl rfl (law11_Ints_loops R) (law11_Ints_ok law11_Ints_4_0_L)

/-! ### humpyard/humpyardlaw18.awake -/
abbrev law18_awake_ty (R : Type) : Type := (Bool → Option R) → Option R
abbrev law18_awake_p : List Pat := []
abbrev law18_awake_q : List HPat := []
noncomputable def law18_awake_rr (fn : law18_awake_ty R) : Run R law18_awake_p law18_awake_q := fun x y k => fn (fun q0 => k (.bool q0) [])
noncomputable def law18_awake_s (fn : law18_awake_ty R) := specBy law18_awake_p law18_awake_q (law18_awake_rr fn)
section
variable (fleet_Begin : fleet_Begin_ty R) (fleet_Idle : fleet_Idle_ty R) (fleet_Next : fleet_Next_ty R) (fleet_Plan : fleet_Plan_ty R) (fleet_See : fleet_See_ty R) (law11_Ints : law11_Ints_ty R) (ref08_Same : ref08_Same_ty R)
noncomputable def law18_awake_E : List (Ent R) := [(21, true, (fleet_Begin_s fleet_Begin specNo)), (12, true, (fleet_Idle_s fleet_Idle specNo)), (15, true, (fleet_Next_s fleet_Next specNo)), (9, true, (fleet_Plan_s fleet_Plan specNo)), (18, true, (fleet_See_s fleet_See specNo)), (20, true, (law11_Ints_s law11_Ints specNo)), (17, true, (ref08_Same_s ref08_Same specNo))]
noncomputable def law18_awake_X (k0 : Bool → Option R) : Option R :=
  fleet_Begin ([118] : Str) 0 (fun y1 => fleet_Plan y1 ([0, 1000, 1] : List Int) (fun y2 y3 => fleet_Next y2 0 (fun y4 y5 y6 => fleet_See y4 (⟨1, 0, ([118] : Str), 1, 0, true, 1, 2, false, 1⟩ : Yard.State) (fun y7 y8 y9 => fleet_Idle y1 (fun y10 => bif y10 then (bif y3 then (fleet_Idle y2 (fun y11 => bif (!y11) then (bif y6 then (ref08_Same y5 (⟨1, ([118] : Str), 1, 0, ([(⟨0, 0, true⟩ : Stop), (⟨1, 2, true⟩ : Stop)] : List Stop), ([(⟨0, 1, true⟩ : Yard.Way)] : List Yard.Way)⟩ : Order) (fun y12 => bif y12 then (bif y4.wait then (bif y9 then (law11_Ints y8 ([0, 1000] : List Int) (fun y13 => bif y13 then (fleet_Idle y7 (fun y14 => bif y14 then (law11_Ints y7.path ([1] : List Int) (fun y15 => k0 y15)) else (k0 false))) else (k0 false))) else (k0 false)) else (k0 false)) else (k0 false))) else (k0 false)) else (k0 false))) else (k0 false)) else (k0 false))))))
theorem law18_awake_ok : Tied (R := R) tt (law18_awake_E fleet_Begin fleet_Idle fleet_Next fleet_Plan fleet_See law11_Ints ref08_Same) noT false Tryd.f5 law18_awake_p law18_awake_q (law18_awake_rr (law18_awake_X fleet_Begin fleet_Idle fleet_Next fleet_Plan fleet_See law11_Ints ref08_Same)) := fun x y k => by kernel_rfl
end
theorem law18_awake_EOk : EntOk (R := R) Tryd.prog (law18_awake_E (R := R) fleet_Begin fleet_Idle fleet_Next fleet_Plan fleet_See law11_Ints ref08_Same) := .c (fleet_Begin_S_ok R) <| .c (fleet_Idle_S_ok R) <| .c (fleet_Next_S_ok R) <| .c (fleet_Plan_S_ok R) <| .c (fleet_See_S_ok R) <| .c (law11_Ints_S_ok R) <| .c (ref08_Same_S_ok R) <| .n
noncomputable def law18_awake : law18_awake_ty R := fun  k0 => law18_awake_X fleet_Begin fleet_Idle fleet_Next fleet_Plan fleet_See law11_Ints ref08_Same  k0
theorem law18_awake_S_ok (R : Type) : OkS Tryd.prog 5 (law18_awake_s (law18_awake (R := R))) := tie_ok TT mixed (law18_awake_EOk (R := R)) rfl rfl rfl rfl noT_ok (law18_awake_ok fleet_Begin fleet_Idle fleet_Next fleet_Plan fleet_See law11_Ints ref08_Same)

/-! ### humpyard/humpyardlaw11.pick -/
abbrev law11_pick_ty (R : Type) : Type := Int → Int → (Int → Option R) → Option R
abbrev law11_pick_p : List Pat := [.leaf (.int .i64), .leaf (.int .i64)]
abbrev law11_pick_q : List HPat := []
noncomputable def law11_pick_rr (fn : law11_pick_ty R) : Run R law11_pick_p law11_pick_q := fun x y k => fn x.1 x.2.1 (fun q0 => k (.int .i64 q0) [])
noncomputable def law11_pick_s (fn : law11_pick_ty R) := specBy law11_pick_p law11_pick_q (law11_pick_rr fn)
section
noncomputable def law11_pick_X (x1 : Int) (x2 : Int) (k0 : Int → Option R) : Option R :=
  bif (decide (x1 < (0 : Int))) then (chk (!decide (x2 = 0)) (k0 (Int.tmod (IntKind.i64.wrap (0 - (IntKind.i64.wrap (x1 + 1)))) x2))) else (chk (!decide (x2 = 0)) (k0 (Int.tmod x1 x2)))
theorem law11_pick_ok : Tied (R := R) tt [] noT false Tryd.f23 law11_pick_p law11_pick_q (law11_pick_rr law11_pick_X) := fun x y k => by kernel_rfl
end
noncomputable def law11_pick : law11_pick_ty R := fun x1 x2 k0 => law11_pick_X x1 x2 k0
theorem law11_pick_S_ok (R : Type) : OkS Tryd.prog 23 (law11_pick_s (law11_pick (R := R))) := tie_ok TT mixed .n rfl rfl rfl rfl noT_ok (law11_pick_ok)

end Go.Proofs.YtolnaonmpohciaaDoor

/-
  Functions of the program as pure Lean functions, and the ties; printed by wip/tools/emit.py.
-/
set_option maxRecDepth 100000
namespace Go.Proofs.YtolnaonmpohciaaDoor
open Go Go.Yard
variable {R : Type}

/-! ### slices.Equal[[]int,int] -/
abbrev slices_Equal_intint_ty (R : Type) : Type := (List Int) → (List Int) → (Bool → Option R) → Option R
abbrev slices_Equal_intint_p : List Pat := [.leaf (.sl (.int .i64)), .leaf (.sl (.int .i64))]
abbrev slices_Equal_intint_q : List HPat := []
noncomputable def slices_Equal_intint_rr (fn : slices_Equal_intint_ty R) : Run R slices_Equal_intint_p slices_Equal_intint_q := fun x y k => fn x.1 x.2.1 (fun q0 => k (.bool q0) [])
noncomputable def slices_Equal_intint_s (fn : slices_Equal_intint_ty R) := specBy slices_Equal_intint_p slices_Equal_intint_q (slices_Equal_intint_rr fn)
abbrev slices_Equal_intint_4_0_ty (R : Type) : Type := Nat → (List Int) → (List Int) → Int → Int → (Option R) → (Bool → Option R) → Option R
noncomputable def slices_Equal_intint_4_0_h : Hint := { live := [0, 1, 12, 13], own := [], rows := [], cells := [], drop := [], out := [4] }
abbrev slices_Equal_intint_4_0_D : Type := (List Int) × (List Int) × Int × Int
noncomputable def slices_Equal_intint_4_0_enc : slices_Equal_intint_4_0_D → St := fun d => ⟨.sl (.int .i64) d.1 .no :: .sl (.int .i64) d.2.1 .no :: U 10 (.int .i64 d.2.2.1 :: .int .i64 d.2.2.2 :: U 12 ([])), []⟩
noncomputable def slices_Equal_intint_4_0_x0 (K : Ex → St → Option R) : Option R := K (.exit 0) ⟨U 26 ([]), []⟩
noncomputable def slices_Equal_intint_4_0_x1 (K : Ex → St → Option R) (q0 : Bool) : Option R := K (.ret) ⟨U 4 (.bool q0 :: U 21 ([])), []⟩
abbrev slices_Equal_intint_4_0_p : List Pat := .leaf (.sl (.int .i64)) :: .leaf (.sl (.int .i64)) :: PU 10 (.leaf (.int .i64) :: .leaf (.int .i64) :: PU 12 ([]))
abbrev slices_Equal_intint_4_0_q : List HPat := []
noncomputable def slices_Equal_intint_4_0_f (x : Pat.dens slices_Equal_intint_4_0_p) (y : HPat.dens slices_Equal_intint_4_0_q) : Nat := (List.length x.1 + List.length x.2.1 + Int.natAbs ((t8 x).2.2.2.2.1) + Int.natAbs ((t8 x).2.2.2.2.2.1) + 64)
noncomputable def slices_Equal_intint_4_0_d (x : Pat.dens slices_Equal_intint_4_0_p) (y : HPat.dens slices_Equal_intint_4_0_q) : slices_Equal_intint_4_0_D := (x.1, x.2.1, (t8 x).2.2.2.2.1, (t8 x).2.2.2.2.2.1)
noncomputable def slices_Equal_intint_4_0_rr (L : slices_Equal_intint_4_0_ty R) : LRun R slices_Equal_intint_4_0_p slices_Equal_intint_4_0_q := fun x y K => L (slices_Equal_intint_4_0_f x y) x.1 x.2.1 ((t8 x).2.2.2.2.1) ((t8 x).2.2.2.2.2.1) (slices_Equal_intint_4_0_x0 K) (slices_Equal_intint_4_0_x1 K)
section
variable (slices_Equal_intint_4_0_L : slices_Equal_intint_4_0_ty R)
noncomputable def slices_Equal_intint_4_0_B (rec' : (List Int) → (List Int) → Int → Int → Option R) (x3 : List Int) (x4 : List Int) (x5 : Int) (x6 : Int) (e0 : Option R) (e1 : Bool → Option R) : Option R :=
  bif (decide (x6 < x5)) then (chk (decide ((0 : Int) ≤ x6) && decide (x6 < x3.length)) (chk (decide ((0 : Int) ≤ x6) && decide (x6 < x4.length)) (bif ((x3.getD x6.toNat (Ty.dflt (.int .i64))) != (x4.getD x6.toNat (Ty.dflt (.int .i64)))) then (e1 false) else (rec' x3 x4 x5 (IntKind.i64.wrap (x6 + 1)))))) else (e0)
noncomputable def slices_Equal_intint_4_0_s (K : Ex → St → Option R) (rc : slices_Equal_intint_4_0_D → Option R) (d : slices_Equal_intint_4_0_D) : Option R := slices_Equal_intint_4_0_B (fun z0 z1 z2 z3 => rc (z0, z1, z2, z3)) d.1 d.2.1 d.2.2.1 d.2.2.2 (slices_Equal_intint_4_0_x0 K) (slices_Equal_intint_4_0_x1 K)
noncomputable def slices_Equal_intint_T : Nat → Option (Hint × LSpec R) := fun i => match i with
  | 4 => some (slices_Equal_intint_4_0_h, (loopBy slices_Equal_intint_4_0_p slices_Equal_intint_4_0_q (slices_Equal_intint_4_0_rr slices_Equal_intint_4_0_L) loopNo))
  | _ => none
theorem slices_Equal_intint_4_0_B_ok (K : Ex → St → Option R) (rc : St → Option R) (d : slices_Equal_intint_4_0_D) : roundOf tt (envL []) (slices_Equal_intint_T slices_Equal_intint_4_0_L) 0 ((loopsOf (codeOf Tryd.f31)).getD 0 .skip) slices_Equal_intint_4_0_h (slices_Equal_intint_4_0_enc d) rc K = slices_Equal_intint_4_0_s K (fun d => rc (slices_Equal_intint_4_0_enc d)) d := by kernel_rfl
noncomputable def slices_Equal_intint_X (x1 : List Int) (x2 : List Int) (k0 : Bool → Option R) : Option R :=
  bif ((x1.length : Int) != (x2.length : Int)) then (k0 false) else (slices_Equal_intint_4_0_L (List.length x1 + List.length x2 + Int.natAbs (x1.length : Int) + Int.natAbs 0 + 64) x1 x2 (x1.length : Int) 0 (k0 true) (fun y7 => k0 y7))
theorem slices_Equal_intint_ok : Tied (R := R) tt [] (slices_Equal_intint_T slices_Equal_intint_4_0_L) false Tryd.f31 slices_Equal_intint_p slices_Equal_intint_q (slices_Equal_intint_rr (slices_Equal_intint_X slices_Equal_intint_4_0_L)) := fun x y k => by kernel_rfl
end
noncomputable def slices_Equal_intint_4_0_L : slices_Equal_intint_4_0_ty R
  | 0, _, _, _, _, _, _ => none
  | n + 1, x0', x1', x2', x3', e0, e1 => slices_Equal_intint_4_0_B (fun x0' x1' x2' x3' => slices_Equal_intint_4_0_L n x0' x1' x2' x3' e0 e1) x0' x1' x2' x3' e0 e1
noncomputable def slices_Equal_intint_4_0_A (K : Ex → St → Option R) (n : Nat) (d : slices_Equal_intint_4_0_D) : Option R := slices_Equal_intint_4_0_L n d.1 d.2.1 d.2.2.1 d.2.2.2 (slices_Equal_intint_4_0_x0 K) (slices_Equal_intint_4_0_x1 K)
theorem slices_Equal_intint_4_0_ok (other : LSpec R) (ho : LsOk tt (envL []) (slices_Equal_intint_T (R := R) slices_Equal_intint_4_0_L) 0 ((loopsOf (codeOf Tryd.f31)).getD 0 .skip) slices_Equal_intint_4_0_h other) : LsOk tt (envL []) (slices_Equal_intint_T (R := R) slices_Equal_intint_4_0_L) 0 ((loopsOf (codeOf Tryd.f31)).getD 0 .skip) slices_Equal_intint_4_0_h (loopBy slices_Equal_intint_4_0_p slices_Equal_intint_4_0_q (slices_Equal_intint_4_0_rr (slices_Equal_intint_4_0_L)) other) :=
  loopBy_tie (A := slices_Equal_intint_4_0_A) ho (loop_tie slices_Equal_intint_4_0_enc (slices_Equal_intint_4_0_s) (slices_Equal_intint_4_0_A) (fun _ _ => by kernel_rfl) (slices_Equal_intint_4_0_B_ok slices_Equal_intint_4_0_L) (fun _ _ _ => by kernel_rfl)) slices_Equal_intint_4_0_f slices_Equal_intint_4_0_d (fun _ _ => by kernel_rfl) (fun _ _ _ => by kernel_rfl)
noncomputable def slices_Equal_intint : slices_Equal_intint_ty R := fun x1 x2 k0 => slices_Equal_intint_X slices_Equal_intint_4_0_L x1 x2 k0
theorem slices_Equal_intint_loops (R : Type) : ∀ a ∈ loopsOf (codeOf Tryd.f31), LoopOk tt (envL []) (slices_Equal_intint_T (R := R) slices_Equal_intint_4_0_L) 0 a := by
  refine loops_ok 1 (by kernel_rfl) fun i hi => ?_
  match i, hi with
  | 0, _ => exact loopOk_some (by kernel_rfl) (slices_Equal_intint_4_0_ok _ loopNo_ok)
  | n + 1, hi => omega
theorem slices_Equal_intint_S_ok (R : Type) : OkS Tryd.prog 31 (slices_Equal_intint_s (slices_Equal_intint (R := R))) := tie_ok TT mixed .n rfl rfl rfl rfl (slices_Equal_intint_loops R) (slices_Equal_intint_ok slices_Equal_intint_4_0_L)

/-! ### slices.Equal[[]humpyard/api.Stop,humpyard/api.Stop] -/
abbrev slices_Equal_StopStop_ty (R : Type) : Type := (List Stop) → (List Stop) → (Bool → Option R) → Option R
abbrev slices_Equal_StopStop_p : List Pat := [.leaf (.sl .stop), .leaf (.sl .stop)]
abbrev slices_Equal_StopStop_q : List HPat := []
noncomputable def slices_Equal_StopStop_rr (fn : slices_Equal_StopStop_ty R) : Run R slices_Equal_StopStop_p slices_Equal_StopStop_q := fun x y k => fn x.1 x.2.1 (fun q0 => k (.bool q0) [])
noncomputable def slices_Equal_StopStop_s (fn : slices_Equal_StopStop_ty R) := specBy slices_Equal_StopStop_p slices_Equal_StopStop_q (slices_Equal_StopStop_rr fn)
abbrev slices_Equal_StopStop_4_0_ty (R : Type) : Type := Nat → (List Stop) → (List Stop) → Int → Int → (Option R) → (Bool → Option R) → Option R
noncomputable def slices_Equal_StopStop_4_0_h : Hint := { live := [0, 1, 12, 13], own := [], rows := [], cells := [], drop := [], out := [4] }
abbrev slices_Equal_StopStop_4_0_D : Type := (List Stop) × (List Stop) × Int × Int
noncomputable def slices_Equal_StopStop_4_0_enc : slices_Equal_StopStop_4_0_D → St := fun d => ⟨.sl .stop d.1 .no :: .sl .stop d.2.1 .no :: U 10 (.int .i64 d.2.2.1 :: .int .i64 d.2.2.2 :: U 12 ([])), []⟩
noncomputable def slices_Equal_StopStop_4_0_x0 (K : Ex → St → Option R) : Option R := K (.exit 0) ⟨U 26 ([]), []⟩
noncomputable def slices_Equal_StopStop_4_0_x1 (K : Ex → St → Option R) (q0 : Bool) : Option R := K (.ret) ⟨U 4 (.bool q0 :: U 21 ([])), []⟩
abbrev slices_Equal_StopStop_4_0_p : List Pat := .leaf (.sl .stop) :: .leaf (.sl .stop) :: PU 10 (.leaf (.int .i64) :: .leaf (.int .i64) :: PU 12 ([]))
abbrev slices_Equal_StopStop_4_0_q : List HPat := []
noncomputable def slices_Equal_StopStop_4_0_f (x : Pat.dens slices_Equal_StopStop_4_0_p) (y : HPat.dens slices_Equal_StopStop_4_0_q) : Nat := (List.length x.1 + List.length x.2.1 + Int.natAbs ((t8 x).2.2.2.2.1) + Int.natAbs ((t8 x).2.2.2.2.2.1) + 64)
noncomputable def slices_Equal_StopStop_4_0_d (x : Pat.dens slices_Equal_StopStop_4_0_p) (y : HPat.dens slices_Equal_StopStop_4_0_q) : slices_Equal_StopStop_4_0_D := (x.1, x.2.1, (t8 x).2.2.2.2.1, (t8 x).2.2.2.2.2.1)
noncomputable def slices_Equal_StopStop_4_0_rr (L : slices_Equal_StopStop_4_0_ty R) : LRun R slices_Equal_StopStop_4_0_p slices_Equal_StopStop_4_0_q := fun x y K => L (slices_Equal_StopStop_4_0_f x y) x.1 x.2.1 ((t8 x).2.2.2.2.1) ((t8 x).2.2.2.2.2.1) (slices_Equal_StopStop_4_0_x0 K) (slices_Equal_StopStop_4_0_x1 K)
section
variable (slices_Equal_StopStop_4_0_L : slices_Equal_StopStop_4_0_ty R)
noncomputable def slices_Equal_StopStop_4_0_B (rec' : (List Stop) → (List Stop) → Int → Int → Option R) (x3 : List Stop) (x4 : List Stop) (x5 : Int) (x6 : Int) (e0 : Option R) (e1 : Bool → Option R) : Option R :=
  bif (decide (x6 < x5)) then (chk (decide ((0 : Int) ≤ x6) && decide (x6 < x3.length)) (chk (decide ((0 : Int) ≤ x6) && decide (x6 < x4.length)) (bif (!((x3.getD x6.toNat (Ty.dflt .stop)).node == (x4.getD x6.toNat (Ty.dflt .stop)).node && ((x3.getD x6.toNat (Ty.dflt .stop)).seq == (x4.getD x6.toNat (Ty.dflt .stop)).seq && ((x3.getD x6.toNat (Ty.dflt .stop)).released == (x4.getD x6.toNat (Ty.dflt .stop)).released && true)))) then (e1 false) else (rec' x3 x4 x5 (IntKind.i64.wrap (x6 + 1)))))) else (e0)
noncomputable def slices_Equal_StopStop_4_0_s (K : Ex → St → Option R) (rc : slices_Equal_StopStop_4_0_D → Option R) (d : slices_Equal_StopStop_4_0_D) : Option R := slices_Equal_StopStop_4_0_B (fun z0 z1 z2 z3 => rc (z0, z1, z2, z3)) d.1 d.2.1 d.2.2.1 d.2.2.2 (slices_Equal_StopStop_4_0_x0 K) (slices_Equal_StopStop_4_0_x1 K)
noncomputable def slices_Equal_StopStop_T : Nat → Option (Hint × LSpec R) := fun i => match i with
  | 4 => some (slices_Equal_StopStop_4_0_h, (loopBy slices_Equal_StopStop_4_0_p slices_Equal_StopStop_4_0_q (slices_Equal_StopStop_4_0_rr slices_Equal_StopStop_4_0_L) loopNo))
  | _ => none
theorem slices_Equal_StopStop_4_0_B_ok (K : Ex → St → Option R) (rc : St → Option R) (d : slices_Equal_StopStop_4_0_D) : roundOf tt (envL []) (slices_Equal_StopStop_T slices_Equal_StopStop_4_0_L) 0 ((loopsOf (codeOf Tryd.f48)).getD 0 .skip) slices_Equal_StopStop_4_0_h (slices_Equal_StopStop_4_0_enc d) rc K = slices_Equal_StopStop_4_0_s K (fun d => rc (slices_Equal_StopStop_4_0_enc d)) d := by kernel_rfl
noncomputable def slices_Equal_StopStop_X (x1 : List Stop) (x2 : List Stop) (k0 : Bool → Option R) : Option R :=
  bif ((x1.length : Int) != (x2.length : Int)) then (k0 false) else (slices_Equal_StopStop_4_0_L (List.length x1 + List.length x2 + Int.natAbs (x1.length : Int) + Int.natAbs 0 + 64) x1 x2 (x1.length : Int) 0 (k0 true) (fun y7 => k0 y7))
theorem slices_Equal_StopStop_ok : Tied (R := R) tt [] (slices_Equal_StopStop_T slices_Equal_StopStop_4_0_L) false Tryd.f48 slices_Equal_StopStop_p slices_Equal_StopStop_q (slices_Equal_StopStop_rr (slices_Equal_StopStop_X slices_Equal_StopStop_4_0_L)) := fun x y k => by kernel_rfl
end
noncomputable def slices_Equal_StopStop_4_0_L : slices_Equal_StopStop_4_0_ty R
  | 0, _, _, _, _, _, _ => none
  | n + 1, x0', x1', x2', x3', e0, e1 => slices_Equal_StopStop_4_0_B (fun x0' x1' x2' x3' => slices_Equal_StopStop_4_0_L n x0' x1' x2' x3' e0 e1) x0' x1' x2' x3' e0 e1
noncomputable def slices_Equal_StopStop_4_0_A (K : Ex → St → Option R) (n : Nat) (d : slices_Equal_StopStop_4_0_D) : Option R := slices_Equal_StopStop_4_0_L n d.1 d.2.1 d.2.2.1 d.2.2.2 (slices_Equal_StopStop_4_0_x0 K) (slices_Equal_StopStop_4_0_x1 K)
theorem slices_Equal_StopStop_4_0_ok (other : LSpec R) (ho : LsOk tt (envL []) (slices_Equal_StopStop_T (R := R) slices_Equal_StopStop_4_0_L) 0 ((loopsOf (codeOf Tryd.f48)).getD 0 .skip) slices_Equal_StopStop_4_0_h other) : LsOk tt (envL []) (slices_Equal_StopStop_T (R := R) slices_Equal_StopStop_4_0_L) 0 ((loopsOf (codeOf Tryd.f48)).getD 0 .skip) slices_Equal_StopStop_4_0_h (loopBy slices_Equal_StopStop_4_0_p slices_Equal_StopStop_4_0_q (slices_Equal_StopStop_4_0_rr (slices_Equal_StopStop_4_0_L)) other) :=
  loopBy_tie (A := slices_Equal_StopStop_4_0_A) ho (loop_tie slices_Equal_StopStop_4_0_enc (slices_Equal_StopStop_4_0_s) (slices_Equal_StopStop_4_0_A) (fun _ _ => by kernel_rfl) (slices_Equal_StopStop_4_0_B_ok slices_Equal_StopStop_4_0_L) (fun _ _ _ => by kernel_rfl)) slices_Equal_StopStop_4_0_f slices_Equal_StopStop_4_0_d (fun _ _ => by kernel_rfl) (fun _ _ _ => by kernel_rfl)
noncomputable def slices_Equal_StopStop : slices_Equal_StopStop_ty R := fun x1 x2 k0 => slices_Equal_StopStop_X slices_Equal_StopStop_4_0_L x1 x2 k0
theorem slices_Equal_StopStop_loops (R : Type) : ∀ a ∈ loopsOf (codeOf Tryd.f48), LoopOk tt (envL []) (slices_Equal_StopStop_T (R := R) slices_Equal_StopStop_4_0_L) 0 a := by
  refine loops_ok 1 (by kernel_rfl) fun i hi => ?_
  match i, hi with
  | 0, _ => exact loopOk_some (by kernel_rfl) (slices_Equal_StopStop_4_0_ok _ loopNo_ok)
  | n + 1, hi => omega
theorem slices_Equal_StopStop_S_ok (R : Type) : OkS Tryd.prog 48 (slices_Equal_StopStop_s (slices_Equal_StopStop (R := R))) := tie_ok TT mixed .n rfl rfl rfl rfl (slices_Equal_StopStop_loops R) (slices_Equal_StopStop_ok slices_Equal_StopStop_4_0_L)

end Go.Proofs.YtolnaonmpohciaaDoor

/-
  Functions of the program as pure Lean functions, and the ties; printed by wip/tools/emit.py.
-/
set_option maxRecDepth 100000
namespace Go.Proofs.YtolnaonmpohciaaDoor
open Go Go.Yard
variable {R : Type}

/-! ### humpyard/humpyardlaw11.Fit -/
abbrev law11_Fit_ty (R : Type) : Type := Int → (List Arr3) → (Yard.Layout → Option R) → Option R
abbrev law11_Fit_p : List Pat := [.leaf (.int .i64), .leaf (.sl .arr3)]
abbrev law11_Fit_q : List HPat := []
noncomputable def law11_Fit_rr (fn : law11_Fit_ty R) : Run R law11_Fit_p law11_Fit_q := fun x y k => fn x.1 x.2.1 (fun q0 => k (.agg [.int .i64 q0.nodes, .sl .edge q0.edges .no]) [])
noncomputable def law11_Fit_s (fn : law11_Fit_ty R) := specBy law11_Fit_p law11_Fit_q (law11_Fit_rr fn)
abbrev law11_Fit_8_0_ty (R : Type) : Type := Nat → (List Arr3) → Int → Bool → Int → Int → Int → (List Yard.Edge) → Yard.Edge → ((List Arr3) → Int → Bool → Int → Int → (List Yard.Edge) → Yard.Edge → Option R) → Option R
abbrev law11_Fit_3_0_ty (R : Type) : Type := Nat → (List Arr3) → Int → Int → Int → (List Yard.Edge) → (Int → Int → (List Yard.Edge) → Option R) → Option R
noncomputable def law11_Fit_8_0_h : Hint := { live := [1, 4, 5, 6, 7, 8, 9], own := [], rows := [], cells := [], drop := [], out := [1, 4, 5, 6, 7, 8] }
abbrev law11_Fit_8_0_D : Type := (List Arr3) × Int × Bool × Int × Int × Int × (List Yard.Edge) × Yard.Edge
noncomputable def law11_Fit_8_0_enc : law11_Fit_8_0_D → St := fun d => ⟨.undef :: .sl .arr3 d.1 .no :: U 2 (.ptr 0 0 :: .ptr 1 0 :: .int .i64 d.2.1 :: .ptr 2 0 :: .bool d.2.2.1 :: .int .i64 d.2.2.2.1 :: U 83 ([])), [.cells [.int .i64 d.2.2.2.2.1, .nilsl], .cells [.int .i64 d.2.2.2.2.2.1, .sl .edge d.2.2.2.2.2.2.1 (.own 3)], .cells [.int .i64 d.2.2.2.2.2.2.2.src, .int .i64 d.2.2.2.2.2.2.2.dst, .int .i64 d.2.2.2.2.2.2.2.cost], .tok]⟩
noncomputable def law11_Fit_8_0_x0 (K : Ex → St → Option R) (q0 : List Arr3) (q1 : Int) (q2 : Bool) (q3 : Int) (q4 : Int) (q5 : List Yard.Edge) (q6 : Yard.Edge) : Option R := K (.exit 2) ⟨.undef :: .sl .arr3 q0 .no :: U 2 (.ptr 0 0 :: .ptr 1 0 :: .int .i64 q1 :: .ptr 2 0 :: .bool q2 :: U 84 ([])), [.cells [.int .i64 q3, .nilsl], .cells [.int .i64 q4, .sl .edge q5 (.own 3)], .cells [.int .i64 q6.src, .int .i64 q6.dst, .int .i64 q6.cost], .tok]⟩
abbrev law11_Fit_8_0_p : List Pat := .leaf (.undef) :: .leaf (.sl .arr3) :: PU 2 (.leaf (.ptr 0 0) :: .leaf (.ptr 1 0) :: .leaf (.int .i64) :: .leaf (.ptr 2 0) :: .leaf (.bool) :: .leaf (.int .i64) :: PU 83 ([]))
abbrev law11_Fit_8_0_q : List HPat := [.cells [.int .i64, .nilsl], .cells [.int .i64, .slo .edge 3], .cells [.int .i64, .int .i64, .int .i64], .tok]
noncomputable def law11_Fit_8_0_f (x : Pat.dens law11_Fit_8_0_p) (y : HPat.dens law11_Fit_8_0_q) : Nat := (List.length x.2.1 + Int.natAbs x.2.2.2.2.2.2.1 + Int.natAbs ((t8 x).2.1) + Int.natAbs y.1.1 + Int.natAbs y.2.1.1 + List.length y.2.1.2.1 + Yard.Edge.fu (⟨y.2.2.1.1, y.2.2.1.2.1, y.2.2.1.2.2.1⟩ : Yard.Edge) + 64)
noncomputable def law11_Fit_8_0_d (x : Pat.dens law11_Fit_8_0_p) (y : HPat.dens law11_Fit_8_0_q) : law11_Fit_8_0_D := (x.2.1, x.2.2.2.2.2.2.1, (t8 x).1, (t8 x).2.1, y.1.1, y.2.1.1, y.2.1.2.1, (⟨y.2.2.1.1, y.2.2.1.2.1, y.2.2.1.2.2.1⟩ : Yard.Edge))
noncomputable def law11_Fit_8_0_rr (L : law11_Fit_8_0_ty R) : LRun R law11_Fit_8_0_p law11_Fit_8_0_q := fun x y K => L (law11_Fit_8_0_f x y) x.2.1 x.2.2.2.2.2.2.1 ((t8 x).1) ((t8 x).2.1) y.1.1 y.2.1.1 y.2.1.2.1 (⟨y.2.2.1.1, y.2.2.1.2.1, y.2.2.1.2.2.1⟩ : Yard.Edge) (law11_Fit_8_0_x0 K)
noncomputable def law11_Fit_3_0_h : Hint := { live := [1, 4, 5, 6], own := [], rows := [], cells := [(1, 1, .edge, false)], drop := [], out := [4, 5] }
abbrev law11_Fit_3_0_D : Type := (List Arr3) × Int × Int × Int × (List Yard.Edge)
noncomputable def law11_Fit_3_0_enc : law11_Fit_3_0_D → St := fun d => ⟨.undef :: .sl .arr3 d.1 .no :: U 2 (.ptr 0 0 :: .ptr 1 0 :: .int .i64 d.2.1 :: U 86 ([])), [.cells [.int .i64 d.2.2.1, .nilsl], .cells [.int .i64 d.2.2.2.1, .sl .edge d.2.2.2.2 (.own 2)], .tok]⟩
noncomputable def law11_Fit_3_0_x0 (K : Ex → St → Option R) (q0 : Int) (q1 : Int) (q2 : List Yard.Edge) : Option R := K (.exit 0) ⟨U 4 (.ptr 0 0 :: .ptr 1 0 :: U 87 ([])), [.cells [.int .i64 q0, .nilsl], .cells [.int .i64 q1, .sl .edge q2 (.own 2)], .tok]⟩
abbrev law11_Fit_3_0_p : List Pat := .leaf (.undef) :: .leaf (.sl .arr3) :: PU 2 (.leaf (.ptr 0 0) :: .leaf (.ptr 1 0) :: .leaf (.int .i64) :: PU 86 ([]))
abbrev law11_Fit_3_0_q : List HPat := [.cells [.int .i64, .nilsl], .cells [.int .i64, .slo .edge 2], .tok]
noncomputable def law11_Fit_3_0_f (x : Pat.dens law11_Fit_3_0_p) (y : HPat.dens law11_Fit_3_0_q) : Nat := (List.length x.2.1 + Int.natAbs x.2.2.2.2.2.2.1 + Int.natAbs y.1.1 + Int.natAbs y.2.1.1 + List.length y.2.1.2.1 + 64)
noncomputable def law11_Fit_3_0_d (x : Pat.dens law11_Fit_3_0_p) (y : HPat.dens law11_Fit_3_0_q) : law11_Fit_3_0_D := (x.2.1, x.2.2.2.2.2.2.1, y.1.1, y.2.1.1, y.2.1.2.1)
noncomputable def law11_Fit_3_0_rr (L : law11_Fit_3_0_ty R) : LRun R law11_Fit_3_0_p law11_Fit_3_0_q := fun x y K => L (law11_Fit_3_0_f x y) x.2.1 x.2.2.2.2.2.2.1 y.1.1 y.2.1.1 y.2.1.2.1 (law11_Fit_3_0_x0 K)
section
variable (law11_pick : law11_pick_ty R) (law11_Fit_8_0_L : law11_Fit_8_0_ty R) (law11_Fit_3_0_L : law11_Fit_3_0_ty R)
noncomputable def law11_Fit_E : List (Ent R) := [(23, true, (law11_pick_s law11_pick specNo))]
noncomputable def law11_Fit_8_0_B (rec' : (List Arr3) → Int → Bool → Int → Int → Int → (List Yard.Edge) → Yard.Edge → Option R) (x13 : List Arr3) (x14 : Int) (x15 : Bool) (x16 : Int) (x17 : Int) (x18 : Int) (x19 : List Yard.Edge) (x20 : Yard.Edge) (e0 : (List Arr3) → Int → Bool → Int → Int → (List Yard.Edge) → Yard.Edge → Option R) : Option R :=
  bif (decide (x16 < (x19.length : Int))) then (bif x15 then (chk (decide ((0 : Int) ≤ x16) && decide (x16 < x19.length)) (bif ((x19.getD x16.toNat (Ty.dflt .edge)).src != x20.src) then (rec' x13 x14 true (IntKind.i64.wrap (x16 + 1)) x17 x18 x19 x20) else (chk (decide ((0 : Int) ≤ x16) && decide (x16 < x19.length)) (rec' x13 x14 ((x19.getD x16.toNat (Ty.dflt .edge)).dst != x20.dst) (IntKind.i64.wrap (x16 + 1)) x17 x18 x19 x20)))) else (rec' x13 x14 false (IntKind.i64.wrap (x16 + 1)) x17 x18 x19 x20)) else (e0 x13 x14 x15 x17 x18 x19 x20)
noncomputable def law11_Fit_8_0_s (K : Ex → St → Option R) (rc : law11_Fit_8_0_D → Option R) (d : law11_Fit_8_0_D) : Option R := law11_Fit_8_0_B (fun z0 z1 z2 z3 z4 z5 z6 z7 => rc (z0, z1, z2, z3, z4, z5, z6, z7)) d.1 d.2.1 d.2.2.1 d.2.2.2.1 d.2.2.2.2.1 d.2.2.2.2.2.1 d.2.2.2.2.2.2.1 d.2.2.2.2.2.2.2 (law11_Fit_8_0_x0 K)
noncomputable def law11_Fit_3_0_B (rec' : (List Arr3) → Int → Int → Int → (List Yard.Edge) → Option R) (x4 : List Arr3) (x5 : Int) (x6 : Int) (x7 : Int) (x8 : List Yard.Edge) (e0 : Int → Int → (List Yard.Edge) → Option R) : Option R :=
  bif (decide (x5 < (x4.length : Int))) then (bif (decide ((x8.length : Int) < (24 : Int))) then (chk (decide ((0 : Int) ≤ x5) && decide (x5 < x4.length)) (law11_pick ((x4.getD x5.toNat (Ty.dflt .arr3)).a) x7 (fun y10 => chk (decide ((0 : Int) ≤ x5) && decide (x5 < x4.length)) (law11_pick ((x4.getD x5.toNat (Ty.dflt .arr3)).b) x7 (fun y11 => chk (decide ((0 : Int) ≤ x5) && decide (x5 < x4.length)) (law11_pick ((x4.getD x5.toNat (Ty.dflt .arr3)).c) 9 (fun y12 => law11_Fit_8_0_L (List.length x4 + Int.natAbs x5 + Int.natAbs 0 + Int.natAbs x6 + Int.natAbs x7 + List.length x8 + Yard.Edge.fu (⟨y10, y11, (IntKind.i64.wrap (1 + y12))⟩ : Yard.Edge) + 64) x4 x5 (y10 != y11) 0 x6 x7 x8 (⟨y10, y11, (IntKind.i64.wrap (1 + y12))⟩ : Yard.Edge) (fun y22 y23 y24 y25 y26 y27 y28 => bif y24 then (chk (decide ((y27.length + 1) * 24 ≤ 140737488355328)) (rec' y22 (IntKind.i64.wrap (y23 + 1)) y25 y26 (y27 ++ ([y28] : List Yard.Edge)))) else (rec' y22 (IntKind.i64.wrap (y23 + 1)) y25 y26 y27))))))))) else (e0 x6 x7 x8)) else (e0 x6 x7 x8)
noncomputable def law11_Fit_3_0_s (K : Ex → St → Option R) (rc : law11_Fit_3_0_D → Option R) (d : law11_Fit_3_0_D) : Option R := law11_Fit_3_0_B law11_pick law11_Fit_8_0_L (fun z0 z1 z2 z3 z4 => rc (z0, z1, z2, z3, z4)) d.1 d.2.1 d.2.2.1 d.2.2.2.1 d.2.2.2.2 (law11_Fit_3_0_x0 K)
noncomputable def law11_Fit_T : Nat → Option (Hint × LSpec R) := fun i => match i with
  | 3 => some (law11_Fit_3_0_h, (loopBy law11_Fit_3_0_p law11_Fit_3_0_q (law11_Fit_3_0_rr law11_Fit_3_0_L) loopNo))
  | 8 => some (law11_Fit_8_0_h, (loopBy law11_Fit_8_0_p law11_Fit_8_0_q (law11_Fit_8_0_rr law11_Fit_8_0_L) loopNo))
  | _ => none
theorem law11_Fit_8_0_B_ok (K : Ex → St → Option R) (rc : St → Option R) (d : law11_Fit_8_0_D) : roundOf tt (envL (law11_Fit_E law11_pick)) (law11_Fit_T law11_Fit_8_0_L law11_Fit_3_0_L) 0 ((loopsOf (codeOf Tryd.f6)).getD 1 .skip) law11_Fit_8_0_h (law11_Fit_8_0_enc d) rc K = law11_Fit_8_0_s K (fun d => rc (law11_Fit_8_0_enc d)) d := by kernel_rfl
theorem law11_Fit_3_0_B_ok (K : Ex → St → Option R) (rc : St → Option R) (d : law11_Fit_3_0_D) : roundOf tt (envL (law11_Fit_E law11_pick)) (law11_Fit_T law11_Fit_8_0_L law11_Fit_3_0_L) 0 ((loopsOf (codeOf Tryd.f6)).getD 0 .skip) law11_Fit_3_0_h (law11_Fit_3_0_enc d) rc K = law11_Fit_3_0_s law11_pick law11_Fit_8_0_L K (fun d => rc (law11_Fit_3_0_enc d)) d := by kernel_rfl
noncomputable def law11_Fit_X (x1 : Int) (x2 : List Arr3) (k0 : Yard.Layout → Option R) : Option R :=
  law11_pick x1 8 (fun y3 => law11_Fit_3_0_L (List.length x2 + Int.natAbs 0 + Int.natAbs 0 + Int.natAbs (IntKind.i64.wrap (1 + y3)) + List.length ([] : List Yard.Edge) + 64) x2 0 0 (IntKind.i64.wrap (1 + y3)) ([] : List Yard.Edge) (fun y29 y30 y31 => k0 (⟨y30, y31⟩ : Yard.Layout)))
theorem law11_Fit_ok : Tied (R := R) tt (law11_Fit_E law11_pick) (law11_Fit_T law11_Fit_8_0_L law11_Fit_3_0_L) false Tryd.f6 law11_Fit_p law11_Fit_q (law11_Fit_rr (law11_Fit_X law11_pick law11_Fit_3_0_L)) := fun x y k => by kernel_rfl
end
theorem law11_Fit_EOk : EntOk (R := R) Tryd.prog (law11_Fit_E (R := R) law11_pick) := .c (law11_pick_S_ok R) <| .n
noncomputable def law11_Fit_8_0_L : law11_Fit_8_0_ty R
  | 0, _, _, _, _, _, _, _, _, _ => none
  | n + 1, x0', x1', x2', x3', x4', x5', x6', x7', e0 => law11_Fit_8_0_B (fun x0' x1' x2' x3' x4' x5' x6' x7' => law11_Fit_8_0_L n x0' x1' x2' x3' x4' x5' x6' x7' e0) x0' x1' x2' x3' x4' x5' x6' x7' e0
noncomputable def law11_Fit_8_0_A (K : Ex → St → Option R) (n : Nat) (d : law11_Fit_8_0_D) : Option R := law11_Fit_8_0_L n d.1 d.2.1 d.2.2.1 d.2.2.2.1 d.2.2.2.2.1 d.2.2.2.2.2.1 d.2.2.2.2.2.2.1 d.2.2.2.2.2.2.2 (law11_Fit_8_0_x0 K)
noncomputable def law11_Fit_3_0_L : law11_Fit_3_0_ty R
  | 0, _, _, _, _, _, _ => none
  | n + 1, x0', x1', x2', x3', x4', e0 => law11_Fit_3_0_B law11_pick law11_Fit_8_0_L (fun x0' x1' x2' x3' x4' => law11_Fit_3_0_L n x0' x1' x2' x3' x4' e0) x0' x1' x2' x3' x4' e0
noncomputable def law11_Fit_3_0_A (K : Ex → St → Option R) (n : Nat) (d : law11_Fit_3_0_D) : Option R := law11_Fit_3_0_L n d.1 d.2.1 d.2.2.1 d.2.2.2.1 d.2.2.2.2 (law11_Fit_3_0_x0 K)
theorem law11_Fit_8_0_ok (other : LSpec R) (ho : LsOk tt (envL (law11_Fit_E (R := R) law11_pick)) (law11_Fit_T (R := R) law11_Fit_8_0_L law11_Fit_3_0_L) 0 ((loopsOf (codeOf Tryd.f6)).getD 1 .skip) law11_Fit_8_0_h other) : LsOk tt (envL (law11_Fit_E (R := R) law11_pick)) (law11_Fit_T (R := R) law11_Fit_8_0_L law11_Fit_3_0_L) 0 ((loopsOf (codeOf Tryd.f6)).getD 1 .skip) law11_Fit_8_0_h (loopBy law11_Fit_8_0_p law11_Fit_8_0_q (law11_Fit_8_0_rr (law11_Fit_8_0_L)) other) :=
  loopBy_tie (A := law11_Fit_8_0_A) ho (loop_tie law11_Fit_8_0_enc (law11_Fit_8_0_s) (law11_Fit_8_0_A) (fun _ _ => by kernel_rfl) (law11_Fit_8_0_B_ok law11_pick law11_Fit_8_0_L law11_Fit_3_0_L) (fun _ _ _ => by kernel_rfl)) law11_Fit_8_0_f law11_Fit_8_0_d (fun _ _ => by kernel_rfl) (fun _ _ _ => by kernel_rfl)
theorem law11_Fit_3_0_ok (other : LSpec R) (ho : LsOk tt (envL (law11_Fit_E (R := R) law11_pick)) (law11_Fit_T (R := R) law11_Fit_8_0_L law11_Fit_3_0_L) 0 ((loopsOf (codeOf Tryd.f6)).getD 0 .skip) law11_Fit_3_0_h other) : LsOk tt (envL (law11_Fit_E (R := R) law11_pick)) (law11_Fit_T (R := R) law11_Fit_8_0_L law11_Fit_3_0_L) 0 ((loopsOf (codeOf Tryd.f6)).getD 0 .skip) law11_Fit_3_0_h (loopBy law11_Fit_3_0_p law11_Fit_3_0_q (law11_Fit_3_0_rr (law11_Fit_3_0_L)) other) :=
  loopBy_tie (A := law11_Fit_3_0_A) ho (loop_tie law11_Fit_3_0_enc (law11_Fit_3_0_s law11_pick law11_Fit_8_0_L) (law11_Fit_3_0_A) (fun _ _ => by kernel_rfl) (law11_Fit_3_0_B_ok law11_pick law11_Fit_8_0_L law11_Fit_3_0_L) (fun _ _ _ => by kernel_rfl)) law11_Fit_3_0_f law11_Fit_3_0_d (fun _ _ => by kernel_rfl) (fun _ _ _ => by kernel_rfl)
noncomputable def law11_Fit : law11_Fit_ty R := fun x1 x2 k0 => law11_Fit_X law11_pick law11_Fit_3_0_L x1 x2 k0
theorem law11_Fit_loops (R : Type) : ∀ a ∈ loopsOf (codeOf Tryd.f6), LoopOk tt (envL (law11_Fit_E (R := R) law11_pick)) (law11_Fit_T (R := R) law11_Fit_8_0_L law11_Fit_3_0_L) 0 a := by
  refine loops_ok 2 (by kernel_rfl) fun i hi => ?_
  match i, hi with
  | 0, _ => exact loopOk_some (by kernel_rfl) (law11_Fit_3_0_ok _ loopNo_ok)
  | 1, _ => exact loopOk_some (by kernel_rfl) (law11_Fit_8_0_ok _ loopNo_ok)
  | n + 2, hi => omega
theorem law11_Fit_S_ok (R : Type) : OkS Tryd.prog 6 (law11_Fit_s (law11_Fit (R := R))) := tie_ok TT mixed (law11_Fit_EOk (R := R)) rfl rfl rfl rfl (law11_Fit_loops R) (law11_Fit_ok law11_pick law11_Fit_8_0_L law11_Fit_3_0_L)

/-! ### humpyard/humpyardlaw13.pick -/
abbrev law13_pick_ty (R : Type) : Type := Int → Int → (Int → Option R) → Option R
abbrev law13_pick_p : List Pat := [.leaf (.int .i64), .leaf (.int .i64)]
abbrev law13_pick_q : List HPat := []
noncomputable def law13_pick_rr (fn : law13_pick_ty R) : Run R law13_pick_p law13_pick_q := fun x y k => fn x.1 x.2.1 (fun q0 => k (.int .i64 q0) [])
noncomputable def law13_pick_s (fn : law13_pick_ty R) := specBy law13_pick_p law13_pick_q (law13_pick_rr fn)
section
noncomputable def law13_pick_X (x1 : Int) (x2 : Int) (k0 : Int → Option R) : Option R :=
  bif (decide (x1 < (0 : Int))) then (chk (!decide (x2 = 0)) (k0 (Int.tmod (IntKind.i64.wrap (0 - (IntKind.i64.wrap (x1 + 1)))) x2))) else (chk (!decide (x2 = 0)) (k0 (Int.tmod x1 x2)))
theorem law13_pick_ok : Tied (R := R) tt [] noT false Tryd.f47 law13_pick_p law13_pick_q (law13_pick_rr law13_pick_X) := fun x y k => by kernel_rfl
end
noncomputable def law13_pick : law13_pick_ty R := fun x1 x2 k0 => law13_pick_X x1 x2 k0
theorem law13_pick_S_ok (R : Type) : OkS Tryd.prog 47 (law13_pick_s (law13_pick (R := R))) := tie_ok TT mixed .n rfl rfl rfl rfl noT_ok (law13_pick_ok)

/-! ### humpyard/humpyardlaw13.Path -/
abbrev law13_Path_ty (R : Type) : Type := Yard.Layout → Int → (List Int) → Int → ((List Int) → Option R) → Option R
abbrev law13_Path_p : List Pat := [.agg [.int .i64, .sl .edge], .leaf (.int .i64), .leaf (.sl (.int .i64)), .leaf (.int .i64)]
abbrev law13_Path_q : List HPat := []
noncomputable def law13_Path_rr (fn : law13_Path_ty R) : Run R law13_Path_p law13_Path_q := fun x y k => fn (⟨x.1.1, x.1.2.1⟩ : Yard.Layout) x.2.1 x.2.2.1 x.2.2.2.1 (fun q0 => k (.sl (.int .i64) q0 .no) [])
noncomputable def law13_Path_s (fn : law13_Path_ty R) := specBy law13_Path_p law13_Path_q (law13_Path_rr fn)
abbrev law13_Path_8_0_ty (R : Type) : Type := Nat → (List Int) → Int → Int → (List Int) → Int → (List Int) → Int → Yard.Layout → ((List Int) → Int → (List Int) → Int → (List Int) → Yard.Layout → Option R) → Option R
abbrev law13_Path_4_0_ty (R : Type) : Type := Nat → (List Int) → Int → Int → (List Int) → Int → Yard.Layout → ((List Int) → Option R) → Option R
noncomputable def law13_Path_8_0_h : Hint := { live := [2, 3, 4, 9, 10, 11, 12, 13], own := [(12, (.int .i64))], rows := [], cells := [], drop := [], out := [2, 3, 4, 8, 10, 11, 12] }
abbrev law13_Path_8_0_D : Type := (List Int) × Int × Int × (List Int) × Int × (List Int) × Int × Yard.Layout
noncomputable def law13_Path_8_0_enc : law13_Path_8_0_D → St := fun d => ⟨U 2 (.sl (.int .i64) d.1 .no :: .int .i64 d.2.1 :: .ptr 0 0 :: U 4 (.int .i64 d.2.2.1 :: .sl (.int .i64) d.2.2.2.1 (.own 1) :: .int .i64 d.2.2.2.2.1 :: .sl (.int .i64) d.2.2.2.2.2.1 (.own 2) :: .int .i64 d.2.2.2.2.2.2.1 :: U 63 ([]))), [.cells [.int .i64 d.2.2.2.2.2.2.2.nodes, .sl .edge d.2.2.2.2.2.2.2.edges .no], .tok, .tok]⟩
noncomputable def law13_Path_8_0_x0 (K : Ex → St → Option R) (q0 : List Int) (q1 : Int) (q2 : List Int) (q3 : Int) (q4 : List Int) (q5 : Yard.Layout) : Option R := K (.exit 2) ⟨U 2 (.sl (.int .i64) q0 .no :: .int .i64 q1 :: .ptr 0 0 :: U 5 (.sl (.int .i64) q2 (.own 1) :: .int .i64 q3 :: .sl (.int .i64) q4 (.own 2) :: U 64 ([]))), [.cells [.int .i64 q5.nodes, .sl .edge q5.edges .no], .tok, .tok]⟩
abbrev law13_Path_8_0_p : List Pat := PU 2 (.leaf (.sl (.int .i64)) :: .leaf (.int .i64) :: .leaf (.ptr 0 0) :: PU 4 (.leaf (.int .i64) :: .leaf (.slo (.int .i64) 1) :: .leaf (.int .i64) :: .leaf (.slo (.int .i64) 2) :: .leaf (.int .i64) :: PU 63 ([])))
abbrev law13_Path_8_0_q : List HPat := [.cells [.int .i64, .sl .edge], .tok, .tok]
noncomputable def law13_Path_8_0_f (x : Pat.dens law13_Path_8_0_p) (y : HPat.dens law13_Path_8_0_q) : Nat := (List.length x.2.2.1 + Int.natAbs x.2.2.2.1 + Int.natAbs ((t8 x).2.1) + List.length ((t8 x).2.2.1) + Int.natAbs ((t8 x).2.2.2.1) + List.length ((t8 x).2.2.2.2.1) + Int.natAbs ((t8 x).2.2.2.2.2.1) + Yard.Layout.fu (⟨y.1.1, y.1.2.1⟩ : Yard.Layout) + 64)
noncomputable def law13_Path_8_0_d (x : Pat.dens law13_Path_8_0_p) (y : HPat.dens law13_Path_8_0_q) : law13_Path_8_0_D := (x.2.2.1, x.2.2.2.1, (t8 x).2.1, (t8 x).2.2.1, (t8 x).2.2.2.1, (t8 x).2.2.2.2.1, (t8 x).2.2.2.2.2.1, (⟨y.1.1, y.1.2.1⟩ : Yard.Layout))
noncomputable def law13_Path_8_0_rr (L : law13_Path_8_0_ty R) : LRun R law13_Path_8_0_p law13_Path_8_0_q := fun x y K => L (law13_Path_8_0_f x y) x.2.2.1 x.2.2.2.1 ((t8 x).2.1) ((t8 x).2.2.1) ((t8 x).2.2.2.1) ((t8 x).2.2.2.2.1) ((t8 x).2.2.2.2.2.1) (⟨y.1.1, y.1.2.1⟩ : Yard.Layout) (law13_Path_8_0_x0 K)
noncomputable def law13_Path_4_0_h : Hint := { live := [2, 3, 4, 9, 10, 11], own := [], rows := [], cells := [], drop := [], out := [8, 10] }
abbrev law13_Path_4_0_D : Type := (List Int) × Int × Int × (List Int) × Int × Yard.Layout
noncomputable def law13_Path_4_0_enc : law13_Path_4_0_D → St := fun d => ⟨U 2 (.sl (.int .i64) d.1 .no :: .int .i64 d.2.1 :: .ptr 0 0 :: U 4 (.int .i64 d.2.2.1 :: .sl (.int .i64) d.2.2.2.1 (.own 1) :: .int .i64 d.2.2.2.2.1 :: U 65 ([]))), [.cells [.int .i64 d.2.2.2.2.2.nodes, .sl .edge d.2.2.2.2.2.edges .no], .tok]⟩
noncomputable def law13_Path_4_0_x0 (K : Ex → St → Option R) (q0 : List Int) : Option R := K (.exit 0) ⟨U 10 (.sl (.int .i64) q0 (.own 0) :: U 66 ([])), [.tok]⟩
abbrev law13_Path_4_0_p : List Pat := PU 2 (.leaf (.sl (.int .i64)) :: .leaf (.int .i64) :: .leaf (.ptr 0 0) :: PU 4 (.leaf (.int .i64) :: .leaf (.slo (.int .i64) 1) :: .leaf (.int .i64) :: PU 65 ([])))
abbrev law13_Path_4_0_q : List HPat := [.cells [.int .i64, .sl .edge], .tok]
noncomputable def law13_Path_4_0_f (x : Pat.dens law13_Path_4_0_p) (y : HPat.dens law13_Path_4_0_q) : Nat := (List.length x.2.2.1 + Int.natAbs x.2.2.2.1 + Int.natAbs ((t8 x).2.1) + List.length ((t8 x).2.2.1) + Int.natAbs ((t8 x).2.2.2.1) + Yard.Layout.fu (⟨y.1.1, y.1.2.1⟩ : Yard.Layout) + 64)
noncomputable def law13_Path_4_0_d (x : Pat.dens law13_Path_4_0_p) (y : HPat.dens law13_Path_4_0_q) : law13_Path_4_0_D := (x.2.2.1, x.2.2.2.1, (t8 x).2.1, (t8 x).2.2.1, (t8 x).2.2.2.1, (⟨y.1.1, y.1.2.1⟩ : Yard.Layout))
noncomputable def law13_Path_4_0_rr (L : law13_Path_4_0_ty R) : LRun R law13_Path_4_0_p law13_Path_4_0_q := fun x y K => L (law13_Path_4_0_f x y) x.2.2.1 x.2.2.2.1 ((t8 x).2.1) ((t8 x).2.2.1) ((t8 x).2.2.2.1) (⟨y.1.1, y.1.2.1⟩ : Yard.Layout) (law13_Path_4_0_x0 K)
section
variable (law13_pick : law13_pick_ty R) (law13_Path_8_0_L : law13_Path_8_0_ty R) (law13_Path_4_0_L : law13_Path_4_0_ty R)
noncomputable def law13_Path_E : List (Ent R) := [(47, true, (law13_pick_s law13_pick specNo))]
noncomputable def law13_Path_8_0_B (rec' : (List Int) → Int → Int → (List Int) → Int → (List Int) → Int → Yard.Layout → Option R) (x13 : List Int) (x14 : Int) (x15 : Int) (x16 : List Int) (x17 : Int) (x18 : List Int) (x19 : Int) (x20 : Yard.Layout) (e0 : (List Int) → Int → (List Int) → Int → (List Int) → Yard.Layout → Option R) : Option R :=
  bif (decide (x19 < (x20.edges.length : Int))) then (chk (decide ((0 : Int) ≤ x19) && decide (x19 < x20.edges.length)) (bif ((x20.edges.getD x19.toNat (Ty.dflt .edge)).src == x15) then (chk (decide ((x18.length + 1) * 8 ≤ 140737488355328)) (rec' x13 x14 x15 x16 x17 ((x18 : List Int) ++ (([x19] : List Int) : List Int)) (IntKind.i64.wrap (x19 + 1)) x20)) else (rec' x13 x14 x15 x16 x17 x18 (IntKind.i64.wrap (x19 + 1)) x20))) else (e0 x13 x14 x16 x17 x18 x20)
noncomputable def law13_Path_8_0_s (K : Ex → St → Option R) (rc : law13_Path_8_0_D → Option R) (d : law13_Path_8_0_D) : Option R := law13_Path_8_0_B (fun z0 z1 z2 z3 z4 z5 z6 z7 => rc (z0, z1, z2, z3, z4, z5, z6, z7)) d.1 d.2.1 d.2.2.1 d.2.2.2.1 d.2.2.2.2.1 d.2.2.2.2.2.1 d.2.2.2.2.2.2.1 d.2.2.2.2.2.2.2 (law13_Path_8_0_x0 K)
noncomputable def law13_Path_4_0_B (rec' : (List Int) → Int → Int → (List Int) → Int → Yard.Layout → Option R) (x6 : List Int) (x7 : Int) (x8 : Int) (x9 : List Int) (x10 : Int) (x11 : Yard.Layout) (e0 : (List Int) → Option R) : Option R :=
  bif (decide (x10 < (x6.length : Int))) then (bif (decide (x10 < x7)) then (law13_Path_8_0_L (List.length x6 + Int.natAbs x7 + Int.natAbs x8 + List.length x9 + Int.natAbs x10 + List.length ([] : List Int) + Int.natAbs 0 + Yard.Layout.fu x11 + 64) x6 x7 x8 x9 x10 ([] : List Int) 0 x11 (fun y21 y22 y23 y24 y25 y26 => bif ((y25.length : Int) == 0) then (e0 y23) else (chk (decide ((0 : Int) ≤ y24) && decide (y24 < y21.length)) (law13_pick (y21.getD y24.toNat (Ty.dflt (.int .i64))) (y25.length : Int) (fun y27 => chk (decide ((0 : Int) ≤ y27) && decide (y27 < y25.length)) (chk (decide ((0 : Int) ≤ (y25.getD y27.toNat (Ty.dflt (.int .i64)))) && decide ((y25.getD y27.toNat (Ty.dflt (.int .i64))) < y26.edges.length)) (chk (decide ((y23.length + 2) * 8 ≤ 140737488355328)) (rec' y21 y22 ((y26.edges.getD (y25.getD y27.toNat (Ty.dflt (.int .i64))).toNat (Ty.dflt .edge)).dst) ((y23 : List Int) ++ (([(IntKind.i64.wrap (1000 + (y25.getD y27.toNat (Ty.dflt (.int .i64))))), (y26.edges.getD (y25.getD y27.toNat (Ty.dflt (.int .i64))).toNat (Ty.dflt .edge)).dst] : List Int) : List Int)) (IntKind.i64.wrap (y24 + 1)) y26)))))))) else (e0 x9)) else (e0 x9)
noncomputable def law13_Path_4_0_s (K : Ex → St → Option R) (rc : law13_Path_4_0_D → Option R) (d : law13_Path_4_0_D) : Option R := law13_Path_4_0_B law13_pick law13_Path_8_0_L (fun z0 z1 z2 z3 z4 z5 => rc (z0, z1, z2, z3, z4, z5)) d.1 d.2.1 d.2.2.1 d.2.2.2.1 d.2.2.2.2.1 d.2.2.2.2.2 (law13_Path_4_0_x0 K)
noncomputable def law13_Path_T : Nat → Option (Hint × LSpec R) := fun i => match i with
  | 4 => some (law13_Path_4_0_h, (loopBy law13_Path_4_0_p law13_Path_4_0_q (law13_Path_4_0_rr law13_Path_4_0_L) loopNo))
  | 8 => some (law13_Path_8_0_h, (loopBy law13_Path_8_0_p law13_Path_8_0_q (law13_Path_8_0_rr law13_Path_8_0_L) loopNo))
  | _ => none
theorem law13_Path_8_0_B_ok (K : Ex → St → Option R) (rc : St → Option R) (d : law13_Path_8_0_D) : roundOf tt (envL (law13_Path_E law13_pick)) (law13_Path_T law13_Path_8_0_L law13_Path_4_0_L) 0 ((loopsOf (codeOf Tryd.f46)).getD 1 .skip) law13_Path_8_0_h (law13_Path_8_0_enc d) rc K = law13_Path_8_0_s K (fun d => rc (law13_Path_8_0_enc d)) d := by kernel_rfl
theorem law13_Path_4_0_B_ok (K : Ex → St → Option R) (rc : St → Option R) (d : law13_Path_4_0_D) : roundOf tt (envL (law13_Path_E law13_pick)) (law13_Path_T law13_Path_8_0_L law13_Path_4_0_L) 0 ((loopsOf (codeOf Tryd.f46)).getD 0 .skip) law13_Path_4_0_h (law13_Path_4_0_enc d) rc K = law13_Path_4_0_s law13_pick law13_Path_8_0_L K (fun d => rc (law13_Path_4_0_enc d)) d := by kernel_rfl
noncomputable def law13_Path_X (x1 : Yard.Layout) (x2 : Int) (x3 : List Int) (x4 : Int) (k0 : (List Int) → Option R) : Option R :=
  law13_pick x2 x1.nodes (fun y5 => law13_Path_4_0_L (List.length x3 + Int.natAbs x4 + Int.natAbs y5 + List.length ([y5] : List Int) + Int.natAbs 0 + Yard.Layout.fu x1 + 64) x3 x4 y5 ([y5] : List Int) 0 x1 (fun y28 => k0 y28))
theorem law13_Path_ok : Tied (R := R) tt (law13_Path_E law13_pick) (law13_Path_T law13_Path_8_0_L law13_Path_4_0_L) false Tryd.f46 law13_Path_p law13_Path_q (law13_Path_rr (law13_Path_X law13_pick law13_Path_4_0_L)) := fun x y k => by kernel_rfl
end
theorem law13_Path_EOk : EntOk (R := R) Tryd.prog (law13_Path_E (R := R) law13_pick) := .c (law13_pick_S_ok R) <| .n
noncomputable def law13_Path_8_0_L : law13_Path_8_0_ty R
  | 0, _, _, _, _, _, _, _, _, _ => none
  | n + 1, x0', x1', x2', x3', x4', x5', x6', x7', e0 => law13_Path_8_0_B (fun x0' x1' x2' x3' x4' x5' x6' x7' => law13_Path_8_0_L n x0' x1' x2' x3' x4' x5' x6' x7' e0) x0' x1' x2' x3' x4' x5' x6' x7' e0
noncomputable def law13_Path_8_0_A (K : Ex → St → Option R) (n : Nat) (d : law13_Path_8_0_D) : Option R := law13_Path_8_0_L n d.1 d.2.1 d.2.2.1 d.2.2.2.1 d.2.2.2.2.1 d.2.2.2.2.2.1 d.2.2.2.2.2.2.1 d.2.2.2.2.2.2.2 (law13_Path_8_0_x0 K)
noncomputable def law13_Path_4_0_L : law13_Path_4_0_ty R
  | 0, _, _, _, _, _, _, _ => none
  | n + 1, x0', x1', x2', x3', x4', x5', e0 => law13_Path_4_0_B law13_pick law13_Path_8_0_L (fun x0' x1' x2' x3' x4' x5' => law13_Path_4_0_L n x0' x1' x2' x3' x4' x5' e0) x0' x1' x2' x3' x4' x5' e0
noncomputable def law13_Path_4_0_A (K : Ex → St → Option R) (n : Nat) (d : law13_Path_4_0_D) : Option R := law13_Path_4_0_L n d.1 d.2.1 d.2.2.1 d.2.2.2.1 d.2.2.2.2.1 d.2.2.2.2.2 (law13_Path_4_0_x0 K)
theorem law13_Path_8_0_ok (other : LSpec R) (ho : LsOk tt (envL (law13_Path_E (R := R) law13_pick)) (law13_Path_T (R := R) law13_Path_8_0_L law13_Path_4_0_L) 0 ((loopsOf (codeOf Tryd.f46)).getD 1 .skip) law13_Path_8_0_h other) : LsOk tt (envL (law13_Path_E (R := R) law13_pick)) (law13_Path_T (R := R) law13_Path_8_0_L law13_Path_4_0_L) 0 ((loopsOf (codeOf Tryd.f46)).getD 1 .skip) law13_Path_8_0_h (loopBy law13_Path_8_0_p law13_Path_8_0_q (law13_Path_8_0_rr (law13_Path_8_0_L)) other) :=
  loopBy_tie (A := law13_Path_8_0_A) ho (loop_tie law13_Path_8_0_enc (law13_Path_8_0_s) (law13_Path_8_0_A) (fun _ _ => by kernel_rfl) (law13_Path_8_0_B_ok law13_pick law13_Path_8_0_L law13_Path_4_0_L) (fun _ _ _ => by kernel_rfl)) law13_Path_8_0_f law13_Path_8_0_d (fun _ _ => by kernel_rfl) (fun _ _ _ => by kernel_rfl)
theorem law13_Path_4_0_ok (other : LSpec R) (ho : LsOk tt (envL (law13_Path_E (R := R) law13_pick)) (law13_Path_T (R := R) law13_Path_8_0_L law13_Path_4_0_L) 0 ((loopsOf (codeOf Tryd.f46)).getD 0 .skip) law13_Path_4_0_h other) : LsOk tt (envL (law13_Path_E (R := R) law13_pick)) (law13_Path_T (R := R) law13_Path_8_0_L law13_Path_4_0_L) 0 ((loopsOf (codeOf Tryd.f46)).getD 0 .skip) law13_Path_4_0_h (loopBy law13_Path_4_0_p law13_Path_4_0_q (law13_Path_4_0_rr (law13_Path_4_0_L)) other) :=
  loopBy_tie (A := law13_Path_4_0_A) ho (loop_tie law13_Path_4_0_enc (law13_Path_4_0_s law13_pick law13_Path_8_0_L) (law13_Path_4_0_A) (fun _ _ => by kernel_rfl) (law13_Path_4_0_B_ok law13_pick law13_Path_8_0_L law13_Path_4_0_L) (fun _ _ _ => by kernel_rfl)) law13_Path_4_0_f law13_Path_4_0_d (fun _ _ => by kernel_rfl) (fun _ _ _ => by kernel_rfl)
noncomputable def law13_Path : law13_Path_ty R := fun x1 x2 x3 x4 k0 => law13_Path_X law13_pick law13_Path_4_0_L x1 x2 x3 x4 k0
theorem law13_Path_loops (R : Type) : ∀ a ∈ loopsOf (codeOf Tryd.f46), LoopOk tt (envL (law13_Path_E (R := R) law13_pick)) (law13_Path_T (R := R) law13_Path_8_0_L law13_Path_4_0_L) 0 a := by
  refine loops_ok 2 (by kernel_rfl) fun i hi => ?_
  match i, hi with
  | 0, _ => exact loopOk_some (by kernel_rfl) (law13_Path_4_0_ok _ loopNo_ok)
  | 1, _ => exact loopOk_some (by kernel_rfl) (law13_Path_8_0_ok _ loopNo_ok)
  | n + 2, hi => omega
theorem law13_Path_S_ok (R : Type) : OkS Tryd.prog 46 (law13_Path_s (law13_Path (R := R))) := tie_ok TT mixed (law13_Path_EOk (R := R)) rfl rfl rfl rfl (law13_Path_loops R) (law13_Path_ok law13_pick law13_Path_8_0_L law13_Path_4_0_L)

/-! ### humpyard/humpyardref07.Name -/
abbrev ref07_Name_ty (R : Type) : Type := Str → (Bool → Option R) → Option R
abbrev ref07_Name_p : List Pat := [.leaf (.str)]
abbrev ref07_Name_q : List HPat := []
noncomputable def ref07_Name_rr (fn : ref07_Name_ty R) : Run R ref07_Name_p ref07_Name_q := fun x y k => fn x.1 (fun q0 => k (.bool q0) [])
noncomputable def ref07_Name_s (fn : ref07_Name_ty R) := specBy ref07_Name_p ref07_Name_q (ref07_Name_rr fn)
abbrev ref07_Name_2_0_ty (R : Type) : Type := Nat → Str → Int → (Str → Option R) → (Str → Bool → Option R) → Option R
noncomputable def ref07_Name_2_0_h : Hint := { live := [0, 3], own := [], rows := [], cells := [], drop := [], out := [0, 2] }
abbrev ref07_Name_2_0_D : Type := Str × Int
noncomputable def ref07_Name_2_0_enc : ref07_Name_2_0_D → St := fun d => ⟨.str d.1 :: U 2 (.int .i64 d.2 :: U 57 ([])), []⟩
noncomputable def ref07_Name_2_0_x0 (K : Ex → St → Option R) (q0 : Str) : Option R := K (.exit 0) ⟨.str q0 :: U 60 ([]), []⟩
noncomputable def ref07_Name_2_0_x1 (K : Ex → St → Option R) (q0 : Str) (q1 : Bool) : Option R := K (.ret) ⟨.str q0 :: .undef :: .bool q1 :: U 58 ([]), []⟩
abbrev ref07_Name_2_0_p : List Pat := .leaf (.str) :: PU 2 (.leaf (.int .i64) :: PU 57 ([]))
abbrev ref07_Name_2_0_q : List HPat := []
noncomputable def ref07_Name_2_0_f (x : Pat.dens ref07_Name_2_0_p) (y : HPat.dens ref07_Name_2_0_q) : Nat := (List.length x.1 + Int.natAbs x.2.2.2.1 + 64)
noncomputable def ref07_Name_2_0_d (x : Pat.dens ref07_Name_2_0_p) (y : HPat.dens ref07_Name_2_0_q) : ref07_Name_2_0_D := (x.1, x.2.2.2.1)
noncomputable def ref07_Name_2_0_rr (L : ref07_Name_2_0_ty R) : LRun R ref07_Name_2_0_p ref07_Name_2_0_q := fun x y K => L (ref07_Name_2_0_f x y) x.1 x.2.2.2.1 (ref07_Name_2_0_x0 K) (ref07_Name_2_0_x1 K)
section
variable (ref07_Name_2_0_L : ref07_Name_2_0_ty R)
noncomputable def ref07_Name_2_0_B (rec' : Str → Int → Option R) (x2 : Str) (x3 : Int) (e0 : Str → Option R) (e1 : Str → Bool → Option R) : Option R :=
  bif (decide (x3 < (x2.length : Int))) then (chk (decide ((0 : Int) ≤ x3) && decide (x3 < x2.length)) (bif (decide (((x2.getD x3.toNat 0).toNat : Int) ≥ (97 : Int))) then (bif (decide (((x2.getD x3.toNat 0).toNat : Int) ≤ (122 : Int))) then (rec' x2 (IntKind.i64.wrap (x3 + 1))) else (bif (decide (((x2.getD x3.toNat 0).toNat : Int) ≥ (65 : Int))) then (bif (decide (((x2.getD x3.toNat 0).toNat : Int) ≤ (90 : Int))) then (rec' x2 (IntKind.i64.wrap (x3 + 1))) else (bif (decide (((x2.getD x3.toNat 0).toNat : Int) ≥ (48 : Int))) then (bif (decide (((x2.getD x3.toNat 0).toNat : Int) ≤ (57 : Int))) then (rec' x2 (IntKind.i64.wrap (x3 + 1))) else (bif (((x2.getD x3.toNat 0).toNat : Int) == 95) then (rec' x2 (IntKind.i64.wrap (x3 + 1))) else (bif (((x2.getD x3.toNat 0).toNat : Int) == 46) then (rec' x2 (IntKind.i64.wrap (x3 + 1))) else (bif (((x2.getD x3.toNat 0).toNat : Int) == 58) then (rec' x2 (IntKind.i64.wrap (x3 + 1))) else (bif (!(((x2.getD x3.toNat 0).toNat : Int) == 45)) then (e1 x2 false) else (rec' x2 (IntKind.i64.wrap (x3 + 1)))))))) else (bif (((x2.getD x3.toNat 0).toNat : Int) == 95) then (rec' x2 (IntKind.i64.wrap (x3 + 1))) else (bif (((x2.getD x3.toNat 0).toNat : Int) == 46) then (rec' x2 (IntKind.i64.wrap (x3 + 1))) else (bif (((x2.getD x3.toNat 0).toNat : Int) == 58) then (rec' x2 (IntKind.i64.wrap (x3 + 1))) else (bif (!(((x2.getD x3.toNat 0).toNat : Int) == 45)) then (e1 x2 false) else (rec' x2 (IntKind.i64.wrap (x3 + 1))))))))) else (bif (decide (((x2.getD x3.toNat 0).toNat : Int) ≥ (48 : Int))) then (bif (decide (((x2.getD x3.toNat 0).toNat : Int) ≤ (57 : Int))) then (rec' x2 (IntKind.i64.wrap (x3 + 1))) else (bif (((x2.getD x3.toNat 0).toNat : Int) == 95) then (rec' x2 (IntKind.i64.wrap (x3 + 1))) else (bif (((x2.getD x3.toNat 0).toNat : Int) == 46) then (rec' x2 (IntKind.i64.wrap (x3 + 1))) else (bif (((x2.getD x3.toNat 0).toNat : Int) == 58) then (rec' x2 (IntKind.i64.wrap (x3 + 1))) else (bif (!(((x2.getD x3.toNat 0).toNat : Int) == 45)) then (e1 x2 false) else (rec' x2 (IntKind.i64.wrap (x3 + 1)))))))) else (bif (((x2.getD x3.toNat 0).toNat : Int) == 95) then (rec' x2 (IntKind.i64.wrap (x3 + 1))) else (bif (((x2.getD x3.toNat 0).toNat : Int) == 46) then (rec' x2 (IntKind.i64.wrap (x3 + 1))) else (bif (((x2.getD x3.toNat 0).toNat : Int) == 58) then (rec' x2 (IntKind.i64.wrap (x3 + 1))) else (bif (!(((x2.getD x3.toNat 0).toNat : Int) == 45)) then (e1 x2 false) else (rec' x2 (IntKind.i64.wrap (x3 + 1)))))))))) else (bif (decide (((x2.getD x3.toNat 0).toNat : Int) ≥ (65 : Int))) then (bif (decide (((x2.getD x3.toNat 0).toNat : Int) ≤ (90 : Int))) then (rec' x2 (IntKind.i64.wrap (x3 + 1))) else (bif (decide (((x2.getD x3.toNat 0).toNat : Int) ≥ (48 : Int))) then (bif (decide (((x2.getD x3.toNat 0).toNat : Int) ≤ (57 : Int))) then (rec' x2 (IntKind.i64.wrap (x3 + 1))) else (bif (((x2.getD x3.toNat 0).toNat : Int) == 95) then (rec' x2 (IntKind.i64.wrap (x3 + 1))) else (bif (((x2.getD x3.toNat 0).toNat : Int) == 46) then (rec' x2 (IntKind.i64.wrap (x3 + 1))) else (bif (((x2.getD x3.toNat 0).toNat : Int) == 58) then (rec' x2 (IntKind.i64.wrap (x3 + 1))) else (bif (!(((x2.getD x3.toNat 0).toNat : Int) == 45)) then (e1 x2 false) else (rec' x2 (IntKind.i64.wrap (x3 + 1)))))))) else (bif (((x2.getD x3.toNat 0).toNat : Int) == 95) then (rec' x2 (IntKind.i64.wrap (x3 + 1))) else (bif (((x2.getD x3.toNat 0).toNat : Int) == 46) then (rec' x2 (IntKind.i64.wrap (x3 + 1))) else (bif (((x2.getD x3.toNat 0).toNat : Int) == 58) then (rec' x2 (IntKind.i64.wrap (x3 + 1))) else (bif (!(((x2.getD x3.toNat 0).toNat : Int) == 45)) then (e1 x2 false) else (rec' x2 (IntKind.i64.wrap (x3 + 1))))))))) else (bif (decide (((x2.getD x3.toNat 0).toNat : Int) ≥ (48 : Int))) then (bif (decide (((x2.getD x3.toNat 0).toNat : Int) ≤ (57 : Int))) then (rec' x2 (IntKind.i64.wrap (x3 + 1))) else (bif (((x2.getD x3.toNat 0).toNat : Int) == 95) then (rec' x2 (IntKind.i64.wrap (x3 + 1))) else (bif (((x2.getD x3.toNat 0).toNat : Int) == 46) then (rec' x2 (IntKind.i64.wrap (x3 + 1))) else (bif (((x2.getD x3.toNat 0).toNat : Int) == 58) then (rec' x2 (IntKind.i64.wrap (x3 + 1))) else (bif (!(((x2.getD x3.toNat 0).toNat : Int) == 45)) then (e1 x2 false) else (rec' x2 (IntKind.i64.wrap (x3 + 1)))))))) else (bif (((x2.getD x3.toNat 0).toNat : Int) == 95) then (rec' x2 (IntKind.i64.wrap (x3 + 1))) else (bif (((x2.getD x3.toNat 0).toNat : Int) == 46) then (rec' x2 (IntKind.i64.wrap (x3 + 1))) else (bif (((x2.getD x3.toNat 0).toNat : Int) == 58) then (rec' x2 (IntKind.i64.wrap (x3 + 1))) else (bif (!(((x2.getD x3.toNat 0).toNat : Int) == 45)) then (e1 x2 false) else (rec' x2 (IntKind.i64.wrap (x3 + 1))))))))))) else (e0 x2)
noncomputable def ref07_Name_2_0_s (K : Ex → St → Option R) (rc : ref07_Name_2_0_D → Option R) (d : ref07_Name_2_0_D) : Option R := ref07_Name_2_0_B (fun z0 z1 => rc (z0, z1)) d.1 d.2 (ref07_Name_2_0_x0 K) (ref07_Name_2_0_x1 K)
noncomputable def ref07_Name_T : Nat → Option (Hint × LSpec R) := fun i => match i with
  | 2 => some (ref07_Name_2_0_h, (loopBy ref07_Name_2_0_p ref07_Name_2_0_q (ref07_Name_2_0_rr ref07_Name_2_0_L) loopNo))
  | _ => none
theorem ref07_Name_2_0_B_ok (K : Ex → St → Option R) (rc : St → Option R) (d : ref07_Name_2_0_D) : roundOf tt (envL []) (ref07_Name_T ref07_Name_2_0_L) 0 ((loopsOf (codeOf Tryd.f60)).getD 0 .skip) ref07_Name_2_0_h (ref07_Name_2_0_enc d) rc K = ref07_Name_2_0_s K (fun d => rc (ref07_Name_2_0_enc d)) d := by kernel_rfl
noncomputable def ref07_Name_X (x1 : Str) (k0 : Bool → Option R) : Option R :=
  ref07_Name_2_0_L (List.length x1 + Int.natAbs 0 + 64) x1 0 (fun y5 => bif (decide ((y5.length : Int) ≥ (1 : Int))) then (k0 (decide ((y5.length : Int) ≤ (16 : Int)))) else (k0 false)) (fun y6 y7 => k0 y7)
theorem ref07_Name_ok : Tied (R := R) tt [] (ref07_Name_T ref07_Name_2_0_L) false Tryd.f60 ref07_Name_p ref07_Name_q (ref07_Name_rr (ref07_Name_X ref07_Name_2_0_L)) := fun x y k => by kernel_rfl
end
noncomputable def ref07_Name_2_0_L : ref07_Name_2_0_ty R
  | 0, _, _, _, _ => none
  | n + 1, x0', x1', e0, e1 => ref07_Name_2_0_B (fun x0' x1' => ref07_Name_2_0_L n x0' x1' e0 e1) x0' x1' e0 e1
noncomputable def ref07_Name_2_0_A (K : Ex → St → Option R) (n : Nat) (d : ref07_Name_2_0_D) : Option R := ref07_Name_2_0_L n d.1 d.2 (ref07_Name_2_0_x0 K) (ref07_Name_2_0_x1 K)
theorem ref07_Name_2_0_ok (other : LSpec R) (ho : LsOk tt (envL []) (ref07_Name_T (R := R) ref07_Name_2_0_L) 0 ((loopsOf (codeOf Tryd.f60)).getD 0 .skip) ref07_Name_2_0_h other) : LsOk tt (envL []) (ref07_Name_T (R := R) ref07_Name_2_0_L) 0 ((loopsOf (codeOf Tryd.f60)).getD 0 .skip) ref07_Name_2_0_h (loopBy ref07_Name_2_0_p ref07_Name_2_0_q (ref07_Name_2_0_rr (ref07_Name_2_0_L)) other) :=
  loopBy_tie (A := ref07_Name_2_0_A) ho (loop_tie ref07_Name_2_0_enc (ref07_Name_2_0_s) (ref07_Name_2_0_A) (fun _ _ => by kernel_rfl) (ref07_Name_2_0_B_ok ref07_Name_2_0_L) (fun _ _ _ => by kernel_rfl)) ref07_Name_2_0_f ref07_Name_2_0_d (fun _ _ => by kernel_rfl) (fun _ _ _ => by kernel_rfl)
noncomputable def ref07_Name : ref07_Name_ty R := fun x1 k0 => ref07_Name_X ref07_Name_2_0_L x1 k0
theorem ref07_Name_loops (R : Type) : ∀ a ∈ loopsOf (codeOf Tryd.f60), LoopOk tt (envL []) (ref07_Name_T (R := R) ref07_Name_2_0_L) 0 a := by
  refine loops_ok 1 (by kernel_rfl) fun i hi => ?_
  match i, hi with
  | 0, _ => exact loopOk_some (by kernel_rfl) (ref07_Name_2_0_ok _ loopNo_ok)
  | n + 1, hi => omega
theorem ref07_Name_S_ok (R : Type) : OkS Tryd.prog 60 (ref07_Name_s (ref07_Name (R := R))) := tie_ok TT mixed .n rfl rfl rfl rfl (ref07_Name_loops R) (ref07_Name_ok ref07_Name_2_0_L)

/-! ### humpyard/humpyardref08.num -/
abbrev ref08_num_ty (R : Type) : Type := Int → (Bool → Option R) → Option R
abbrev ref08_num_p : List Pat := [.leaf (.int .i64)]
abbrev ref08_num_q : List HPat := []
noncomputable def ref08_num_rr (fn : ref08_num_ty R) : Run R ref08_num_p ref08_num_q := fun x y k => fn x.1 (fun q0 => k (.bool q0) [])
noncomputable def ref08_num_s (fn : ref08_num_ty R) := specBy ref08_num_p ref08_num_q (ref08_num_rr fn)
section
noncomputable def ref08_num_X (x1 : Int) (k0 : Bool → Option R) : Option R :=
  bif (decide (x1 ≥ (0 : Int))) then (k0 (decide (x1 ≤ (1000000000 : Int)))) else (k0 false)
theorem ref08_num_ok : Tied (R := R) tt [] noT false Tryd.f63 ref08_num_p ref08_num_q (ref08_num_rr ref08_num_X) := fun x y k => by kernel_rfl
end
noncomputable def ref08_num : ref08_num_ty R := fun x1 k0 => ref08_num_X x1 k0
theorem ref08_num_S_ok (R : Type) : OkS Tryd.prog 63 (ref08_num_s (ref08_num (R := R))) := tie_ok TT mixed .n rfl rfl rfl rfl noT_ok (ref08_num_ok)

end Go.Proofs.YtolnaonmpohciaaDoor

/-
  Functions of the program as pure Lean functions, and the ties; printed by wip/tools/emit.py.
-/
set_option maxRecDepth 100000
namespace Go.Proofs.YtolnaonmpohciaaDoor
open Go Go.Yard
variable {R : Type}

/-! ### humpyard/humpyardref08.Right -/
abbrev ref08_Right_ty (R : Type) : Type := Order → (Bool → Option R) → Option R
abbrev ref08_Right_p : List Pat := [.agg [.int .i64, .str, .int .i64, .int .i64, .sl .stop, .sl .way]]
abbrev ref08_Right_q : List HPat := []
noncomputable def ref08_Right_rr (fn : ref08_Right_ty R) : Run R ref08_Right_p ref08_Right_q := fun x y k => fn (⟨x.1.1, x.1.2.1, x.1.2.2.1, x.1.2.2.2.1, x.1.2.2.2.2.1, x.1.2.2.2.2.2.1⟩ : Order) (fun q0 => k (.bool q0) [])
noncomputable def ref08_Right_s (fn : ref08_Right_ty R) := specBy ref08_Right_p ref08_Right_q (ref08_Right_rr fn)
abbrev ref08_Right_6_0_ty (R : Type) : Type := Nat → Int → Int → Order → (Int → Order → Option R) → (Bool → Int → Order → Option R) → Option R
abbrev ref08_Right_12_0_ty (R : Type) : Type := Nat → Int → Int → Order → (Option R) → (Bool → Option R) → Option R
noncomputable def ref08_Right_6_0_h : Hint := { live := [1, 4, 5], own := [], rows := [], cells := [], drop := [], out := [1, 2, 4] }
abbrev ref08_Right_6_0_D : Type := Int × Int × Order
noncomputable def ref08_Right_6_0_enc : ref08_Right_6_0_D → St := fun d => ⟨.undef :: .ptr 0 0 :: U 2 (.int .i64 d.1 :: .int .i64 d.2.1 :: U 158 ([])), [.cells [.int .i64 d.2.2.header, .str d.2.2.vehicle, .int .i64 d.2.2.order, .int .i64 d.2.2.update, .sl .stop d.2.2.nodes .no, .sl .way d.2.2.edges .no]]⟩
noncomputable def ref08_Right_6_0_x0 (K : Ex → St → Option R) (q0 : Int) (q1 : Order) : Option R := K (.exit 0) ⟨.undef :: .ptr 0 0 :: U 2 (.int .i64 q0 :: U 159 ([])), [.cells [.int .i64 q1.header, .str q1.vehicle, .int .i64 q1.order, .int .i64 q1.update, .sl .stop q1.nodes .no, .sl .way q1.edges .no]]⟩
noncomputable def ref08_Right_6_0_x1 (K : Ex → St → Option R) (q0 : Bool) (q1 : Int) (q2 : Order) : Option R := K (.ret) ⟨.undef :: .ptr 0 0 :: .bool q0 :: .undef :: .int .i64 q1 :: U 159 ([]), [.cells [.int .i64 q2.header, .str q2.vehicle, .int .i64 q2.order, .int .i64 q2.update, .sl .stop q2.nodes .no, .sl .way q2.edges .no]]⟩
abbrev ref08_Right_6_0_p : List Pat := .leaf (.undef) :: .leaf (.ptr 0 0) :: PU 2 (.leaf (.int .i64) :: .leaf (.int .i64) :: PU 158 ([]))
abbrev ref08_Right_6_0_q : List HPat := [.cells [.int .i64, .str, .int .i64, .int .i64, .sl .stop, .sl .way]]
noncomputable def ref08_Right_6_0_f (x : Pat.dens ref08_Right_6_0_p) (y : HPat.dens ref08_Right_6_0_q) : Nat := (Int.natAbs x.2.2.2.2.1 + Int.natAbs x.2.2.2.2.2.1 + Order.fu (⟨y.1.1, y.1.2.1, y.1.2.2.1, y.1.2.2.2.1, y.1.2.2.2.2.1, y.1.2.2.2.2.2.1⟩ : Order) + 64)
noncomputable def ref08_Right_6_0_d (x : Pat.dens ref08_Right_6_0_p) (y : HPat.dens ref08_Right_6_0_q) : ref08_Right_6_0_D := (x.2.2.2.2.1, x.2.2.2.2.2.1, (⟨y.1.1, y.1.2.1, y.1.2.2.1, y.1.2.2.2.1, y.1.2.2.2.2.1, y.1.2.2.2.2.2.1⟩ : Order))
noncomputable def ref08_Right_6_0_rr (L : ref08_Right_6_0_ty R) : LRun R ref08_Right_6_0_p ref08_Right_6_0_q := fun x y K => L (ref08_Right_6_0_f x y) x.2.2.2.2.1 x.2.2.2.2.2.1 (⟨y.1.1, y.1.2.1, y.1.2.2.1, y.1.2.2.2.1, y.1.2.2.2.2.1, y.1.2.2.2.2.2.1⟩ : Order) (ref08_Right_6_0_x0 K) (ref08_Right_6_0_x1 K)
noncomputable def ref08_Right_12_0_h : Hint := { live := [1, 4, 7], own := [], rows := [], cells := [], drop := [], out := [2] }
abbrev ref08_Right_12_0_D : Type := Int × Int × Order
noncomputable def ref08_Right_12_0_enc : ref08_Right_12_0_D → St := fun d => ⟨.undef :: .ptr 0 0 :: U 2 (.int .i64 d.1 :: U 2 (.int .i64 d.2.1 :: U 156 ([]))), [.cells [.int .i64 d.2.2.header, .str d.2.2.vehicle, .int .i64 d.2.2.order, .int .i64 d.2.2.update, .sl .stop d.2.2.nodes .no, .sl .way d.2.2.edges .no]]⟩
noncomputable def ref08_Right_12_0_x0 (K : Ex → St → Option R) : Option R := K (.exit 2) ⟨U 164 ([]), []⟩
noncomputable def ref08_Right_12_0_x1 (K : Ex → St → Option R) (q0 : Bool) : Option R := K (.ret) ⟨U 2 (.bool q0 :: U 161 ([])), []⟩
abbrev ref08_Right_12_0_p : List Pat := .leaf (.undef) :: .leaf (.ptr 0 0) :: PU 2 (.leaf (.int .i64) :: PU 2 (.leaf (.int .i64) :: PU 156 ([])))
abbrev ref08_Right_12_0_q : List HPat := [.cells [.int .i64, .str, .int .i64, .int .i64, .sl .stop, .sl .way]]
noncomputable def ref08_Right_12_0_f (x : Pat.dens ref08_Right_12_0_p) (y : HPat.dens ref08_Right_12_0_q) : Nat := (Int.natAbs x.2.2.2.2.1 + Int.natAbs x.2.2.2.2.2.2.2.1 + Order.fu (⟨y.1.1, y.1.2.1, y.1.2.2.1, y.1.2.2.2.1, y.1.2.2.2.2.1, y.1.2.2.2.2.2.1⟩ : Order) + 64)
noncomputable def ref08_Right_12_0_d (x : Pat.dens ref08_Right_12_0_p) (y : HPat.dens ref08_Right_12_0_q) : ref08_Right_12_0_D := (x.2.2.2.2.1, x.2.2.2.2.2.2.2.1, (⟨y.1.1, y.1.2.1, y.1.2.2.1, y.1.2.2.2.1, y.1.2.2.2.2.1, y.1.2.2.2.2.2.1⟩ : Order))
noncomputable def ref08_Right_12_0_rr (L : ref08_Right_12_0_ty R) : LRun R ref08_Right_12_0_p ref08_Right_12_0_q := fun x y K => L (ref08_Right_12_0_f x y) x.2.2.2.2.1 x.2.2.2.2.2.2.2.1 (⟨y.1.1, y.1.2.1, y.1.2.2.1, y.1.2.2.2.1, y.1.2.2.2.2.1, y.1.2.2.2.2.2.1⟩ : Order) (ref08_Right_12_0_x0 K) (ref08_Right_12_0_x1 K)
section
variable (ref07_Name : ref07_Name_ty R) (ref08_num : ref08_num_ty R) (ref08_Right_6_0_L : ref08_Right_6_0_ty R) (ref08_Right_12_0_L : ref08_Right_12_0_ty R)
noncomputable def ref08_Right_E : List (Ent R) := [(60, true, (ref07_Name_s ref07_Name specNo)), (63, true, (ref08_num_s ref08_num specNo))]
noncomputable def ref08_Right_6_0_B (rec' : Int → Int → Order → Option R) (x7 : Int) (x8 : Int) (x9 : Order) (e0 : Int → Order → Option R) (e1 : Bool → Int → Order → Option R) : Option R :=
  bif (decide (x8 < x7)) then (chk (decide ((0 : Int) ≤ x8) && decide (x8 < x9.nodes.length)) (ref08_num ((x9.nodes.getD x8.toNat (Ty.dflt .stop)).node) (fun y10 => bif (!y10) then (e1 false x7 x9) else (ref08_num ((x9.nodes.getD x8.toNat (Ty.dflt .stop)).seq) (fun y11 => bif (!y11) then (e1 false x7 x9) else (chk (decide ((0 : Int) < x9.nodes.length)) (bif ((x9.nodes.getD x8.toNat (Ty.dflt .stop)).seq != (IntKind.i64.wrap ((x9.nodes.getD 0 (Ty.dflt .stop)).seq + (IntKind.i64.wrap (2 * x8))))) then (e1 false x7 x9) else (bif (decide (x8 > (0 : Int))) then (bif (x9.nodes.getD x8.toNat (Ty.dflt .stop)).released then (chk (decide ((0 : Int) ≤ (IntKind.i64.wrap (x8 - 1))) && decide ((IntKind.i64.wrap (x8 - 1)) < x9.nodes.length)) (bif (!(x9.nodes.getD (IntKind.i64.wrap (x8 - 1)).toNat (Ty.dflt .stop)).released) then (e1 false x7 x9) else (rec' x7 (IntKind.i64.wrap (x8 + 1)) x9))) else (rec' x7 (IntKind.i64.wrap (x8 + 1)) x9)) else (rec' x7 (IntKind.i64.wrap (x8 + 1)) x9))))))))) else (e0 x7 x9)
noncomputable def ref08_Right_6_0_s (K : Ex → St → Option R) (rc : ref08_Right_6_0_D → Option R) (d : ref08_Right_6_0_D) : Option R := ref08_Right_6_0_B ref08_num (fun z0 z1 z2 => rc (z0, z1, z2)) d.1 d.2.1 d.2.2 (ref08_Right_6_0_x0 K) (ref08_Right_6_0_x1 K)
noncomputable def ref08_Right_12_0_B (rec' : Int → Int → Order → Option R) (x18 : Int) (x19 : Int) (x20 : Order) (e0 : Option R) (e1 : Bool → Option R) : Option R :=
  bif (decide (x19 < (IntKind.i64.wrap (x18 - 1)))) then (chk (decide ((0 : Int) ≤ x19) && decide (x19 < x20.edges.length)) (ref08_num ((x20.edges.getD x19.toNat (Ty.dflt .way)).edge) (fun y21 => bif (!y21) then (e1 false) else (ref08_num ((x20.edges.getD x19.toNat (Ty.dflt .way)).seq) (fun y22 => bif (!y22) then (e1 false) else (chk (decide ((0 : Int) ≤ x19) && decide (x19 < x20.nodes.length)) (bif ((x20.edges.getD x19.toNat (Ty.dflt .way)).seq != (IntKind.i64.wrap ((x20.nodes.getD x19.toNat (Ty.dflt .stop)).seq + 1))) then (e1 false) else (chk (decide ((0 : Int) ≤ (IntKind.i64.wrap (x19 + 1))) && decide ((IntKind.i64.wrap (x19 + 1)) < x20.nodes.length)) (bif (!((x20.edges.getD x19.toNat (Ty.dflt .way)).released == (x20.nodes.getD (IntKind.i64.wrap (x19 + 1)).toNat (Ty.dflt .stop)).released)) then (e1 false) else (rec' x18 (IntKind.i64.wrap (x19 + 1)) x20)))))))))) else (e0)
noncomputable def ref08_Right_12_0_s (K : Ex → St → Option R) (rc : ref08_Right_12_0_D → Option R) (d : ref08_Right_12_0_D) : Option R := ref08_Right_12_0_B ref08_num (fun z0 z1 z2 => rc (z0, z1, z2)) d.1 d.2.1 d.2.2 (ref08_Right_12_0_x0 K) (ref08_Right_12_0_x1 K)
noncomputable def ref08_Right_T : Nat → Option (Hint × LSpec R) := fun i => match i with
  | 6 => some (ref08_Right_6_0_h, (loopBy ref08_Right_6_0_p ref08_Right_6_0_q (ref08_Right_6_0_rr ref08_Right_6_0_L) loopNo))
  | 12 => some (ref08_Right_12_0_h, (loopBy ref08_Right_12_0_p ref08_Right_12_0_q (ref08_Right_12_0_rr ref08_Right_12_0_L) loopNo))
  | _ => none
theorem ref08_Right_6_0_B_ok (K : Ex → St → Option R) (rc : St → Option R) (d : ref08_Right_6_0_D) : roundOf tt (envL (ref08_Right_E ref07_Name ref08_num)) (ref08_Right_T ref08_Right_6_0_L ref08_Right_12_0_L) 0 ((loopsOf (codeOf Tryd.f53)).getD 0 .skip) ref08_Right_6_0_h (ref08_Right_6_0_enc d) rc K = ref08_Right_6_0_s ref08_num K (fun d => rc (ref08_Right_6_0_enc d)) d := by kernel_rfl
theorem ref08_Right_12_0_B_ok (K : Ex → St → Option R) (rc : St → Option R) (d : ref08_Right_12_0_D) : roundOf tt (envL (ref08_Right_E ref07_Name ref08_num)) (ref08_Right_T ref08_Right_6_0_L ref08_Right_12_0_L) 0 ((loopsOf (codeOf Tryd.f53)).getD 1 .skip) ref08_Right_12_0_h (ref08_Right_12_0_enc d) rc K = ref08_Right_12_0_s ref08_num K (fun d => rc (ref08_Right_12_0_enc d)) d := by kernel_rfl
noncomputable def ref08_Right_X (x1 : Order) (k0 : Bool → Option R) : Option R :=
  ref07_Name x1.vehicle (fun y2 => bif (!y2) then (k0 false) else (ref08_num x1.header (fun y3 => bif (!y3) then (k0 false) else (ref08_num x1.order (fun y4 => bif (!y4) then (k0 false) else (ref08_num x1.update (fun y5 => bif (!y5) then (k0 false) else (bif (decide ((x1.nodes.length : Int) < (1 : Int))) then (k0 false) else (bif (decide ((x1.nodes.length : Int) > (64 : Int))) then (k0 false) else (bif ((x1.edges.length : Int) != (IntKind.i64.wrap ((x1.nodes.length : Int) - 1))) then (k0 false) else (chk (decide ((0 : Int) < x1.nodes.length)) (bif ((Int.tmod (x1.nodes.getD 0 (Ty.dflt .stop)).seq 2) != 0) then (k0 false) else (chk (decide ((0 : Int) < x1.nodes.length)) (bif (!(x1.nodes.getD 0 (Ty.dflt .stop)).released) then (k0 false) else (ref08_Right_6_0_L (Int.natAbs (x1.nodes.length : Int) + Int.natAbs 0 + Order.fu x1 + 64) (x1.nodes.length : Int) 0 x1 (fun y13 y14 => ref08_Right_12_0_L (Int.natAbs y13 + Int.natAbs 0 + Order.fu y14 + 64) y13 0 y14 (k0 true) (fun y24 => k0 y24)) (fun y15 y16 y17 => k0 y15))))))))))))))))
theorem ref08_Right_ok : Tied (R := R) tt (ref08_Right_E ref07_Name ref08_num) (ref08_Right_T ref08_Right_6_0_L ref08_Right_12_0_L) false Tryd.f53 ref08_Right_p ref08_Right_q (ref08_Right_rr (ref08_Right_X ref07_Name ref08_num ref08_Right_6_0_L ref08_Right_12_0_L)) := fun x y k => by kernel_rfl
end
theorem ref08_Right_EOk : EntOk (R := R) Tryd.prog (ref08_Right_E (R := R) ref07_Name ref08_num) := .c (ref07_Name_S_ok R) <| .c (ref08_num_S_ok R) <| .n
noncomputable def ref08_Right_6_0_L : ref08_Right_6_0_ty R
  | 0, _, _, _, _, _ => none
  | n + 1, x0', x1', x2', e0, e1 => ref08_Right_6_0_B ref08_num (fun x0' x1' x2' => ref08_Right_6_0_L n x0' x1' x2' e0 e1) x0' x1' x2' e0 e1
noncomputable def ref08_Right_6_0_A (K : Ex → St → Option R) (n : Nat) (d : ref08_Right_6_0_D) : Option R := ref08_Right_6_0_L n d.1 d.2.1 d.2.2 (ref08_Right_6_0_x0 K) (ref08_Right_6_0_x1 K)
noncomputable def ref08_Right_12_0_L : ref08_Right_12_0_ty R
  | 0, _, _, _, _, _ => none
  | n + 1, x0', x1', x2', e0, e1 => ref08_Right_12_0_B ref08_num (fun x0' x1' x2' => ref08_Right_12_0_L n x0' x1' x2' e0 e1) x0' x1' x2' e0 e1
noncomputable def ref08_Right_12_0_A (K : Ex → St → Option R) (n : Nat) (d : ref08_Right_12_0_D) : Option R := ref08_Right_12_0_L n d.1 d.2.1 d.2.2 (ref08_Right_12_0_x0 K) (ref08_Right_12_0_x1 K)
theorem ref08_Right_6_0_ok (other : LSpec R) (ho : LsOk tt (envL (ref08_Right_E (R := R) ref07_Name ref08_num)) (ref08_Right_T (R := R) ref08_Right_6_0_L ref08_Right_12_0_L) 0 ((loopsOf (codeOf Tryd.f53)).getD 0 .skip) ref08_Right_6_0_h other) : LsOk tt (envL (ref08_Right_E (R := R) ref07_Name ref08_num)) (ref08_Right_T (R := R) ref08_Right_6_0_L ref08_Right_12_0_L) 0 ((loopsOf (codeOf Tryd.f53)).getD 0 .skip) ref08_Right_6_0_h (loopBy ref08_Right_6_0_p ref08_Right_6_0_q (ref08_Right_6_0_rr (ref08_Right_6_0_L)) other) :=
  loopBy_tie (A := ref08_Right_6_0_A) ho (loop_tie ref08_Right_6_0_enc (ref08_Right_6_0_s ref08_num) (ref08_Right_6_0_A) (fun _ _ => by kernel_rfl) (ref08_Right_6_0_B_ok ref07_Name ref08_num ref08_Right_6_0_L ref08_Right_12_0_L) (fun _ _ _ => by kernel_rfl)) ref08_Right_6_0_f ref08_Right_6_0_d (fun _ _ => by kernel_rfl) (fun _ _ _ => by kernel_rfl)
theorem ref08_Right_12_0_ok (other : LSpec R) (ho : LsOk tt (envL (ref08_Right_E (R := R) ref07_Name ref08_num)) (ref08_Right_T (R := R) ref08_Right_6_0_L ref08_Right_12_0_L) 0 ((loopsOf (codeOf Tryd.f53)).getD 1 .skip) ref08_Right_12_0_h other) : LsOk tt (envL (ref08_Right_E (R := R) ref07_Name ref08_num)) (ref08_Right_T (R := R) ref08_Right_6_0_L ref08_Right_12_0_L) 0 ((loopsOf (codeOf Tryd.f53)).getD 1 .skip) ref08_Right_12_0_h (loopBy ref08_Right_12_0_p ref08_Right_12_0_q (ref08_Right_12_0_rr (ref08_Right_12_0_L)) other) :=
  loopBy_tie (A := ref08_Right_12_0_A) ho (loop_tie ref08_Right_12_0_enc (ref08_Right_12_0_s ref08_num) (ref08_Right_12_0_A) (fun _ _ => by kernel_rfl) (ref08_Right_12_0_B_ok ref07_Name ref08_num ref08_Right_6_0_L ref08_Right_12_0_L) (fun _ _ _ => by kernel_rfl)) ref08_Right_12_0_f ref08_Right_12_0_d (fun _ _ => by kernel_rfl) (fun _ _ _ => by kernel_rfl)
noncomputable def ref08_Right : ref08_Right_ty R := fun x1 k0 => ref08_Right_X ref07_Name ref08_num ref08_Right_6_0_L ref08_Right_12_0_L x1 k0
theorem ref08_Right_loops (R : Type) : ∀ a ∈ loopsOf (codeOf Tryd.f53), LoopOk tt (envL (ref08_Right_E (R := R) ref07_Name ref08_num)) (ref08_Right_T (R := R) ref08_Right_6_0_L ref08_Right_12_0_L) 0 a := by
  refine loops_ok 2 (by kernel_rfl) fun i hi => ?_
  match i, hi with
  | 0, _ => exact loopOk_some (by kernel_rfl) (ref08_Right_6_0_ok _ loopNo_ok)
  | 1, _ => exact loopOk_some (by kernel_rfl) (ref08_Right_12_0_ok _ loopNo_ok)
  | n + 2, hi => omega
theorem ref08_Right_S_ok (R : Type) : OkS Tryd.prog 53 (ref08_Right_s (ref08_Right (R := R))) := tie_ok TT mixed (ref08_Right_EOk (R := R)) rfl rfl rfl rfl (ref08_Right_loops R) (ref08_Right_ok ref07_Name ref08_num ref08_Right_6_0_L ref08_Right_12_0_L)

/-! ### humpyard/humpyardref13.Order -/
abbrev ref13_Order_ty (R : Type) : Type := Order → (List Int) → Int → Int → (Order → Bool → Option R) → Option R
abbrev ref13_Order_p : List Pat := [.agg [.int .i64, .str, .int .i64, .int .i64, .sl .stop, .sl .way], .leaf (.sl (.int .i64)), .leaf (.int .i64), .leaf (.int .i64)]
abbrev ref13_Order_q : List HPat := []
noncomputable def ref13_Order_rr (fn : ref13_Order_ty R) : Run R ref13_Order_p ref13_Order_q := fun x y k => fn (⟨x.1.1, x.1.2.1, x.1.2.2.1, x.1.2.2.2.1, x.1.2.2.2.2.1, x.1.2.2.2.2.2.1⟩ : Order) x.2.1 x.2.2.1 x.2.2.2.1 (fun q0 q1 => k (.tuple [.agg [.int .i64 q0.header, .str q0.vehicle, .int .i64 q0.order, .int .i64 q0.update, .sl .stop q0.nodes .no, .sl .way q0.edges .no], .bool q1]) [])
noncomputable def ref13_Order_s (fn : ref13_Order_ty R) := specBy ref13_Order_p ref13_Order_q (ref13_Order_rr fn)
abbrev ref13_Order_4_0_ty (R : Type) : Type := Nat → (List Int) → Int → Int → Int → Order → Int → Str → Int → Int → ((List Int) → Int → Int → Order → Int → Str → Int → Int → Option R) → ((List Int) → Int → Int → Bool → Order → Int → Str → Int → Int → Option R) → Option R
abbrev ref13_Order_10_0_ty (R : Type) : Type := Nat → (List Int) → Int → Int → Int → Int → Str → Int → Int → Int → Str → Int → Int → (List Stop) → (List Yard.Way) → (Int → Str → Int → Int → Int → Str → Int → Int → (List Stop) → (List Yard.Way) → Option R) → Option R
noncomputable def ref13_Order_4_0_h : Hint := { live := [1, 2, 3, 4, 8, 10], own := [], rows := [], cells := [], drop := [], out := [1, 2, 3, 4, 8, 9] }
abbrev ref13_Order_4_0_D : Type := (List Int) × Int × Int × Int × Order × Int × Str × Int × Int
noncomputable def ref13_Order_4_0_enc : ref13_Order_4_0_D → St := fun d => ⟨.undef :: .sl (.int .i64) d.1 .no :: .int .i64 d.2.1 :: .int .i64 d.2.2.1 :: .ptr 0 0 :: U 3 (.ptr 1 0 :: .undef :: .int .i64 d.2.2.2.1 :: U 108 ([])), [.cells [.int .i64 d.2.2.2.2.1.header, .str d.2.2.2.2.1.vehicle, .int .i64 d.2.2.2.2.1.order, .int .i64 d.2.2.2.2.1.update, .sl .stop d.2.2.2.2.1.nodes .no, .sl .way d.2.2.2.2.1.edges .no], .cells [.int .i64 d.2.2.2.2.2.1, .str d.2.2.2.2.2.2.1, .int .i64 d.2.2.2.2.2.2.2.1, .int .i64 d.2.2.2.2.2.2.2.2, .nilsl, .nilsl]]⟩
noncomputable def ref13_Order_4_0_x0 (K : Ex → St → Option R) (q0 : List Int) (q1 : Int) (q2 : Int) (q3 : Order) (q4 : Int) (q5 : Str) (q6 : Int) (q7 : Int) : Option R := K (.exit 0) ⟨.undef :: .sl (.int .i64) q0 .no :: .int .i64 q1 :: .int .i64 q2 :: .ptr 0 0 :: U 3 (.ptr 1 0 :: U 110 ([])), [.cells [.int .i64 q3.header, .str q3.vehicle, .int .i64 q3.order, .int .i64 q3.update, .sl .stop q3.nodes .no, .sl .way q3.edges .no], .cells [.int .i64 q4, .str q5, .int .i64 q6, .int .i64 q7, .nilsl, .nilsl]]⟩
noncomputable def ref13_Order_4_0_x1 (K : Ex → St → Option R) (q0 : List Int) (q1 : Int) (q2 : Int) (q3 : Bool) (q4 : Order) (q5 : Int) (q6 : Str) (q7 : Int) (q8 : Int) : Option R := K (.ret) ⟨.undef :: .sl (.int .i64) q0 .no :: .int .i64 q1 :: .int .i64 q2 :: .ptr 0 0 :: U 3 (.ptr 1 0 :: .bool q3 :: U 109 ([])), [.cells [.int .i64 q4.header, .str q4.vehicle, .int .i64 q4.order, .int .i64 q4.update, .sl .stop q4.nodes .no, .sl .way q4.edges .no], .cells [.int .i64 q5, .str q6, .int .i64 q7, .int .i64 q8, .nilsl, .nilsl]]⟩
abbrev ref13_Order_4_0_p : List Pat := .leaf (.undef) :: .leaf (.sl (.int .i64)) :: .leaf (.int .i64) :: .leaf (.int .i64) :: .leaf (.ptr 0 0) :: PU 3 (.leaf (.ptr 1 0) :: .leaf (.undef) :: .leaf (.int .i64) :: PU 108 ([]))
abbrev ref13_Order_4_0_q : List HPat := [.cells [.int .i64, .str, .int .i64, .int .i64, .sl .stop, .sl .way], .cells [.int .i64, .str, .int .i64, .int .i64, .nilsl, .nilsl]]
noncomputable def ref13_Order_4_0_f (x : Pat.dens ref13_Order_4_0_p) (y : HPat.dens ref13_Order_4_0_q) : Nat := (List.length x.2.1 + Int.natAbs x.2.2.1 + Int.natAbs x.2.2.2.1 + Int.natAbs ((t8 x).2.2.1) + Order.fu (⟨y.1.1, y.1.2.1, y.1.2.2.1, y.1.2.2.2.1, y.1.2.2.2.2.1, y.1.2.2.2.2.2.1⟩ : Order) + Int.natAbs y.2.1.1 + List.length y.2.1.2.1 + Int.natAbs y.2.1.2.2.1 + Int.natAbs y.2.1.2.2.2.1 + 64)
noncomputable def ref13_Order_4_0_d (x : Pat.dens ref13_Order_4_0_p) (y : HPat.dens ref13_Order_4_0_q) : ref13_Order_4_0_D := (x.2.1, x.2.2.1, x.2.2.2.1, (t8 x).2.2.1, (⟨y.1.1, y.1.2.1, y.1.2.2.1, y.1.2.2.2.1, y.1.2.2.2.2.1, y.1.2.2.2.2.2.1⟩ : Order), y.2.1.1, y.2.1.2.1, y.2.1.2.2.1, y.2.1.2.2.2.1)
noncomputable def ref13_Order_4_0_rr (L : ref13_Order_4_0_ty R) : LRun R ref13_Order_4_0_p ref13_Order_4_0_q := fun x y K => L (ref13_Order_4_0_f x y) x.2.1 x.2.2.1 x.2.2.2.1 ((t8 x).2.2.1) (⟨y.1.1, y.1.2.1, y.1.2.2.1, y.1.2.2.2.1, y.1.2.2.2.2.1, y.1.2.2.2.2.2.1⟩ : Order) y.2.1.1 y.2.1.2.1 y.2.1.2.2.1 y.2.1.2.2.2.1 (ref13_Order_4_0_x0 K) (ref13_Order_4_0_x1 K)
noncomputable def ref13_Order_10_0_h : Hint := { live := [1, 2, 3, 8, 11, 12], own := [], rows := [], cells := [(1, 4, .stop, false), (1, 5, .way, false)], drop := [], out := [8, 9, 11] }
abbrev ref13_Order_10_0_D : Type := (List Int) × Int × Int × Int × Int × Str × Int × Int × Int × Str × Int × Int × (List Stop) × (List Yard.Way)
noncomputable def ref13_Order_10_0_enc : ref13_Order_10_0_D → St := fun d => ⟨.undef :: .sl (.int .i64) d.1 .no :: .int .i64 d.2.1 :: .int .i64 d.2.2.1 :: U 4 (.ptr 0 0 :: U 2 (.ptr 1 0 :: .int .i64 d.2.2.2.1 :: U 106 ([]))), [.cells [.int .i64 d.2.2.2.2.1, .str d.2.2.2.2.2.1, .int .i64 d.2.2.2.2.2.2.1, .int .i64 d.2.2.2.2.2.2.2.1, .nilsl, .nilsl], .cells [.int .i64 d.2.2.2.2.2.2.2.2.1, .str d.2.2.2.2.2.2.2.2.2.1, .int .i64 d.2.2.2.2.2.2.2.2.2.2.1, .int .i64 d.2.2.2.2.2.2.2.2.2.2.2.1, .sl .stop d.2.2.2.2.2.2.2.2.2.2.2.2.1 (.own 2), .sl .way d.2.2.2.2.2.2.2.2.2.2.2.2.2 (.own 3)], .tok, .tok]⟩
noncomputable def ref13_Order_10_0_x0 (K : Ex → St → Option R) (q0 : Int) (q1 : Str) (q2 : Int) (q3 : Int) (q4 : Int) (q5 : Str) (q6 : Int) (q7 : Int) (q8 : List Stop) (q9 : List Yard.Way) : Option R := K (.exit 2) ⟨U 8 (.ptr 0 0 :: U 2 (.ptr 1 0 :: U 107 ([]))), [.cells [.int .i64 q0, .str q1, .int .i64 q2, .int .i64 q3, .nilsl, .nilsl], .cells [.int .i64 q4, .str q5, .int .i64 q6, .int .i64 q7, .sl .stop q8 (.own 2), .sl .way q9 (.own 3)], .tok, .tok]⟩
abbrev ref13_Order_10_0_p : List Pat := .leaf (.undef) :: .leaf (.sl (.int .i64)) :: .leaf (.int .i64) :: .leaf (.int .i64) :: PU 4 (.leaf (.ptr 0 0) :: PU 2 (.leaf (.ptr 1 0) :: .leaf (.int .i64) :: PU 106 ([])))
abbrev ref13_Order_10_0_q : List HPat := [.cells [.int .i64, .str, .int .i64, .int .i64, .nilsl, .nilsl], .cells [.int .i64, .str, .int .i64, .int .i64, .slo .stop 2, .slo .way 3], .tok, .tok]
noncomputable def ref13_Order_10_0_f (x : Pat.dens ref13_Order_10_0_p) (y : HPat.dens ref13_Order_10_0_q) : Nat := (List.length x.2.1 + Int.natAbs x.2.2.1 + Int.natAbs x.2.2.2.1 + Int.natAbs ((t8 x).2.2.2.2.1) + Int.natAbs y.1.1 + List.length y.1.2.1 + Int.natAbs y.1.2.2.1 + Int.natAbs y.1.2.2.2.1 + Int.natAbs y.2.1.1 + List.length y.2.1.2.1 + Int.natAbs y.2.1.2.2.1 + Int.natAbs y.2.1.2.2.2.1 + List.length y.2.1.2.2.2.2.1 + List.length y.2.1.2.2.2.2.2.1 + 64)
noncomputable def ref13_Order_10_0_d (x : Pat.dens ref13_Order_10_0_p) (y : HPat.dens ref13_Order_10_0_q) : ref13_Order_10_0_D := (x.2.1, x.2.2.1, x.2.2.2.1, (t8 x).2.2.2.2.1, y.1.1, y.1.2.1, y.1.2.2.1, y.1.2.2.2.1, y.2.1.1, y.2.1.2.1, y.2.1.2.2.1, y.2.1.2.2.2.1, y.2.1.2.2.2.2.1, y.2.1.2.2.2.2.2.1)
noncomputable def ref13_Order_10_0_rr (L : ref13_Order_10_0_ty R) : LRun R ref13_Order_10_0_p ref13_Order_10_0_q := fun x y K => L (ref13_Order_10_0_f x y) x.2.1 x.2.2.1 x.2.2.2.1 ((t8 x).2.2.2.2.1) y.1.1 y.1.2.1 y.1.2.2.1 y.1.2.2.2.1 y.2.1.1 y.2.1.2.1 y.2.1.2.2.1 y.2.1.2.2.2.1 y.2.1.2.2.2.2.1 y.2.1.2.2.2.2.2.1 (ref13_Order_10_0_x0 K)
section
variable (ref08_Right : ref08_Right_ty R) (ref13_Order_4_0_L : ref13_Order_4_0_ty R) (ref13_Order_10_0_L : ref13_Order_10_0_ty R)
noncomputable def ref13_Order_E : List (Ent R) := [(53, true, (ref08_Right_s ref08_Right specNo))]
noncomputable def ref13_Order_4_0_B (rec' : (List Int) → Int → Int → Int → Order → Int → Str → Int → Int → Option R) (x5 : List Int) (x6 : Int) (x7 : Int) (x8 : Int) (x9 : Order) (x10 : Int) (x11 : Str) (x12 : Int) (x13 : Int) (e0 : (List Int) → Int → Int → Order → Int → Str → Int → Int → Option R) (e1 : (List Int) → Int → Int → Bool → Order → Int → Str → Int → Int → Option R) : Option R :=
  bif (decide (x8 < (x5.length : Int))) then (bif ((Int.tmod x8 2) == 0) then (chk (decide ((0 : Int) ≤ x8) && decide (x8 < x5.length)) (bif (decide ((x5.getD x8.toNat (Ty.dflt (.int .i64))) < (0 : Int))) then (e1 x5 x6 x7 false x9 0 ([] : Str) 0 0) else (chk (decide ((0 : Int) ≤ x8) && decide (x8 < x5.length)) (bif (decide ((x5.getD x8.toNat (Ty.dflt (.int .i64))) ≥ (1000 : Int))) then (e1 x5 x6 x7 false x9 0 ([] : Str) 0 0) else (bif ((Int.tmod x8 2) == 1) then (chk (decide ((0 : Int) ≤ x8) && decide (x8 < x5.length)) (bif (decide ((x5.getD x8.toNat (Ty.dflt (.int .i64))) < (1000 : Int))) then (e1 x5 x6 x7 false x9 0 ([] : Str) 0 0) else (rec' x5 x6 x7 (IntKind.i64.wrap (x8 + 1)) x9 x10 x11 x12 x13))) else (rec' x5 x6 x7 (IntKind.i64.wrap (x8 + 1)) x9 x10 x11 x12 x13)))))) else (bif ((Int.tmod x8 2) == 1) then (chk (decide ((0 : Int) ≤ x8) && decide (x8 < x5.length)) (bif (decide ((x5.getD x8.toNat (Ty.dflt (.int .i64))) < (1000 : Int))) then (e1 x5 x6 x7 false x9 0 ([] : Str) 0 0) else (rec' x5 x6 x7 (IntKind.i64.wrap (x8 + 1)) x9 x10 x11 x12 x13))) else (rec' x5 x6 x7 (IntKind.i64.wrap (x8 + 1)) x9 x10 x11 x12 x13))) else (e0 x5 x6 x7 x9 x10 x11 x12 x13)
noncomputable def ref13_Order_4_0_s (K : Ex → St → Option R) (rc : ref13_Order_4_0_D → Option R) (d : ref13_Order_4_0_D) : Option R := ref13_Order_4_0_B (fun z0 z1 z2 z3 z4 z5 z6 z7 z8 => rc (z0, z1, z2, z3, z4, z5, z6, z7, z8)) d.1 d.2.1 d.2.2.1 d.2.2.2.1 d.2.2.2.2.1 d.2.2.2.2.2.1 d.2.2.2.2.2.2.1 d.2.2.2.2.2.2.2.1 d.2.2.2.2.2.2.2.2 (ref13_Order_4_0_x0 K) (ref13_Order_4_0_x1 K)
noncomputable def ref13_Order_10_0_B (rec' : (List Int) → Int → Int → Int → Int → Str → Int → Int → Int → Str → Int → Int → (List Stop) → (List Yard.Way) → Option R) (x32 : List Int) (x33 : Int) (x34 : Int) (x35 : Int) (x36 : Int) (x37 : Str) (x38 : Int) (x39 : Int) (x40 : Int) (x41 : Str) (x42 : Int) (x43 : Int) (x44 : List Stop) (x45 : List Yard.Way) (e0 : Int → Str → Int → Int → Int → Str → Int → Int → (List Stop) → (List Yard.Way) → Option R) : Option R :=
  bif (decide (x35 < (x32.length : Int))) then (bif (decide (x35 < (127 : Int))) then (bif ((Int.tmod x35 2) == 0) then (chk (decide ((0 : Int) ≤ x35) && decide (x35 < x32.length)) (chk (decide ((x44.length + 1) * 24 ≤ 140737488355328)) (rec' x32 x33 x34 (IntKind.i64.wrap (x35 + 1)) x36 x37 x38 x39 x40 x41 x42 x43 (x44 ++ ([(⟨(x32.getD x35.toNat (Ty.dflt (.int .i64))), (IntKind.i64.wrap (x33 + x35)), (decide ((IntKind.i64.wrap (Int.tdiv x35 2)) < x34))⟩ : Stop)] : List Stop)) x45))) else (chk (decide ((0 : Int) ≤ x35) && decide (x35 < x32.length)) (chk (decide ((x45.length + 1) * 24 ≤ 140737488355328)) (rec' x32 x33 x34 (IntKind.i64.wrap (x35 + 1)) x36 x37 x38 x39 x40 x41 x42 x43 x44 (x45 ++ ([(⟨(IntKind.i64.wrap ((x32.getD x35.toNat (Ty.dflt (.int .i64))) - 1000)), (IntKind.i64.wrap (x33 + x35)), (decide ((IntKind.i64.wrap (Int.tdiv (IntKind.i64.wrap (x35 + 1)) 2)) < x34))⟩ : Yard.Way)] : List Yard.Way)))))) else (e0 x36 x37 x38 x39 x40 x41 x42 x43 x44 x45)) else (e0 x36 x37 x38 x39 x40 x41 x42 x43 x44 x45)
noncomputable def ref13_Order_10_0_s (K : Ex → St → Option R) (rc : ref13_Order_10_0_D → Option R) (d : ref13_Order_10_0_D) : Option R := ref13_Order_10_0_B (fun z0 z1 z2 z3 z4 z5 z6 z7 z8 z9 z10 z11 z12 z13 => rc (z0, z1, z2, z3, z4, z5, z6, z7, z8, z9, z10, z11, z12, z13)) d.1 d.2.1 d.2.2.1 d.2.2.2.1 d.2.2.2.2.1 d.2.2.2.2.2.1 d.2.2.2.2.2.2.1 d.2.2.2.2.2.2.2.1 d.2.2.2.2.2.2.2.2.1 d.2.2.2.2.2.2.2.2.2.1 d.2.2.2.2.2.2.2.2.2.2.1 d.2.2.2.2.2.2.2.2.2.2.2.1 d.2.2.2.2.2.2.2.2.2.2.2.2.1 d.2.2.2.2.2.2.2.2.2.2.2.2.2 (ref13_Order_10_0_x0 K)
noncomputable def ref13_Order_T : Nat → Option (Hint × LSpec R) := fun i => match i with
  | 4 => some (ref13_Order_4_0_h, (loopBy ref13_Order_4_0_p ref13_Order_4_0_q (ref13_Order_4_0_rr ref13_Order_4_0_L) loopNo))
  | 10 => some (ref13_Order_10_0_h, (loopBy ref13_Order_10_0_p ref13_Order_10_0_q (ref13_Order_10_0_rr ref13_Order_10_0_L) loopNo))
  | _ => none
theorem ref13_Order_4_0_B_ok (K : Ex → St → Option R) (rc : St → Option R) (d : ref13_Order_4_0_D) : roundOf tt (envL (ref13_Order_E ref08_Right)) (ref13_Order_T ref13_Order_4_0_L ref13_Order_10_0_L) 0 ((loopsOf (codeOf Tryd.f38)).getD 0 .skip) ref13_Order_4_0_h (ref13_Order_4_0_enc d) rc K = ref13_Order_4_0_s K (fun d => rc (ref13_Order_4_0_enc d)) d := by kernel_rfl
theorem ref13_Order_10_0_B_ok (K : Ex → St → Option R) (rc : St → Option R) (d : ref13_Order_10_0_D) : roundOf tt (envL (ref13_Order_E ref08_Right)) (ref13_Order_T ref13_Order_4_0_L ref13_Order_10_0_L) 0 ((loopsOf (codeOf Tryd.f38)).getD 1 .skip) ref13_Order_10_0_h (ref13_Order_10_0_enc d) rc K = ref13_Order_10_0_s K (fun d => rc (ref13_Order_10_0_enc d)) d := by kernel_rfl
noncomputable def ref13_Order_X (x1 : Order) (x2 : List Int) (x3 : Int) (x4 : Int) (k0 : Order → Bool → Option R) : Option R :=
  bif ((Int.tmod (x2.length : Int) 2) == 0) then (k0 (⟨0, ([] : Str), 0, 0, ([] : List Stop), ([] : List Yard.Way)⟩ : Order) false) else (ref13_Order_4_0_L (List.length x2 + Int.natAbs x3 + Int.natAbs x4 + Int.natAbs 0 + Order.fu x1 + Int.natAbs 0 + List.length ([] : Str) + Int.natAbs 0 + Int.natAbs 0 + 64) x2 x3 x4 0 x1 0 ([] : Str) 0 0 (fun y15 y16 y17 y18 y19 y20 y21 y22 => ref13_Order_10_0_L (List.length y15 + Int.natAbs y16 + Int.natAbs y17 + Int.natAbs 0 + Int.natAbs y19 + List.length y20 + Int.natAbs y21 + Int.natAbs y22 + Int.natAbs y18.header + List.length y18.vehicle + Int.natAbs y18.order + Int.natAbs y18.update + List.length ([] : List Stop) + List.length ([] : List Yard.Way) + 64) y15 y16 y17 0 y19 y20 y21 y22 y18.header y18.vehicle y18.order y18.update ([] : List Stop) ([] : List Yard.Way) (fun y47 y48 y49 y50 y51 y52 y53 y54 y55 y56 => ref08_Right (⟨y51, y52, y53, y54, y55, y56⟩ : Order) (fun y57 => bif (!y57) then (k0 (⟨0, ([] : Str), 0, 0, ([] : List Stop), ([] : List Yard.Way)⟩ : Order) false) else (k0 (⟨y51, y52, y53, y54, y55, y56⟩ : Order) true)))) (fun y23 y24 y25 y26 y27 y28 y29 y30 y31 => k0 (⟨y28, y29, y30, y31, ([] : List Stop), ([] : List Yard.Way)⟩ : Order) y26))
theorem ref13_Order_ok : Tied (R := R) tt (ref13_Order_E ref08_Right) (ref13_Order_T ref13_Order_4_0_L ref13_Order_10_0_L) false Tryd.f38 ref13_Order_p ref13_Order_q (ref13_Order_rr (ref13_Order_X ref08_Right ref13_Order_4_0_L ref13_Order_10_0_L)) := fun x y k => by kernel_rfl
end
theorem ref13_Order_EOk : EntOk (R := R) Tryd.prog (ref13_Order_E (R := R) ref08_Right) := .c (ref08_Right_S_ok R) <| .n
noncomputable def ref13_Order_4_0_L : ref13_Order_4_0_ty R
  | 0, _, _, _, _, _, _, _, _, _, _, _ => none
  | n + 1, x0', x1', x2', x3', x4', x5', x6', x7', x8', e0, e1 => ref13_Order_4_0_B (fun x0' x1' x2' x3' x4' x5' x6' x7' x8' => ref13_Order_4_0_L n x0' x1' x2' x3' x4' x5' x6' x7' x8' e0 e1) x0' x1' x2' x3' x4' x5' x6' x7' x8' e0 e1
noncomputable def ref13_Order_4_0_A (K : Ex → St → Option R) (n : Nat) (d : ref13_Order_4_0_D) : Option R := ref13_Order_4_0_L n d.1 d.2.1 d.2.2.1 d.2.2.2.1 d.2.2.2.2.1 d.2.2.2.2.2.1 d.2.2.2.2.2.2.1 d.2.2.2.2.2.2.2.1 d.2.2.2.2.2.2.2.2 (ref13_Order_4_0_x0 K) (ref13_Order_4_0_x1 K)
noncomputable def ref13_Order_10_0_L : ref13_Order_10_0_ty R
  | 0, _, _, _, _, _, _, _, _, _, _, _, _, _, _, _ => none
  | n + 1, x0', x1', x2', x3', x4', x5', x6', x7', x8', x9', x10', x11', x12', x13', e0 => ref13_Order_10_0_B (fun x0' x1' x2' x3' x4' x5' x6' x7' x8' x9' x10' x11' x12' x13' => ref13_Order_10_0_L n x0' x1' x2' x3' x4' x5' x6' x7' x8' x9' x10' x11' x12' x13' e0) x0' x1' x2' x3' x4' x5' x6' x7' x8' x9' x10' x11' x12' x13' e0
noncomputable def ref13_Order_10_0_A (K : Ex → St → Option R) (n : Nat) (d : ref13_Order_10_0_D) : Option R := ref13_Order_10_0_L n d.1 d.2.1 d.2.2.1 d.2.2.2.1 d.2.2.2.2.1 d.2.2.2.2.2.1 d.2.2.2.2.2.2.1 d.2.2.2.2.2.2.2.1 d.2.2.2.2.2.2.2.2.1 d.2.2.2.2.2.2.2.2.2.1 d.2.2.2.2.2.2.2.2.2.2.1 d.2.2.2.2.2.2.2.2.2.2.2.1 d.2.2.2.2.2.2.2.2.2.2.2.2.1 d.2.2.2.2.2.2.2.2.2.2.2.2.2 (ref13_Order_10_0_x0 K)
theorem ref13_Order_4_0_ok (other : LSpec R) (ho : LsOk tt (envL (ref13_Order_E (R := R) ref08_Right)) (ref13_Order_T (R := R) ref13_Order_4_0_L ref13_Order_10_0_L) 0 ((loopsOf (codeOf Tryd.f38)).getD 0 .skip) ref13_Order_4_0_h other) : LsOk tt (envL (ref13_Order_E (R := R) ref08_Right)) (ref13_Order_T (R := R) ref13_Order_4_0_L ref13_Order_10_0_L) 0 ((loopsOf (codeOf Tryd.f38)).getD 0 .skip) ref13_Order_4_0_h (loopBy ref13_Order_4_0_p ref13_Order_4_0_q (ref13_Order_4_0_rr (ref13_Order_4_0_L)) other) :=
  loopBy_tie (A := ref13_Order_4_0_A) ho (loop_tie ref13_Order_4_0_enc (ref13_Order_4_0_s) (ref13_Order_4_0_A) (fun _ _ => by kernel_rfl) (ref13_Order_4_0_B_ok ref08_Right ref13_Order_4_0_L ref13_Order_10_0_L) (fun _ _ _ => by kernel_rfl)) ref13_Order_4_0_f ref13_Order_4_0_d (fun _ _ => by kernel_rfl) (fun _ _ _ => by kernel_rfl)
theorem ref13_Order_10_0_ok (other : LSpec R) (ho : LsOk tt (envL (ref13_Order_E (R := R) ref08_Right)) (ref13_Order_T (R := R) ref13_Order_4_0_L ref13_Order_10_0_L) 0 ((loopsOf (codeOf Tryd.f38)).getD 1 .skip) ref13_Order_10_0_h other) : LsOk tt (envL (ref13_Order_E (R := R) ref08_Right)) (ref13_Order_T (R := R) ref13_Order_4_0_L ref13_Order_10_0_L) 0 ((loopsOf (codeOf Tryd.f38)).getD 1 .skip) ref13_Order_10_0_h (loopBy ref13_Order_10_0_p ref13_Order_10_0_q (ref13_Order_10_0_rr (ref13_Order_10_0_L)) other) :=
  loopBy_tie (A := ref13_Order_10_0_A) ho (loop_tie ref13_Order_10_0_enc (ref13_Order_10_0_s) (ref13_Order_10_0_A) (fun _ _ => by kernel_rfl) (ref13_Order_10_0_B_ok ref08_Right ref13_Order_4_0_L ref13_Order_10_0_L) (fun _ _ _ => by kernel_rfl)) ref13_Order_10_0_f ref13_Order_10_0_d (fun _ _ => by kernel_rfl) (fun _ _ _ => by kernel_rfl)
noncomputable def ref13_Order : ref13_Order_ty R := fun x1 x2 x3 x4 k0 => ref13_Order_X ref08_Right ref13_Order_4_0_L ref13_Order_10_0_L x1 x2 x3 x4 k0
theorem ref13_Order_loops (R : Type) : ∀ a ∈ loopsOf (codeOf Tryd.f38), LoopOk tt (envL (ref13_Order_E (R := R) ref08_Right)) (ref13_Order_T (R := R) ref13_Order_4_0_L ref13_Order_10_0_L) 0 a := by
  refine loops_ok 2 (by kernel_rfl) fun i hi => ?_
  match i, hi with
  | 0, _ => exact loopOk_some (by kernel_rfl) (ref13_Order_4_0_ok _ loopNo_ok)
  | 1, _ => exact loopOk_some (by kernel_rfl) (ref13_Order_10_0_ok _ loopNo_ok)
  | n + 2, hi => omega
theorem ref13_Order_S_ok (R : Type) : OkS Tryd.prog 38 (ref13_Order_s (ref13_Order (R := R))) := tie_ok TT mixed (ref13_Order_EOk (R := R)) rfl rfl rfl rfl (ref13_Order_loops R) (ref13_Order_ok ref08_Right ref13_Order_4_0_L ref13_Order_10_0_L)

/-! ### humpyard/humpyardlaw13.Make -/
abbrev law13_Make_ty (R : Type) : Type := Yard.Layout → Raw13 → (Order → (List Int) → Option R) → Option R
abbrev law13_Make_p : List Pat := [.agg [.int .i64, .sl .edge], .agg [.int .i64, .int .i64, .int .i64, .int .i64, .int .i64, .int .i64, .sl (.int .i64)]]
abbrev law13_Make_q : List HPat := []
noncomputable def law13_Make_rr (fn : law13_Make_ty R) : Run R law13_Make_p law13_Make_q := fun x y k => fn (⟨x.1.1, x.1.2.1⟩ : Yard.Layout) (⟨x.2.1.1, x.2.1.2.1, x.2.1.2.2.1, x.2.1.2.2.2.1, x.2.1.2.2.2.2.1, x.2.1.2.2.2.2.2.1, x.2.1.2.2.2.2.2.2.1⟩ : Raw13) (fun q0 q1 => k (.tuple [.agg [.int .i64 q0.header, .str q0.vehicle, .int .i64 q0.order, .int .i64 q0.update, .sl .stop q0.nodes .no, .sl .way q0.edges .no], .sl (.int .i64) q1 .no]) [])
noncomputable def law13_Make_s (fn : law13_Make_ty R) := specBy law13_Make_p law13_Make_q (law13_Make_rr fn)
section
variable (law13_Path : law13_Path_ty R) (law13_pick : law13_pick_ty R) (ref13_Order : ref13_Order_ty R)
noncomputable def law13_Make_E : List (Ent R) := [(46, true, (law13_Path_s law13_Path specNo)), (47, true, (law13_pick_s law13_pick specNo)), (38, true, (ref13_Order_s ref13_Order specNo))]
noncomputable def law13_Make_X (x1 : Yard.Layout) (x2 : Raw13) (k0 : Order → (List Int) → Option R) : Option R :=
  law13_Path x1 x2.from_ x2.turns 20 (fun y3 => law13_pick x2.header 50 (fun y4 => law13_pick x2.order 3 (fun y5 => law13_pick x2.update 4 (fun y6 => law13_pick x2.seq 20 (fun y7 => law13_pick x2.released (IntKind.i64.wrap (Int.tdiv (IntKind.i64.wrap ((y3.length : Int) + 1)) 2)) (fun y8 => ref13_Order (⟨y4, ([118] : Str), y5, y6, ([] : List Stop), ([] : List Yard.Way)⟩ : Order) y3 (IntKind.i64.wrap (2 * y7)) (IntKind.i64.wrap (1 + y8)) (fun y9 y10 => k0 y9 y3)))))))
theorem law13_Make_ok : Tied (R := R) tt (law13_Make_E law13_Path law13_pick ref13_Order) noT false Tryd.f24 law13_Make_p law13_Make_q (law13_Make_rr (law13_Make_X law13_Path law13_pick ref13_Order)) := fun x y k => by kernel_rfl
end
theorem law13_Make_EOk : EntOk (R := R) Tryd.prog (law13_Make_E (R := R) law13_Path law13_pick ref13_Order) := .c (law13_Path_S_ok R) <| .c (law13_pick_S_ok R) <| .c (ref13_Order_S_ok R) <| .n
noncomputable def law13_Make : law13_Make_ty R := fun x1 x2 k0 => law13_Make_X law13_Path law13_pick ref13_Order x1 x2 k0
theorem law13_Make_S_ok (R : Type) : OkS Tryd.prog 24 (law13_Make_s (law13_Make (R := R))) := tie_ok TT mixed (law13_Make_EOk (R := R)) rfl rfl rfl rfl noT_ok (law13_Make_ok law13_Path law13_pick ref13_Order)

/-! ### humpyard/humpyardlaw18.pick -/
abbrev law18_pick_ty (R : Type) : Type := Int → Int → (Int → Option R) → Option R
abbrev law18_pick_p : List Pat := [.leaf (.int .i64), .leaf (.int .i64)]
abbrev law18_pick_q : List HPat := []
noncomputable def law18_pick_rr (fn : law18_pick_ty R) : Run R law18_pick_p law18_pick_q := fun x y k => fn x.1 x.2.1 (fun q0 => k (.int .i64 q0) [])
noncomputable def law18_pick_s (fn : law18_pick_ty R) := specBy law18_pick_p law18_pick_q (law18_pick_rr fn)
section
noncomputable def law18_pick_X (x1 : Int) (x2 : Int) (k0 : Int → Option R) : Option R :=
  bif (decide (x1 < (0 : Int))) then (chk (!decide (x2 = 0)) (k0 (Int.tmod (IntKind.i64.wrap (0 - (IntKind.i64.wrap (x1 + 1)))) x2))) else (chk (!decide (x2 = 0)) (k0 (Int.tmod x1 x2)))
theorem law18_pick_ok : Tied (R := R) tt [] noT false Tryd.f8 law18_pick_p law18_pick_q (law18_pick_rr law18_pick_X) := fun x y k => by kernel_rfl
end
noncomputable def law18_pick : law18_pick_ty R := fun x1 x2 k0 => law18_pick_X x1 x2 k0
theorem law18_pick_S_ok (R : Type) : OkS Tryd.prog 8 (law18_pick_s (law18_pick (R := R))) := tie_ok TT mixed .n rfl rfl rfl rfl noT_ok (law18_pick_ok)

/-! ### humpyard/humpyardlaw18.Fit -/
abbrev law18_Fit_ty (R : Type) : Type := Yard.Layout → Yard.Ctl → Raw13 → (Yard.Ctl → Option R) → Option R
abbrev law18_Fit_p : List Pat := [.agg [.int .i64, .sl .edge], .agg [.str, .int .i64, .int .i64, .int .i64, .int .i64, .int .i64, .sl (.int .i64), .int .i64, .bool, .int .i64, .bool, .int .i64, .str, .int .i64, .int .i64, .sl .stop, .sl .way], .agg [.int .i64, .int .i64, .int .i64, .int .i64, .int .i64, .int .i64, .sl (.int .i64)]]
abbrev law18_Fit_q : List HPat := []
noncomputable def law18_Fit_rr (fn : law18_Fit_ty R) : Run R law18_Fit_p law18_Fit_q := fun x y k => fn (⟨x.1.1, x.1.2.1⟩ : Yard.Layout) (⟨x.2.1.1, x.2.1.2.1, x.2.1.2.2.1, x.2.1.2.2.2.1, x.2.1.2.2.2.2.1, x.2.1.2.2.2.2.2.1, x.2.1.2.2.2.2.2.2.1, x.2.1.2.2.2.2.2.2.2.1, (t8 x.2.1).1, (t8 x.2.1).2.1, (t8 x.2.1).2.2.1, ⟨(t8 x.2.1).2.2.2.1, (t8 x.2.1).2.2.2.2.1, (t8 x.2.1).2.2.2.2.2.1, (t8 x.2.1).2.2.2.2.2.2.1, (t8 x.2.1).2.2.2.2.2.2.2.1, (t8 (t8 x.2.1)).1⟩⟩ : Yard.Ctl) (⟨x.2.2.1.1, x.2.2.1.2.1, x.2.2.1.2.2.1, x.2.2.1.2.2.2.1, x.2.2.1.2.2.2.2.1, x.2.2.1.2.2.2.2.2.1, x.2.2.1.2.2.2.2.2.2.1⟩ : Raw13) (fun q0 => k (.agg [.str q0.vehicle, .int .i64 q0.header, .int .i64 q0.order, .int .i64 q0.update, .int .i64 q0.boot, .int .i64 q0.seen, .sl (.int .i64) q0.path .no, .int .i64 q0.seq, .bool q0.open_, .int .i64 q0.rel, .bool q0.wait, .int .i64 q0.pending.header, .str q0.pending.vehicle, .int .i64 q0.pending.order, .int .i64 q0.pending.update, .sl .stop q0.pending.nodes .no, .sl .way q0.pending.edges .no]) [])
noncomputable def law18_Fit_s (fn : law18_Fit_ty R) := specBy law18_Fit_p law18_Fit_q (law18_Fit_rr fn)
section
variable (law13_Make : law13_Make_ty R) (law18_pick : law18_pick_ty R)
noncomputable def law18_Fit_E : List (Ent R) := [(24, true, (law13_Make_s law13_Make specNo)), (8, true, (law18_pick_s law18_pick specNo))]
noncomputable def law18_Fit_X (x1 : Yard.Layout) (x2 : Yard.Ctl) (x3 : Raw13) (k0 : Yard.Ctl → Option R) : Option R :=
  law13_Make x1 x3 (fun y4 y5 => law18_pick x2.header 1000000001 (fun y6 => law18_pick x2.order 9 (fun y7 => law18_pick x2.update 9 (fun y8 => law18_pick x2.boot 4 (fun y9 => law18_pick x2.seen 9 (fun y10 => law18_pick x2.seq 9 (fun y11 => law18_pick x2.rel (IntKind.i64.wrap ((IntKind.i64.wrap (Int.tdiv (y5.length : Int) 2)) + 1)) (fun y12 => bif x2.wait then (k0 (⟨([118] : Str), y6, y7, y8, y9, y10, y5, (IntKind.i64.wrap (2 * y11)), x2.open_, y12, x2.wait, ⟨y4.header, y4.vehicle, y4.order, y4.update, y4.nodes, y4.edges⟩⟩ : Yard.Ctl)) else (k0 (⟨([118] : Str), y6, y7, y8, y9, y10, y5, (IntKind.i64.wrap (2 * y11)), x2.open_, y12, x2.wait, ⟨0, ([] : Str), 0, 0, ([] : List Stop), ([] : List Yard.Way)⟩⟩ : Yard.Ctl))))))))))
theorem law18_Fit_ok : Tied (R := R) tt (law18_Fit_E law13_Make law18_pick) noT false Tryd.f7 law18_Fit_p law18_Fit_q (law18_Fit_rr (law18_Fit_X law13_Make law18_pick)) := fun x y k => by kernel_rfl
end
theorem law18_Fit_EOk : EntOk (R := R) Tryd.prog (law18_Fit_E (R := R) law13_Make law18_pick) := .c (law13_Make_S_ok R) <| .c (law18_pick_S_ok R) <| .n
noncomputable def law18_Fit : law18_Fit_ty R := fun x1 x2 x3 k0 => law18_Fit_X law13_Make law18_pick x1 x2 x3 k0
theorem law18_Fit_S_ok (R : Type) : OkS Tryd.prog 7 (law18_Fit_s (law18_Fit (R := R))) := tie_ok TT mixed (law18_Fit_EOk (R := R)) rfl rfl rfl rfl noT_ok (law18_Fit_ok law13_Make law18_pick)

end Go.Proofs.YtolnaonmpohciaaDoor

/-
  Functions of the program as pure Lean functions, and the ties; printed by wip/tools/emit.py.
-/
set_option maxRecDepth 100000
namespace Go.Proofs.YtolnaonmpohciaaDoor
open Go Go.Yard
variable {R : Type}

/-! ### slices.Equal[[]humpyard/api.Way,humpyard/api.Way] -/
abbrev slices_Equal_WayWay_ty (R : Type) : Type := (List Yard.Way) → (List Yard.Way) → (Bool → Option R) → Option R
abbrev slices_Equal_WayWay_p : List Pat := [.leaf (.sl .way), .leaf (.sl .way)]
abbrev slices_Equal_WayWay_q : List HPat := []
noncomputable def slices_Equal_WayWay_rr (fn : slices_Equal_WayWay_ty R) : Run R slices_Equal_WayWay_p slices_Equal_WayWay_q := fun x y k => fn x.1 x.2.1 (fun q0 => k (.bool q0) [])
noncomputable def slices_Equal_WayWay_s (fn : slices_Equal_WayWay_ty R) := specBy slices_Equal_WayWay_p slices_Equal_WayWay_q (slices_Equal_WayWay_rr fn)
abbrev slices_Equal_WayWay_4_0_ty (R : Type) : Type := Nat → (List Yard.Way) → (List Yard.Way) → Int → Int → (Option R) → (Bool → Option R) → Option R
noncomputable def slices_Equal_WayWay_4_0_h : Hint := { live := [0, 1, 12, 13], own := [], rows := [], cells := [], drop := [], out := [4] }
abbrev slices_Equal_WayWay_4_0_D : Type := (List Yard.Way) × (List Yard.Way) × Int × Int
noncomputable def slices_Equal_WayWay_4_0_enc : slices_Equal_WayWay_4_0_D → St := fun d => ⟨.sl .way d.1 .no :: .sl .way d.2.1 .no :: U 10 (.int .i64 d.2.2.1 :: .int .i64 d.2.2.2 :: U 12 ([])), []⟩
noncomputable def slices_Equal_WayWay_4_0_x0 (K : Ex → St → Option R) : Option R := K (.exit 0) ⟨U 26 ([]), []⟩
noncomputable def slices_Equal_WayWay_4_0_x1 (K : Ex → St → Option R) (q0 : Bool) : Option R := K (.ret) ⟨U 4 (.bool q0 :: U 21 ([])), []⟩
abbrev slices_Equal_WayWay_4_0_p : List Pat := .leaf (.sl .way) :: .leaf (.sl .way) :: PU 10 (.leaf (.int .i64) :: .leaf (.int .i64) :: PU 12 ([]))
abbrev slices_Equal_WayWay_4_0_q : List HPat := []
noncomputable def slices_Equal_WayWay_4_0_f (x : Pat.dens slices_Equal_WayWay_4_0_p) (y : HPat.dens slices_Equal_WayWay_4_0_q) : Nat := (List.length x.1 + List.length x.2.1 + Int.natAbs ((t8 x).2.2.2.2.1) + Int.natAbs ((t8 x).2.2.2.2.2.1) + 64)
noncomputable def slices_Equal_WayWay_4_0_d (x : Pat.dens slices_Equal_WayWay_4_0_p) (y : HPat.dens slices_Equal_WayWay_4_0_q) : slices_Equal_WayWay_4_0_D := (x.1, x.2.1, (t8 x).2.2.2.2.1, (t8 x).2.2.2.2.2.1)
noncomputable def slices_Equal_WayWay_4_0_rr (L : slices_Equal_WayWay_4_0_ty R) : LRun R slices_Equal_WayWay_4_0_p slices_Equal_WayWay_4_0_q := fun x y K => L (slices_Equal_WayWay_4_0_f x y) x.1 x.2.1 ((t8 x).2.2.2.2.1) ((t8 x).2.2.2.2.2.1) (slices_Equal_WayWay_4_0_x0 K) (slices_Equal_WayWay_4_0_x1 K)
section
variable (slices_Equal_WayWay_4_0_L : slices_Equal_WayWay_4_0_ty R)
noncomputable def slices_Equal_WayWay_4_0_B (rec' : (List Yard.Way) → (List Yard.Way) → Int → Int → Option R) (x3 : List Yard.Way) (x4 : List Yard.Way) (x5 : Int) (x6 : Int) (e0 : Option R) (e1 : Bool → Option R) : Option R :=
  bif (decide (x6 < x5)) then (chk (decide ((0 : Int) ≤ x6) && decide (x6 < x3.length)) (chk (decide ((0 : Int) ≤ x6) && decide (x6 < x4.length)) (bif (!((x3.getD x6.toNat (Ty.dflt .way)).edge == (x4.getD x6.toNat (Ty.dflt .way)).edge && ((x3.getD x6.toNat (Ty.dflt .way)).seq == (x4.getD x6.toNat (Ty.dflt .way)).seq && ((x3.getD x6.toNat (Ty.dflt .way)).released == (x4.getD x6.toNat (Ty.dflt .way)).released && true)))) then (e1 false) else (rec' x3 x4 x5 (IntKind.i64.wrap (x6 + 1)))))) else (e0)
noncomputable def slices_Equal_WayWay_4_0_s (K : Ex → St → Option R) (rc : slices_Equal_WayWay_4_0_D → Option R) (d : slices_Equal_WayWay_4_0_D) : Option R := slices_Equal_WayWay_4_0_B (fun z0 z1 z2 z3 => rc (z0, z1, z2, z3)) d.1 d.2.1 d.2.2.1 d.2.2.2 (slices_Equal_WayWay_4_0_x0 K) (slices_Equal_WayWay_4_0_x1 K)
noncomputable def slices_Equal_WayWay_T : Nat → Option (Hint × LSpec R) := fun i => match i with
  | 4 => some (slices_Equal_WayWay_4_0_h, (loopBy slices_Equal_WayWay_4_0_p slices_Equal_WayWay_4_0_q (slices_Equal_WayWay_4_0_rr slices_Equal_WayWay_4_0_L) loopNo))
  | _ => none
theorem slices_Equal_WayWay_4_0_B_ok (K : Ex → St → Option R) (rc : St → Option R) (d : slices_Equal_WayWay_4_0_D) : roundOf tt (envL []) (slices_Equal_WayWay_T slices_Equal_WayWay_4_0_L) 0 ((loopsOf (codeOf Tryd.f49)).getD 0 .skip) slices_Equal_WayWay_4_0_h (slices_Equal_WayWay_4_0_enc d) rc K = slices_Equal_WayWay_4_0_s K (fun d => rc (slices_Equal_WayWay_4_0_enc d)) d := by kernel_rfl
noncomputable def slices_Equal_WayWay_X (x1 : List Yard.Way) (x2 : List Yard.Way) (k0 : Bool → Option R) : Option R :=
  bif ((x1.length : Int) != (x2.length : Int)) then (k0 false) else (slices_Equal_WayWay_4_0_L (List.length x1 + List.length x2 + Int.natAbs (x1.length : Int) + Int.natAbs 0 + 64) x1 x2 (x1.length : Int) 0 (k0 true) (fun y7 => k0 y7))
theorem slices_Equal_WayWay_ok : Tied (R := R) tt [] (slices_Equal_WayWay_T slices_Equal_WayWay_4_0_L) false Tryd.f49 slices_Equal_WayWay_p slices_Equal_WayWay_q (slices_Equal_WayWay_rr (slices_Equal_WayWay_X slices_Equal_WayWay_4_0_L)) := fun x y k => by kernel_rfl
end
noncomputable def slices_Equal_WayWay_4_0_L : slices_Equal_WayWay_4_0_ty R
  | 0, _, _, _, _, _, _ => none
  | n + 1, x0', x1', x2', x3', e0, e1 => slices_Equal_WayWay_4_0_B (fun x0' x1' x2' x3' => slices_Equal_WayWay_4_0_L n x0' x1' x2' x3' e0 e1) x0' x1' x2' x3' e0 e1
noncomputable def slices_Equal_WayWay_4_0_A (K : Ex → St → Option R) (n : Nat) (d : slices_Equal_WayWay_4_0_D) : Option R := slices_Equal_WayWay_4_0_L n d.1 d.2.1 d.2.2.1 d.2.2.2 (slices_Equal_WayWay_4_0_x0 K) (slices_Equal_WayWay_4_0_x1 K)
theorem slices_Equal_WayWay_4_0_ok (other : LSpec R) (ho : LsOk tt (envL []) (slices_Equal_WayWay_T (R := R) slices_Equal_WayWay_4_0_L) 0 ((loopsOf (codeOf Tryd.f49)).getD 0 .skip) slices_Equal_WayWay_4_0_h other) : LsOk tt (envL []) (slices_Equal_WayWay_T (R := R) slices_Equal_WayWay_4_0_L) 0 ((loopsOf (codeOf Tryd.f49)).getD 0 .skip) slices_Equal_WayWay_4_0_h (loopBy slices_Equal_WayWay_4_0_p slices_Equal_WayWay_4_0_q (slices_Equal_WayWay_4_0_rr (slices_Equal_WayWay_4_0_L)) other) :=
  loopBy_tie (A := slices_Equal_WayWay_4_0_A) ho (loop_tie slices_Equal_WayWay_4_0_enc (slices_Equal_WayWay_4_0_s) (slices_Equal_WayWay_4_0_A) (fun _ _ => by kernel_rfl) (slices_Equal_WayWay_4_0_B_ok slices_Equal_WayWay_4_0_L) (fun _ _ _ => by kernel_rfl)) slices_Equal_WayWay_4_0_f slices_Equal_WayWay_4_0_d (fun _ _ => by kernel_rfl) (fun _ _ _ => by kernel_rfl)
noncomputable def slices_Equal_WayWay : slices_Equal_WayWay_ty R := fun x1 x2 k0 => slices_Equal_WayWay_X slices_Equal_WayWay_4_0_L x1 x2 k0
theorem slices_Equal_WayWay_loops (R : Type) : ∀ a ∈ loopsOf (codeOf Tryd.f49), LoopOk tt (envL []) (slices_Equal_WayWay_T (R := R) slices_Equal_WayWay_4_0_L) 0 a := by
  refine loops_ok 1 (by kernel_rfl) fun i hi => ?_
  match i, hi with
  | 0, _ => exact loopOk_some (by kernel_rfl) (slices_Equal_WayWay_4_0_ok _ loopNo_ok)
  | n + 1, hi => omega
theorem slices_Equal_WayWay_S_ok (R : Type) : OkS Tryd.prog 49 (slices_Equal_WayWay_s (slices_Equal_WayWay (R := R))) := tie_ok TT mixed .n rfl rfl rfl rfl (slices_Equal_WayWay_loops R) (slices_Equal_WayWay_ok slices_Equal_WayWay_4_0_L)

/-! ### humpyard/order.Same -/
abbrev order_Same_ty (R : Type) : Type := Order → Order → (Bool → Option R) → Option R
abbrev order_Same_p : List Pat := [.agg [.int .i64, .str, .int .i64, .int .i64, .sl .stop, .sl .way], .agg [.int .i64, .str, .int .i64, .int .i64, .sl .stop, .sl .way]]
abbrev order_Same_q : List HPat := []
noncomputable def order_Same_rr (fn : order_Same_ty R) : Run R order_Same_p order_Same_q := fun x y k => fn (⟨x.1.1, x.1.2.1, x.1.2.2.1, x.1.2.2.2.1, x.1.2.2.2.2.1, x.1.2.2.2.2.2.1⟩ : Order) (⟨x.2.1.1, x.2.1.2.1, x.2.1.2.2.1, x.2.1.2.2.2.1, x.2.1.2.2.2.2.1, x.2.1.2.2.2.2.2.1⟩ : Order) (fun q0 => k (.bool q0) [])
noncomputable def order_Same_s (fn : order_Same_ty R) := specBy order_Same_p order_Same_q (order_Same_rr fn)
section
variable (slices_Equal_StopStop : slices_Equal_StopStop_ty R) (slices_Equal_WayWay : slices_Equal_WayWay_ty R)
noncomputable def order_Same_E : List (Ent R) := [(48, true, (slices_Equal_StopStop_s slices_Equal_StopStop specNo)), (49, true, (slices_Equal_WayWay_s slices_Equal_WayWay specNo))]
noncomputable def order_Same_X (x1 : Order) (x2 : Order) (k0 : Bool → Option R) : Option R :=
  bif (x1.header == x2.header) then (bif (x1.vehicle == x2.vehicle) then (bif (x1.order == x2.order) then (bif (x1.update == x2.update) then (slices_Equal_StopStop x1.nodes x2.nodes (fun y3 => bif y3 then (slices_Equal_WayWay x1.edges x2.edges (fun y4 => k0 y4)) else (k0 false))) else (k0 false)) else (k0 false)) else (k0 false)) else (k0 false)
theorem order_Same_ok : Tied (R := R) tt (order_Same_E slices_Equal_StopStop slices_Equal_WayWay) noT false Tryd.f32 order_Same_p order_Same_q (order_Same_rr (order_Same_X slices_Equal_StopStop slices_Equal_WayWay)) := fun x y k => by kernel_rfl
end
theorem order_Same_EOk : EntOk (R := R) Tryd.prog (order_Same_E (R := R) slices_Equal_StopStop slices_Equal_WayWay) := .c (slices_Equal_StopStop_S_ok R) <| .c (slices_Equal_WayWay_S_ok R) <| .n
noncomputable def order_Same : order_Same_ty R := fun x1 x2 k0 => order_Same_X slices_Equal_StopStop slices_Equal_WayWay x1 x2 k0
theorem order_Same_S_ok (R : Type) : OkS Tryd.prog 32 (order_Same_s (order_Same (R := R))) := tie_ok TT mixed (order_Same_EOk (R := R)) rfl rfl rfl rfl noT_ok (order_Same_ok slices_Equal_StopStop slices_Equal_WayWay)

/-! ### humpyard/fleet.Same$1 -/
abbrev fleet_Same_1_ty (R : Type) : Type := Yard.Ctl → (Int → Int → Int → Int → Int → Int → Int → Option R) → Option R
abbrev fleet_Same_1_p : List Pat := [.agg [.str, .int .i64, .int .i64, .int .i64, .int .i64, .int .i64, .sl (.int .i64), .int .i64, .bool, .int .i64, .bool, .int .i64, .str, .int .i64, .int .i64, .sl .stop, .sl .way]]
abbrev fleet_Same_1_q : List HPat := []
noncomputable def fleet_Same_1_rr (fn : fleet_Same_1_ty R) : Run R fleet_Same_1_p fleet_Same_1_q := fun x y k => fn (⟨x.1.1, x.1.2.1, x.1.2.2.1, x.1.2.2.2.1, x.1.2.2.2.2.1, x.1.2.2.2.2.2.1, x.1.2.2.2.2.2.2.1, x.1.2.2.2.2.2.2.2.1, (t8 x.1).1, (t8 x.1).2.1, (t8 x.1).2.2.1, ⟨(t8 x.1).2.2.2.1, (t8 x.1).2.2.2.2.1, (t8 x.1).2.2.2.2.2.1, (t8 x.1).2.2.2.2.2.2.1, (t8 x.1).2.2.2.2.2.2.2.1, (t8 (t8 x.1)).1⟩⟩ : Yard.Ctl) (fun q0 q1 q2 q3 q4 q5 q6 => k (.agg [.int .i64 q0, .int .i64 q1, .int .i64 q2, .int .i64 q3, .int .i64 q4, .int .i64 q5, .int .i64 q6]) [])
noncomputable def fleet_Same_1_s (fn : fleet_Same_1_ty R) := specBy fleet_Same_1_p fleet_Same_1_q (fleet_Same_1_rr fn)
section
noncomputable def fleet_Same_1_X (x1 : Yard.Ctl) (k0 : Int → Int → Int → Int → Int → Int → Int → Option R) : Option R :=
  k0 x1.header x1.order x1.update x1.boot x1.seen x1.seq x1.rel
theorem fleet_Same_1_ok : Tied (R := R) tt [] noT false Tryd.f33 fleet_Same_1_p fleet_Same_1_q (fleet_Same_1_rr fleet_Same_1_X) := fun x y k => by kernel_rfl
end
noncomputable def fleet_Same_1 : fleet_Same_1_ty R := fun x1 k0 => fleet_Same_1_X x1 k0
theorem fleet_Same_1_S_ok (R : Type) : OkS Tryd.prog 33 (fleet_Same_1_s (fleet_Same_1 (R := R))) := tie_ok TT mixed .n rfl rfl rfl rfl noT_ok (fleet_Same_1_ok)

/-! ### humpyard/fleet.Same -/
abbrev fleet_Same_ty (R : Type) : Type := Yard.Ctl → Yard.Ctl → (Bool → Option R) → Option R
abbrev fleet_Same_p : List Pat := [.agg [.str, .int .i64, .int .i64, .int .i64, .int .i64, .int .i64, .sl (.int .i64), .int .i64, .bool, .int .i64, .bool, .int .i64, .str, .int .i64, .int .i64, .sl .stop, .sl .way], .agg [.str, .int .i64, .int .i64, .int .i64, .int .i64, .int .i64, .sl (.int .i64), .int .i64, .bool, .int .i64, .bool, .int .i64, .str, .int .i64, .int .i64, .sl .stop, .sl .way]]
abbrev fleet_Same_q : List HPat := []
noncomputable def fleet_Same_rr (fn : fleet_Same_ty R) : Run R fleet_Same_p fleet_Same_q := fun x y k => fn (⟨x.1.1, x.1.2.1, x.1.2.2.1, x.1.2.2.2.1, x.1.2.2.2.2.1, x.1.2.2.2.2.2.1, x.1.2.2.2.2.2.2.1, x.1.2.2.2.2.2.2.2.1, (t8 x.1).1, (t8 x.1).2.1, (t8 x.1).2.2.1, ⟨(t8 x.1).2.2.2.1, (t8 x.1).2.2.2.2.1, (t8 x.1).2.2.2.2.2.1, (t8 x.1).2.2.2.2.2.2.1, (t8 x.1).2.2.2.2.2.2.2.1, (t8 (t8 x.1)).1⟩⟩ : Yard.Ctl) (⟨x.2.1.1, x.2.1.2.1, x.2.1.2.2.1, x.2.1.2.2.2.1, x.2.1.2.2.2.2.1, x.2.1.2.2.2.2.2.1, x.2.1.2.2.2.2.2.2.1, x.2.1.2.2.2.2.2.2.2.1, (t8 x.2.1).1, (t8 x.2.1).2.1, (t8 x.2.1).2.2.1, ⟨(t8 x.2.1).2.2.2.1, (t8 x.2.1).2.2.2.2.1, (t8 x.2.1).2.2.2.2.2.1, (t8 x.2.1).2.2.2.2.2.2.1, (t8 x.2.1).2.2.2.2.2.2.2.1, (t8 (t8 x.2.1)).1⟩⟩ : Yard.Ctl) (fun q0 => k (.bool q0) [])
noncomputable def fleet_Same_s (fn : fleet_Same_ty R) := specBy fleet_Same_p fleet_Same_q (fleet_Same_rr fn)
section
variable (fleet_Same_1 : fleet_Same_1_ty R) (order_Same : order_Same_ty R) (slices_Equal_intint : slices_Equal_intint_ty R)
noncomputable def fleet_Same_E : List (Ent R) := [(33, true, (fleet_Same_1_s fleet_Same_1 specNo)), (32, true, (order_Same_s order_Same specNo)), (31, true, (slices_Equal_intint_s slices_Equal_intint specNo))]
noncomputable def fleet_Same_X (x1 : Yard.Ctl) (x2 : Yard.Ctl) (k0 : Bool → Option R) : Option R :=
  slices_Equal_intint x1.path x2.path (fun y3 => bif (!y3) then (k0 false) else (order_Same x1.pending x2.pending (fun y4 => bif (!y4) then (k0 false) else (bif (x1.vehicle == x2.vehicle) then (fleet_Same_1 x1 (fun y6 y7 y8 y9 y10 y11 y12 => fleet_Same_1 x2 (fun y13 y14 y15 y16 y17 y18 y19 => bif (y6 == y13 && (y7 == y14 && (y8 == y15 && (y9 == y16 && (y10 == y17 && (y11 == y18 && (y12 == y19 && true))))))) then (bif (x1.open_ == x2.open_) then (k0 (x1.wait == x2.wait)) else (k0 false)) else (k0 false)))) else (k0 false)))))
theorem fleet_Same_ok : Tied (R := R) tt (fleet_Same_E fleet_Same_1 order_Same slices_Equal_intint) noT false Tryd.f14 fleet_Same_p fleet_Same_q (fleet_Same_rr (fleet_Same_X fleet_Same_1 order_Same slices_Equal_intint)) := fun x y k => by kernel_rfl
end
theorem fleet_Same_EOk : EntOk (R := R) Tryd.prog (fleet_Same_E (R := R) fleet_Same_1 order_Same slices_Equal_intint) := .c (fleet_Same_1_S_ok R) <| .c (order_Same_S_ok R) <| .c (slices_Equal_intint_S_ok R) <| .n
noncomputable def fleet_Same : fleet_Same_ty R := fun x1 x2 k0 => fleet_Same_X fleet_Same_1 order_Same slices_Equal_intint x1 x2 k0
theorem fleet_Same_S_ok (R : Type) : OkS Tryd.prog 14 (fleet_Same_s (fleet_Same (R := R))) := tie_ok TT mixed (fleet_Same_EOk (R := R)) rfl rfl rfl rfl noT_ok (fleet_Same_ok fleet_Same_1 order_Same slices_Equal_intint)

end Go.Proofs.YtolnaonmpohciaaDoor

set_option maxRecDepth 100000
namespace Go.Proofs.YtolnaonmpohciaaDoor
open Go Go.Yard Go.Lib

theorem bnot_if {α : Type} (b : Bool) (x y : α) : (bif !b then x else y) = bif b then y else x := by cases b <;> rfl
theorem bne_cond {α : Type} [DecidableEq α] (a b : α) : (a != b) = !decide (a = b) := by
  by_cases h : a = b <;> simp [h]
theorem beq_dec {α : Type} [DecidableEq α] (a b : α) : (a == b) = decide (a = b) := by
  by_cases h : a = b <;> simp [h]
theorem in_range {i n : Nat} (h : i < n) : (decide ((0 : Int) ≤ (i : Int)) && decide ((i : Int) < (n : Int))) = true := by rw [dtrue (by omega), dtrue (by omega)]; rfl
theorem half_range (i : Nat) : (decide ((0 : Int) ≤ (i : Int)) && true) = true := by rw [dtrue (by omega)]; rfl
theorem step_i {i n : Nat} (h : i < n) (hn : n ≤ 4000000000000) : IntKind.i64.wrap ((i : Int) + 1) = ((i + 1 : Nat) : Int) := by rw [wrap_id (by omega) (by omega)]; omega

theorem topicName_ok {R : Type} (s : Str) (k : Bool → Option R) : topic_Name s k = k (nameOk s) := by
  unfold topic_Name topic_Name_X
  rw [chk_pos (by decide +kernel), ← trim_name s]
  show (bif (trimL s namL == ([] : Str)) then (bif (!(s == ([] : Str))) then k (decide ((s.length : Int) ≤ 16)) else k false) else k false) = _
  cases (trimL s namL == ([] : Str)) <;> cases (s == ([] : Str)) <;> rfl

theorem num1_ok {R : Type} (n : Int) (k : Bool → Option R) : order_num_1 n k = k (!numOk n) := by
  unfold order_num_1 order_num_1_X numOk
  by_cases h : n < 0
  · rw [dtrue h, cond_true, dfalse (show ¬ (0 : Int) ≤ n by omega)]; rfl
  · rw [dfalse h, cond_false, dtrue (show (0 : Int) ≤ n by omega)]
    by_cases h2 : n > 1000000000
    · rw [dtrue h2, dfalse (show ¬ n ≤ 1000000000 by omega)]; rfl
    · rw [dfalse h2, dtrue (show n ≤ 1000000000 by omega)]; rfl
theorem num_loop {R : Type} (l : List Int) (hl : l.length ≤ 1000000) (e0 X : Option R) (e1 : Int → Option R) (h1 : ∀ j : Nat, e1 (j : Int) = X) : ∀ (F i : Nat), i ≤ l.length → l.length - i < F →
    slices_IndexFunc_intint_abbc_2_0_L F l (l.length : Int) (i : Int) e0 e1 = if (l.drop i).all numOk then e0 else X := by
  intro F
  induction F with
  | zero => intro i _ hF; omega
  | succ F ih =>
    intro i hi hF
    show slices_IndexFunc_intint_abbc_2_0_B order_num_1 (fun x0 x1 x2 => slices_IndexFunc_intint_abbc_2_0_L F x0 x1 x2 e0 e1) l (l.length : Int) (i : Int) e0 e1 = _
    unfold slices_IndexFunc_intint_abbc_2_0_B
    by_cases h : i < l.length
    · have hg : l.getD (i : Int).toNat (Ty.dflt (.int .i64)) = l[i] := getD_at h _
      rw [dtrue (show (i : Int) < (l.length : Int) by omega), cond_true, chk_pos (half_range i), hg, num1_ok, bnot_if, step_i h (by omega)]
      dsimp only
      rw [ih (i + 1) (by omega) (by omega), h1, List.drop_eq_getElem_cons h, List.all_cons]
      cases numOk l[i] <;> rfl
    · rw [dfalse (show ¬ (i : Int) < (l.length : Int) by omega), cond_false, List.drop_eq_nil_of_le (by omega)]
      rfl
theorem num_ok {R : Type} (l : List Int) (hl : l.length ≤ 1000000) (k : Bool → Option R) : order_num l k = k (l.all numOk) := by
  unfold order_num order_num_X slices_ContainsFunc_intint_abbc slices_ContainsFunc_intint_abbc_X slices_IndexFunc_intint_abbc slices_IndexFunc_intint_abbc_X
  refine (num_loop l hl _ (k false) _ (fun j => ?_) _ 0 (by omega) (by omega)).trans ?_
  · show k (!decide ((j : Int) ≥ 0)) = _
    rw [dtrue (by omega)]; rfl
  · rw [List.drop_zero]
    cases l.all numOk <;> rfl

theorem right_loop {R : Type} (o : Order) (hn : o.nodes.length ≤ 64) (he : o.edges.length + 1 = o.nodes.length) (k : Bool → Option R) : ∀ (F i : Nat), i ≤ o.edges.length → o.edges.length - i < F → numOk (o.nodes.getD i Stop.z).seq = true →
    order_Right_8_0_L F o.edges (o.edges.length : Int) (i : Int) o (k true) (fun y => k y) = k (stepsO (o.nodes.getD i Stop.z) (o.edges.drop i) (o.nodes.drop (i + 1))) := by
  intro F
  induction F with
  | zero => intro i _ hF; omega
  | succ F ih =>
    intro i hi hF hs
    show order_Right_8_0_B order_num (fun x0 x1 x2 x3 => order_Right_8_0_L F x0 x1 x2 x3 (k true) (fun y => k y)) o.edges (o.edges.length : Int) (i : Int) o (k true) (fun y => k y) = _
    unfold order_Right_8_0_B
    by_cases h : i < o.edges.length
    · have h' : i + 1 < o.nodes.length := by omega
      have hge : o.edges.getD (i : Int).toNat (Ty.dflt .way) = o.edges[i] := getD_at h _
      have hgf : o.nodes.getD (i : Int).toNat (Ty.dflt .stop) = o.nodes[i] := getD_at (by omega) _
      have hgf' : o.nodes.getD i Stop.z = o.nodes[i] := getD_at (by omega) _
      have hgt : o.nodes.getD ((i + 1 : Nat) : Int).toNat (Ty.dflt .stop) = o.nodes[i + 1] := getD_at h' _
      have hgt' : o.nodes.getD (i + 1) Stop.z = o.nodes[i + 1] := getD_at h' _
      have ih := ih (i + 1) (by omega) (by omega)
      rw [dtrue (show (i : Int) < (o.edges.length : Int) by omega), cond_true, chk_pos (half_range i), chk_pos (in_range (show i < o.nodes.length by omega)), step_i h (by omega), chk_pos (in_range h'), hge, hgf, hgt, num_ok _ (by simp)]
      rw [List.drop_eq_getElem_cons h, List.drop_eq_getElem_cons h', hgf']
      rw [hgt'] at ih
      rw [hgf'] at hs
      generalize o.edges[i] = e at *
      generalize o.nodes[i] = f at *
      generalize o.nodes[i + 1] = t at *
      have eA : ([e.edge, e.seq, t.node, t.seq] : List Int).all numOk = (numOk e.edge && numOk e.seq && numOk t.node && numOk t.seq) := by simp only [List.all_cons, List.all_nil, Bool.and_true, Bool.and_assoc]
      simp only [stepsO, eA]
      cases hA : (numOk e.edge && numOk e.seq && numOk t.node && numOk t.seq) with
      | false => rfl
      | true =>
        simp only [Bool.and_eq_true] at hA
        have b1 := numOk_iff.1 hs
        have b2 := numOk_iff.1 hA.1.1.2
        rw [Bool.not_true, cond_false, wrap_id (n := f.seq + 1) (by omega) (by omega), wrap_id (n := e.seq + 1) (by omega) (by omega), bne_cond, bnot_if, bne_cond, bnot_if, bnot_if, bnot_if]
        rw [show (fun y : Bool => k y) = k from rfl] at ih ⊢
        rw [ih hA.2]
        cases decide (e.seq = f.seq + 1) <;> cases decide (t.seq = e.seq + 1) <;> cases (e.released == t.released) <;> cases t.released <;> cases f.released <;> rfl
    · rw [dfalse (show ¬ (i : Int) < (o.edges.length : Int) by omega), cond_false, List.drop_eq_nil_of_le (by omega), List.drop_eq_nil_of_le (by omega)]
      rfl
theorem orderRight_ok {R : Type} (o : Order) (hn : o.nodes.length ≤ 4000000000000) (k : Bool → Option R) : order_Right o k = k (rightO o) := by
  unfold order_Right order_Right_X
  rw [topicName_ok, num_ok _ (by simp)]
  have e3 : ([o.header, o.order, o.update] : List Int).all numOk = (numOk o.header && numOk o.order && numOk o.update) := by simp only [List.all_cons, List.all_nil, Bool.and_true, Bool.and_assoc]
  have hr : rightO o = (nameOk o.vehicle && (numOk o.header && numOk o.order && numOk o.update) && (match o.nodes with
    | [] => false
    | f :: ns => decide (ns.length < 64) && (decide (Int.tmod f.seq 2 = 0) && f.released) && (numOk f.node && numOk f.seq) && stepsO f o.edges ns)) := rfl
  rw [hr, e3]
  cases nameOk o.vehicle with
  | false => rfl
  | true =>
  cases (numOk o.header && numOk o.order && numOk o.update) with
  | false => rfl
  | true =>
  simp only [Bool.not_true, cond_false, Bool.true_and]
  cases hs : o.nodes with
  | nil => rfl
  | cons f ns =>
    rw [hs] at hn
    simp only [List.length_cons] at hn ⊢
    rw [dfalse (show ¬ ((ns.length + 1 : Nat) : Int) < 1 by omega), cond_false]
    by_cases h64 : ns.length < 64
    rotate_left
    · rw [dtrue (show ((ns.length + 1 : Nat) : Int) > 64 by omega), dfalse h64]
      rfl
    rw [dfalse (show ¬ ((ns.length + 1 : Nat) : Int) > 64 by omega), cond_false, dtrue h64, wrap_id (n := ((ns.length + 1 : Nat) : Int) - 1) (by omega) (by omega), bne_cond, bnot_if]
    by_cases hl : o.edges.length = ns.length
    rotate_left
    · rw [dfalse (show ¬ (o.edges.length : Int) = ((ns.length + 1 : Nat) : Int) - 1 by omega), cond_false]
      have : stepsO f o.edges ns = false := by
        cases hq : stepsO f o.edges ns with
        | false => rfl
        | true => exact (hl (steps_ok _ _ _ hq).1).elim
      rw [this, Bool.and_false]
    rw [dtrue (show (o.edges.length : Int) = ((ns.length + 1 : Nat) : Int) - 1 by omega), cond_true, chk_pos (dtrue (by omega)), bne_cond, bnot_if, bnot_if]
    have hg : (f :: ns).getD 0 (Ty.dflt .stop) = f := rfl
    rw [hg, num_ok _ (by simp)]
    have e2 : ([f.node, f.seq] : List Int).all numOk = (numOk f.node && numOk f.seq) := by simp only [List.all_cons, List.all_nil, Bool.and_true]
    rw [e2]
    cases hN : (numOk f.node && numOk f.seq) with
    | false => cases decide (Int.tmod f.seq 2 = 0) <;> cases f.released <;> rfl
    | true =>
      simp only [Bool.and_eq_true] at hN
      have hL := right_loop o (by rw [hs]; simp; omega) (by rw [hs]; simp; omega) k (List.length o.edges + Int.natAbs (o.edges.length : Int) + Int.natAbs 0 + Order.fu o + 64) 0 (by omega) (by omega) (by rw [hs]; exact hN.2)
      rw [hs] at hL
      have hL' := hL
      simp only [List.drop_zero, List.drop_succ_cons] at hL'
      rw [Bool.not_true, cond_false]
      have hL2 : order_Right_8_0_L (List.length o.edges + Int.natAbs (o.edges.length : Int) + Int.natAbs 0 + Order.fu o + 64) o.edges (o.edges.length : Int) 0 o (k true) (fun y12 => k y12) = k (stepsO f o.edges ns) := hL'
      rw [hL2]
      cases decide (Int.tmod f.seq 2 = 0) <;> cases f.released <;> cases stepsO f o.edges ns <;> rfl

def eqS : List Stop → List Stop → Bool
  | [], [] => true
  | x :: l, y :: m => (x.node == y.node && (x.seq == y.seq && (x.released == y.released && true))) && eqS l m
  | _, _ => false
def eqW : List Yard.Way → List Yard.Way → Bool
  | [], [] => true
  | x :: l, y :: m => (x.edge == y.edge && (x.seq == y.seq && (x.released == y.released && true))) && eqW l m
  | _, _ => false
theorem eqS_iff : ∀ {a b : List Stop}, eqS a b = true ↔ a = b
  | [], [] => by simp [eqS]
  | x :: l, y :: m => by
    obtain ⟨a1, a2, a3⟩ := x
    obtain ⟨b1, b2, b3⟩ := y
    simp [eqS, eqS_iff (a := l) (b := m), and_assoc]
  | [], _ :: _ => by simp [eqS]
  | _ :: _, [] => by simp [eqS]
theorem eqW_iff : ∀ {a b : List Yard.Way}, eqW a b = true ↔ a = b
  | [], [] => by simp [eqW]
  | x :: l, y :: m => by
    obtain ⟨a1, a2, a3⟩ := x
    obtain ⟨b1, b2, b3⟩ := y
    simp [eqW, eqW_iff (a := l) (b := m), and_assoc]
  | [], _ :: _ => by simp [eqW]
  | _ :: _, [] => by simp [eqW]
theorem eqS_len {a b : List Stop} (h : a.length ≠ b.length) : eqS a b = false := Bool.eq_false_iff.2 fun e => h (by rw [eqS_iff.1 e])
theorem eqW_len {a b : List Yard.Way} (h : a.length ≠ b.length) : eqW a b = false := Bool.eq_false_iff.2 fun e => h (by rw [eqW_iff.1 e])
def sameO (a b : Order) : Bool := a.header == b.header && (a.vehicle == b.vehicle && (a.order == b.order && (a.update == b.update && (eqS a.nodes b.nodes && eqW a.edges b.edges))))
theorem sameO_iff {a b : Order} : sameO a b = true ↔ a = b := by
  obtain ⟨a1, a2, a3, a4, a5, a6⟩ := a
  obtain ⟨b1, b2, b3, b4, b5, b6⟩ := b
  simp [sameO, eqS_iff, eqW_iff]
theorem sameO_self (a : Order) : sameO a a = true := sameO_iff.2 rfl
theorem eqS_loop {R : Type} (a b : List Stop) (hl : a.length = b.length) (ha : a.length ≤ 1099511627776) (e0 : Option R) (e1 : Bool → Option R) : ∀ (F i : Nat), i ≤ a.length → a.length - i < F →
    slices_Equal_StopStop_4_0_L F a b (a.length : Int) (i : Int) e0 e1 = bif eqS (a.drop i) (b.drop i) then e0 else e1 false := by
  intro F
  induction F with
  | zero => intro i _ hF; omega
  | succ F ih =>
    intro i hi hF
    show slices_Equal_StopStop_4_0_B (fun x0 x1 x2 x3 => slices_Equal_StopStop_4_0_L F x0 x1 x2 x3 e0 e1) a b (a.length : Int) (i : Int) e0 e1 = _
    unfold slices_Equal_StopStop_4_0_B
    by_cases h : i < a.length
    · have ga : a.getD (i : Int).toNat (Ty.dflt .stop) = a[i] := getD_at h _
      have gb : b.getD (i : Int).toNat (Ty.dflt .stop) = b[i] := getD_at (by omega) _
      rw [dtrue (show (i : Int) < (a.length : Int) by omega), cond_true, chk_pos (half_range i), chk_pos (in_range (show i < b.length by omega)), ga, gb, step_i h (by omega)]
      dsimp only
      rw [ih (i + 1) (by omega) (by omega), List.drop_eq_getElem_cons h, List.drop_eq_getElem_cons (show i < b.length by omega), bnot_if]
      simp only [eqS]
      cases (a[i].node == b[i].node && (a[i].seq == b[i].seq && (a[i].released == b[i].released && true))) <;> rfl
    · rw [dfalse (show ¬ (i : Int) < (a.length : Int) by omega), cond_false, List.drop_eq_nil_of_le (by omega), List.drop_eq_nil_of_le (by omega)]
      rfl
theorem eqW_loop {R : Type} (a b : List Yard.Way) (hl : a.length = b.length) (ha : a.length ≤ 1099511627776) (e0 : Option R) (e1 : Bool → Option R) : ∀ (F i : Nat), i ≤ a.length → a.length - i < F →
    slices_Equal_WayWay_4_0_L F a b (a.length : Int) (i : Int) e0 e1 = bif eqW (a.drop i) (b.drop i) then e0 else e1 false := by
  intro F
  induction F with
  | zero => intro i _ hF; omega
  | succ F ih =>
    intro i hi hF
    show slices_Equal_WayWay_4_0_B (fun x0 x1 x2 x3 => slices_Equal_WayWay_4_0_L F x0 x1 x2 x3 e0 e1) a b (a.length : Int) (i : Int) e0 e1 = _
    unfold slices_Equal_WayWay_4_0_B
    by_cases h : i < a.length
    · have ga : a.getD (i : Int).toNat (Ty.dflt .way) = a[i] := getD_at h _
      have gb : b.getD (i : Int).toNat (Ty.dflt .way) = b[i] := getD_at (by omega) _
      rw [dtrue (show (i : Int) < (a.length : Int) by omega), cond_true, chk_pos (half_range i), chk_pos (in_range (show i < b.length by omega)), ga, gb, step_i h (by omega)]
      dsimp only
      rw [ih (i + 1) (by omega) (by omega), List.drop_eq_getElem_cons h, List.drop_eq_getElem_cons (show i < b.length by omega), bnot_if]
      simp only [eqW]
      cases (a[i].edge == b[i].edge && (a[i].seq == b[i].seq && (a[i].released == b[i].released && true))) <;> rfl
    · rw [dfalse (show ¬ (i : Int) < (a.length : Int) by omega), cond_false, List.drop_eq_nil_of_le (by omega), List.drop_eq_nil_of_le (by omega)]
      rfl
theorem eqS_ok {R : Type} (a b : List Stop) (ha : a.length ≤ 1099511627776) (k : Bool → Option R) : slices_Equal_StopStop a b k = k (eqS a b) := by
  unfold slices_Equal_StopStop slices_Equal_StopStop_X
  rw [bne_cond, bnot_if]
  by_cases hl : a.length = b.length
  · rw [dtrue (show (a.length : Int) = (b.length : Int) by omega), cond_true]
    refine (eqS_loop a b hl ha _ _ _ 0 (by omega) (by omega)).trans ?_
    rw [List.drop_zero, List.drop_zero]
    cases eqS a b <;> rfl
  · rw [dfalse (show ¬ (a.length : Int) = (b.length : Int) by omega), eqS_len hl]
    rfl
theorem eqW_ok {R : Type} (a b : List Yard.Way) (ha : a.length ≤ 1099511627776) (k : Bool → Option R) : slices_Equal_WayWay a b k = k (eqW a b) := by
  unfold slices_Equal_WayWay slices_Equal_WayWay_X
  rw [bne_cond, bnot_if]
  by_cases hl : a.length = b.length
  · rw [dtrue (show (a.length : Int) = (b.length : Int) by omega), cond_true]
    refine (eqW_loop a b hl ha _ _ _ 0 (by omega) (by omega)).trans ?_
    rw [List.drop_zero, List.drop_zero]
    cases eqW a b <;> rfl
  · rw [dfalse (show ¬ (a.length : Int) = (b.length : Int) by omega), eqW_len hl]
    rfl
theorem orderSame_ok {R : Type} (a b : Order) (ha : a.nodes.length ≤ 1099511627776) (he : a.edges.length ≤ 1099511627776) (k : Bool → Option R) : order_Same a b k = k (sameO a b) := by
  unfold order_Same order_Same_X sameO
  simp only [eqS_ok _ _ ha, eqW_ok _ _ he]
  cases (a.header == b.header) <;> cases (a.vehicle == b.vehicle) <;> cases (a.order == b.order) <;> cases (a.update == b.update) <;> cases eqS a.nodes b.nodes <;> rfl




theorem rsameS_loop {R : Type} (a b : Order) (hl : a.nodes.length = b.nodes.length) (ha : a.nodes.length ≤ 1099511627776) (e0 : Order → Order → Option R) (e1 : Bool → Order → Order → Option R) : ∀ (F i : Nat), i ≤ a.nodes.length → a.nodes.length - i < F →
    ref08_Same_4_0_L F (i : Int) a b e0 e1 = bif eqS (a.nodes.drop i) (b.nodes.drop i) then e0 a b else e1 false a b := by
  intro F
  induction F with
  | zero => intro i _ hF; omega
  | succ F ih =>
    intro i hi hF
    show ref08_Same_4_0_B (fun x0 x1 x2 => ref08_Same_4_0_L F x0 x1 x2 e0 e1) (i : Int) a b e0 e1 = _
    unfold ref08_Same_4_0_B
    by_cases h : i < a.nodes.length
    · have ga : a.nodes.getD (i : Int).toNat (Ty.dflt .stop) = a.nodes[i] := getD_at h _
      have gb : b.nodes.getD (i : Int).toNat (Ty.dflt .stop) = b.nodes[i] := getD_at (by omega) _
      rw [dtrue (show (i : Int) < (a.nodes.length : Int) by omega), cond_true, chk_pos (half_range i), chk_pos (in_range (show i < b.nodes.length by omega)), ga, gb, step_i h (by omega)]
      dsimp only
      rw [ih (i + 1) (by omega) (by omega), List.drop_eq_getElem_cons h, List.drop_eq_getElem_cons (show i < b.nodes.length by omega), bnot_if]
      simp only [eqS]
      cases (a.nodes[i].node == b.nodes[i].node && (a.nodes[i].seq == b.nodes[i].seq && (a.nodes[i].released == b.nodes[i].released && true))) <;> rfl
    · rw [dfalse (show ¬ (i : Int) < (a.nodes.length : Int) by omega), cond_false, List.drop_eq_nil_of_le (by omega), List.drop_eq_nil_of_le (by omega)]
      rfl
theorem rsameW_loop {R : Type} (a b : Order) (hl : a.edges.length = b.edges.length) (ha : a.edges.length ≤ 1099511627776) (e0 : Option R) (e1 : Bool → Option R) : ∀ (F i : Nat), i ≤ a.edges.length → a.edges.length - i < F →
    ref08_Same_9_0_L F (i : Int) a b e0 e1 = bif eqW (a.edges.drop i) (b.edges.drop i) then e0 else e1 false := by
  intro F
  induction F with
  | zero => intro i _ hF; omega
  | succ F ih =>
    intro i hi hF
    show ref08_Same_9_0_B (fun x0 x1 x2 => ref08_Same_9_0_L F x0 x1 x2 e0 e1) (i : Int) a b e0 e1 = _
    unfold ref08_Same_9_0_B
    by_cases h : i < a.edges.length
    · have ga : a.edges.getD (i : Int).toNat (Ty.dflt .way) = a.edges[i] := getD_at h _
      have gb : b.edges.getD (i : Int).toNat (Ty.dflt .way) = b.edges[i] := getD_at (by omega) _
      rw [dtrue (show (i : Int) < (a.edges.length : Int) by omega), cond_true, chk_pos (half_range i), chk_pos (in_range (show i < b.edges.length by omega)), ga, gb, step_i h (by omega)]
      dsimp only
      rw [ih (i + 1) (by omega) (by omega), List.drop_eq_getElem_cons h, List.drop_eq_getElem_cons (show i < b.edges.length by omega), bnot_if]
      simp only [eqW]
      cases (a.edges[i].edge == b.edges[i].edge && (a.edges[i].seq == b.edges[i].seq && (a.edges[i].released == b.edges[i].released && true))) <;> rfl
    · rw [dfalse (show ¬ (i : Int) < (a.edges.length : Int) by omega), cond_false, List.drop_eq_nil_of_le (by omega), List.drop_eq_nil_of_le (by omega)]
      rfl
theorem rsame_ok {R : Type} (a b : Order) (ha : a.nodes.length ≤ 1099511627776) (he : a.edges.length ≤ 1099511627776) (k : Bool → Option R) : ref08_Same a b k = k (sameO a b) := by
  unfold ref08_Same ref08_Same_X sameO
  have hb : ∀ (x y : Int), (x != y) = !(x == y) := fun x y => rfl
  simp only [hb, bnot_if]
  cases (a.header == b.header) with
  | false => rfl
  | true =>
  cases (a.vehicle == b.vehicle) with
  | false => rfl
  | true =>
  cases (a.order == b.order) with
  | false => rfl
  | true =>
  cases (a.update == b.update) with
  | false => rfl
  | true =>
  simp only [cond_true, Bool.true_and]
  by_cases h1 : a.nodes.length = b.nodes.length
  rotate_left
  · have c : ((a.nodes.length : Int) == (b.nodes.length : Int)) = false := by rw [beq_dec]; exact dfalse (by omega)
    rw [c, eqS_len h1]
    rfl
  have c1 : ((a.nodes.length : Int) == (b.nodes.length : Int)) = true := by rw [beq_dec]; exact dtrue (by omega)
  rw [c1, cond_true]
  by_cases h2 : a.edges.length = b.edges.length
  rotate_left
  · have c : ((a.edges.length : Int) == (b.edges.length : Int)) = false := by rw [beq_dec]; exact dfalse (by omega)
    rw [c, eqW_len h2, Bool.and_false]
    rfl
  have c2 : ((a.edges.length : Int) == (b.edges.length : Int)) = true := by rw [beq_dec]; exact dtrue (by omega)
  rw [c2, cond_true]
  refine (rsameS_loop a b h1 ha _ _ _ 0 (by omega) (by unfold Order.fu; omega)).trans ?_
  rw [List.drop_zero, List.drop_zero]
  cases eqS a.nodes b.nodes with
  | false => rfl
  | true =>
    refine (rsameW_loop a b h2 he _ _ _ 0 (by omega) (by unfold Order.fu; omega)).trans ?_
    rw [List.drop_zero, List.drop_zero]
    cases eqW a.edges b.edges <;> rfl

structure RawO (o : Order) : Prop where
  header : I64 o.header
  order : I64 o.order
  update : I64 o.update
  name : o.vehicle.length ≤ 1099511627776
  many : o.nodes.length ≤ 1099511627776 ∧ o.edges.length ≤ 1099511627776
  node : ∀ x ∈ o.nodes, I64 x.node ∧ I64 x.seq


theorem rname_step {R : Type} (n : Int) (x y : Option R) :
    (bif decide (n ≥ 97) then (bif decide (n ≤ 122) then x else (bif decide (n ≥ 65) then (bif decide (n ≤ 90) then x else (bif decide (n ≥ 48) then (bif decide (n ≤ 57) then x else (bif n == 95 then x else (bif n == 46 then x else (bif n == 58 then x else (bif !(n == 45) then y else x))))) else (bif n == 95 then x else (bif n == 46 then x else (bif n == 58 then x else (bif !(n == 45) then y else x)))))) else (bif decide (n ≥ 48) then (bif decide (n ≤ 57) then x else (bif n == 95 then x else (bif n == 46 then x else (bif n == 58 then x else (bif !(n == 45) then y else x))))) else (bif n == 95 then x else (bif n == 46 then x else (bif n == 58 then x else (bif !(n == 45) then y else x)))))))
     else (bif decide (n ≥ 65) then (bif decide (n ≤ 90) then x else (bif decide (n ≥ 48) then (bif decide (n ≤ 57) then x else (bif n == 95 then x else (bif n == 46 then x else (bif n == 58 then x else (bif !(n == 45) then y else x))))) else (bif n == 95 then x else (bif n == 46 then x else (bif n == 58 then x else (bif !(n == 45) then y else x)))))) else (bif decide (n ≥ 48) then (bif decide (n ≤ 57) then x else (bif n == 95 then x else (bif n == 46 then x else (bif n == 58 then x else (bif !(n == 45) then y else x))))) else (bif n == 95 then x else (bif n == 46 then x else (bif n == 58 then x else (bif !(n == 45) then y else x)))))))
    = bif nameC n then x else y := by
  have hc : nameC n = ((decide (n ≥ 97) && decide (n ≤ 122)) || (decide (n ≥ 65) && decide (n ≤ 90)) || (decide (n ≥ 48) && decide (n ≤ 57)) || (n == 95) || (n == 46) || (n == 58) || (n == 45)) := by
    unfold nameC
    simp only [Bool.decide_and, beq_dec, ge_iff_le]
  rw [hc]
  cases decide (n ≥ 97) <;> cases decide (n ≤ 122) <;> cases decide (n ≥ 65) <;> cases decide (n ≤ 90) <;> cases decide (n ≥ 48) <;> cases decide (n ≤ 57) <;> (try rfl) <;> cases (n == 95) <;> (try rfl) <;> cases (n == 46) <;> (try rfl) <;> cases (n == 58) <;> (try rfl) <;> cases (n == 45) <;> rfl
theorem rname_loop {R : Type} (s : Str) (hs : s.length ≤ 1099511627776) (e0 : Str → Option R) (e1 : Str → Bool → Option R) : ∀ (F i : Nat), i ≤ s.length → s.length - i < F →
    ref07_Name_2_0_L F s (i : Int) e0 e1 = bif (s.drop i).all (namL.contains ·) then e0 s else e1 s false := by
  intro F
  induction F with
  | zero => intro i _ hF; omega
  | succ F ih =>
    intro i hi hF
    show ref07_Name_2_0_B (fun x0 x1 => ref07_Name_2_0_L F x0 x1 e0 e1) s (i : Int) e0 e1 = _
    unfold ref07_Name_2_0_B
    by_cases h : i < s.length
    · have hg : s.getD (i : Int).toNat 0 = s[i] := getD_at h _
      rw [dtrue (show (i : Int) < (s.length : Int) by omega), cond_true, chk_pos (half_range i), hg, step_i h (by omega)]
      dsimp only
      rw [ih (i + 1) (by omega) (by omega)]
      refine (rname_step (s[i].toNat : Int) _ _).trans ?_
      rw [nameC_ok, List.drop_eq_getElem_cons h, List.all_cons]
      cases namL.contains s[i] <;> rfl
    · rw [dfalse (show ¬ (i : Int) < (s.length : Int) by omega), cond_false, List.drop_eq_nil_of_le (by omega)]
      rfl
theorem rname_ok {R : Type} (s : Str) (hs : s.length ≤ 1099511627776) (k : Bool → Option R) : ref07_Name s k = k (nameOk s) := by
  unfold ref07_Name ref07_Name_X
  refine (rname_loop s hs _ _ _ 0 (by omega) (by omega)).trans ?_
  rw [List.drop_zero]
  unfold nameOk
  cases s.all (namL.contains ·) with
  | false => rfl
  | true =>
    rw [cond_true, Bool.true_and]
    cases s with
    | nil => rfl
    | cons b l =>
      rw [dtrue (show (((b :: l).length : Nat) : Int) ≥ 1 by simp only [List.length_cons]; omega), cond_true]
      have e : decide ((((b :: l).length : Nat) : Int) ≤ 16) = decide ((b :: l).length ≤ 16) := decide_eq_decide.2 (by omega)
      rw [e]
      rfl
theorem rnum_ok {R : Type} (n : Int) (k : Bool → Option R) : ref08_num n k = k (numOk n) := by
  unfold ref08_num ref08_num_X numOk
  by_cases h : 0 ≤ n
  · rw [dtrue (show n ≥ 0 from h)]; rfl
  · rw [dfalse (show ¬ n ≥ 0 from h)]; rfl

theorem rnodes_loop {R : Type} (o : Order) (hn : o.nodes.length ≤ 64) (e0 : Int → Order → Option R) (e1 : Bool → Int → Order → Option R) : ∀ (F i : Nat), i ≤ o.nodes.length → o.nodes.length - i < F → (0 < i → numOk (o.nodes.getD 0 Stop.z).seq = true) →
    ref08_Right_6_0_L F (o.nodes.length : Int) (i : Int) o e0 e1 = bif nodesR ((o.nodes.getD 0 Stop.z).seq + 2 * i) (if i = 0 then true else (o.nodes.getD (i - 1) Stop.z).released) (o.nodes.drop i) then e0 (o.nodes.length : Int) o else e1 false (o.nodes.length : Int) o := by
  intro F
  induction F with
  | zero => intro i _ hF; omega
  | succ F ih =>
    intro i hi hF h0
    show ref08_Right_6_0_B _ (fun x0 x1 x2 => ref08_Right_6_0_L F x0 x1 x2 e0 e1) (o.nodes.length : Int) (i : Int) o e0 e1 = _
    unfold ref08_Right_6_0_B
    by_cases h : i < o.nodes.length
    rotate_left
    · rw [dfalse (show ¬ (i : Int) < (o.nodes.length : Int) by omega), cond_false, List.drop_eq_nil_of_le (by omega)]
      rfl
    have hg : o.nodes.getD (i : Int).toNat (Ty.dflt .stop) = o.nodes[i] := getD_at h _
    have hg0 : o.nodes.getD 0 (Ty.dflt .stop) = o.nodes.getD 0 Stop.z := rfl
    rw [dtrue (show (i : Int) < (o.nodes.length : Int) by omega), cond_true, chk_pos (half_range i), hg, rnum_ok, rnum_ok, hg0, step_i h (by omega)]
    dsimp only
    rw [List.drop_eq_getElem_cons h]
    simp only [nodesR]
    cases hN : numOk o.nodes[i].node with
    | false => rfl
    | true =>
    cases hS : numOk o.nodes[i].seq with
    | false => rfl
    | true =>
    have hz : numOk (o.nodes.getD 0 Stop.z).seq = true := by
      by_cases hi0 : 0 < i
      · exact h0 hi0
      · have : i = 0 := by omega
        subst this
        rw [getD_at h]; exact hS
    have bz := numOk_iff.1 hz
    have w1 : IntKind.i64.wrap (2 * (i : Int)) = 2 * (i : Int) := wrap_id (by omega) (by omega)
    have w2 : IntKind.i64.wrap ((o.nodes.getD 0 Stop.z).seq + 2 * (i : Int)) = (o.nodes.getD 0 Stop.z).seq + 2 * (i : Int) := wrap_id (by omega) (by omega)
    rw [Bool.not_true, cond_false, cond_false, chk_pos (dtrue (by omega)), w1, w2, bne_cond, bnot_if]
    have ih := ih (i + 1) (by omega) (by omega) (fun _ => hz)
    have hs2 : (o.nodes.getD 0 Stop.z).seq + 2 * ((i + 1 : Nat) : Int) = (o.nodes.getD 0 Stop.z).seq + 2 * (i : Int) + 2 := by omega
    rw [hs2, if_neg (by omega), show i + 1 - 1 = i by omega, show o.nodes.getD i Stop.z = o.nodes[i] from getD_at h _] at ih
    rw [ih]
    have hpos : decide ((i : Int) > 0) = decide (0 < i) := decide_eq_decide.2 (by omega)
    rw [hpos]
    by_cases hi0 : 0 < i
    · have w3 : IntKind.i64.wrap ((i : Int) - 1) = ((i - 1 : Nat) : Int) := by rw [wrap_id (by omega) (by omega)]; omega
      have hg2 : o.nodes.getD ((i - 1 : Nat) : Int).toNat (Ty.dflt .stop) = o.nodes.getD (i - 1) Stop.z := rfl
      rw [dtrue hi0, cond_true, w3, chk_pos (in_range (show i - 1 < o.nodes.length by omega)), hg2, if_neg (by omega), bnot_if]
      cases decide (o.nodes[i].seq = (o.nodes.getD 0 Stop.z).seq + 2 * (i : Int)) <;> cases o.nodes[i].released <;> cases (o.nodes.getD (i - 1) Stop.z).released <;> simp
    · rw [dfalse hi0, cond_false, if_pos (by omega)]
      cases decide (o.nodes[i].seq = (o.nodes.getD 0 Stop.z).seq + 2 * (i : Int)) <;> cases o.nodes[i].released <;> simp
theorem nodesR_nums : ∀ (l : List Stop) (s : Int) (p : Bool), nodesR s p l = true → ∀ x ∈ l, numOk x.seq = true
  | [], _, _, _ => by simp
  | x :: l, s, p, h => by
    simp only [nodesR, Bool.and_eq_true] at h
    intro y hy
    rcases List.mem_cons.1 hy with e | hy
    · rw [e]; exact h.1.1.2
    · exact nodesR_nums l _ _ h.2 y hy
theorem redges_loop {R : Type} (o : Order) (hn : o.nodes.length ≤ 64) (he : o.edges.length + 1 = o.nodes.length) (hs : ∀ x ∈ o.nodes, numOk x.seq = true) (e0 : Option R) (e1 : Bool → Option R) : ∀ (F i : Nat), i ≤ o.edges.length → o.edges.length - i < F →
    ref08_Right_12_0_L F (o.nodes.length : Int) (i : Int) o e0 e1 = bif edgesR (o.nodes.getD i Stop.z) (o.edges.drop i) (o.nodes.drop (i + 1)) then e0 else e1 false := by
  intro F
  induction F with
  | zero => intro i _ hF; omega
  | succ F ih =>
    intro i hi hF
    show ref08_Right_12_0_B _ (fun x0 x1 x2 => ref08_Right_12_0_L F x0 x1 x2 e0 e1) (o.nodes.length : Int) (i : Int) o e0 e1 = _
    unfold ref08_Right_12_0_B
    have w0 : IntKind.i64.wrap ((o.nodes.length : Int) - 1) = (o.edges.length : Int) := by rw [wrap_id (by omega) (by omega)]; omega
    rw [w0]
    by_cases h : i < o.edges.length
    rotate_left
    · rw [dfalse (show ¬ (i : Int) < (o.edges.length : Int) by omega), cond_false, List.drop_eq_nil_of_le (by omega), List.drop_eq_nil_of_le (by omega)]
      rfl
    have h' : i + 1 < o.nodes.length := by omega
    have hge : o.edges.getD (i : Int).toNat (Ty.dflt .way) = o.edges[i] := getD_at h _
    have hgf : o.nodes.getD (i : Int).toNat (Ty.dflt .stop) = o.nodes[i] := getD_at (by omega) _
    have hgf' : o.nodes.getD i Stop.z = o.nodes[i] := getD_at (by omega) _
    have hgt : o.nodes.getD ((i + 1 : Nat) : Int).toNat (Ty.dflt .stop) = o.nodes[i + 1] := getD_at h' _
    have hgt' : o.nodes.getD (i + 1) Stop.z = o.nodes[i + 1] := getD_at h' _
    have bz := numOk_iff.1 (hs o.nodes[i] (List.getElem_mem _))
    have ih := ih (i + 1) (by omega) (by omega)
    rw [hgt'] at ih
    rw [dtrue (show (i : Int) < (o.edges.length : Int) by omega), cond_true, chk_pos (half_range i), hge, rnum_ok, rnum_ok, chk_pos (in_range (show i < o.nodes.length by omega)), hgf, step_i h (by omega), chk_pos (in_range h'), hgt, wrap_id (n := o.nodes[i].seq + 1) (by omega) (by omega), bne_cond, bnot_if, bnot_if, bnot_if, bnot_if]
    dsimp only
    rw [ih, List.drop_eq_getElem_cons h, List.drop_eq_getElem_cons h', hgf']
    simp only [edgesR]
    cases numOk o.edges[i].edge <;> cases numOk o.edges[i].seq <;> cases decide (o.edges[i].seq = o.nodes[i].seq + 1) <;> cases (o.edges[i].released == o.nodes[i + 1].released) <;> simp
theorem rright8 {R : Type} (o : Order) (hn : o.nodes.length ≤ 4000000000000) (hv : o.vehicle.length ≤ 1099511627776) (k : Bool → Option R) : ref08_Right o k = k (rightO o) := by
  rw [← rightR_eq]
  unfold ref08_Right ref08_Right_X
  rw [rname_ok _ hv, rnum_ok, rnum_ok, rnum_ok]
  have hr : rightR o = (nameOk o.vehicle && (numOk o.header && (numOk o.order && numOk o.update)) && (match o.nodes with
    | [] => false
    | f :: ns => (decide (ns.length < 64) && decide (o.edges.length = ns.length)) && (decide (Int.tmod f.seq 2 = 0) && f.released) && nodesR f.seq true (f :: ns) && edgesR f o.edges ns)) := rfl
  rw [hr]
  cases nameOk o.vehicle with
  | false => rfl
  | true =>
  cases numOk o.header with
  | false => rfl
  | true =>
  cases numOk o.order with
  | false => rfl
  | true =>
  cases numOk o.update with
  | false => rfl
  | true =>
  simp only [Bool.not_true, cond_false, Bool.true_and]
  cases hs : o.nodes with
  | nil => rfl
  | cons f ns =>
    rw [hs] at hn
    simp only [List.length_cons] at hn ⊢
    rw [dfalse (show ¬ ((ns.length + 1 : Nat) : Int) < 1 by omega), cond_false]
    by_cases h64 : ns.length < 64
    rotate_left
    · rw [dtrue (show ((ns.length + 1 : Nat) : Int) > 64 by omega), dfalse h64]
      rfl
    rw [dfalse (show ¬ ((ns.length + 1 : Nat) : Int) > 64 by omega), cond_false, dtrue h64, wrap_id (n := ((ns.length + 1 : Nat) : Int) - 1) (by omega) (by omega), bne_cond, bnot_if]
    by_cases hl : o.edges.length = ns.length
    rotate_left
    · rw [dfalse (show ¬ (o.edges.length : Int) = ((ns.length + 1 : Nat) : Int) - 1 by omega), cond_false, dfalse hl]
      rfl
    rw [dtrue (show (o.edges.length : Int) = ((ns.length + 1 : Nat) : Int) - 1 by omega), cond_true, dtrue hl, chk_pos (dtrue (by omega)), chk_pos (dtrue (by omega)), bne_cond, bnot_if, bnot_if]
    have hg : (f :: ns).getD 0 (Ty.dflt .stop) = f := rfl
    rw [hg]
    have hL : ∀ (F : Nat) (e0 : Int → Order → Option R) (e1 : Bool → Int → Order → Option R), ns.length + 1 < F → ref08_Right_6_0_L F ((ns.length + 1 : Nat) : Int) 0 o e0 e1 = bif nodesR f.seq true (f :: ns) then e0 ((ns.length + 1 : Nat) : Int) o else e1 false ((ns.length + 1 : Nat) : Int) o := fun F e0 e1 hF => by
      have := rnodes_loop o (by rw [hs]; simp only [List.length_cons]; omega) e0 e1 F 0 (by omega) (by rw [hs]; simp only [List.length_cons]; omega) (fun h => by omega)
      rw [hs] at this
      have e : ((f :: ns).getD 0 Stop.z).seq + 2 * ((0 : Nat) : Int) = f.seq := by
        show f.seq + 2 * ((0 : Nat) : Int) = f.seq
        omega
      rw [e, if_pos rfl, List.drop_zero] at this
      exact this
    rw [hL _ _ _ (by unfold Order.fu; rw [hs]; simp only [List.length_cons]; omega)]
    cases hN : nodesR f.seq true (f :: ns) with
    | false => cases decide (Int.tmod f.seq 2 = 0) <;> cases f.released <;> rfl
    | true =>
      have hE : ∀ (F : Nat) (e0 : Option R) (e1 : Bool → Option R), ns.length < F → ref08_Right_12_0_L F ((ns.length + 1 : Nat) : Int) 0 o e0 e1 = bif edgesR f o.edges ns then e0 else e1 false := fun F e0 e1 hF => by
        have := redges_loop o (by rw [hs]; simp only [List.length_cons]; omega) (by rw [hs]; simp only [List.length_cons]; omega) (by rw [hs]; exact nodesR_nums _ _ _ hN) e0 e1 F 0 (by omega) (by omega)
        rw [hs] at this
        exact this
      rw [cond_true, hE _ _ _ (by omega)]
      cases decide (Int.tmod f.seq 2 = 0) <;> cases f.released <;> cases edgesR f o.edges ns <;> rfl






theorem newerA_iff (a b : YState) : newerA a b = true ↔ b.boot < a.boot ∨ (a.boot = b.boot ∧ b.header < a.header) := by
  unfold newerA
  rw [Bool.or_eq_true, Bool.and_eq_true, decide_eq_true_eq, decide_eq_true_eq, decide_eq_true_eq]

theorem min_loop {R : Type} (l : List Int) (hl : l.length ≤ 1000) (e0 : Int → Option R) : ∀ (F i : Nat) (m : Int), i ≤ l.length → l.length - i < F →
    slices_Min_intint_5_0_L F l m (i : Int) e0 = e0 ((l.drop i).foldl min m) := by
  intro F
  induction F with
  | zero => intro i m _ hF; omega
  | succ F ih =>
    intro i m hi hF
    show slices_Min_intint_5_0_B (fun x0 x1 x2 => slices_Min_intint_5_0_L F x0 x1 x2 e0) l m (i : Int) e0 = _
    unfold slices_Min_intint_5_0_B
    by_cases h : i < l.length
    · have hg : l.getD (i : Int).toNat (Ty.dflt (.int .i64)) = l[i] := getD_at h _
      rw [dtrue (show (i : Int) < (l.length : Int) by omega), cond_true, chk_pos (half_range i), hg, step_i h (by omega)]
      dsimp only
      rw [ih (i + 1) _ (by omega) (by omega), List.drop_eq_getElem_cons h]
      rfl
    · rw [dfalse (show ¬ (i : Int) < (l.length : Int) by omega), cond_false, List.drop_eq_nil_of_le (by omega)]
      rfl
theorem min_ok {R : Type} (a : Int) (l : List Int) (hl : l.length ≤ 100) (k : Int → Option R) : slices_Min_intint (a :: l) k = k (l.foldl min a) := by
  unfold slices_Min_intint slices_Min_intint_X
  rw [dfalse (show ¬ (((a :: l).length : Nat) : Int) < 1 by simp only [List.length_cons]; omega), cond_false, chk_pos (dtrue (by simp only [List.length_cons]; omega))]
  have hg : (a :: l).getD 0 (Ty.dflt (.int .i64)) = a := rfl
  rw [hg]
  refine (min_loop (a :: l) (by simp only [List.length_cons]; omega) _ _ 1 a (by simp) (by simp only [List.length_cons]; omega)).trans ?_
  rfl
theorem max_loop {R : Type} (l : List Int) (hl : l.length ≤ 1000) (e0 : Int → Option R) : ∀ (F i : Nat) (m : Int), i ≤ l.length → l.length - i < F →
    slices_Max_intint_5_0_L F l m (i : Int) e0 = e0 ((l.drop i).foldl max m) := by
  intro F
  induction F with
  | zero => intro i m _ hF; omega
  | succ F ih =>
    intro i m hi hF
    show slices_Max_intint_5_0_B (fun x0 x1 x2 => slices_Max_intint_5_0_L F x0 x1 x2 e0) l m (i : Int) e0 = _
    unfold slices_Max_intint_5_0_B
    by_cases h : i < l.length
    · have hg : l.getD (i : Int).toNat (Ty.dflt (.int .i64)) = l[i] := getD_at h _
      rw [dtrue (show (i : Int) < (l.length : Int) by omega), cond_true, chk_pos (half_range i), hg, step_i h (by omega)]
      dsimp only
      rw [ih (i + 1) _ (by omega) (by omega), List.drop_eq_getElem_cons h]
      rfl
    · rw [dfalse (show ¬ (i : Int) < (l.length : Int) by omega), cond_false, List.drop_eq_nil_of_le (by omega)]
      rfl
theorem max_ok {R : Type} (a : Int) (l : List Int) (hl : l.length ≤ 100) (k : Int → Option R) : slices_Max_intint (a :: l) k = k (l.foldl max a) := by
  unfold slices_Max_intint slices_Max_intint_X
  rw [dfalse (show ¬ (((a :: l).length : Nat) : Int) < 1 by simp only [List.length_cons]; omega), cond_false, chk_pos (dtrue (by simp only [List.length_cons]; omega))]
  have hg : (a :: l).getD 0 (Ty.dflt (.int .i64)) = a := rfl
  rw [hg]
  refine (max_loop (a :: l) (by simp only [List.length_cons]; omega) _ _ 1 a (by simp) (by simp only [List.length_cons]; omega)).trans ?_
  rfl
theorem min_ge : ∀ (l : List Int) (a x : Int), x ≤ l.foldl min a ↔ x ≤ a ∧ ∀ y ∈ l, x ≤ y
  | [], a, x => by simp
  | b :: l, a, x => by
    rw [List.foldl_cons, min_ge l]
    simp only [List.mem_cons, forall_eq_or_imp]
    constructor
    · rintro ⟨h1, h2⟩; exact ⟨by omega, by omega, h2⟩
    · rintro ⟨h1, h2, h3⟩; exact ⟨by omega, h3⟩
theorem max_le : ∀ (l : List Int) (a x : Int), l.foldl max a ≤ x ↔ a ≤ x ∧ ∀ y ∈ l, y ≤ x
  | [], a, x => by simp
  | b :: l, a, x => by
    rw [List.foldl_cons, max_le l]
    simp only [List.mem_cons, forall_eq_or_imp]
    constructor
    · rintro ⟨h1, h2⟩; exact ⟨by omega, by omega, h2⟩
    · rintro ⟨h1, h2, h3⟩; exact ⟨by omega, h3⟩
theorem both_all (a : Int) (l : List Int) : (decide (l.foldl min a ≥ 0) && decide (l.foldl max a ≤ 1000000000)) = (a :: l).all numOk := by
  rw [Bool.eq_iff_iff, Bool.and_eq_true, decide_eq_true_eq, decide_eq_true_eq, ge_iff_le, min_ge, max_le, List.all_eq_true]
  simp only [List.mem_cons, forall_eq_or_imp, numOk_iff]
  constructor
  · rintro ⟨⟨h1, h2⟩, h3, h4⟩; exact ⟨⟨h1, h3⟩, fun y hy => ⟨h2 y hy, h4 y hy⟩⟩
  · rintro ⟨⟨h1, h3⟩, h2⟩; exact ⟨⟨h1, fun y hy => (h2 y hy).1⟩, h3, fun y hy => (h2 y hy).2⟩

theorem rightA_walk {R : Type} (s : YState) (k : Bool → Option R) : state_Right s k = k (rightA s) := by
  unfold state_Right state_Right_X
  rw [topicName_ok, min_ok _ _ (by simp), max_ok _ _ (by simp)]
  have hb := both_all s.header [s.boot, s.order, s.update, s.node, s.seq, s.accepted]
  have hr : rightA s = (nameOk s.vehicle && (([s.header, s.boot, s.order, s.update, s.node, s.seq, s.accepted] : List Int).all numOk && (decide (Int.tmod s.seq 2 = 0) && (s.live || !s.driving)))) := by
    unfold rightA
    simp only [List.all_cons, List.all_nil, Bool.and_true]
  rw [hr, ← hb, beq_dec]
  cases nameOk s.vehicle <;> cases decide (List.foldl min s.header [s.boot, s.order, s.update, s.node, s.seq, s.accepted] ≥ 0) <;> cases decide (List.foldl max s.header [s.boot, s.order, s.update, s.node, s.seq, s.accepted] ≤ 1000000000) <;> cases decide (Int.tmod s.seq 2 = 0) <;> cases s.live <;> rfl
def cmpI (x y : Int) : Int := if x < y then -1 else if x > y then 1 else 0
theorem cmpI_ok {R : Type} (x y : Int) (k : Int → Option R) : cmp_Compare_int x y k = k (cmpI x y) := by
  unfold cmp_Compare_int cmp_Compare_int_X cmp_isNaN_int cmp_isNaN_int_X cmpI
  have hx : (x != x) = false := by simp
  have hy : (y != y) = false := by simp
  rw [hx, hy]
  dsimp only
  rw [cond_false, cond_false]
  by_cases h1 : x < y
  · rw [dtrue h1, if_pos h1]; rfl
  · rw [dfalse h1, if_neg h1, cond_false]
    by_cases h2 : x > y
    · rw [dtrue h2, if_pos h2]; rfl
    · rw [dfalse h2, if_neg h2]; rfl
theorem or_loop {R : Type} (l : List Int) (hl : l.length ≤ 1000) (e0 : Int → Option R) (e1 : Int → Int → Option R) : ∀ (F i : Nat), i ≤ l.length → l.length - i < F →
    cmp_Or_int_3_0_L F 0 l (l.length : Int) (i : Int) e0 e1 = match (l.drop i).find? (· != 0) with | some x => e1 x 0 | none => e0 0 := by
  intro F
  induction F with
  | zero => intro i _ hF; omega
  | succ F ih =>
    intro i hi hF
    show cmp_Or_int_3_0_B (fun x0 x1 x2 x3 => cmp_Or_int_3_0_L F x0 x1 x2 x3 e0 e1) 0 l (l.length : Int) (i : Int) e0 e1 = _
    unfold cmp_Or_int_3_0_B
    by_cases h : i < l.length
    · have hg : l.getD (i : Int).toNat (Ty.dflt (.int .i64)) = l[i] := getD_at h _
      rw [dtrue (show (i : Int) < (l.length : Int) by omega), cond_true, chk_pos (half_range i), hg, step_i h (by omega)]
      dsimp only
      rw [ih (i + 1) (by omega) (by omega), List.drop_eq_getElem_cons h, List.find?_cons]
      cases l[i] != 0 <;> rfl
    · rw [dfalse (show ¬ (i : Int) < (l.length : Int) by omega), cond_false, List.drop_eq_nil_of_le (by omega)]
      rfl
theorem or_ok {R : Type} (a b : Int) (k : Int → Option R) : cmp_Or_int [a, b] k = k (if a ≠ 0 then a else b) := by
  unfold cmp_Or_int cmp_Or_int_X
  refine (or_loop [a, b] (by simp) _ _ _ 0 (by simp) (by simp only [List.length_cons, List.length_nil]; omega)).trans ?_
  rw [List.drop_zero, List.find?_cons, List.find?_cons, bne_cond, bne_cond]
  by_cases h1 : a = 0
  · rw [dtrue h1, if_neg (by simp [h1])]
    by_cases h2 : b = 0
    · rw [dtrue h2, h2]; rfl
    · rw [dfalse h2]; rfl
  · rw [dfalse h1, if_pos h1]; rfl
theorem newerA_walk {R : Type} (a b : YState) (k : Bool → Option R) : state_Newer a b k = k (newerA a b) := by
  unfold state_Newer state_Newer_X
  rw [cmpI_ok, cmpI_ok, or_ok]
  congr 1
  rw [Bool.eq_iff_iff, newerA_iff, decide_eq_true_eq]
  unfold cmpI
  split <;> split <;> (try split) <;> (try split) <;> omega

structure RawA (s : YState) : Prop where
  header : I64 s.header
  boot : I64 s.boot
  order : I64 s.order
  update : I64 s.update
  node : I64 s.node
  seq : I64 s.seq
  accepted : I64 s.accepted
  name : s.vehicle.length ≤ 1099511627776



abbrev YCtl := Yard.Ctl
theorem anyT_same {R : Type} (a : Option R) : anyT a a = a := by unfold anyT; exact if_pos rfl
theorem cloneI {R : Type} (l : List Int) (h : l.length ≤ 1099511627776) (k : List Int → Option R) : slices_Clone_intint l k = k l := by
  show (bif l.isEmpty then (anyT (k ([] : List Int)) (chk (decide ((0 + l.length) * 8 ≤ 140737488355328)) (k (([] : List Int) ++ l)))) else (chk (decide ((0 + l.length) * 8 ≤ 140737488355328)) (k (([] : List Int) ++ l)))) = _
  rw [dtrue (by omega), chk_pos rfl, List.nil_append]
  cases l with
  | nil => exact anyT_same _
  | cons x l => rfl
theorem cloneS {R : Type} (l : List Stop) (h : l.length ≤ 1099511627776) (k : List Stop → Option R) : slices_Clone_StopStop l k = k l := by
  show (bif l.isEmpty then (anyT (k ([] : List Stop)) (chk (decide ((0 + l.length) * 24 ≤ 140737488355328)) (k (([] : List Stop) ++ l)))) else (chk (decide ((0 + l.length) * 24 ≤ 140737488355328)) (k (([] : List Stop) ++ l)))) = _
  rw [dtrue (by omega), chk_pos rfl, List.nil_append]
  cases l with
  | nil => exact anyT_same _
  | cons x l => rfl
theorem cloneW {R : Type} (l : List Yard.Way) (h : l.length ≤ 1099511627776) (k : List Yard.Way → Option R) : slices_Clone_WayWay l k = k l := by
  show (bif l.isEmpty then (anyT (k ([] : List Yard.Way)) (chk (decide ((0 + l.length) * 24 ≤ 140737488355328)) (k (([] : List Yard.Way) ++ l)))) else (chk (decide ((0 + l.length) * 24 ≤ 140737488355328)) (k (([] : List Yard.Way) ++ l)))) = _
  rw [dtrue (by omega), chk_pos rfl, List.nil_append]
  cases l with
  | nil => exact anyT_same _
  | cons x l => rfl
structure ShortO (o : Order) : Prop where
  nodes : o.nodes.length ≤ 1099511627776
  edges : o.edges.length ≤ 1099511627776
  name : o.vehicle.length ≤ 1099511627776
structure ShortC (c : YCtl) : Prop where
  path : c.path.length ≤ 1099511627776
  name : c.vehicle.length ≤ 1099511627776
  pend : ShortO c.pending
theorem fresh_ok {R : Type} (o : Order) (h : ShortO o) (k : Order → Option R) : fleet_fresh o k = k o := by
  unfold fleet_fresh fleet_fresh_X
  rw [cloneS _ h.nodes, cloneW _ h.edges]
theorem own_ok {R : Type} (c : YCtl) (h : ShortC c) (k : YCtl → Option R) : fleet_own c k = k c := by
  unfold fleet_own fleet_own_X
  rw [cloneI _ h.path, fresh_ok _ h.pend]

def pathF : Nat → List Int → Bool
  | _, [] => true
  | i, x :: r => decide (0 ≤ x) && (decide (1000 ≤ x) == decide (i % 2 = 1)) && pathF (i + 1) r
theorem pathF_cons (i : Nat) (x : Int) (r : List Int) : pathF i (x :: r) = (decide (0 ≤ x) && (decide (1000 ≤ x) == decide (i % 2 = 1)) && pathF (i + 1) r) := rfl
def pathB (l : List Int) : Bool := pathF 0 l && decide (l.length % 2 = 1)
theorem odd_i (i : Nat) : (Int.tmod (i : Int) 2 == 1) = decide (i % 2 = 1) := by
  rw [show Int.tmod (i : Int) 2 = ((i % 2 : Nat) : Int) from rfl, beq_dec]
  by_cases h : i % 2 = 1
  · rw [dtrue h, dtrue (by omega)]
  · rw [dfalse h, dfalse (by omega)]
theorem even_i (i : Nat) : (Int.tmod (i : Int) 2 == 0) = decide (i % 2 = 0) := by
  rw [show Int.tmod (i : Int) 2 = ((i % 2 : Nat) : Int) from rfl, beq_dec]
  by_cases h : i % 2 = 0
  · rw [dtrue h, dtrue (by omega)]
  · rw [dfalse h, dfalse (by omega)]
theorem path_loop {R : Type} (l : List Int) (hl : l.length ≤ 1099511627776) (e0 : List Int → Option R) (e1 : List Int → Bool → Option R) : ∀ (F i : Nat), i ≤ l.length → l.length - i < F →
    fleet_isPath_2_0_L F l l (l.length : Int) (i : Int) e0 e1 = bif pathF i (l.drop i) then e0 l else e1 l false := by
  intro F
  induction F with
  | zero => intro i _ h; omega
  | succ F ih =>
    intro i hi hF
    show fleet_isPath_2_0_B (fun a b c d => fleet_isPath_2_0_L F a b c d e0 e1) l l (l.length : Int) (i : Int) e0 e1 = _
    unfold fleet_isPath_2_0_B
    by_cases h : i < l.length
    · have hg : l.getD (i : Int).toNat (Ty.dflt (.int .i64)) = l[i] := getD_at h _
      rw [in_range h, chk_pos rfl, dtrue (show (i : Int) < (l.length : Int) by omega), cond_true, hg, step_i h (by omega), odd_i, List.drop_eq_getElem_cons h]
      dsimp only
      rw [ih (i + 1) (by omega) (by omega)]
      rw [pathF_cons]
      by_cases h1 : l[i] < 0
      · rw [dtrue h1, dfalse (show ¬ 0 ≤ l[i] by omega)]; rfl
      · rw [dfalse h1, dtrue (show 0 ≤ l[i] by omega), cond_false]
        have e2 : decide (l[i] ≥ 1000) = decide (1000 ≤ l[i]) := rfl
        rw [e2]
        cases decide (1000 ≤ l[i]) == decide (i % 2 = 1) <;> rfl
    · rw [dfalse (show ¬ (i : Int) < (l.length : Int) by omega), cond_false, List.drop_eq_nil_of_le (by omega)]
      rfl
theorem isPath_ok {R : Type} (l : List Int) (hl : l.length ≤ 1099511627776) (k : Bool → Option R) : fleet_isPath l k = k (pathB l) := by
  unfold fleet_isPath fleet_isPath_X pathB
  refine (path_loop l hl _ _ _ 0 (by omega) (by omega)).trans ?_
  rw [List.drop_zero, odd_i]
  cases pathF 0 l <;> rfl
def rightC (c : YCtl) : Bool := pathB c.path && decide (c.rel ≥ 0)
theorem rightC_ok {R : Type} (c : YCtl) (h : ShortC c) (k : Bool → Option R) : fleet_right c k = k (rightC c) := by
  unfold fleet_right fleet_right_X rightC
  rw [isPath_ok _ h.path]
  cases pathB c.path <;> rfl

def eqN : List Int → List Int → Bool
  | [], [] => true
  | x :: l, y :: m => decide (x = y) && eqN l m
  | _, _ => false
theorem eqN_cons (x y : Int) (l m : List Int) : eqN (x :: l) (y :: m) = (decide (x = y) && eqN l m) := rfl
theorem eqN_iff : ∀ {a b : List Int}, eqN a b = true ↔ a = b
  | [], [] => by simp [eqN]
  | [], _ :: _ => by simp [eqN]
  | _ :: _, [] => by simp [eqN]
  | x :: l, y :: m => by simp [eqN, eqN_iff (a := l) (b := m)]
theorem eqN_len {a b : List Int} (h : a.length ≠ b.length) : eqN a b = false := Bool.eq_false_iff.2 fun e => h (by rw [eqN_iff.1 e])
theorem eqN_loop {R : Type} (a b : List Int) (hl : a.length = b.length) (ha : a.length ≤ 1099511627776) (e0 : Option R) (e1 : Bool → Option R) : ∀ (F i : Nat), i ≤ a.length → a.length - i < F →
    slices_Equal_intint_4_0_L F a b (a.length : Int) (i : Int) e0 e1 = bif eqN (a.drop i) (b.drop i) then e0 else e1 false := by
  intro F
  induction F with
  | zero => intro i _ hF; omega
  | succ F ih =>
    intro i hi hF
    show slices_Equal_intint_4_0_B (fun x0 x1 x2 x3 => slices_Equal_intint_4_0_L F x0 x1 x2 x3 e0 e1) a b (a.length : Int) (i : Int) e0 e1 = _
    unfold slices_Equal_intint_4_0_B
    by_cases h : i < a.length
    · have h' : i < b.length := by omega
      have hg : a.getD (i : Int).toNat (Ty.dflt (.int .i64)) = a[i] := getD_at h _
      have hg' : b.getD (i : Int).toNat (Ty.dflt (.int .i64)) = b[i] := getD_at h' _
      rw [in_range h, in_range h', chk_pos rfl, chk_pos rfl, dtrue (show (i : Int) < (a.length : Int) by omega), cond_true, hg, hg', step_i h (by omega), List.drop_eq_getElem_cons h, List.drop_eq_getElem_cons h', bne_cond]
      dsimp only
      rw [ih (i + 1) (by omega) (by omega)]
      rw [eqN_cons]
      cases decide (a[i] = b[i]) <;> rfl
    · rw [dfalse (show ¬ (i : Int) < (a.length : Int) by omega), cond_false, List.drop_eq_nil_of_le (by omega), List.drop_eq_nil_of_le (by omega)]
      rfl
theorem eqN_ok {R : Type} (a b : List Int) (ha : a.length ≤ 1099511627776) (k : Bool → Option R) : slices_Equal_intint a b k = k (eqN a b) := by
  unfold slices_Equal_intint slices_Equal_intint_X
  by_cases h : a.length = b.length
  · rw [bne_cond, dtrue (show (a.length : Int) = (b.length : Int) by omega), Bool.not_true, cond_false]
    refine (eqN_loop a b h ha _ _ _ 0 (by omega) (by omega)).trans ?_
    rw [List.drop_zero, List.drop_zero]
    cases eqN a b <;> rfl
  · rw [bne_cond, dfalse (show ¬ (a.length : Int) = (b.length : Int) by omega), Bool.not_false, cond_true, eqN_len h]
theorem ints_loop {R : Type} (a b : List Int) (hl : a.length = b.length) (ha : a.length ≤ 1099511627776) (e0 : Option R) (e1 : Bool → Option R) : ∀ (F i : Nat), i ≤ a.length → a.length - i < F →
    law11_Ints_4_0_L F a b (i : Int) e0 e1 = bif eqN (a.drop i) (b.drop i) then e0 else e1 false := by
  intro F
  induction F with
  | zero => intro i _ hF; omega
  | succ F ih =>
    intro i hi hF
    show law11_Ints_4_0_B (fun x0 x1 x2 => law11_Ints_4_0_L F x0 x1 x2 e0 e1) a b (i : Int) e0 e1 = _
    unfold law11_Ints_4_0_B
    by_cases h : i < a.length
    · have h' : i < b.length := by omega
      have hg : a.getD (i : Int).toNat (Ty.dflt (.int .i64)) = a[i] := getD_at h _
      have hg' : b.getD (i : Int).toNat (Ty.dflt (.int .i64)) = b[i] := getD_at h' _
      rw [in_range h, in_range h', chk_pos rfl, chk_pos rfl, dtrue (show (i : Int) < (a.length : Int) by omega), cond_true, hg, hg', step_i h (by omega), List.drop_eq_getElem_cons h, List.drop_eq_getElem_cons h', bne_cond]
      dsimp only
      rw [ih (i + 1) (by omega) (by omega)]
      rw [eqN_cons]
      cases decide (a[i] = b[i]) <;> rfl
    · rw [dfalse (show ¬ (i : Int) < (a.length : Int) by omega), cond_false, List.drop_eq_nil_of_le (by omega), List.drop_eq_nil_of_le (by omega)]
      rfl
theorem ints_ok {R : Type} (a b : List Int) (ha : a.length ≤ 1099511627776) (k : Bool → Option R) : law11_Ints a b k = k (eqN a b) := by
  unfold law11_Ints law11_Ints_X
  by_cases h : a.length = b.length
  · rw [bne_cond, dtrue (show (a.length : Int) = (b.length : Int) by omega), Bool.not_true, cond_false]
    refine (ints_loop a b h ha _ _ _ 0 (by omega) (by omega)).trans ?_
    rw [List.drop_zero, List.drop_zero]
    cases eqN a b <;> rfl
  · rw [bne_cond, dfalse (show ¬ (a.length : Int) = (b.length : Int) by omega), Bool.not_false, cond_true, eqN_len h]
def sameC (a b : YCtl) : Bool := eqN a.path b.path && (sameO a.pending b.pending && ((a.vehicle == b.vehicle) && ((a.header == b.header && (a.order == b.order && (a.update == b.update && (a.boot == b.boot && (a.seen == b.seen && (a.seq == b.seq && (a.rel == b.rel && true))))))) && ((a.open_ == b.open_) && (a.wait == b.wait)))))
theorem sameC_self (a : YCtl) : sameC a a = true := by
  unfold sameC
  rw [sameO_self, eqN_iff.2 rfl]
  simp
theorem sameC_ok {R : Type} (a b : YCtl) (h : ShortC a) (k : Bool → Option R) : fleet_Same a b k = k (sameC a b) := by
  unfold fleet_Same fleet_Same_X fleet_Same_1 fleet_Same_1_X sameC
  rw [eqN_ok _ _ h.path, orderSame_ok _ _ h.pend.nodes h.pend.edges]
  cases eqN a.path b.path <;> cases sameO a.pending b.pending <;> cases a.vehicle == b.vehicle <;> try rfl
  dsimp only
  cases (a.header == b.header && (a.order == b.order && (a.update == b.update && (a.boot == b.boot && (a.seen == b.seen && (a.seq == b.seq && (a.rel == b.rel && true))))))) <;> cases a.open_ == b.open_ <;> rfl

def stopsP (seq rel : Int) : Nat → List Int → List Stop
  | _, [] => []
  | i, x :: r => bif decide (i % 2 = 1) then stopsP seq rel (i + 1) r else ⟨x, IntKind.i64.wrap (seq + (i : Int)), decide (((i - i / 2 : Nat) : Int) < rel)⟩ :: stopsP seq rel (i + 1) r
def waysP (seq rel : Int) : Nat → List Int → List Yard.Way
  | _, [] => []
  | i, x :: r => bif decide (i % 2 = 1) then ⟨IntKind.i64.wrap (x - 1000), IntKind.i64.wrap (seq + (i : Int)), decide (((i - i / 2 : Nat) : Int) < rel)⟩ :: waysP seq rel (i + 1) r else waysP seq rel (i + 1) r
theorem stopsP_cons (seq rel : Int) (i : Nat) (x : Int) (r : List Int) : stopsP seq rel i (x :: r) = bif decide (i % 2 = 1) then stopsP seq rel (i + 1) r else ⟨x, IntKind.i64.wrap (seq + (i : Int)), decide (((i - i / 2 : Nat) : Int) < rel)⟩ :: stopsP seq rel (i + 1) r := rfl
theorem waysP_cons (seq rel : Int) (i : Nat) (x : Int) (r : List Int) : waysP seq rel i (x :: r) = bif decide (i % 2 = 1) then ⟨IntKind.i64.wrap (x - 1000), IntKind.i64.wrap (seq + (i : Int)), decide (((i - i / 2 : Nat) : Int) < rel)⟩ :: waysP seq rel (i + 1) r else waysP seq rel (i + 1) r := rfl
theorem stopsP_len (seq rel : Int) : ∀ (l : List Int) (i : Nat), (stopsP seq rel i l).length ≤ l.length
  | [], _ => Nat.le_refl _
  | x :: r, i => by
    have := stopsP_len seq rel r (i + 1)
    rw [stopsP_cons]
    cases decide (i % 2 = 1) <;> simp only [cond_true, cond_false, List.length_cons] <;> omega
theorem waysP_len (seq rel : Int) : ∀ (l : List Int) (i : Nat), (waysP seq rel i l).length ≤ l.length
  | [], _ => Nat.le_refl _
  | x :: r, i => by
    have := waysP_len seq rel r (i + 1)
    rw [waysP_cons]
    cases decide (i % 2 = 1) <;> simp only [cond_true, cond_false, List.length_cons] <;> omega
def orderP (h : Order) (l : List Int) (seq rel : Int) : Order := ⟨h.header, h.vehicle, h.order, h.update, stopsP seq rel 0 (l.take 127), waysP seq rel 0 (l.take 127)⟩
def zeroP : Order := ⟨0, [], 0, 0, [], []⟩
def walkP (h : Order) (l : List Int) (seq rel : Int) : Order × Bool := bif pathB l && rightO (orderP h l seq rel) then (orderP h l seq rel, true) else (zeroP, false)
theorem orderP_short (h : Order) (hv : h.vehicle.length ≤ 1099511627776) (l : List Int) (seq rel : Int) : ShortO (orderP h l seq rel) := by
  have h1 := stopsP_len seq rel (l.take 127) 0
  have h2 := waysP_len seq rel (l.take 127) 0
  rw [List.length_take] at h1 h2
  exact ⟨by show (stopsP seq rel 0 (l.take 127)).length ≤ _; omega, by show (waysP seq rel 0 (l.take 127)).length ≤ _; omega, hv⟩
theorem zeroP_short : ShortO zeroP := ⟨Nat.zero_le _, Nat.zero_le _, Nat.zero_le _⟩
theorem walkP_short (h : Order) (hv : h.vehicle.length ≤ 1099511627776) (l : List Int) (seq rel : Int) : ShortO (walkP h l seq rel).1 := by
  unfold walkP
  cases pathB l && rightO (orderP h l seq rel)
  · exact zeroP_short
  · exact orderP_short h hv l seq rel

theorem wpath_loop {R : Type} (l : List Int) (hl : l.length ≤ 1099511627776) (e0 : List Int → Option R) (e1 : List Int → Bool → Option R) : ∀ (F i : Nat), i ≤ l.length → l.length - i < F →
    walk_isPath_2_0_L F l l (l.length : Int) (i : Int) e0 e1 = bif pathF i (l.drop i) then e0 l else e1 l false := by
  intro F
  induction F with
  | zero => intro i _ h; omega
  | succ F ih =>
    intro i hi hF
    show walk_isPath_2_0_B (fun a b c d => walk_isPath_2_0_L F a b c d e0 e1) l l (l.length : Int) (i : Int) e0 e1 = _
    unfold walk_isPath_2_0_B
    by_cases h : i < l.length
    · have hg : l.getD (i : Int).toNat (Ty.dflt (.int .i64)) = l[i] := getD_at h _
      rw [in_range h, chk_pos rfl, dtrue (show (i : Int) < (l.length : Int) by omega), cond_true, hg, step_i h (by omega), odd_i, List.drop_eq_getElem_cons h]
      dsimp only
      rw [ih (i + 1) (by omega) (by omega)]
      rw [pathF_cons]
      by_cases h1 : l[i] < 0
      · rw [dtrue h1, dfalse (show ¬ 0 ≤ l[i] by omega)]; rfl
      · rw [dfalse h1, dtrue (show 0 ≤ l[i] by omega), cond_false]
        have e2 : decide (l[i] ≥ 1000) = decide (1000 ≤ l[i]) := rfl
        rw [e2]
        cases decide (1000 ≤ l[i]) == decide (i % 2 = 1) <;> rfl
    · rw [dfalse (show ¬ (i : Int) < (l.length : Int) by omega), cond_false, List.drop_eq_nil_of_le (by omega)]
      rfl
theorem wpath_ok {R : Type} (l : List Int) (hl : l.length ≤ 1099511627776) (k : Bool → Option R) : walk_isPath l k = k (pathB l) := by
  unfold walk_isPath walk_isPath_X pathB
  refine (wpath_loop l hl _ _ _ 0 (by omega) (by omega)).trans ?_
  rw [List.drop_zero, odd_i]
  cases pathF 0 l <;> rfl

theorem half_i {i : Nat} (h : i < 200) : IntKind.i64.wrap ((i : Int) - IntKind.i64.wrap (Int.tdiv (i : Int) 2)) = ((i - i / 2 : Nat) : Int) := by
  have e : Int.tdiv (i : Int) 2 = ((i / 2 : Nat) : Int) := rfl
  rw [e, wrap_id (n := ((i / 2 : Nat) : Int)) (by omega) (by omega), wrap_id (by omega) (by omega)]
  omega
theorem walk_loop {R : Type} (seq rel : Int) (m : List Int) (hm : m.length ≤ 127) (a1 : Int) (s1 : Str) (a2 a3 h : Int) (v : Str) (o u : Int) (e0 : Int → Str → Int → Int → Int → Str → Int → Int → List Stop → List Yard.Way → Option R) : ∀ (F i : Nat) (ns : List Stop) (es : List Yard.Way), i ≤ m.length → m.length - i < F → ns.length ≤ i → es.length ≤ i →
    walk_Order_6_0_L F seq rel m (m.length : Int) (i : Int) a1 s1 a2 a3 h v o u ns es e0 = e0 a1 s1 a2 a3 h v o u (ns ++ stopsP seq rel i (m.drop i)) (es ++ waysP seq rel i (m.drop i)) := by
  intro F
  induction F with
  | zero => intro i _ _ _ hF; omega
  | succ F ih =>
    intro i ns es hi hF hns hes
    show walk_Order_6_0_B (fun a b c d g b1 b2 b3 b4 b5 b6 b7 b8 b9 b10 => walk_Order_6_0_L F a b c d g b1 b2 b3 b4 b5 b6 b7 b8 b9 b10 e0) seq rel m (m.length : Int) (i : Int) a1 s1 a2 a3 h v o u ns es e0 = _
    unfold walk_Order_6_0_B
    by_cases hlt : i < m.length
    · have hg : m.getD (i : Int).toNat (Ty.dflt (.int .i64)) = m[i] := getD_at hlt _
      rw [in_range hlt, chk_pos rfl, dtrue (show (i : Int) < (m.length : Int) by omega), cond_true, hg, step_i hlt (by omega), odd_i, half_i (by omega), List.drop_eq_getElem_cons hlt, stopsP_cons, waysP_cons]
      cases decide (i % 2 = 1) with
      | true =>
        rw [cond_true, cond_true, cond_true, dtrue (by omega), chk_pos rfl]
        refine (ih (i + 1) _ _ (by omega) (by omega) (by omega) (by rw [List.length_append]; simp only [List.length_cons, List.length_nil]; omega)).trans ?_
        rw [List.append_assoc]; rfl
      | false =>
        rw [cond_false, cond_false, cond_false, dtrue (by omega), chk_pos rfl]
        refine (ih (i + 1) _ _ (by omega) (by omega) (by rw [List.length_append]; simp only [List.length_cons, List.length_nil]; omega) (by omega)).trans ?_
        rw [List.append_assoc]; rfl
    · rw [dfalse (show ¬ (i : Int) < (m.length : Int) by omega), cond_false, List.drop_eq_nil_of_le (by omega)]
      show _ = e0 a1 s1 a2 a3 h v o u (ns ++ []) (es ++ [])
      rw [List.append_nil, List.append_nil]
theorem walkOrder_ok {R : Type} (h : Order) (l : List Int) (hl : l.length ≤ 1099511627776) (seq rel : Int) (k : Order → Bool → Option R) : walk_Order h l seq rel k = k (walkP h l seq rel).1 (walkP h l seq rel).2 := by
  unfold walk_Order walk_Order_X walkP
  rw [wpath_ok l hl]
  cases pathB l with
  | false => rfl
  | true =>
    have e1 : min (l.length : Int) 127 = ((min l.length 127 : Nat) : Int) := by omega
    have e2 : List.take ((min (l.length : Int) 127).toNat - 0) (List.drop 0 l) = l.take 127 := by
      rw [e1, List.drop_zero, Nat.sub_zero, Int.toNat_natCast]
      by_cases hc : l.length ≤ 127
      · rw [Nat.min_eq_left hc, List.take_of_length_le (Nat.le_refl _), List.take_of_length_le hc]
      · rw [Nat.min_eq_right (by omega)]
    rw [Bool.not_true, cond_false, Bool.true_and, e2, e1, dtrue (by omega), dtrue (by omega), chk_pos rfl, Bool.and_self, chk_pos rfl]
    have hm : (l.take 127).length ≤ 127 := by rw [List.length_take]; omega
    refine (walk_loop seq rel (l.take 127) hm _ _ _ _ _ _ _ _ _ _ 0 [] [] (by omega) (by omega) (Nat.le_refl _) (Nat.le_refl _)).trans ?_
    rw [List.drop_zero, List.nil_append, List.nil_append]
    have hs := stopsP_len seq rel (l.take 127) 0
    refine (orderRight_ok (orderP h l seq rel) (by show (stopsP seq rel 0 (l.take 127)).length ≤ _; omega) _).trans ?_
    cases rightO (orderP h l seq rel) <;> rfl

theorem rpath_loop {R : Type} (l : List Int) (hl : l.length ≤ 1099511627776) (seq rel : Int) (h : Order) (a1 : Int) (s1 : Str) (a2 a3 : Int) (e0 : List Int → Int → Int → Order → Int → Str → Int → Int → Option R) (e1 : List Int → Int → Int → Bool → Order → Int → Str → Int → Int → Option R) : ∀ (F i : Nat), i ≤ l.length → l.length - i < F →
    ref13_Order_4_0_L F l seq rel (i : Int) h a1 s1 a2 a3 e0 e1 = bif pathF i (l.drop i) then e0 l seq rel h a1 s1 a2 a3 else e1 l seq rel false h 0 [] 0 0 := by
  intro F
  induction F with
  | zero => intro i _ hF; omega
  | succ F ih =>
    intro i hi hF
    show ref13_Order_4_0_B (fun a b c d g b1 b2 b3 b4 => ref13_Order_4_0_L F a b c d g b1 b2 b3 b4 e0 e1) l seq rel (i : Int) h a1 s1 a2 a3 e0 e1 = _
    unfold ref13_Order_4_0_B
    by_cases hlt : i < l.length
    · have hg : l.getD (i : Int).toNat (Ty.dflt (.int .i64)) = l[i] := getD_at hlt _
      have ct : ∀ a : Option R, chk true a = a := fun _ => rfl
      rw [in_range hlt]
      simp only [ct]
      rw [dtrue (show (i : Int) < (l.length : Int) by omega), cond_true, hg, step_i hlt (by omega), odd_i, even_i, List.drop_eq_getElem_cons hlt, pathF_cons]
      rw [ih (i + 1) (by omega) (by omega)]
      by_cases ho : i % 2 = 1
      · rw [dtrue ho, dfalse (show ¬ i % 2 = 0 by omega), cond_false, cond_true]
        by_cases h1 : l[i] < 1000
        · rw [dtrue h1, dfalse (show ¬ 1000 ≤ l[i] by omega)]
          cases decide (0 ≤ l[i]) <;> rfl
        · rw [dfalse h1, dtrue (show 1000 ≤ l[i] by omega), dtrue (show 0 ≤ l[i] by omega)]; rfl
      · rw [dfalse ho, dtrue (show i % 2 = 0 by omega), cond_true]
        by_cases h1 : l[i] < 0
        · rw [dtrue h1, dfalse (show ¬ 0 ≤ l[i] by omega)]; rfl
        · rw [dfalse h1, dtrue (show 0 ≤ l[i] by omega)]
          by_cases h2 : 1000 ≤ l[i]
          · rw [dtrue (show l[i] ≥ 1000 from h2)]; rfl
          · rw [dfalse (show ¬ l[i] ≥ 1000 from h2)]; rfl
    · rw [dfalse (show ¬ (i : Int) < (l.length : Int) by omega), cond_false, List.drop_eq_nil_of_le (by omega)]
      rfl
theorem half_e {i : Nat} (h : i < 200) (he : i % 2 = 0) : IntKind.i64.wrap (Int.tdiv (i : Int) 2) = ((i - i / 2 : Nat) : Int) := by
  have e : Int.tdiv (i : Int) 2 = ((i / 2 : Nat) : Int) := rfl
  rw [e, wrap_id (by omega) (by omega)]
  omega
theorem half_o {i : Nat} (h : i < 200) (he : i % 2 = 1) : IntKind.i64.wrap (Int.tdiv ((i + 1 : Nat) : Int) 2) = ((i - i / 2 : Nat) : Int) := by
  have e : Int.tdiv ((i + 1 : Nat) : Int) 2 = (((i + 1) / 2 : Nat) : Int) := rfl
  rw [e, wrap_id (by omega) (by omega)]
  omega
theorem rwalk_loop {R : Type} (seq rel : Int) (l : List Int) (hl : l.length ≤ 1099511627776) (a1 : Int) (s1 : Str) (a2 a3 h : Int) (v : Str) (o u : Int) (e0 : Int → Str → Int → Int → Int → Str → Int → Int → List Stop → List Yard.Way → Option R) : ∀ (F i : Nat) (ns : List Stop) (es : List Yard.Way), i ≤ (l.take 127).length → (l.take 127).length - i < F → ns.length ≤ i → es.length ≤ i →
    ref13_Order_10_0_L F l seq rel (i : Int) a1 s1 a2 a3 h v o u ns es e0 = e0 a1 s1 a2 a3 h v o u (ns ++ stopsP seq rel i ((l.take 127).drop i)) (es ++ waysP seq rel i ((l.take 127).drop i)) := by
  intro F
  induction F with
  | zero => intro i _ _ _ hF; omega
  | succ F ih =>
    intro i ns es hi hF hns hes
    show ref13_Order_10_0_B (fun a b c d b1 b2 b3 b4 b5 b6 b7 b8 b9 b10 => ref13_Order_10_0_L F a b c d b1 b2 b3 b4 b5 b6 b7 b8 b9 b10 e0) l seq rel (i : Int) a1 s1 a2 a3 h v o u ns es e0 = _
    unfold ref13_Order_10_0_B
    have hlen : (l.take 127).length = min 127 l.length := List.length_take
    by_cases hlt : i < (l.take 127).length
    · have hll : i < l.length := by omega
      have hg : l.getD (i : Int).toNat (Ty.dflt (.int .i64)) = l[i] := getD_at hll _
      have hm : (l.take 127)[i] = l[i] := List.getElem_take ..
      rw [in_range hll, dtrue (show (i : Int) < (l.length : Int) by omega), cond_true, dtrue (show (i : Int) < 127 by omega), cond_true, hg, step_i hll (by omega), even_i, List.drop_eq_getElem_cons hlt, stopsP_cons, waysP_cons, hm]
      by_cases ho : i % 2 = 1
      · rw [dtrue ho, dfalse (show ¬ i % 2 = 0 by omega), cond_false, cond_true, cond_true, half_o (by omega) ho, chk_pos rfl, dtrue (by omega), chk_pos rfl]
        refine (ih (i + 1) _ _ (by omega) (by omega) (by omega) (by rw [List.length_append]; simp only [List.length_cons, List.length_nil]; omega)).trans ?_
        rw [List.append_assoc]; rfl
      · rw [dfalse ho, dtrue (show i % 2 = 0 by omega), cond_true, cond_false, cond_false, half_e (by omega) (by omega), chk_pos rfl, dtrue (by omega), chk_pos rfl]
        refine (ih (i + 1) _ _ (by omega) (by omega) (by rw [List.length_append]; simp only [List.length_cons, List.length_nil]; omega) (by omega)).trans ?_
        rw [List.append_assoc]; rfl
    · rw [List.drop_eq_nil_of_le (by omega)]
      show _ = e0 a1 s1 a2 a3 h v o u (ns ++ []) (es ++ [])
      rw [List.append_nil, List.append_nil]
      by_cases h1 : (i : Int) < (l.length : Int)
      · rw [dtrue h1, cond_true, dfalse (show ¬ (i : Int) < 127 by omega), cond_false]
      · rw [dfalse h1, cond_false]
theorem rwalk_ok {R : Type} (h : Order) (hv : h.vehicle.length ≤ 1099511627776) (l : List Int) (hl : l.length ≤ 1099511627776) (seq rel : Int) (k : Order → Bool → Option R) : ref13_Order h l seq rel k = k (walkP h l seq rel).1 (walkP h l seq rel).2 := by
  unfold ref13_Order ref13_Order_X walkP
  rw [even_i]
  unfold pathB
  by_cases ho : l.length % 2 = 0
  · rw [dtrue ho, cond_true, dfalse (show ¬ l.length % 2 = 1 by omega), Bool.and_false]
    rfl
  · rw [dfalse ho, cond_false, dtrue (show l.length % 2 = 1 by omega), Bool.and_true]
    refine (rpath_loop l hl seq rel h _ _ _ _ _ _ _ 0 (by omega) (by omega)).trans ?_
    rw [List.drop_zero]
    cases pathF 0 l with
    | false => rfl
    | true =>
      rw [cond_true, Bool.true_and]
      have hm : (l.take 127).length ≤ l.length := by rw [List.length_take]; omega
      refine (rwalk_loop seq rel l hl _ _ _ _ _ _ _ _ _ _ 0 [] [] (by omega) (by omega) (Nat.le_refl _) (Nat.le_refl _)).trans ?_
      rw [List.drop_zero, List.nil_append, List.nil_append]
      have hs := stopsP_len seq rel (l.take 127) 0
      refine (rright8 (orderP h l seq rel) (by show (stopsP seq rel 0 (l.take 127)).length ≤ _; omega) hv _).trans ?_
      cases rightO (orderP h l seq rel) <;> rfl

theorem pickV {R : Type} (c n : Int) (hc : (-9223372036854775808 : Int) ≤ c ∧ c ≤ 9223372036854775807) (h0 : 0 < n) (hn : n ≤ 9223372036854775807) : ∃ r : Nat, (r : Int) < n ∧ (∀ k : Int → Option R, law11_pick c n k = k (r : Int)) ∧ (∀ k : Int → Option R, law13_pick c n k = k (r : Int)) ∧ (∀ k : Int → Option R, law18_pick c n k = k (r : Int)) := by
  have hz : (!decide (n = 0)) = true := by rw [dfalse (show ¬ n = 0 by omega)]; rfl
  by_cases h : c < 0
  · have hp := Int.tmod_nonneg n (a := -(c + 1)) (by omega)
    have hlt := Int.tmod_lt_of_pos (-(c + 1)) h0
    have key : ∀ k : Int → Option R, (bif decide (c < 0) then chk (!decide (n = 0)) (k (Int.tmod (IntKind.i64.wrap (0 - IntKind.i64.wrap (c + 1))) n)) else chk (!decide (n = 0)) (k (Int.tmod c n))) = k ((((-(c + 1)).tmod n).toNat : Nat) : Int) := fun k => by
      rw [dtrue h, cond_true, hz, chk_pos rfl, wrap_id (n := c + 1) (by omega) (by omega), wrap_id (by omega) (by omega), show (0 : Int) - (c + 1) = -(c + 1) by omega, Int.toNat_of_nonneg hp]
    exact ⟨_, by omega, key, key, key⟩
  · have hp := Int.tmod_nonneg n (a := c) (by omega)
    have hlt := Int.tmod_lt_of_pos c h0
    have key : ∀ k : Int → Option R, (bif decide (c < 0) then chk (!decide (n = 0)) (k (Int.tmod (IntKind.i64.wrap (0 - IntKind.i64.wrap (c + 1))) n)) else chk (!decide (n = 0)) (k (Int.tmod c n))) = k (((c.tmod n).toNat : Nat) : Int) := fun k => by
      rw [dfalse h, cond_false, hz, chk_pos rfl, Int.toNat_of_nonneg hp]
    exact ⟨_, by omega, key, key, key⟩

structure LayOk (y : Yard.Layout) : Prop where
  nodes : 1 ≤ y.nodes ∧ y.nodes ≤ 8
  many : y.edges.length ≤ 24
  dst : ∀ e ∈ y.edges, 0 ≤ e.dst ∧ e.dst < y.nodes

theorem fit8_loop {R : Type} (raw : List Arr3) (i n0 nn : Int) (es : List Yard.Edge) (hes : es.length ≤ 24) (e : Yard.Edge) (e0 : List Arr3 → Int → Bool → Int → Int → List Yard.Edge → Yard.Edge → Option R) : ∀ (F j : Nat) (b : Bool), j ≤ es.length → es.length - j < F →
    ∃ b' : Bool, law11_Fit_8_0_L F raw i b (j : Int) n0 nn es e e0 = e0 raw i b' n0 nn es e := by
  intro F
  induction F with
  | zero => intro j _ _ hF; omega
  | succ F ih =>
    intro j b hj hF
    show ∃ b' : Bool, law11_Fit_8_0_B (fun a b c d g h k l => law11_Fit_8_0_L F a b c d g h k l e0) raw i b (j : Int) n0 nn es e e0 = _
    unfold law11_Fit_8_0_B
    by_cases hlt : j < es.length
    · rw [in_range hlt, dtrue (show (j : Int) < (es.length : Int) by omega), cond_true, step_i hlt (by omega)]
      cases b with
      | false => exact ih (j + 1) false (by omega) (by omega)
      | true =>
        rw [cond_true, chk_pos rfl]
        cases hb : ((es.getD (j : Int).toNat (Ty.dflt .edge)).src != e.src) with
        | true =>
          obtain ⟨b', h⟩ := ih (j + 1) true (by omega) (by omega)
          exact ⟨b', h⟩
        | false =>
          obtain ⟨b', h⟩ := ih (j + 1) ((es.getD (j : Int).toNat (Ty.dflt .edge)).dst != e.dst) (by omega) (by omega)
          exact ⟨b', h⟩
    · refine ⟨b, ?_⟩
      rw [dfalse (show ¬ (j : Int) < (es.length : Int) by omega), cond_false]

theorem fit3_loop {R : Type} (raw : List Arr3) (hraw : raw.length ≤ 1048576) (hr : ∀ x ∈ raw, ((-9223372036854775808 : Int) ≤ x.a ∧ x.a ≤ 9223372036854775807) ∧ ((-9223372036854775808 : Int) ≤ x.b ∧ x.b ≤ 9223372036854775807) ∧ ((-9223372036854775808 : Int) ≤ x.c ∧ x.c ≤ 9223372036854775807)) (n0 nn : Int) (hn : 1 ≤ nn ∧ nn ≤ 8) (e0 : Int → Int → List Yard.Edge → Option R) :
    ∀ (F i : Nat) (es : List Yard.Edge), i ≤ raw.length → raw.length - i < F → es.length ≤ 24 → (∀ e ∈ es, 0 ≤ e.dst ∧ e.dst < nn) →
      ∃ es' : List Yard.Edge, es'.length ≤ 24 ∧ (∀ e ∈ es', 0 ≤ e.dst ∧ e.dst < nn) ∧ law11_Fit_3_0_L F raw (i : Int) n0 nn es e0 = e0 n0 nn es' := by
  intro F
  induction F with
  | zero => intro i _ _ hF; omega
  | succ F ih =>
    intro i es hi hF hes hds
    show ∃ es' : List Yard.Edge, es'.length ≤ 24 ∧ (∀ e ∈ es', 0 ≤ e.dst ∧ e.dst < nn) ∧ law11_Fit_3_0_B law11_pick law11_Fit_8_0_L (fun a b c d g => law11_Fit_3_0_L F a b c d g e0) raw (i : Int) n0 nn es e0 = _
    unfold law11_Fit_3_0_B
    by_cases hlt : i < raw.length
    rotate_left
    · exact ⟨es, hes, hds, by rw [dfalse (show ¬ (i : Int) < (raw.length : Int) by omega), cond_false]⟩
    by_cases h24 : es.length < 24
    rotate_left
    · exact ⟨es, hes, hds, by rw [dtrue (show (i : Int) < (raw.length : Int) by omega), cond_true, dfalse (show ¬ (es.length : Int) < 24 by omega), cond_false]⟩
    have hg : raw.getD (i : Int).toNat (Ty.dflt .arr3) = raw[i] := getD_at hlt _
    obtain ⟨ha, hb, hc⟩ := hr raw[i] (List.getElem_mem hlt)
    obtain ⟨ra, ra1, ra2, _⟩ := pickV (R := R) raw[i].a nn ha (by omega) (by omega)
    obtain ⟨rb, rb1, rb2, _⟩ := pickV (R := R) raw[i].b nn hb (by omega) (by omega)
    obtain ⟨rc, rc1, rc2, _⟩ := pickV (R := R) raw[i].c 9 hc (by omega) (by omega)
    rw [in_range hlt, dtrue (show (i : Int) < (raw.length : Int) by omega), cond_true, dtrue (show (es.length : Int) < 24 by omega), cond_true, hg, chk_pos rfl, ra2, chk_pos rfl, rb2, chk_pos rfl, rc2]
    obtain ⟨b', h8⟩ := fit8_loop (R := R) raw (i : Int) n0 nn es (by omega) ⟨(ra : Int), (rb : Int), IntKind.i64.wrap (1 + (rc : Int))⟩ (fun y22 y23 y24 y25 y26 y27 y28 => bif y24 then (chk (decide ((y27.length + 1) * 24 ≤ 140737488355328)) (law11_Fit_3_0_L F y22 (IntKind.i64.wrap (y23 + 1)) y25 y26 (y27 ++ ([y28] : List Yard.Edge)) e0)) else (law11_Fit_3_0_L F y22 (IntKind.i64.wrap (y23 + 1)) y25 y26 y27 e0))
      (List.length raw + Int.natAbs (i : Int) + Int.natAbs 0 + Int.natAbs n0 + Int.natAbs nn + List.length es + Yard.Edge.fu (⟨(ra : Int), (rb : Int), IntKind.i64.wrap (1 + (rc : Int))⟩ : Yard.Edge) + 64) 0 ((ra : Int) != (rb : Int)) (by omega) (by omega)
    have h8' := fun (es' : List Yard.Edge) (hx : es'.length ≤ 24 ∧ (∀ e ∈ es', 0 ≤ e.dst ∧ e.dst < nn) ∧ _ = e0 n0 nn es') => (⟨es', hx.1, hx.2.1, h8.trans hx.2.2⟩ : ∃ es' : List Yard.Edge, es'.length ≤ 24 ∧ (∀ e ∈ es', 0 ≤ e.dst ∧ e.dst < nn) ∧ _ = e0 n0 nn es')
    cases b' with
    | true =>
      obtain ⟨es', h1, h2, h3⟩ := ih (i + 1) (es ++ [⟨(ra : Int), (rb : Int), IntKind.i64.wrap (1 + (rc : Int))⟩]) (by omega) (by omega) (by rw [List.length_append]; simp only [List.length_cons, List.length_nil]; omega) (fun e he => by
        rcases List.mem_append.1 he with h | h
        · exact hds e h
        · rw [List.mem_singleton.1 h]; exact ⟨Int.natCast_nonneg _, rb1⟩)
      refine h8' es' ⟨h1, h2, ?_⟩
      rw [cond_true, dtrue (by omega), chk_pos rfl, step_i hlt (by omega)]
      exact h3
    | false =>
      obtain ⟨es', h1, h2, h3⟩ := ih (i + 1) es (by omega) (by omega) hes hds
      refine h8' es' ⟨h1, h2, ?_⟩
      rw [cond_false, step_i hlt (by omega)]
      exact h3
theorem layFit {R : Type} (n : Int) (raw : List Arr3) (hn : (-9223372036854775808 : Int) ≤ n ∧ n ≤ 9223372036854775807) (hraw : raw.length ≤ 1048576) (hr : ∀ x ∈ raw, ((-9223372036854775808 : Int) ≤ x.a ∧ x.a ≤ 9223372036854775807) ∧ ((-9223372036854775808 : Int) ≤ x.b ∧ x.b ≤ 9223372036854775807) ∧ ((-9223372036854775808 : Int) ≤ x.c ∧ x.c ≤ 9223372036854775807)) (k : Yard.Layout → Option R) :
    ∃ y : Yard.Layout, LayOk y ∧ law11_Fit n raw k = k y := by
  obtain ⟨r, r1, r2, _⟩ := pickV (R := R) n 8 hn (by omega) (by omega)
  have e : law11_Fit n raw k = law11_pick n 8 (fun y3 => law11_Fit_3_0_L (List.length raw + Int.natAbs 0 + Int.natAbs 0 + Int.natAbs (IntKind.i64.wrap (1 + y3)) + List.length ([] : List Yard.Edge) + 64) raw 0 0 (IntKind.i64.wrap (1 + y3)) ([] : List Yard.Edge) (fun y29 y30 y31 => k (⟨y30, y31⟩ : Yard.Layout))) := rfl
  have hw : IntKind.i64.wrap (1 + (r : Int)) = 1 + (r : Int) := wrap_id (by omega) (by omega)
  rw [e, r2, hw]
  obtain ⟨es, h1, h2, h3⟩ := fit3_loop (R := R) raw hraw hr 0 (1 + (r : Int)) (by omega) (fun y29 y30 y31 => k (⟨y30, y31⟩ : Yard.Layout)) (List.length raw + Int.natAbs 0 + Int.natAbs 0 + Int.natAbs (1 + (r : Int)) + List.length ([] : List Yard.Edge) + 64) 0 [] (by omega) (by omega) (by simp) (fun e he => by cases he)
  exact ⟨⟨1 + (r : Int), es⟩, ⟨by show (1 : Int) ≤ 1 + (r : Int) ∧ 1 + (r : Int) ≤ 8; omega, h1, h2⟩, h3⟩
end Go.Proofs.YtolnaonmpohciaaDoor

