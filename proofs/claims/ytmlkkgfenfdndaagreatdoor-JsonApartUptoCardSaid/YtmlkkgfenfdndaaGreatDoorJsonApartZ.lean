/-
  JsonApart, part 10 of 10.
-/
import Derived.Test.YtmlkkgfenfdndaaGreatDoorJsonApartB9
set_option linter.unusedSimpArgs false
set_option linter.unnecessarySimpa false
set_option linter.unusedVariables false
set_option linter.unusedSectionVars false
set_option maxRecDepth 100000
namespace Go.Proofs.YtmlkkgfenfdndaaGreatDoor
open Go Go.Yard Go.Lib
theorem eqs_loop {R : Type} (a b : List Str) (hl : a.length = b.length) (ha : a.length ≤ 1099511627776) (k : Bool → Option R) : ∀ (F i : Nat), i ≤ a.length → a.length - i < F →
    q36_4_0_L F a b (a.length : Int) (i : Int) (k true) k = k (decide (a.drop i = b.drop i)) := by
  intro F
  induction F with
  | zero => intro i _ h; omega
  | succ F ih =>
    intro i hi hF
    show q36_4_0_B (fun x0 x1 x2 x3 => q36_4_0_L F x0 x1 x2 x3 _ _) a b (a.length : Int) (i : Int) _ _ = _
    unfold q36_4_0_B
    by_cases h : i < a.length
    · have hb : i < b.length := by omega
      have h1 : decide ((i : Int) < (a.length : Int)) = true := by simp; omega
      have h2 : (decide ((0 : Int) ≤ (i : Int)) && true) = true := by simp
      have h3 : (decide ((0 : Int) ≤ (i : Int)) && decide ((i : Int) < (b.length : Int))) = true := by simp; omega
      have hw : IntKind.i64.wrap ((i : Int) + 1) = ((i + 1 : Nat) : Int) := by rw [wrap_id (by omega) (by omega)]; omega
      have hg : a.getD (i : Int).toNat (Ty.dflt .str) = a[i] := getD_at h _
      have hg' : b.getD (i : Int).toNat (Ty.dflt .str) = b[i] := getD_at hb _
      rw [h1, cond_true, chk_pos h2, chk_pos h3, hg, hg', hw, List.drop_eq_getElem_cons h, List.drop_eq_getElem_cons hb]
      by_cases hq : a[i] = b[i]
      · have e : (a[i] == b[i]) = true := by simpa using hq
        rw [e, Bool.not_true, cond_false]
        simp only [List.cons.injEq, hq, true_and]
        exact ih (i + 1) (by omega) (by omega)
      · have e : (a[i] == b[i]) = false := by simpa using hq
        rw [e, Bool.not_false, cond_true]
        have hne : ¬ (a[i] :: a.drop (i + 1) = b[i] :: b.drop (i + 1)) := fun h => hq (List.cons.inj h).1
        rw [decide_eq_false hne]
    · have h1 : decide ((i : Int) < (a.length : Int)) = false := by simp; omega
      rw [h1, cond_false, List.drop_eq_nil_of_le (by omega), List.drop_eq_nil_of_le (by omega)]
      simp
theorem equals_ok {R : Type} (a b : List Str) (ha : a.length ≤ 1099511627776) (k : Bool → Option R) : q36 a b k = k (decide (a = b)) := by
  have e : q36 a b k = bif ((a.length : Int) != (b.length : Int)) then (k false) else (q36_4_0_L (List.length a + List.length b + Int.natAbs (a.length : Int) + Int.natAbs 0 + 64) a b (a.length : Int) 0 (k true) (fun y7 => k y7)) := rfl
  rw [e]
  by_cases hl : a.length = b.length
  · have h1 : ((a.length : Int) != (b.length : Int)) = false := by rw [hl]; simp
    have := eqs_loop a b hl ha k (List.length a + List.length b + Int.natAbs (a.length : Int) + Int.natAbs 0 + 64) 0 (by omega) (by omega)
    rw [h1, cond_false]
    rw [List.drop_zero, List.drop_zero] at this
    exact this
  · have h1 : ((a.length : Int) != (b.length : Int)) = true := by simp; omega
    have : a ≠ b := fun e => hl (by rw [e])
    rw [h1, cond_true]
    simp [this]
theorem eqj_loop {R : Type} (f : q84_ty R) (a b : List Json) (hl : a.length = b.length) (ha : a.length ≤ 1099511627776) (hf : ∀ x ∈ a, ∀ y ∈ b, ∃ r : Bool, (r = true ↔ x = y) ∧ ∀ k, f x y k = k r) : ∀ (F i : Nat), i ≤ a.length → a.length - i < F →
    ∃ r : Bool, (r = true ↔ a.drop i = b.drop i) ∧ ∀ k : Bool → Option R, q17_4_0_L f F b a (a.length : Int) (i : Int) (k true) k = k r := by
  intro F
  induction F with
  | zero => intro i _ h; omega
  | succ F ih =>
    intro i hi hF
    by_cases h : i < a.length
    · have hb : i < b.length := by omega
      have h1 : decide ((i : Int) < (a.length : Int)) = true := by simp; omega
      have h2 : (decide ((0 : Int) ≤ (i : Int)) && true) = true := by simp
      have h3 : (decide ((0 : Int) ≤ (i : Int)) && decide ((i : Int) < (b.length : Int))) = true := by simp; omega
      have hw : IntKind.i64.wrap ((i : Int) + 1) = ((i + 1 : Nat) : Int) := by rw [wrap_id (by omega) (by omega)]; omega
      have hg : a.getD (i : Int).toNat (Ty.dflt .json) = a[i] := getD_at h _
      have hg' : b.getD (i : Int).toNat (Ty.dflt .json) = b[i] := getD_at hb _
      obtain ⟨r, hr, hk⟩ := hf a[i] (List.getElem_mem h) b[i] (List.getElem_mem hb)
      obtain ⟨r2, hr2, hk2⟩ := ih (i + 1) (by omega) (by omega)
      refine ⟨r && r2, ?_, fun k => ?_⟩
      · rw [List.drop_eq_getElem_cons h, List.drop_eq_getElem_cons hb]
        simp only [Bool.and_eq_true, hr, hr2, List.cons.injEq]
      · show q17_4_0_B f (fun x0 x1 x2 x3 => q17_4_0_L f F x0 x1 x2 x3 (k true) k) b a (a.length : Int) (i : Int) (k true) k = _
        unfold q17_4_0_B
        simp only [Json.eta]
        rw [h1, cond_true, chk_pos h2, chk_pos h3, hg, hg', hk, hw, hk2]
        cases r <;> rfl
    · refine ⟨true, ?_, fun k => ?_⟩
      · rw [List.drop_eq_nil_of_le (by omega), List.drop_eq_nil_of_le (by omega)]
        simp
      · show q17_4_0_B f (fun x0 x1 x2 x3 => q17_4_0_L f F x0 x1 x2 x3 (k true) k) b a (a.length : Int) (i : Int) (k true) k = _
        unfold q17_4_0_B
        have h1 : decide ((i : Int) < (a.length : Int)) = false := by simp; omega
        rw [h1]
        rfl
theorem equalj_ok {R : Type} (f : q84_ty R) (a b : List Json) (ha : a.length ≤ 1099511627776) (hf : ∀ x ∈ a, ∀ y ∈ b, ∃ r : Bool, (r = true ↔ x = y) ∧ ∀ k, f x y k = k r) :
    ∃ r : Bool, (r = true ↔ a = b) ∧ ∀ k : Bool → Option R, q17 f a b k = k r := by
  have e : ∀ k, q17 f a b k = bif ((a.length : Int) != (b.length : Int)) then (k false) else (q17_4_0_L f (List.length b + List.length a + Int.natAbs (a.length : Int) + Int.natAbs 0 + 64) b a (a.length : Int) 0 (k true) (fun y8 => k y8)) := fun k => rfl
  by_cases hl : a.length = b.length
  · have h1 : ((a.length : Int) != (b.length : Int)) = false := by rw [hl]; simp
    obtain ⟨r, hr, hk⟩ := eqj_loop f a b hl ha hf (List.length b + List.length a + Int.natAbs (a.length : Int) + Int.natAbs 0 + 64) 0 (by omega) (by omega)
    rw [List.drop_zero, List.drop_zero] at hr
    refine ⟨r, hr, fun k => ?_⟩
    rw [e, h1, cond_false]
    exact hk k
  · have h1 : ((a.length : Int) != (b.length : Int)) = true := by simp; omega
    refine ⟨false, ?_, fun k => ?_⟩
    · constructor
      · intro h; cases h
      · rintro rfl; exact (hl rfl).elim
    · rw [e, h1, cond_true]
theorem jsame_N {R : Type} : ∀ (n : Nat) (v w : Json), lenJ v = true → v.depth < n → ∃ r : Bool, (r = true ↔ v = w) ∧ ∀ k : Bool → Option R, q84_N n v w k = k r := by
  intro n
  induction n with
  | zero => intro v w _ h; omega
  | succ n ih =>
    intro v w hl hd
    obtain ⟨hns, his, hil, _⟩ := lenJ_iff.1 hl
    obtain ⟨r, hr, hk⟩ := equalj_ok (R := R) (q84_N n) v.items w.items his fun x hx y _ => ih x y (lenL_mem hil hx) (by have := jdepth_item hx; omega)
    have e0 : ∀ k : Bool → Option R, q84_N (n + 1) v w k = q84_X (q17 (q84_N n)) q36 v w k := fun k => rfl
    obtain ⟨k1, ⟨m1, x1⟩, t1, ns1, is1⟩ := v
    obtain ⟨k2, ⟨m2, x2⟩, t2, ns2, is2⟩ := w
    refine ⟨(k1 == k2) && ((m1 == m2 && (x1 == x2 && true)) && ((t1 == t2) && (decide (ns1 = ns2) && r))), ?_, fun k => ?_⟩
    · simp only [Bool.and_eq_true, beq_iff_eq, decide_eq_true_eq, hr, Json.mk.injEq, Dcm.mk.injEq]
      constructor
      · rintro ⟨h1, ⟨h2, h3, _⟩, h4, h5, h6⟩; exact ⟨h1, ⟨h2, h3⟩, h4, h5, h6⟩
      · rintro ⟨h1, ⟨h2, h3⟩, h4, h5, h6⟩; exact ⟨h1, ⟨h2, h3, trivial⟩, h4, h5, h6⟩
    · rw [e0]
      unfold q84_X
      simp only
      rw [equals_ok ns1 ns2 hns]
      simp only [hk]
      cases k1 == k2 <;> cases (m1 == m2 && (x1 == x2 && true)) <;> cases t1 == t2 <;> cases decide (ns1 = ns2) <;> rfl
theorem jsame {R : Type} (v w : Json) (hl : lenJ v = true) : ∃ r : Bool, (r = true ↔ v = w) ∧ ∀ k : Bool → Option R, q84 v w k = k r := jsame_N (v.depth + 2) v w hl (by omega)
end Go.Proofs.YtmlkkgfenfdndaaGreatDoor
/-
  Functions of the program as pure Lean functions, and the ties; printed by wip/tools/emit.py.
-/
set_option maxRecDepth 100000
namespace Go.Proofs.YtmlkkgfenfdndaaGreatDoor
open Go Go.Yard
end Go.Proofs.YtmlkkgfenfdndaaGreatDoor
/-
  Functions of the program as pure Lean functions, and the ties; printed by wip/tools/emit.py.
-/
set_option maxRecDepth 100000
namespace Go.Proofs.YtmlkkgfenfdndaaGreatDoor
open Go Go.Yard
end Go.Proofs.YtmlkkgfenfdndaaGreatDoor
/-
  Functions of the program as pure Lean functions, and the ties; printed by wip/tools/emit.py.
-/
set_option maxRecDepth 100000
namespace Go.Proofs.YtmlkkgfenfdndaaGreatDoor
open Go Go.Yard
end Go.Proofs.YtmlkkgfenfdndaaGreatDoor
/-
  Functions of the program as pure Lean functions, and the ties; printed by wip/tools/emit.py.
-/
set_option maxRecDepth 100000
namespace Go.Proofs.YtmlkkgfenfdndaaGreatDoor
open Go Go.Yard
end Go.Proofs.YtmlkkgfenfdndaaGreatDoor
/-
  Functions of the program as pure Lean functions, and the ties; printed by wip/tools/emit.py.
-/
set_option maxRecDepth 100000
namespace Go.Proofs.YtmlkkgfenfdndaaGreatDoor
open Go Go.Yard
end Go.Proofs.YtmlkkgfenfdndaaGreatDoor
set_option maxRecDepth 100000
namespace Go.Proofs.YtmlkkgfenfdndaaGreatDoor
open Go Go.Yard Go.Lib
theorem raw_bulk {x : Raw} (h : ∃ n, WtL n (Ty.cells .raw x) ∧ n ≤ 1048576) : Raw.ok x ∧ Raw.tot x ≤ 1048576 := by
  obtain ⟨n, h1, h2⟩ := h
  obtain ⟨g1, g2⟩ := wt_raw x n h2 h1
  exact ⟨g2, by omega⟩
theorem jsonApart_true {R : Type} (x1 x2 : Raw) (h1 : ∃ n, WtL n (Ty.cells .raw x1) ∧ n ≤ 1048576) (h2 : ∃ n, WtL n (Ty.cells .raw x2) ∧ n ≤ 1048576) (k : Bool → Option R) : q60 x1 x2 k = k true := by
  obtain ⟨o1, t1⟩ := raw_bulk h1
  obtain ⟨o2, t2⟩ := raw_bulk h2
  obtain ⟨v, hv, rv⟩ := jfit (R := R) x1 o1 1 (by omega) (by omega)
  obtain ⟨w, hw, rw'⟩ := jfit (R := R) x2 o2 1 (by omega) (by omega)
  have e : q60 x1 x2 k = q60_X q87 q67 q77 q84 x1 x2 k := rfl
  rw [e]
  unfold q60_X
  simp only [Raw.eta, Json.eta]
  have pv := fun q : Str → Option R => print_json v hv.right hv.len (by have := hv.size; omega) q
  have pw := fun q : Str → Option R => print_json w hw.right hw.len (by have := hw.size; omega) q
  have hne : (printJ v == ([] : Str)) = false := by simpa using print_ne v hv.right
  obtain ⟨r, hr, hs⟩ := jsame (R := R) v w hv.len
  rw [awake04, rv, rw', cond_true, pv, hne, Bool.not_false, cond_true, pv, pw, hs]
  have : ((printJ v == printJ w) == r) = true := by
    rw [beq_iff_eq, Bool.eq_iff_iff, beq_iff_eq, hr]
    exact ⟨print_inj hv.right hw.right, fun h => by rw [h]⟩
  rw [this]
end Go.Proofs.YtmlkkgfenfdndaaGreatDoor
set_option maxRecDepth 100000
namespace Go.Proofs.YtmlkkgfenfdndaaGreatDoor.jsonApart
open Go.ChangeShapes Go.WideShapes Go.ChangeAt Go.RowKit Go.Yard Door
theorem run (a0 : Raw) (a1 : Raw) : specBy q60_p q60_q (q60_rr q60) specNo [.agg [.int .i64 a0.kind, .int .i64 a0.mant, .int .i64 a0.exp, .sl (.int .i64) a0.text .no, .sl .raw a0.items .no], .agg [.int .i64 a1.kind, .int .i64 a1.mant, .int .i64 a1.exp, .sl (.int .i64) a1.text .no, .sl .raw a1.items .no]] [] kOk = q60 a0 a1 (fun q0 => kOk (.bool q0) []) := by kernel_rfl
theorem contract (H : Type) (enc : TypeId × Value → H) (W : World) (base : Nat) (args : Array Value) (ds gs : List (DataW H)) (before : List MemPlace)
    (hval : ∀ (j : Nat) t v, Tryz.f12.params[j]? = some t → args[j]? = some v → Value.okWide Tryz.prog W .any base t v)
    (hW : DataW.Whole enc Tryz.prog Tryz.f12.params.toList Rows.jsonApartSpec.vars false W args.toList ds gs before) (hL : laidMetH Tryz.prog Rows.jsonApartUptoRow.laid W) (hk : Rows.uptoSmall H (ds ++ gs) = true) :
    Calls Tryz.prog 12 args W fun e W' => ∃ v, e = .returned v ∧ Rows.jsonApartSpec.post enc Tryz.prog Tryz.f12 false true false false W args v W' := by
  have hW' := hW
  obtain ⟨p, q, hA0, hV, hpq, hfz, hnd⟩ := hW
  have hA : DataW.TrodAll enc Tryz.prog W 0 (fun _ => true) true [25, 25] args.toList ds p := hA0
  have hval : ∀ (j : Nat) t v, (#[25, 25] : Array Nat)[j]? = some t → args[j]? = some v → Value.okWide Tryz.prog W .any base t v := hval
  obtain ⟨v0, vs0, d0, ds0, p0, q0, hargs, rfl, rfl, h0, r0⟩ := trodAll_cons hA
  obtain ⟨v1, vs1, d1, ds1, p1, q1, rfl, rfl, rfl, h1, r1⟩ := trodAll_cons r0
  obtain ⟨rfl, rfl, rfl⟩ := trodAll_nil r1
  obtain rfl : args = #[v0, v1] := by cases args; simp_all
  have hV' : DataW.TrodVars enc Tryz.prog W (fun _ => true) [] gs q := hV
  obtain ⟨rfl, rfl⟩ := trodVars_none hV'
  have hb : Rows.uptoBulkAll ([d0, d1] ++ []) ≤ 1048576 := of_decide_eq_true hk
  simp only [List.append_nil, Rows.uptoBulkAll] at hb
  obtain ⟨a0, q0, s0⟩ := arg_aggW (T := .raw) (N := 1048576) leaves (by kernel_rfl) (by kernel_rfl) (hval 0 25 v0 rfl rfl) h0 (by omega) (Nat.le_of_ble_eq_true rfl)
  obtain ⟨a1, q1, s1⟩ := arg_aggW (T := .raw) (N := 1048576) leaves (by kernel_rfl) (by kernel_rfl) (hval 1 25 v1 rfl rfl) h1 (by omega) (Nat.le_of_ble_eq_true rfl)
  have ra : RepL W [] cfg0 [.agg [.int .i64 a0.kind, .int .i64 a0.mant, .int .i64 a0.exp, .sl (.int .i64) a0.text .no, .sl .raw a0.items .no], .agg [.int .i64 a1.kind, .int .i64 a1.mant, .int .i64 a1.exp, .sl (.int .i64) a1.text .no, .sl .raw a1.items .no]] #[v0, v1].toList := (.cons q0 (.cons q1 .nil))
  obtain ⟨hsays, hblocks⟩ := lay_met (W := W) hL
  refine (calls_true Tryz.func12 rfl rfl (q60_S_ok Unit _ (specNo_ok _)) hsays hblocks ra ((run a0 a1).trans (jsonApart_true a0 a1 s0 s1 (fun q0 => kOk (.bool q0) [])))).mono fun e W' ⟨he, L⟩ => ⟨_, he, ?_⟩
  exact post_true (by kernel_rfl) (params_ok (by kernel_rfl)) rfl rfl rfl (show Tryz.prog.underlying 4 = some .bool by kernel_rfl) hW' L
theorem reads (os : Os) {H : Type} (enc : TypeId × Value → H) : (DataW.whole enc Tryz.prog ((laidWorld os).forCall (fun _ _ => 0) ⟨#[], #[.agg #[.int .i64 0, .int .i64 0, .int .i64 0, .slice none 0 0, .slice none 0 0], .agg #[.int .i64 0, .int .i64 0, .int .i64 0, .slice none 0 0, .slice none 0 0]], []⟩).memory Tryz.f12.params.toList Rows.jsonApartSpec.vars false (#[.agg #[.int .i64 0, .int .i64 0, .int .i64 0, .slice none 0 0, .slice none 0 0], .agg #[.int .i64 0, .int .i64 0, .int .i64 0, .slice none 0 0, .slice none 0 0]] : Array Value).toList 8).map (fun x => (x.1, x.2.1)) = some ([.agg [.lit (.int .i64 0), .lit (.int .i64 0), .lit (.int .i64 0), .nil, .nil], .agg [.lit (.int .i64 0), .lit (.int .i64 0), .lit (.int .i64 0), .nil, .nil]], []) := by kernel_rfl
theorem lifted (os : Os) (started : os.Started) (H : Type) (enc : TypeId × Value → H) (F : Stop.Interp) :
    ReturnsInHanded {} Tryz.checked os 12 .any ((Rows.OpenSpec.upto Rows.jsonApartSpec).preRow enc Tryz.prog Tryz.f12 Rows.jsonApartUptoRow.domain false Rows.jsonApartUptoRow.laid) (((Rows.OpenSpec.upto Rows.jsonApartSpec).at F).post enc Tryz.prog Tryz.f12 false true false false) := by
  obtain ⟨⟨x1, x2, x3⟩, hx, hx1⟩ := Option.map_eq_some_iff.1 (reads os enc)
  simp only [Prod.mk.injEq] at hx1
  obtain ⟨rfl, rfl⟩ := hx1
  refine returnsInHanded_of_row (C := Tryz.checked) (s := Rows.OpenSpec.upto Rows.jsonApartSpec) own started (by kernel_rfl) Tryz.func12
    (witness_row_atRef (enc := enc) (C := Tryz.checked) false (laidWorld os) #[.agg #[.int .i64 0, .int .i64 0, .int .i64 0, .slice none 0 0, .slice none 0 0], .agg #[.int .i64 0, .int .i64 0, .int .i64 0, .slice none 0 0, .slice none 0 0]] rfl (by kernel_rfl) (by kernel_rfl) (by kernel_rfl)
      (OpenSpec.preRow_of_cond 8 hx (by kernel_rfl) (fun k hk => by cases hk; kernel_rfl) (by kernel_rfl) (laid_met os _))) ?_
  intro W base args ds gs before hval hW _ hcond _ hL _ _
  exact contract H enc W base args ds gs before hval hW hL (hcond _ rfl)
theorem saidUpto : Rows.JsonApartUptoSaid :=
  OpenClaim.holds_of_cond 12 Tryz.f12 rfl rfl rfl rfl rfl rfl rfl ⟨rfl, rfl, rfl, rfl, rfl⟩ rfl rfl rfl rfl rfl (by kernel_rfl) Tryz.func12 (by kernel_rfl)
    (of_decide_eq_true (by kernel_rfl)) (by unfold Func.isWrapper; first | (rw [if_pos (by decide +kernel)]; kernel_rfl) | (rw [if_neg (by decide +kernel)]; exact ⟨rfl, rfl⟩))
    (fun os started H enc _ F => by rw [OpenClaim.pre_eq_preRow]; exact lifted os started H enc F)
theorem plain (f : FuncId) (fn : Func) (hf : Tryz.pinned.checked.prog.funcNamed "humpyard/humpyardlaw04.JsonApart" = some f) (hfn : Tryz.pinned.checked.prog.funcs[f]? = some fn) :
    true = Tryz.pinned.checked.prog.looks [] ∧ ∀ (j : Nat) t, fn.params[j]? = some t → Tryz.pinned.checked.prog.wantsStandIn t = false := by
  obtain rfl : f = 12 := Option.some.inj ((show Tryz.prog.funcNamed "humpyard/humpyardlaw04.JsonApart" = some 12 by kernel_rfl).symm.trans hf) |>.symm
  obtain rfl : fn = Tryz.f12 := (Option.some.inj (Tryz.func12.symm.trans hfn)).symm
  refine ⟨by kernel_rfl, fun j t ht => ?_⟩
  have hall : Tryz.f12.params.toList.all (fun t => !Tryz.prog.wantsStandIn t) = true := by kernel_rfl
  have hm : t ∈ Tryz.f12.params.toList := Array.mem_toList_iff.2 (Array.mem_of_getElem? ht)
  have := List.all_eq_true.1 hall t hm
  exact (show Tryz.prog.wantsStandIn t = false by simpa using this)
end Go.Proofs.YtmlkkgfenfdndaaGreatDoor.jsonApart
namespace Go.Proofs.YtmlkkgfenfdndaaGreatDoor
open Go.RowKit
theorem jsonApart_card_upto : Rows.JsonApartUptoCardSaid :=
  Claim7.holds_tied_plain_at .later [] _ _ _ _ jsonApart.saidUpto (fun _ h => by cases h) (by kernel_rfl) (fun _ h => by cases h) jsonApartUpto_row_tie rfl ⟨rfl, rfl⟩ (by kernel_rfl) rfl jsonApart.plain (by kernel_rfl)
end Go.Proofs.YtmlkkgfenfdndaaGreatDoor
