/-
  FieldTells: for every input whose bulk is at most 1048576 the law returns true, and each argument reads behind the call as it read before; part 9 of 9 of the proof: an interpreter of the model's code over typed data, proved sound; the functions that the law reaches, printed as Lean functions and tied; the plain law. Own texts laid one behind the other.
-/
import Derived.WalkKit
import Derived.ProofKit
import Derived.Test.YtcocpfgemdkkfaaFieldTellsB8
/-
  FieldTells: the statement where what it reads is of bulk at most 1048576: for every such input the law returns true, and each argument reads behind the call as it read before. Out of the plain law; printed by wip/tools/row.py.
-/
set_option linter.unusedVariables false
set_option maxRecDepth 100000
namespace Go.Proofs.Ytcocpfgemdkkfaa.fieldTells
open Go.ChangeShapes Go.WideShapes Go.ChangeAt Go.RowKit Go.Yard

theorem own : ownKnob Try.prog.godebug = none := by kernel_rfl
theorem leaves : LeavesOk Try.prog tt := leaves_ok (by kernel_rfl)
theorem run (a0 : Json) (a1 : Str) (a2 : List Fld) (a3 : List Str) (a4 : List Json) (a5 : Int) : specBy law05_FieldTells_p law05_FieldTells_q (law05_FieldTells_rr law05_FieldTells) specNo [.agg [.int .i64 a0.kind, .int .i64 a0.num.mant, .int .i64 a0.num.exp, .str a0.text, .sl .str a0.names .no, .sl .json a0.items .no], .str a1, .sl .fld a2 .no, .sl .str a3 .no, .sl .json a4 .no, .int .i64 a5] [] kOk = law05_FieldTells a0 a1 a2 a3 a4 a5 (fun q0 => kOk (.bool q0) []) := by kernel_rfl

theorem contract (H : Type) (enc : TypeId × Value → H) (W : World) (base : Nat) (args : Array Value) (ds gs : List (DataW H)) (before : List MemPlace)
    (hval : ∀ (j : Nat) t v, Try.f9.params[j]? = some t → args[j]? = some v → Value.okWide Try.prog W .any base t v)
    (hW : DataW.Whole enc Try.prog Try.f9.params.toList Rows.fieldTellsSpec.vars false W args.toList ds gs before) (hk : Rows.uptoSmall H (ds ++ gs) = true) :
    Calls Try.prog 9 args W fun e W' => ∃ v, e = .returned v ∧ Rows.fieldTellsSpec.post enc Try.prog Try.f9 false true false false W args v W' := by
  have hW' := hW
  obtain ⟨p, q, hA0, hV, hpq, hfz, hnd⟩ := hW
  have hA : DataW.TrodAll enc Try.prog W 0 (fun _ => true) true [49, 9, 38, 22, 43, 3] args.toList ds p := hA0
  have hval : ∀ (j : Nat) t v, (#[49, 9, 38, 22, 43, 3] : Array Nat)[j]? = some t → args[j]? = some v → Value.okWide Try.prog W .any base t v := hval
  obtain ⟨v0, vs0, d0, ds0, p0, q0, hargs, rfl, rfl, h0, r0⟩ := trodAll_cons hA
  obtain ⟨v1, vs1, d1, ds1, p1, q1, rfl, rfl, rfl, h1, r1⟩ := trodAll_cons r0
  obtain ⟨v2, vs2, d2, ds2, p2, q2, rfl, rfl, rfl, h2, r2⟩ := trodAll_cons r1
  obtain ⟨v3, vs3, d3, ds3, p3, q3, rfl, rfl, rfl, h3, r3⟩ := trodAll_cons r2
  obtain ⟨v4, vs4, d4, ds4, p4, q4, rfl, rfl, rfl, h4, r4⟩ := trodAll_cons r3
  obtain ⟨v5, vs5, d5, ds5, p5, q5, rfl, rfl, rfl, h5, r5⟩ := trodAll_cons r4
  obtain ⟨rfl, rfl, rfl⟩ := trodAll_nil r5
  obtain rfl : args = #[v0, v1, v2, v3, v4, v5] := by cases args; simp_all
  have hV' : DataW.TrodVars enc Try.prog W (fun _ => true) [] gs q := hV
  obtain ⟨rfl, rfl⟩ := trodVars_none hV'
  have hb : Rows.uptoBulkAll ([d0, d1, d2, d3, d4, d5] ++ []) ≤ 1048576 := of_decide_eq_true hk
  simp only [List.append_nil, Rows.uptoBulkAll] at hb
  obtain ⟨a0, q0, s0⟩ := arg_agg (T := .json) (N := 1048576) leaves (by kernel_rfl) (by kernel_rfl) (hval 0 49 v0 rfl rfl) h0 (by omega) (Nat.le_of_ble_eq_true rfl)
  obtain ⟨a1, q1, s1⟩ := arg_one (p := .str) (N := 1048576) leaves (by kernel_rfl) (by kernel_rfl) (hval 1 9 v1 rfl rfl) h1 (by omega) (Nat.le_of_ble_eq_true rfl)
  obtain ⟨a2, q2, s2⟩ := arg_one (p := .sl .fld) (N := 1048576) leaves (by kernel_rfl) (by kernel_rfl) (hval 2 38 v2 rfl rfl) h2 (by omega) (Nat.le_of_ble_eq_true rfl)
  obtain ⟨a3, q3, s3⟩ := arg_one (p := .sl .str) (N := 1048576) leaves (by kernel_rfl) (by kernel_rfl) (hval 3 22 v3 rfl rfl) h3 (by omega) (Nat.le_of_ble_eq_true rfl)
  obtain ⟨a4, q4, s4⟩ := arg_one (p := .sl .json) (N := 1048576) leaves (by kernel_rfl) (by kernel_rfl) (hval 4 43 v4 rfl rfl) h4 (by omega) (Nat.le_of_ble_eq_true rfl)
  obtain ⟨a5, q5, s5⟩ := arg_one (p := .int .i64) (N := 1048576) leaves (by kernel_rfl) (by kernel_rfl) (hval 5 3 v5 rfl rfl) h5 (by omega) (Nat.le_of_ble_eq_true rfl)
  have ra : RepL W [] cfg0 [.agg [.int .i64 a0.kind, .int .i64 a0.num.mant, .int .i64 a0.num.exp, .str a0.text, .sl .str a0.names .no, .sl .json a0.items .no], .str a1, .sl .fld a2 .no, .sl .str a3 .no, .sl .json a4 .no, .int .i64 a5] #[v0, v1, v2, v3, v4, v5].toList := (.cons q0 (.cons q1 (.cons q2 (.cons q3 (.cons q4 (.cons q5 .nil))))))
  refine (calls_true Try.func9 rfl rfl (law05_FieldTells_S_ok Unit _ (specNo_ok _)) ra ((run a0 a1 a2 a3 a4 a5).trans (law05_FieldTells_true a0 a1 a2 a3 a4 a5 s0 s1 s2 s3 s4 s5 (fun q0 => kOk (.bool q0) [])))).mono fun e W' ⟨he, L⟩ => ⟨_, he, ?_⟩
  exact post_true (by kernel_rfl) (params_ok (by kernel_rfl)) rfl rfl rfl (show Try.prog.underlying 4 = some .bool by kernel_rfl) hW' L

theorem lifted (os : Os) (started : os.Started) (H : Type) (enc : TypeId × Value → H) (F : Stop.Interp) :
    ReturnsInHanded {} Try.checked os 9 .any ((Rows.OpenSpec.upto Rows.fieldTellsSpec).pre6 enc Try.prog Try.f9 Rows.fieldTellsUptoRow.domain false) (((Rows.OpenSpec.upto Rows.fieldTellsSpec).at F).post enc Try.prog Try.f9 false true false false) := by
  refine returnsInHanded_of_cond (C := Try.checked) (s := Rows.OpenSpec.upto Rows.fieldTellsSpec) (k := Rows.uptoSmall) rfl own started (by kernel_rfl) Try.func9
    (OpenSpec.witness (enc := enc) (C := Try.checked) (s := Rows.OpenSpec.upto Rows.fieldTellsSpec) (k := Rows.uptoSmall) rfl false ⟨#[], #[.agg #[.int .i64 0, .int .i64 0, .int .i64 0, .string .empty, .slice none 0 0, .slice none 0 0], .string .empty, .slice none 0 0, .slice none 0 0, .slice none 0 0, .int .i64 0], []⟩ 8 (by kernel_rfl) (by kernel_rfl) (by kernel_rfl)
      (x := ([.agg [.lit (.int .i64 0), .agg [.lit (.int .i64 0), .lit (.int .i64 0)], .lit (.string []), .nil, .nil], .lit (.string []), .nil, .nil, .nil, .lit (.int .i64 0)], [], [])) (by kernel_rfl) rfl (by kernel_rfl)) ?_
  intro W base args ds gs before hval hW _ hk _
  exact contract H enc W base args ds gs before hval hW hk

end Go.Proofs.Ytcocpfgemdkkfaa.fieldTells
namespace Go.Proofs.Ytcocpfgemdkkfaa
open Go.RowKit
theorem fieldTells_upto_holds : Rows.FieldTellsUptoSaid :=
  OpenClaim.holds_of_cond 9 Try.f9 rfl rfl rfl rfl rfl rfl rfl ⟨rfl, rfl, rfl, rfl, rfl⟩ rfl rfl rfl rfl rfl (by kernel_rfl) Try.func9 (by kernel_rfl)
    (of_decide_eq_true (by kernel_rfl)) (by unfold Func.isWrapper; first | (rw [if_pos (by decide +kernel)]; kernel_rfl) | (rw [if_neg (by decide +kernel)]; exact ⟨rfl, rfl⟩))
    (fun os started H enc _ F => fieldTells.lifted os started H enc F)
end Go.Proofs.Ytcocpfgemdkkfaa

