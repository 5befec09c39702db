/-
  BrokerTrue: for every input whose bulk is at most 1048576 the law returns true, and each argument reads behind the call as it read before; part 8 of 8 of the proof: an interpreter of the model's code over typed data, proved sound; the functions that the law reaches, printed as Lean functions and tied; the plain law. Own texts laid one behind the other.
-/
import Derived.WalkKit
import Derived.ProofKit
import Derived.Test.YtcocpfgemdkkfaaBrokerTrueB7
set_option linter.unusedSimpArgs false
set_option linter.unnecessarySimpa false
set_option linter.unusedVariables false
set_option linter.unusedSectionVars false
set_option maxRecDepth 100000
namespace Go.Proofs.Ytcocpfgemdkkfaa.brokerTrue
open Go.ChangeShapes Go.WideShapes Go.ChangeAt Go.RowKit Go.Yard

theorem own : ownKnob Try.prog.godebug = none := by kernel_rfl
theorem leaves : LeavesOk Try.prog tt := leaves_ok (by kernel_rfl)
theorem run (a0 : List Op17) : specBy law17_BrokerTrue_3ddd_p law17_BrokerTrue_3ddd_q (law17_BrokerTrue_3ddd_rr law17_BrokerTrue_3ddd) specNo [.sl .op17 a0 .no] [] kOk = law17_BrokerTrue_3ddd a0 (fun q0 => kOk (.bool q0) []) := by kernel_rfl

theorem contract (H : Type) (enc : TypeId × Value → H) (W : World) (base : Nat) (args : Array Value) (ds gs : List (DataW H)) (before : List MemPlace)
    (hval : ∀ (j : Nat) t v, Try.f12.params[j]? = some t → args[j]? = some v → Value.okWide Try.prog W .any base t v)
    (hW : DataW.Whole enc Try.prog Try.f12.params.toList Rows.brokerTrueSpec.vars false W args.toList ds gs before) (hk : Rows.uptoSmall H (ds ++ gs) = true) :
    Calls Try.prog 12 args W fun e W' => ∃ v, e = .returned v ∧ Rows.brokerTrueSpec.post enc Try.prog Try.f12 false true false false W args v W' := by
  have hW' := hW
  obtain ⟨p, q, hA0, hV, hpq, hfz, hnd⟩ := hW
  have hA : DataW.TrodAll enc Try.prog W 0 (fun _ => true) true [77] args.toList ds p := hA0
  have hval : ∀ (j : Nat) t v, (#[77] : Array Nat)[j]? = some t → args[j]? = some v → Value.okWide Try.prog W .any base t v := hval
  obtain ⟨v0, vs0, d0, ds0, p0, q0, hargs, rfl, rfl, h0, r0⟩ := trodAll_cons hA
  obtain ⟨rfl, rfl, rfl⟩ := trodAll_nil r0
  obtain rfl : args = #[v0] := by cases args; simp_all
  have hV' : DataW.TrodVars enc Try.prog W (fun _ => true) [] gs q := hV
  obtain ⟨rfl, rfl⟩ := trodVars_none hV'
  have hb : Rows.uptoBulkAll ([d0] ++ []) ≤ 1048576 := of_decide_eq_true hk
  simp only [List.append_nil, Rows.uptoBulkAll] at hb
  obtain ⟨a0, q0, s0⟩ := arg_one (p := .sl .op17) (N := 1048576) leaves (by kernel_rfl) (by kernel_rfl) (hval 0 77 v0 rfl rfl) h0 (by omega) (Nat.le_of_ble_eq_true rfl)
  have ra : RepL W [] cfg0 [.sl .op17 a0 .no] #[v0].toList := (.cons q0 .nil)
  refine (calls_true Try.func12 rfl rfl (law17_BrokerTrue_3ddd_S_ok Unit _ (specNo_ok _)) trivial (fun _ h => h.elim) ra ((run a0).trans (Pb.brokerTrue_true a0 s0 (fun q0 => kOk (.bool q0) [])))).mono fun e W' ⟨he, L⟩ => ⟨_, he, ?_⟩
  exact post_true (by kernel_rfl) (params_ok (by kernel_rfl)) rfl rfl rfl (show Try.prog.underlying 4 = some .bool by kernel_rfl) hW' L

theorem lifted (os : Os) (started : os.Started) (H : Type) (enc : TypeId × Value → H) (F : Stop.Interp) :
    ReturnsInHanded {} Try.checked os 12 .any ((Rows.OpenSpec.upto Rows.brokerTrueSpec).pre6 enc Try.prog Try.f12 Rows.brokerTrueUptoRow.domain false) (((Rows.OpenSpec.upto Rows.brokerTrueSpec).at F).post enc Try.prog Try.f12 false true false false) := by
  refine returnsInHanded_of_cond (C := Try.checked) (s := Rows.OpenSpec.upto Rows.brokerTrueSpec) (k := Rows.uptoSmall) rfl own started (by kernel_rfl) Try.func12
    (OpenSpec.witness (enc := enc) (C := Try.checked) (s := Rows.OpenSpec.upto Rows.brokerTrueSpec) (k := Rows.uptoSmall) rfl false ⟨#[], #[.slice none 0 0], []⟩ 8 (by kernel_rfl) (by kernel_rfl) (by kernel_rfl)
      (x := ([.nil], [], [])) (by kernel_rfl) rfl (by kernel_rfl)) ?_
  intro W base args ds gs before hval hW _ hk _
  exact contract H enc W base args ds gs before hval hW hk

end Go.Proofs.Ytcocpfgemdkkfaa.brokerTrue
namespace Go.Proofs.Ytcocpfgemdkkfaa
open Go.RowKit
theorem brokerTrue_upto_holds : Rows.BrokerTrueUptoSaid :=
  OpenClaim.holds_of_cond 12 Try.f12 rfl rfl rfl rfl rfl rfl rfl ⟨rfl, rfl, rfl, rfl, rfl⟩ rfl rfl rfl rfl rfl (by kernel_rfl) Try.func12 (by kernel_rfl)
    (of_decide_eq_true (by kernel_rfl)) (by unfold Func.isWrapper; first | (rw [if_pos (by decide +kernel)]; kernel_rfl) | (rw [if_neg (by decide +kernel)]; exact ⟨rfl, rfl⟩))
    (fun os started H enc _ F => brokerTrue.lifted os started H enc F)
end Go.Proofs.Ytcocpfgemdkkfaa

