/-
  Cells that are read as an element: the lemmas, printed by wip/tools/gentypes.py. Own work.
-/
import Derived.Test.YtcocpfgemdkkfaaAiRun
namespace Go.Yard

/-- One cell for another that says no more. -/
def Wk (u v : V) : Prop := u = v ∨ ∃ (T : Ty) (l : List T.den), v = .sl T l .no ∧ asSl T u = some l

inductive WkL : List V → List V → Prop where
  | nil : WkL [] []
  | cons {u v : V} {us vs : List V} (h : Wk u v) (t : WkL us vs) : WkL (u :: us) (v :: vs)

theorem Wk.rfl {u : V} : Wk u u := .inl _root_.rfl
theorem Wk.sl {T : Ty} {u : V} {l : List T.den} (h : asSl T u = some l) : Wk u (.sl T l .no) := .inr ⟨T, l, _root_.rfl, h⟩

theorem decInt_wk (k : IntKind) {cs : List V} {x : Int} (h : decInt k cs = some x) : WkL cs (Ty.cells (.int k) x) := by
  unfold decInt at h
  split at h
  · split at h
    · rename_i e; subst e; cases h; exact .cons .rfl .nil
    · cases h
  · cases h
theorem decBool_wk  {cs : List V} {x : Bool} (h : decBool cs = some x) : WkL cs (Ty.cells (.bool) x) := by
  unfold decBool at h
  split at h
  · cases h; exact .cons .rfl .nil
  · cases h
theorem decStr_wk  {cs : List V} {x : Str} (h : decStr cs = some x) : WkL cs (Ty.cells (.str) x) := by
  unfold decStr at h
  split at h
  · cases h; exact .cons .rfl .nil
  · cases h
theorem decDcm_wk  {cs : List V} {x : Dcm} (h : decDcm cs = some x) : WkL cs (Ty.cells (.dcm) x) := by
  unfold decDcm at h
  split at h
  · cases h; exact .cons .rfl (.cons .rfl .nil)
  · cases h
theorem decJson_wk  {cs : List V} {x : Json} (h : decJson cs = some x) : WkL cs (Ty.cells (.json) x) := by
  unfold decJson at h
  split at h
  · split at h
    · cases h; exact .cons .rfl (.cons .rfl (.cons .rfl (.cons .rfl (.cons (.sl ‹_›) (.cons (.sl ‹_›) .nil)))))
    · cases h
  · cases h
theorem decRaw_wk  {cs : List V} {x : Raw} (h : decRaw cs = some x) : WkL cs (Ty.cells (.raw) x) := by
  unfold decRaw at h
  split at h
  · split at h
    · cases h; exact .cons .rfl (.cons .rfl (.cons .rfl (.cons (.sl ‹_›) (.cons (.sl ‹_›) .nil))))
    · cases h
  · cases h
theorem decRaw3_wk  {cs : List V} {x : Raw3} (h : decRaw3 cs = some x) : WkL cs (Ty.cells (.raw3) x) := by
  unfold decRaw3 at h
  split at h
  · split at h
    · cases h; exact .cons .rfl (.cons .rfl (.cons .rfl (.cons (.sl ‹_›) .nil)))
    · cases h
  · cases h
theorem decFld_wk  {cs : List V} {x : Fld} (h : decFld cs = some x) : WkL cs (Ty.cells (.fld) x) := by
  unfold decFld at h
  split at h
  · cases h; exact .cons .rfl (.cons .rfl (.cons .rfl (.cons .rfl (.cons .rfl .nil))))
  · cases h
theorem decMail_wk  {cs : List V} {x : Mail} (h : decMail cs = some x) : WkL cs (Ty.cells (.mail) x) := by
  unfold decMail at h
  split at h
  · cases h; exact .cons .rfl (.cons .rfl (.cons .rfl .nil))
  · cases h
theorem decToken_wk  {cs : List V} {x : Token} (h : decToken cs = some x) : WkL cs (Ty.cells (.token) x) := by
  unfold decToken at h
  split at h
  · cases h; exact .cons .rfl (.cons .rfl (.cons .rfl (.cons .rfl (.cons .rfl .nil))))
  · cases h
theorem decStop_wk  {cs : List V} {x : Stop} (h : decStop cs = some x) : WkL cs (Ty.cells (.stop) x) := by
  unfold decStop at h
  split at h
  · cases h; exact .cons .rfl (.cons .rfl (.cons .rfl .nil))
  · cases h
theorem decWay_wk  {cs : List V} {x : Way} (h : decWay cs = some x) : WkL cs (Ty.cells (.way) x) := by
  unfold decWay at h
  split at h
  · cases h; exact .cons .rfl (.cons .rfl (.cons .rfl .nil))
  · cases h
theorem decOrder_wk  {cs : List V} {x : Order} (h : decOrder cs = some x) : WkL cs (Ty.cells (.order) x) := by
  unfold decOrder at h
  split at h
  · split at h
    · cases h; exact .cons .rfl (.cons .rfl (.cons .rfl (.cons .rfl (.cons (.sl ‹_›) (.cons (.sl ‹_›) .nil)))))
    · cases h
  · cases h
theorem decEdge_wk  {cs : List V} {x : Edge} (h : decEdge cs = some x) : WkL cs (Ty.cells (.edge) x) := by
  unfold decEdge at h
  split at h
  · cases h; exact .cons .rfl (.cons .rfl (.cons .rfl .nil))
  · cases h
theorem decLayout_wk  {cs : List V} {x : Layout} (h : decLayout cs = some x) : WkL cs (Ty.cells (.layout) x) := by
  unfold decLayout at h
  split at h
  · split at h
    · cases h; exact .cons .rfl (.cons (.sl ‹_›) .nil)
    · cases h
  · cases h
theorem decTopic_wk  {cs : List V} {x : Topic} (h : decTopic cs = some x) : WkL cs (Ty.cells (.topic) x) := by
  unfold decTopic at h
  split at h
  · cases h; exact .cons .rfl (.cons .rfl (.cons .rfl .nil))
  · cases h
theorem decState_wk  {cs : List V} {x : State} (h : decState cs = some x) : WkL cs (Ty.cells (.state) x) := by
  unfold decState at h
  split at h
  · cases h; exact .cons .rfl (.cons .rfl (.cons .rfl (.cons .rfl (.cons .rfl (.cons .rfl (.cons .rfl (.cons .rfl (.cons .rfl (.cons .rfl .nil)))))))))
  · cases h
theorem decCtl_wk  {cs : List V} {x : Ctl} (h : decCtl cs = some x) : WkL cs (Ty.cells (.ctl) x) := by
  unfold decCtl at h
  split at h
  · split at h
    · cases h; exact .cons .rfl (.cons .rfl (.cons .rfl (.cons .rfl (.cons .rfl (.cons .rfl (.cons (.sl ‹_›) (.cons .rfl (.cons .rfl (.cons .rfl (.cons .rfl (.cons .rfl (.cons .rfl (.cons .rfl (.cons .rfl (.cons (.sl ‹_›) (.cons (.sl ‹_›) .nil))))))))))))))))
    · cases h
  · cases h
theorem decOp17_wk  {cs : List V} {x : Op17} (h : decOp17 cs = some x) : WkL cs (Ty.cells (.op17) x) := by
  unfold decOp17 at h
  split at h
  · cases h; exact .cons .rfl (.cons .rfl (.cons .rfl (.cons .rfl (.cons .rfl .nil))))
  · cases h
theorem decRaw13_wk  {cs : List V} {x : Raw13} (h : decRaw13 cs = some x) : WkL cs (Ty.cells (.raw13) x) := by
  unfold decRaw13 at h
  split at h
  · split at h
    · cases h; exact .cons .rfl (.cons .rfl (.cons .rfl (.cons .rfl (.cons .rfl (.cons .rfl (.cons (.sl ‹_›) .nil))))))
    · cases h
  · cases h
theorem decEv16_wk  {cs : List V} {x : Ev16} (h : decEv16 cs = some x) : WkL cs (Ty.cells (.ev16) x) := by
  unfold decEv16 at h
  split at h
  · split at h
    · cases h; exact .cons .rfl (.cons .rfl (.cons .rfl (.cons .rfl (.cons .rfl (.cons .rfl (.cons .rfl (.cons (.sl ‹_›) (.cons .rfl .nil))))))))
    · cases h
  · cases h
theorem decEv18_wk  {cs : List V} {x : Ev18} (h : decEv18 cs = some x) : WkL cs (Ty.cells (.ev18) x) := by
  unfold decEv18 at h
  split at h
  · split at h
    · cases h; exact .cons .rfl (.cons .rfl (.cons (.sl ‹_›) .nil))
    · cases h
  · cases h
theorem decArr3_wk  {cs : List V} {x : Arr3} (h : decArr3 cs = some x) : WkL cs (Ty.cells (.arr3) x) := by
  unfold decArr3 at h
  split at h
  · cases h; exact .cons .rfl (.cons .rfl (.cons .rfl .nil))
  · cases h
theorem decArr2_wk  {cs : List V} {x : Arr2} (h : decArr2 cs = some x) : WkL cs (Ty.cells (.arr2) x) := by
  unfold decArr2 at h
  split at h
  · cases h; exact .cons .rfl (.cons .rfl .nil)
  · cases h
theorem decDec2_wk  {cs : List V} {x : Dec2} (h : decDec2 cs = some x) : WkL cs (Ty.cells (.dec2) x) := by
  unfold decDec2 at h
  split at h
  · cases h; exact .cons .rfl (.cons .rfl (.cons .rfl (.cons .rfl .nil)))
  · cases h
theorem decPost_wk  {cs : List V} {x : Post} (h : decPost cs = some x) : WkL cs (Ty.cells (.post) x) := by
  unfold decPost at h
  split at h
  · cases h; exact .cons .rfl (.cons .rfl .nil)
  · cases h
theorem decJob_wk  {cs : List V} {x : Job} (h : decJob cs = some x) : WkL cs (Ty.cells (.job) x) := by
  unfold decJob at h
  split at h
  · cases h; exact .cons .rfl (.cons .rfl (.cons .rfl (.cons .rfl .nil)))
  · cases h
theorem decRecord_wk  {cs : List V} {x : Record} (h : decRecord cs = some x) : WkL cs (Ty.cells (.record) x) := by
  unfold decRecord at h
  split at h
  · split at h
    · cases h; exact .cons .rfl (.cons (.sl ‹_›) (.cons .rfl .nil))
    · cases h
  · cases h

theorem dec_wk : ∀ (T : Ty) {cs : List V} {x : T.den}, T.dec cs = some x → WkL cs (T.cells x)
  | .int k, _, _, h => decInt_wk k h
  | .bool, _, _, h => decBool_wk h
  | .str, _, _, h => decStr_wk h
  | .dcm, _, _, h => decDcm_wk h
  | .json, _, _, h => decJson_wk h
  | .raw, _, _, h => decRaw_wk h
  | .raw3, _, _, h => decRaw3_wk h
  | .fld, _, _, h => decFld_wk h
  | .mail, _, _, h => decMail_wk h
  | .token, _, _, h => decToken_wk h
  | .stop, _, _, h => decStop_wk h
  | .way, _, _, h => decWay_wk h
  | .order, _, _, h => decOrder_wk h
  | .edge, _, _, h => decEdge_wk h
  | .layout, _, _, h => decLayout_wk h
  | .topic, _, _, h => decTopic_wk h
  | .state, _, _, h => decState_wk h
  | .ctl, _, _, h => decCtl_wk h
  | .op17, _, _, h => decOp17_wk h
  | .raw13, _, _, h => decRaw13_wk h
  | .ev16, _, _, h => decEv16_wk h
  | .ev18, _, _, h => decEv18_wk h
  | .arr3, _, _, h => decArr3_wk h
  | .arr2, _, _, h => decArr2_wk h
  | .dec2, _, _, h => decDec2_wk h
  | .post, _, _, h => decPost_wk h
  | .job, _, _, h => decJob_wk h
  | .record, _, _, h => decRecord_wk h

end Go.Yard
