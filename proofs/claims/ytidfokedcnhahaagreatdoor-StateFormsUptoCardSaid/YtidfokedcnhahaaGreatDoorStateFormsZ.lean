/-
  StateForms, part 10 of 10.
-/
import Derived.Test.YtidfokedcnhahaaGreatDoorGAB9
set_option linter.unusedSimpArgs false
set_option linter.unnecessarySimpa false
set_option linter.unusedVariables false
set_option linter.unusedSectionVars false
noncomputable section
set_option maxRecDepth 100000
namespace Go.Proofs.YtidfokedcnhahaaGreatDoor.stateForms
open Go.ChangeShapes Go.WideShapes Go.ChangeAt Go.RowKit Go.aq Door
theorem run (a0:aq.State) (a1:Int) (a2:ag):aC tZ ua (yX s9) av [.agg [.int .i64 a0.header, .int .i64 a0.dc, .str a0.bc, .int .i64 a0.order, .int .i64 a0.update, .bool a0.live, .int .i64 a0.node, .int .i64 a0.seq, .bool a0.bz, .int .i64 a0.accepted], .int .i64 a1, .str a2] [] kOk=s9 a0 a1 a2 (fun q0=>kOk (.bool q0) []):=by kernel_rfl
theorem xb (H:Type) (enc:TypeId×Value→H) (W:World) (base:Nat) (args:Array Value) (ds gs:List (DataW H)) (before:List MemPlace)
  (lM:∀(j:Nat) t v,Tryz.f15.params[j]? = some t→args[j]? = some v→Value.okWide Tryz.prog W .any base t v)
  (hW:DataW.Whole enc Tryz.prog Tryz.f15.params.toList Rows.stateFormsSpec.vars false W args.toList ds gs before) (hL:laidMetH Tryz.prog Rows.stateFormsUptoRow.laid W) (hk:Rows.uptoSmall H (ds++gs)=true) :
  Calls Tryz.prog 15 args W fun e W'=>∃v,e = .returned v∧Rows.stateFormsSpec.post enc Tryz.prog Tryz.f15 false true false false W args v W':=by
 have hW':=hW
 obtain ⟨p,q,hA0,hV,hpq,hfz,KU⟩:=hW
 have hA:DataW.TrodAll enc Tryz.prog W 0 (fun _=>true) true [63,3,9] args.toList ds p:=hA0
 have lM:∀(j:Nat) t v,(#[63,3,9]:Array Nat)[j]? = some t→args[j]? = some v→Value.okWide Tryz.prog W .any base t v:=lM
 obtain ⟨v0,vs0,d0,ds0,p0,q0,Uh,rfl,rfl,h0,r0⟩:=trodAll_cons hA
 obtain ⟨v1,vs1,d1,ds1,p1,q1,rfl,rfl,rfl,h1,r1⟩:=trodAll_cons r0
 obtain ⟨v2,vs2,d2,ds2,p2,q2,rfl,rfl,rfl,h2,r2⟩:=trodAll_cons r1
 obtain ⟨rfl,rfl,rfl⟩:=trodAll_nil r2
 obtain rfl:args = #[v0,v1,v2]:=by cases args; simp_all
 have hV':DataW.TrodVars enc Tryz.prog W (fun _=>true) [] gs q:=hV
 obtain ⟨rfl,rfl⟩:=trodVars_none hV'
 have hb:Rows.uptoBulkAll ([d0,d1,d2] ++ [])≤1048576:=of_decide_eq_true hk
 simp only[List.append_nil,Rows.uptoBulkAll]at hb
 obtain ⟨a0,q0,s0⟩:=GP (T := .state) (N:=1048576) leaves (by kernel_rfl) (by kernel_rfl) (lM 0 63 v0 rfl rfl) h0 (by omega) (Nat.le_of_ble_eq_true rfl)
 obtain ⟨a1,q1,s1⟩:=Mz (p := .int .i64) (N:=1048576) leaves (by kernel_rfl) (by kernel_rfl) (lM 1 3 v1 rfl rfl) h1 (by omega) (Nat.le_of_ble_eq_true rfl)
 obtain ⟨a2,q2,s2⟩:=Mz (p := .str) (N:=1048576) leaves (by kernel_rfl) (by kernel_rfl) (lM 2 9 v2 rfl rfl) h2 (by omega) (Nat.le_of_ble_eq_true rfl)
 have ra:cF W [] RM [.agg [.int .i64 a0.header, .int .i64 a0.dc, .str a0.bc, .int .i64 a0.order, .int .i64 a0.update, .bool a0.live, .int .i64 a0.node, .int .i64 a0.seq, .bool a0.bz, .int .i64 a0.accepted], .int .i64 a1, .str a2] #[v0,v1,v2].toList:=(.cons q0 (.cons q1 (.cons q2 .nil)))
 obtain ⟨QZ,C1⟩:=Rn (W:=W) hL
 refine (D6 Tryz.func15 rfl rfl (O4 Unit _ (fA _)) QZ C1 ra ((run a0 a1 a2).trans (X2 a0 a1 a2 s0 s1 s2 (fun q0=>kOk (.bool q0) [])))).mono fun e W' ⟨he,L⟩=>⟨_,he,?_⟩
 exact Ho (by kernel_rfl) (Hn (by kernel_rfl)) rfl rfl rfl (show Tryz.prog.underlying 4=some .bool by kernel_rfl) hW' L
theorem reads (os:Os) {H:Type} (enc:TypeId×Value→H):(DataW.whole enc Tryz.prog ((oq os).forCall (fun _ _=>0) ⟨#[], #[.agg #[.int .i64 0, .int .i64 0, .string .empty, .int .i64 0, .int .i64 0, .bool false, .int .i64 0, .int .i64 0, .bool false, .int .i64 0], .int .i64 0, .string .empty], []⟩).memory Tryz.f15.params.toList Rows.stateFormsSpec.vars false (#[.agg #[.int .i64 0, .int .i64 0, .string .empty, .int .i64 0, .int .i64 0, .bool false, .int .i64 0, .int .i64 0, .bool false, .int .i64 0], .int .i64 0, .string .empty]:Array Value).toList 8).map (fun x=>(x.1,x.2.1))=some ([.agg [.lit (.int .i64 0), .lit (.int .i64 0), .lit (.string []), .lit (.int .i64 0), .lit (.int .i64 0), .lit (.bool false), .lit (.int .i64 0), .lit (.int .i64 0), .lit (.bool false), .lit (.int .i64 0)], .lit (.int .i64 0), .lit (.string [])], []):=by kernel_rfl
theorem lifted (os:Os) (started:os.Started) (H:Type) (enc:TypeId×Value→H) (F:Stop.Interp) :
  ReturnsInHanded {} Tryz.checked os 15 .any ((Rows.OpenSpec.upto Rows.stateFormsSpec).preRow enc Tryz.prog Tryz.f15 Rows.stateFormsUptoRow.domain false Rows.stateFormsUptoRow.laid) (((Rows.OpenSpec.upto Rows.stateFormsSpec).at F).post enc Tryz.prog Tryz.f15 false true false false):=by
 obtain ⟨⟨x1,x2,x3⟩,hx,hx1⟩:=Option.map_eq_some_iff.1 (reads os enc)
 simp only[Prod.mk.injEq]at hx1
 obtain ⟨rfl,rfl⟩:=hx1
 refine returnsInHanded_of_row (C:=Tryz.checked) (s:=Rows.OpenSpec.upto Rows.stateFormsSpec) own started (by kernel_rfl) Tryz.func15
  (witness_row_atRef (enc:=enc) (C:=Tryz.checked) false (oq os) #[.agg #[.int .i64 0, .int .i64 0, .string .empty, .int .i64 0, .int .i64 0, .bool false, .int .i64 0, .int .i64 0, .bool false, .int .i64 0], .int .i64 0, .string .empty] rfl (by kernel_rfl) (by kernel_rfl) (by kernel_rfl)
   (OpenSpec.preRow_of_cond 8 hx (by kernel_rfl) (fun k hk=>by cases hk; kernel_rfl) (by kernel_rfl) (Lf os _))) ?_
 intro W base args ds gs before lM hW _ n8 _ hL _ _
 exact xb H enc W base args ds gs before lM hW hL (n8 _ rfl)
theorem Q0:Rows.stateFormsUptoRow.wf (OpenSpec.ofChange (Rows.OpenSpec.upto Rows.stateFormsSpec).bare)=true:=by kernel_rfl
theorem Q1:laidOutB Tryz.pinned.checked.prog=true:=by kernel_rfl
theorem Q2:mapsRowed Tryz.pinned.checked.prog=true:=by kernel_rfl
theorem Q3:Tryz.f15.params.all (Tryz.pinned.checked.prog.readableRec ·)=true:=by kernel_rfl
theorem Q4:namedTie Tryz.pinned.checked.prog Rows.stateFormsUptoRow.named (Rows.OpenSpec.upto Rows.stateFormsSpec).bare.vars=true:=by kernel_rfl
theorem Q5:(Rows.stateFormsUptoRow.stops == [])=true:=by kernel_rfl
theorem Q6:(Tryz.pinned.checked.prog.stops == [])=true:=by kernel_rfl
theorem Q7:(Rows.stateFormsUptoRow.knobs == [])=true:=by kernel_rfl
theorem Q8:(Tryz.pinned.checked.prog.stopKnobs == [])=true:=by kernel_rfl
theorem Iv:(Rows.stateFormsUptoRow.inPlace==Tryz.pinned.checked.prog.inPlace 15)=true:=by kernel_rfl
theorem Iw:(Rows.stateFormsUptoRow.unfollowed==Tryz.pinned.checked.prog.unfollowed 15)=true:=by kernel_rfl
theorem Ix:(Rows.stateFormsUptoRow.recurses==Tryz.pinned.checked.prog.recurses 15)=true:=by kernel_rfl
theorem Iy:(Rows.stateFormsUptoRow.named==Tryz.pinned.checked.prog.varsNamed 15)=true:=by kernel_rfl
theorem Iz:(Rows.stateFormsUptoRow.maps==(Tryz.f15.params.toList++(Rows.OpenSpec.upto Rows.stateFormsSpec).bare.plain.varTypes Tryz.pinned.checked.prog).any (Tryz.pinned.checked.prog.mapsRec ·))=true:=by kernel_rfl
theorem IA:(Rows.stateFormsUptoRow.ifaces==(Tryz.f15.params.toList++(Rows.OpenSpec.upto Rows.stateFormsSpec).bare.plain.varTypes Tryz.pinned.checked.prog).any (Tryz.pinned.checked.prog.ifacesRec ·))=true:=by kernel_rfl
theorem IB:(Rows.stateFormsUptoRow.mapsOut==Tryz.pinned.checked.prog.mapsAmong Tryz.f15.resultTypes.toList)=true:=by kernel_rfl
theorem IC:(Rows.stateFormsUptoRow.loops==(Tryz.f15.params.toList++(Rows.OpenSpec.upto Rows.stateFormsSpec).bare.plain.varTypes Tryz.pinned.checked.prog).any (Tryz.pinned.checked.prog.loopsFrom ·))=true:=by kernel_rfl
theorem ID:(Rows.stateFormsUptoRow.wideKeys==(Tryz.f15.params.toList++(Rows.OpenSpec.upto Rows.stateFormsSpec).bare.plain.varTypes Tryz.pinned.checked.prog++Tryz.f15.resultTypes.toList).any (Tryz.pinned.checked.prog.wideKeysFrom ·))=true:=by kernel_rfl
theorem IE:(Rows.OpenSpec.upto Rows.stateFormsSpec).bare.vars.all (Tryz.pinned.checked.prog.varReadable ·)=true:=by kernel_rfl
theorem IF:Tryz.f15.resultTypes.all (fun t=>Tryz.pinned.checked.prog.readableRec t&&decide (t<Tryz.pinned.checked.prog.types.size))=true:=by kernel_rfl
theorem IG:(Rows.stateFormsUptoRow.ifacesOut==Tryz.f15.resultTypes.toList.any (Tryz.pinned.checked.prog.ifacesRec ·))=true:=by kernel_rfl
theorem IH:(Rows.stateFormsUptoRow.loopsOut==Tryz.f15.resultTypes.toList.any (Tryz.pinned.checked.prog.loopsFrom ·))=true:=by kernel_rfl
theorem II:(Rows.stateFormsUptoRow.plainKeys==Tryz.pinned.checked.prog.plainKeys)=true:=by kernel_rfl
theorem IJ:Rows.stateFormsUptoRow.shortTexts.isNone=true:=by kernel_rfl
theorem IK:Tryz.pinned.checked.prog.stopsHeard=true:=by kernel_rfl
theorem IL:Tryz.pinned.checked.prog.mayEnter=true:=by kernel_rfl
theorem IM:(Rows.stateFormsUptoRow.lifted==Tryz.pinned.checked.prog.liftsFinal)=true:=by kernel_rfl
theorem IN:(Tryz.pinned.checked.prog.make==some Rows.stateFormsUptoRow.make)=true:=by kernel_rfl
theorem IP:(Rows.stateFormsUptoRow.kinds==(if Rows.stateFormsUptoRow.domain.isEmpty then []else Tryz.f15.params.toList.map fun t=>match Tryz.pinned.checked.prog.underlying t with|some (.int k)=>some k|_=>none))=true:=by kernel_rfl
theorem IQ:(Rows.stateFormsUptoRow.pinned==Rows.stateFormsUptoRow.pinnedBy)=true:=by kernel_rfl
theorem IS:(Rows.stateFormsUptoRow.veiled==(Tryz.f15.params.toList++(Rows.OpenSpec.upto Rows.stateFormsSpec).bare.plain.varTypes Tryz.pinned.checked.prog++Tryz.f15.resultTypes.toList).any (Tryz.pinned.checked.prog.veiledRec ·))=true:=by kernel_rfl
theorem IT:Rows.stateFormsUptoRow.veiledFits Tryz.pinned.checked.prog Tryz.f15.params.toList (Tryz.f15.params.toList++(Rows.OpenSpec.upto Rows.stateFormsSpec).bare.plain.varTypes Tryz.pinned.checked.prog++Tryz.f15.resultTypes.toList)=true:=by kernel_rfl
theorem closed:joinedFacts Tryz.pinned.checked.prog 15 Tryz.f15 (Rows.OpenSpec.upto Rows.stateFormsSpec).bare Rows.stateFormsUptoRow=true :=
 Hi Q0 Q1 Q2 Q3 Q4 Q5 Q6 Q7 Q8 Iv Iw Ix Iy Iz IA IB IC ID IE IF IG IH II IJ IK IL IM IN IP IQ IS IT
theorem xc:Rows.StateFormsUptoSaid :=
 OpenClaim.holds_of_cond 15 Tryz.f15 rfl rfl rfl rfl rfl rfl rfl ⟨rfl,rfl,rfl,rfl,rfl⟩ rfl rfl rfl rfl rfl (by kernel_rfl) Tryz.func15 closed
  (of_decide_eq_true (by kernel_rfl)) (by unfold Func.isWrapper; first|(rw[if_pos (by decide +kernel)]; kernel_rfl)|(rw[if_neg (by decide +kernel)]; exact ⟨rfl,rfl⟩))
  (fun os started H enc _ F=>by rw[OpenClaim.pre_eq_preRow]; exact lifted os started H enc F)
theorem plain (f:FuncId) (fn:Func) (hf:Tryz.pinned.checked.prog.funcNamed "humpyard/humpyardlaw09.StateForms" = some f) (hfn:Tryz.pinned.checked.prog.funcs[f]? = some fn) :
  true=Tryz.pinned.checked.prog.looks []∧∀(j:Nat) t,fn.params[j]? = some t→Tryz.pinned.checked.prog.wantsStandIn t=false:=by
 obtain rfl:f=15:=Option.some.inj ((show Tryz.prog.funcNamed "humpyard/humpyardlaw09.StateForms" = some 15 by kernel_rfl).symm.trans hf) |>.symm
 obtain rfl:fn=Tryz.f15:=(Option.some.inj (Tryz.func15.symm.trans hfn)).symm
 refine ⟨by kernel_rfl,fun j t ht => ?_⟩
 have pO:Tryz.f15.params.toList.all (fun t => !Tryz.prog.wantsStandIn t)=true:=by kernel_rfl
 have hm:t∈Tryz.f15.params.toList:=Array.mem_toList_iff.2 (Array.mem_of_getElem? ht)
 have:=List.all_eq_true.1 pO t hm
 exact (show Tryz.prog.wantsStandIn t=false by simpa using this)
theorem Q9:Rows.stateFormsUptoRow.wfByText (Rows.OpenSpec.upto Rows.stateFormsSpec)=true:=by kernel_rfl
theorem Ra:Tryz.pinned.checked.prog.mainIs=some (true,("52d89ea66f9b054a1e9b376e7589da8cb69240856ce437513011a9f7de00e165" : String).toList):=by kernel_rfl
theorem Rb:false=Rows.stateFormsUptoRow.goesBy Tryz.pinned.checked.prog:=by kernel_rfl
end Go.Proofs.YtidfokedcnhahaaGreatDoor.stateForms
namespace Go.Proofs.YtidfokedcnhahaaGreatDoor
open Go.RowKit
theorem stateForms_card_upto:Rows.StateFormsUptoCardSaid :=
 Claim7.holds_tied_plain_at .later [] _ _ _ _ stateForms.xc (fun _ h=>by cases h) stateForms.Q9 (fun _ h=>by cases h) stateFormsUpto_row_tie rfl ⟨rfl,rfl⟩ stateForms.Ra rfl stateForms.plain stateForms.Rb
end Go.Proofs.YtidfokedcnhahaaGreatDoor
end
