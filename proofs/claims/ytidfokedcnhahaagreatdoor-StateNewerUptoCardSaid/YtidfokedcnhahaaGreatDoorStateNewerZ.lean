/-
  StateNewer, part 10 of 10.
-/
import Derived.Test.YtidfokedcnhahaaGreatDoorGAB9
set_option linter.unusedSimpArgs false
set_option linter.unnecessarySimpa false
set_option linter.unusedVariables false
set_option linter.unusedSectionVars false
noncomputable section
set_option maxRecDepth 100000
namespace Go.Proofs.YtidfokedcnhahaaGreatDoor.stateNewer
open Go.ChangeShapes Go.WideShapes Go.ChangeAt Go.RowKit Go.aq Door
theorem run (a0:aq.State) (a1:aq.State) (a2:aq.State):aC tY tZ (ze s9) av [.agg [.int .i64 a0.header, .int .i64 a0.dc, .str a0.bc, .int .i64 a0.order, .int .i64 a0.update, .bool a0.live, .int .i64 a0.node, .int .i64 a0.seq, .bool a0.bz, .int .i64 a0.accepted], .agg [.int .i64 a1.header, .int .i64 a1.dc, .str a1.bc, .int .i64 a1.order, .int .i64 a1.update, .bool a1.live, .int .i64 a1.node, .int .i64 a1.seq, .bool a1.bz, .int .i64 a1.accepted], .agg [.int .i64 a2.header, .int .i64 a2.dc, .str a2.bc, .int .i64 a2.order, .int .i64 a2.update, .bool a2.live, .int .i64 a2.node, .int .i64 a2.seq, .bool a2.bz, .int .i64 a2.accepted]] [] kOk=s9 a0 a1 a2 (fun q0=>kOk (.bool q0) []):=by kernel_rfl
theorem xg (H:Type) (enc:TypeId×Value→H) (W:World) (base:Nat) (args:Array Value) (ds gs:List (DataW H)) (before:List MemPlace)
  (lN:∀(j:Nat) t v,Tryz.f14.params[j]? = some t→args[j]? = some v→Value.okWide Tryz.prog W .any base t v)
  (hW:DataW.Whole enc Tryz.prog Tryz.f14.params.toList Rows.stateNewerSpec.vars false W args.toList ds gs before) (hL:laidMetH Tryz.prog Rows.stateNewerUptoRow.laid W) (hk:Rows.uptoSmall H (ds++gs)=true) :
  Calls Tryz.prog 14 args W fun e W'=>∃v,e = .returned v∧Rows.stateNewerSpec.post enc Tryz.prog Tryz.f14 false true false false W args v W':=by
 have hW':=hW
 obtain ⟨p,q,hA0,hV,hpq,hfz,KZ⟩:=hW
 have hA:DataW.TrodAll enc Tryz.prog W 0 (fun _=>true) true [63,63,63] args.toList ds p:=hA0
 have lN:∀(j:Nat) t v,(#[63,63,63]:Array Nat)[j]? = some t→args[j]? = some v→Value.okWide Tryz.prog W .any base t v:=lN
 obtain ⟨v0,vs0,d0,ds0,p0,q0,Uo,rfl,rfl,h0,r0⟩:=trodAll_cons hA
 obtain ⟨v1,vs1,d1,ds1,p1,q1,rfl,rfl,rfl,h1,r1⟩:=trodAll_cons r0
 obtain ⟨v2,vs2,d2,ds2,p2,q2,rfl,rfl,rfl,h2,r2⟩:=trodAll_cons r1
 obtain ⟨rfl,rfl,rfl⟩:=trodAll_nil r2
 obtain rfl:args = #[v0,v1,v2]:=by cases args; simp_all
 have hV':DataW.TrodVars enc Tryz.prog W (fun _=>true) [] gs q:=hV
 obtain ⟨rfl,rfl⟩:=trodVars_none hV'
 have hb:Rows.uptoBulkAll ([d0,d1,d2] ++ [])≤1048576:=of_decide_eq_true hk
 simp only[List.append_nil,Rows.uptoBulkAll]at hb
 obtain ⟨a0,q0,s0⟩:=GZ (T := .state) (N:=1048576) leaves (by kernel_rfl) (by kernel_rfl) (lN 0 63 v0 rfl rfl) h0 (by omega) (Nat.le_of_ble_eq_true rfl)
 obtain ⟨a1,q1,s1⟩:=GZ (T := .state) (N:=1048576) leaves (by kernel_rfl) (by kernel_rfl) (lN 1 63 v1 rfl rfl) h1 (by omega) (Nat.le_of_ble_eq_true rfl)
 obtain ⟨a2,q2,s2⟩:=GZ (T := .state) (N:=1048576) leaves (by kernel_rfl) (by kernel_rfl) (lN 2 63 v2 rfl rfl) h2 (by omega) (Nat.le_of_ble_eq_true rfl)
 have ra:cC W [] RR [.agg [.int .i64 a0.header, .int .i64 a0.dc, .str a0.bc, .int .i64 a0.order, .int .i64 a0.update, .bool a0.live, .int .i64 a0.node, .int .i64 a0.seq, .bool a0.bz, .int .i64 a0.accepted], .agg [.int .i64 a1.header, .int .i64 a1.dc, .str a1.bc, .int .i64 a1.order, .int .i64 a1.update, .bool a1.live, .int .i64 a1.node, .int .i64 a1.seq, .bool a1.bz, .int .i64 a1.accepted], .agg [.int .i64 a2.header, .int .i64 a2.dc, .str a2.bc, .int .i64 a2.order, .int .i64 a2.update, .bool a2.live, .int .i64 a2.node, .int .i64 a2.seq, .bool a2.bz, .int .i64 a2.accepted]] #[v0,v1,v2].toList:=(.cons q0 (.cons q1 (.cons q2 .nil)))
 obtain ⟨Q4,C5⟩:=Rs (W:=W) hL
 refine (Ec Tryz.func14 rfl rfl (O9 Unit _ (fA _)) Q4 C5 ra ((run a0 a1 a2).trans (X9 a0 a1 a2  (fun q0=>kOk (.bool q0) [])))).mono fun e W' ⟨he,L⟩=>⟨_,he,?_⟩
 exact Hw (by kernel_rfl) (Hv (by kernel_rfl)) rfl rfl rfl (show Tryz.prog.underlying 4=some .bool by kernel_rfl) hW' L
theorem reads (os:Os) {H:Type} (enc:TypeId×Value→H):(DataW.whole enc Tryz.prog ((ot os).forCall (fun _ _=>0) ⟨#[], #[.agg #[.int .i64 0, .int .i64 0, .string .empty, .int .i64 0, .int .i64 0, .bool false, .int .i64 0, .int .i64 0, .bool false, .int .i64 0], .agg #[.int .i64 0, .int .i64 0, .string .empty, .int .i64 0, .int .i64 0, .bool false, .int .i64 0, .int .i64 0, .bool false, .int .i64 0], .agg #[.int .i64 0, .int .i64 0, .string .empty, .int .i64 0, .int .i64 0, .bool false, .int .i64 0, .int .i64 0, .bool false, .int .i64 0]], []⟩).memory Tryz.f14.params.toList Rows.stateNewerSpec.vars false (#[.agg #[.int .i64 0, .int .i64 0, .string .empty, .int .i64 0, .int .i64 0, .bool false, .int .i64 0, .int .i64 0, .bool false, .int .i64 0], .agg #[.int .i64 0, .int .i64 0, .string .empty, .int .i64 0, .int .i64 0, .bool false, .int .i64 0, .int .i64 0, .bool false, .int .i64 0], .agg #[.int .i64 0, .int .i64 0, .string .empty, .int .i64 0, .int .i64 0, .bool false, .int .i64 0, .int .i64 0, .bool false, .int .i64 0]]:Array Value).toList 8).map (fun x=>(x.1,x.2.1))=some ([.agg [.lit (.int .i64 0), .lit (.int .i64 0), .lit (.string []), .lit (.int .i64 0), .lit (.int .i64 0), .lit (.bool false), .lit (.int .i64 0), .lit (.int .i64 0), .lit (.bool false), .lit (.int .i64 0)], .agg [.lit (.int .i64 0), .lit (.int .i64 0), .lit (.string []), .lit (.int .i64 0), .lit (.int .i64 0), .lit (.bool false), .lit (.int .i64 0), .lit (.int .i64 0), .lit (.bool false), .lit (.int .i64 0)], .agg [.lit (.int .i64 0), .lit (.int .i64 0), .lit (.string []), .lit (.int .i64 0), .lit (.int .i64 0), .lit (.bool false), .lit (.int .i64 0), .lit (.int .i64 0), .lit (.bool false), .lit (.int .i64 0)]], []):=by kernel_rfl
theorem lifted (os:Os) (started:os.Started) (H:Type) (enc:TypeId×Value→H) (F:Stop.Interp) :
  ReturnsInHanded {} Tryz.checked os 14 .any ((Rows.OpenSpec.upto Rows.stateNewerSpec).preRow enc Tryz.prog Tryz.f14 Rows.stateNewerUptoRow.domain false Rows.stateNewerUptoRow.laid) (((Rows.OpenSpec.upto Rows.stateNewerSpec).at F).post enc Tryz.prog Tryz.f14 false true false false):=by
 obtain ⟨⟨x1,x2,x3⟩,hx,hx1⟩:=Option.map_eq_some_iff.1 (reads os enc)
 simp only[Prod.mk.injEq]at hx1
 obtain ⟨rfl,rfl⟩:=hx1
 refine returnsInHanded_of_row (C:=Tryz.checked) (s:=Rows.OpenSpec.upto Rows.stateNewerSpec) own started (by kernel_rfl) Tryz.func14
  (witness_row_atRef (enc:=enc) (C:=Tryz.checked) false (ot os) #[.agg #[.int .i64 0, .int .i64 0, .string .empty, .int .i64 0, .int .i64 0, .bool false, .int .i64 0, .int .i64 0, .bool false, .int .i64 0], .agg #[.int .i64 0, .int .i64 0, .string .empty, .int .i64 0, .int .i64 0, .bool false, .int .i64 0, .int .i64 0, .bool false, .int .i64 0], .agg #[.int .i64 0, .int .i64 0, .string .empty, .int .i64 0, .int .i64 0, .bool false, .int .i64 0, .int .i64 0, .bool false, .int .i64 0]] rfl (by kernel_rfl) (by kernel_rfl) (by kernel_rfl)
   (OpenSpec.preRow_of_cond 8 hx (by kernel_rfl) (fun k hk=>by cases hk; kernel_rfl) (by kernel_rfl) (Lh os _))) ?_
 intro W base args ds gs before lN hW _ n9 _ hL _ _
 exact xg H enc W base args ds gs before lN hW hL (n9 _ rfl)
theorem Q5:Rows.stateNewerUptoRow.wf (OpenSpec.ofChange (Rows.OpenSpec.upto Rows.stateNewerSpec).bare)=true:=by kernel_rfl
theorem Q6:laidOutB Tryz.pinned.checked.prog=true:=by kernel_rfl
theorem Q7:mapsRowed Tryz.pinned.checked.prog=true:=by kernel_rfl
theorem Q8:Tryz.f14.params.all (Tryz.pinned.checked.prog.readableRec ·)=true:=by kernel_rfl
theorem Q9:namedTie Tryz.pinned.checked.prog Rows.stateNewerUptoRow.named (Rows.OpenSpec.upto Rows.stateNewerSpec).bare.vars=true:=by kernel_rfl
theorem Ra:(Rows.stateNewerUptoRow.stops == [])=true:=by kernel_rfl
theorem Rb:(Tryz.pinned.checked.prog.stops == [])=true:=by kernel_rfl
theorem Rc:(Rows.stateNewerUptoRow.knobs == [])=true:=by kernel_rfl
theorem Rd:(Tryz.pinned.checked.prog.stopKnobs == [])=true:=by kernel_rfl
theorem IA:(Rows.stateNewerUptoRow.inPlace==Tryz.pinned.checked.prog.inPlace 14)=true:=by kernel_rfl
theorem IB:(Rows.stateNewerUptoRow.unfollowed==Tryz.pinned.checked.prog.unfollowed 14)=true:=by kernel_rfl
theorem IC:(Rows.stateNewerUptoRow.recurses==Tryz.pinned.checked.prog.recurses 14)=true:=by kernel_rfl
theorem ID:(Rows.stateNewerUptoRow.named==Tryz.pinned.checked.prog.varsNamed 14)=true:=by kernel_rfl
theorem IE:(Rows.stateNewerUptoRow.maps==(Tryz.f14.params.toList++(Rows.OpenSpec.upto Rows.stateNewerSpec).bare.plain.varTypes Tryz.pinned.checked.prog).any (Tryz.pinned.checked.prog.mapsRec ·))=true:=by kernel_rfl
theorem IF:(Rows.stateNewerUptoRow.ifaces==(Tryz.f14.params.toList++(Rows.OpenSpec.upto Rows.stateNewerSpec).bare.plain.varTypes Tryz.pinned.checked.prog).any (Tryz.pinned.checked.prog.ifacesRec ·))=true:=by kernel_rfl
theorem IG:(Rows.stateNewerUptoRow.mapsOut==Tryz.pinned.checked.prog.mapsAmong Tryz.f14.resultTypes.toList)=true:=by kernel_rfl
theorem IH:(Rows.stateNewerUptoRow.loops==(Tryz.f14.params.toList++(Rows.OpenSpec.upto Rows.stateNewerSpec).bare.plain.varTypes Tryz.pinned.checked.prog).any (Tryz.pinned.checked.prog.loopsFrom ·))=true:=by kernel_rfl
theorem II:(Rows.stateNewerUptoRow.wideKeys==(Tryz.f14.params.toList++(Rows.OpenSpec.upto Rows.stateNewerSpec).bare.plain.varTypes Tryz.pinned.checked.prog++Tryz.f14.resultTypes.toList).any (Tryz.pinned.checked.prog.wideKeysFrom ·))=true:=by kernel_rfl
theorem IJ:(Rows.OpenSpec.upto Rows.stateNewerSpec).bare.vars.all (Tryz.pinned.checked.prog.varReadable ·)=true:=by kernel_rfl
theorem IK:Tryz.f14.resultTypes.all (fun t=>Tryz.pinned.checked.prog.readableRec t&&decide (t<Tryz.pinned.checked.prog.types.size))=true:=by kernel_rfl
theorem IL:(Rows.stateNewerUptoRow.ifacesOut==Tryz.f14.resultTypes.toList.any (Tryz.pinned.checked.prog.ifacesRec ·))=true:=by kernel_rfl
theorem IM:(Rows.stateNewerUptoRow.loopsOut==Tryz.f14.resultTypes.toList.any (Tryz.pinned.checked.prog.loopsFrom ·))=true:=by kernel_rfl
theorem IN:(Rows.stateNewerUptoRow.plainKeys==Tryz.pinned.checked.prog.plainKeys)=true:=by kernel_rfl
theorem IP:Rows.stateNewerUptoRow.shortTexts.isNone=true:=by kernel_rfl
theorem IQ:Tryz.pinned.checked.prog.stopsHeard=true:=by kernel_rfl
theorem IS:Tryz.pinned.checked.prog.mayEnter=true:=by kernel_rfl
theorem IT:(Rows.stateNewerUptoRow.lifted==Tryz.pinned.checked.prog.liftsFinal)=true:=by kernel_rfl
theorem IU:(Tryz.pinned.checked.prog.make==some Rows.stateNewerUptoRow.make)=true:=by kernel_rfl
theorem IV:(Rows.stateNewerUptoRow.kinds==(if Rows.stateNewerUptoRow.domain.isEmpty then []else Tryz.f14.params.toList.map fun t=>match Tryz.pinned.checked.prog.underlying t with|some (.int k)=>some k|_=>none))=true:=by kernel_rfl
theorem IW:(Rows.stateNewerUptoRow.pinned==Rows.stateNewerUptoRow.pinnedBy)=true:=by kernel_rfl
theorem IX:(Rows.stateNewerUptoRow.veiled==(Tryz.f14.params.toList++(Rows.OpenSpec.upto Rows.stateNewerSpec).bare.plain.varTypes Tryz.pinned.checked.prog++Tryz.f14.resultTypes.toList).any (Tryz.pinned.checked.prog.veiledRec ·))=true:=by kernel_rfl
theorem IY:Rows.stateNewerUptoRow.veiledFits Tryz.pinned.checked.prog Tryz.f14.params.toList (Tryz.f14.params.toList++(Rows.OpenSpec.upto Rows.stateNewerSpec).bare.plain.varTypes Tryz.pinned.checked.prog++Tryz.f14.resultTypes.toList)=true:=by kernel_rfl
theorem closed:joinedFacts Tryz.pinned.checked.prog 14 Tryz.f14 (Rows.OpenSpec.upto Rows.stateNewerSpec).bare Rows.stateNewerUptoRow=true :=
 Hr Q5 Q6 Q7 Q8 Q9 Ra Rb Rc Rd IA IB IC ID IE IF IG IH II IJ IK IL IM IN IP IQ IS IT IU IV IW IX IY
theorem xh:Rows.StateNewerUptoSaid :=
 OpenClaim.holds_of_cond 14 Tryz.f14 rfl rfl rfl rfl rfl rfl rfl ⟨rfl,rfl,rfl,rfl,rfl⟩ rfl rfl rfl rfl rfl (by kernel_rfl) Tryz.func14 closed
  (of_decide_eq_true (by kernel_rfl)) (by unfold Func.isWrapper; first|(rw[if_pos (by decide +kernel)]; kernel_rfl)|(rw[if_neg (by decide +kernel)]; exact ⟨rfl,rfl⟩))
  (fun os started H enc _ F=>by rw[OpenClaim.pre_eq_preRow]; exact lifted os started H enc F)
theorem plain (f:FuncId) (fn:Func) (hf:Tryz.pinned.checked.prog.funcNamed "humpyard/humpyardlaw09.StateNewer" = some f) (hfn:Tryz.pinned.checked.prog.funcs[f]? = some fn) :
  true=Tryz.pinned.checked.prog.looks []∧∀(j:Nat) t,fn.params[j]? = some t→Tryz.pinned.checked.prog.wantsStandIn t=false:=by
 obtain rfl:f=14:=Option.some.inj ((show Tryz.prog.funcNamed "humpyard/humpyardlaw09.StateNewer" = some 14 by kernel_rfl).symm.trans hf) |>.symm
 obtain rfl:fn=Tryz.f14:=(Option.some.inj (Tryz.func14.symm.trans hfn)).symm
 refine ⟨by kernel_rfl,fun j t ht => ?_⟩
 have pP:Tryz.f14.params.toList.all (fun t => !Tryz.prog.wantsStandIn t)=true:=by kernel_rfl
 have hm:t∈Tryz.f14.params.toList:=Array.mem_toList_iff.2 (Array.mem_of_getElem? ht)
 have:=List.all_eq_true.1 pP t hm
 exact (show Tryz.prog.wantsStandIn t=false by simpa using this)
theorem Re:Rows.stateNewerUptoRow.wfByText (Rows.OpenSpec.upto Rows.stateNewerSpec)=true:=by kernel_rfl
theorem Rf:Tryz.pinned.checked.prog.mainIs=some (true,("52d89ea66f9b054a1e9b376e7589da8cb69240856ce437513011a9f7de00e165" : String).toList):=by kernel_rfl
theorem Rg:false=Rows.stateNewerUptoRow.goesBy Tryz.pinned.checked.prog:=by kernel_rfl
end Go.Proofs.YtidfokedcnhahaaGreatDoor.stateNewer
namespace Go.Proofs.YtidfokedcnhahaaGreatDoor
open Go.RowKit
theorem stateNewer_card_upto:Rows.StateNewerUptoCardSaid :=
 Claim7.holds_tied_plain_at .later [] _ _ _ _ stateNewer.xh (fun _ h=>by cases h) stateNewer.Re (fun _ h=>by cases h) stateNewerUpto_row_tie rfl ⟨rfl,rfl⟩ stateNewer.Rf rfl stateNewer.plain stateNewer.Rg
end Go.Proofs.YtidfokedcnhahaaGreatDoor
end
