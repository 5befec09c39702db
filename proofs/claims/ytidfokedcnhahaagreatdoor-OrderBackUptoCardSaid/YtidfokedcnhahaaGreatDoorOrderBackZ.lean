/-
  OrderBack, part 10 of 10.
-/
import Derived.Test.YtidfokedcnhahaaGreatDoorOrderBackB9
set_option linter.unusedSimpArgs false
set_option linter.unnecessarySimpa false
set_option linter.unusedVariables false
set_option linter.unusedSectionVars false
noncomputable section
set_option maxRecDepth 100000
namespace Go.Proofs.YtidfokedcnhahaaGreatDoor.orderBack
open Go.ChangeShapes Go.WideShapes Go.ChangeAt Go.RowKit Go.aC Door
theorem run (a0:Order) (a1:Int):aI vK vL (AG uJ) ax [.agg [.int .i64 a0.header, .str a0.cU, .int .i64 a0.order, .int .i64 a0.update, .sl .stop a0.nodes .no, .sl .qD a0.bN .no], .int .i64 a1] [] kOk=uJ a0 a1 (fun q0=>kOk (.bool q0) []):=by kernel_rfl
theorem contract (H:Type) (enc:TypeId×Value→H) (W:World) (base:Nat) (args:Array Value) (ds gs:List (DataW H)) (before:List MemPlace)
  (P2:∀(j:Nat) t v,Tryz.f4.params[j]? = some t→args[j]? = some v→Value.okWide Tryz.prog W .any base t v)
  (hW:DataW.Whole enc Tryz.prog Tryz.f4.params.toList Rows.orderBackSpec.vars false W args.toList ds gs before) (hL:laidMetH Tryz.prog Rows.orderBackUptoRow.laid W) (hk:Rows.uptoSmall H (ds++gs)=true) :
  Calls Tryz.prog 4 args W fun e W'=>∃v,e = .returned v∧Rows.orderBackSpec.post enc Tryz.prog Tryz.f4 false true false false W args v W':=by
 have hW':=hW
 obtain ⟨p,q,hA0,hV,hpq,hfz,Ng⟩:=hW
 have hA:DataW.TrodAll enc Tryz.prog W 0 (fun _=>true) true [25,3] args.toList ds p:=hA0
 have P2:∀(j:Nat) t v,(#[25,3]:Array Nat)[j]? = some t→args[j]? = some v→Value.okWide Tryz.prog W .any base t v:=P2
 obtain ⟨v0,vs0,d0,ds0,p0,q0,hargs,rfl,rfl,h0,r0⟩:=trodAll_cons hA
 obtain ⟨v1,vs1,d1,ds1,p1,q1,rfl,rfl,rfl,h1,r1⟩:=trodAll_cons r0
 obtain ⟨rfl,rfl,rfl⟩:=trodAll_nil r1
 obtain rfl:args = #[v0,v1]:=by cases args; simp_all
 have hV':DataW.TrodVars enc Tryz.prog W (fun _=>true) [] gs q:=hV
 obtain ⟨rfl,rfl⟩:=trodVars_none hV'
 have hb:Rows.uptoBulkAll ([d0,d1] ++ [])≤1048576:=of_decide_eq_true hk
 simp only[List.append_nil,Rows.uptoBulkAll]at hb
 obtain ⟨a0,q0,s0⟩:=arg_agg (T := .order) (N:=1048576) leaves (by kernel_rfl) (by kernel_rfl) (P2 0 25 v0 rfl rfl) h0 (by omega) (Nat.le_of_ble_eq_true rfl)
 obtain ⟨a1,q1,s1⟩:=arg_one (p := .int .i64) (N:=1048576) leaves (by kernel_rfl) (by kernel_rfl) (P2 1 3 v1 rfl rfl) h1 (by omega) (Nat.le_of_ble_eq_true rfl)
 have ra:cu W [] X8 [.agg [.int .i64 a0.header, .str a0.cU, .int .i64 a0.order, .int .i64 a0.update, .sl .stop a0.nodes .no, .sl .qD a0.bN .no], .int .i64 a1] #[v0,v1].toList:=(.cons q0 (.cons q1 .nil))
 obtain ⟨hsays,hblocks⟩:=lay_met (W:=W) hL
 refine (calls_true Tryz.func4 rfl rfl (Pt Unit _ (jl _)) hsays hblocks ra ((run a0 a1).trans (ZD a0 a1 s0 s1 (fun q0=>kOk (.bool q0) [])))).mono fun e W' ⟨he,L⟩=>⟨_,he,?_⟩
 exact post_true (by kernel_rfl) (params_ok (by kernel_rfl)) rfl rfl rfl (show Tryz.prog.underlying 4=some .bool by kernel_rfl) hW' L
theorem reads (os:Os) {H:Type} (enc:TypeId×Value→H):(DataW.whole enc Tryz.prog ((Ul os).forCall (fun _ _=>0) ⟨#[], #[.agg #[.int .i64 0, .string .empty, .int .i64 0, .int .i64 0, .slice none 0 0, .slice none 0 0], .int .i64 0], []⟩).memory Tryz.f4.params.toList Rows.orderBackSpec.vars false (#[.agg #[.int .i64 0, .string .empty, .int .i64 0, .int .i64 0, .slice none 0 0, .slice none 0 0], .int .i64 0]:Array Value).toList 8).map (fun x=>(x.1,x.2.1))=some ([.agg [.lit (.int .i64 0), .lit (.string []), .lit (.int .i64 0), .lit (.int .i64 0), .nil, .nil], .lit (.int .i64 0)], []):=by kernel_rfl
theorem lifted (os:Os) (started:os.Started) (H:Type) (enc:TypeId×Value→H) (F:Stop.Interp) :
  ReturnsInHanded {} Tryz.checked os 4 .any ((Rows.OpenSpec.upto Rows.orderBackSpec).preRow enc Tryz.prog Tryz.f4 Rows.orderBackUptoRow.domain false Rows.orderBackUptoRow.laid) (((Rows.OpenSpec.upto Rows.orderBackSpec).at F).post enc Tryz.prog Tryz.f4 false true false false):=by
 obtain ⟨⟨x1,x2,x3⟩,hx,hx1⟩:=Option.map_eq_some_iff.1 (reads os enc)
 simp only[Prod.mk.injEq]at hx1
 obtain ⟨rfl,rfl⟩:=hx1
 refine returnsInHanded_of_row (C:=Tryz.checked) (s:=Rows.OpenSpec.upto Rows.orderBackSpec) own started (by kernel_rfl) Tryz.func4
  (witness_row_atRef (enc:=enc) (C:=Tryz.checked) false (Ul os) #[.agg #[.int .i64 0, .string .empty, .int .i64 0, .int .i64 0, .slice none 0 0, .slice none 0 0], .int .i64 0] rfl (by kernel_rfl) (by kernel_rfl) (by kernel_rfl)
   (OpenSpec.preRow_of_cond 8 hx (by kernel_rfl) (fun k hk=>by cases hk; kernel_rfl) (by kernel_rfl) (laid_met os _))) ?_
 intro W base args ds gs before P2 hW _ xo _ hL _ _
 exact contract H enc W base args ds gs before P2 hW hL (xo _ rfl)
theorem fact1:Rows.orderBackUptoRow.wf (OpenSpec.ofChange (Rows.OpenSpec.upto Rows.orderBackSpec).bare)=true:=by kernel_rfl
theorem fact2:laidOutB Tryz.pinned.checked.prog=true:=by kernel_rfl
theorem fact3:mapsRowed Tryz.pinned.checked.prog=true:=by kernel_rfl
theorem fact4:Tryz.f4.params.all (Tryz.pinned.checked.prog.readableRec ·)=true:=by kernel_rfl
theorem fact5:namedTie Tryz.pinned.checked.prog Rows.orderBackUptoRow.named (Rows.OpenSpec.upto Rows.orderBackSpec).bare.vars=true:=by kernel_rfl
theorem fact6:(Rows.orderBackUptoRow.stops == [])=true:=by kernel_rfl
theorem fact7:(Tryz.pinned.checked.prog.stops == [])=true:=by kernel_rfl
theorem fact8:(Rows.orderBackUptoRow.knobs == [])=true:=by kernel_rfl
theorem fact9:(Tryz.pinned.checked.prog.stopKnobs == [])=true:=by kernel_rfl
theorem fact10:(Rows.orderBackUptoRow.inPlace==Tryz.pinned.checked.prog.inPlace 4)=true:=by kernel_rfl
theorem fact11:(Rows.orderBackUptoRow.unfollowed==Tryz.pinned.checked.prog.unfollowed 4)=true:=by kernel_rfl
theorem fact12:(Rows.orderBackUptoRow.recurses==Tryz.pinned.checked.prog.recurses 4)=true:=by kernel_rfl
theorem fact13:(Rows.orderBackUptoRow.named==Tryz.pinned.checked.prog.varsNamed 4)=true:=by kernel_rfl
theorem fact14:(Rows.orderBackUptoRow.maps==(Tryz.f4.params.toList++(Rows.OpenSpec.upto Rows.orderBackSpec).bare.plain.varTypes Tryz.pinned.checked.prog).any (Tryz.pinned.checked.prog.mapsRec ·))=true:=by kernel_rfl
theorem fact15:(Rows.orderBackUptoRow.ifaces==(Tryz.f4.params.toList++(Rows.OpenSpec.upto Rows.orderBackSpec).bare.plain.varTypes Tryz.pinned.checked.prog).any (Tryz.pinned.checked.prog.ifacesRec ·))=true:=by kernel_rfl
theorem fact16:(Rows.orderBackUptoRow.mapsOut==Tryz.pinned.checked.prog.mapsAmong Tryz.f4.resultTypes.toList)=true:=by kernel_rfl
theorem fact17:(Rows.orderBackUptoRow.loops==(Tryz.f4.params.toList++(Rows.OpenSpec.upto Rows.orderBackSpec).bare.plain.varTypes Tryz.pinned.checked.prog).any (Tryz.pinned.checked.prog.loopsFrom ·))=true:=by kernel_rfl
theorem fact18:(Rows.orderBackUptoRow.wideKeys==(Tryz.f4.params.toList++(Rows.OpenSpec.upto Rows.orderBackSpec).bare.plain.varTypes Tryz.pinned.checked.prog++Tryz.f4.resultTypes.toList).any (Tryz.pinned.checked.prog.wideKeysFrom ·))=true:=by kernel_rfl
theorem fact19:(Rows.OpenSpec.upto Rows.orderBackSpec).bare.vars.all (Tryz.pinned.checked.prog.varReadable ·)=true:=by kernel_rfl
theorem fact20:Tryz.f4.resultTypes.all (fun t=>Tryz.pinned.checked.prog.readableRec t&&decide (t<Tryz.pinned.checked.prog.types.size))=true:=by kernel_rfl
theorem fact21:(Rows.orderBackUptoRow.ifacesOut==Tryz.f4.resultTypes.toList.any (Tryz.pinned.checked.prog.ifacesRec ·))=true:=by kernel_rfl
theorem fact22:(Rows.orderBackUptoRow.loopsOut==Tryz.f4.resultTypes.toList.any (Tryz.pinned.checked.prog.loopsFrom ·))=true:=by kernel_rfl
theorem fact23:(Rows.orderBackUptoRow.plainKeys==Tryz.pinned.checked.prog.plainKeys)=true:=by kernel_rfl
theorem fact24:Rows.orderBackUptoRow.shortTexts.isNone=true:=by kernel_rfl
theorem fact25:Tryz.pinned.checked.prog.stopsHeard=true:=by kernel_rfl
theorem fact26:Tryz.pinned.checked.prog.mayEnter=true:=by kernel_rfl
theorem fact27:(Rows.orderBackUptoRow.lifted==Tryz.pinned.checked.prog.liftsFinal)=true:=by kernel_rfl
theorem fact28:(Tryz.pinned.checked.prog.make==some Rows.orderBackUptoRow.make)=true:=by kernel_rfl
theorem fact29:(Rows.orderBackUptoRow.kinds==(if Rows.orderBackUptoRow.domain.isEmpty then []else Tryz.f4.params.toList.map fun t=>match Tryz.pinned.checked.prog.underlying t with|some (.int k)=>some k|_=>none))=true:=by kernel_rfl
theorem fact30:(Rows.orderBackUptoRow.pinned==Rows.orderBackUptoRow.pinnedBy)=true:=by kernel_rfl
theorem fact31:(Rows.orderBackUptoRow.veiled==(Tryz.f4.params.toList++(Rows.OpenSpec.upto Rows.orderBackSpec).bare.plain.varTypes Tryz.pinned.checked.prog++Tryz.f4.resultTypes.toList).any (Tryz.pinned.checked.prog.veiledRec ·))=true:=by kernel_rfl
theorem fact32:Rows.orderBackUptoRow.veiledFits Tryz.pinned.checked.prog Tryz.f4.params.toList (Tryz.f4.params.toList++(Rows.OpenSpec.upto Rows.orderBackSpec).bare.plain.varTypes Tryz.pinned.checked.prog++Tryz.f4.resultTypes.toList)=true:=by kernel_rfl
theorem closed:joinedFacts Tryz.pinned.checked.prog 4 Tryz.f4 (Rows.OpenSpec.upto Rows.orderBackSpec).bare Rows.orderBackUptoRow=true :=
 joined_of fact1 fact2 fact3 fact4 fact5 fact6 fact7 fact8 fact9 fact10 fact11 fact12 fact13 fact14 fact15 fact16 fact17 fact18 fact19 fact20 fact21 fact22 fact23 fact24 fact25 fact26 fact27 fact28 fact29 fact30 fact31 fact32
theorem saidUpto:Rows.OrderBackUptoSaid :=
 OpenClaim.holds_of_cond 4 Tryz.f4 rfl rfl rfl rfl rfl rfl rfl ⟨rfl,rfl,rfl,rfl,rfl⟩ rfl rfl rfl rfl rfl (by kernel_rfl) Tryz.func4 closed
  (of_decide_eq_true (by kernel_rfl)) (by unfold Func.isWrapper; first|(rw[if_pos (by decide +kernel)]; kernel_rfl)|(rw[if_neg (by decide +kernel)]; exact ⟨rfl,rfl⟩))
  (fun os started H enc _ F=>by rw[OpenClaim.pre_eq_preRow]; exact lifted os started H enc F)
theorem plain (f:FuncId) (fn:Func) (hf:Tryz.pinned.checked.prog.funcNamed "humpyard/humpyardlaw08.OrderBack" = some f) (hfn:Tryz.pinned.checked.prog.funcs[f]? = some fn) :
  true=Tryz.pinned.checked.prog.looks []∧∀(j:Nat) t,fn.params[j]? = some t→Tryz.pinned.checked.prog.wantsStandIn t=false:=by
 obtain rfl:f=4:=Option.some.inj ((show Tryz.prog.funcNamed "humpyard/humpyardlaw08.OrderBack" = some 4 by kernel_rfl).symm.trans hf) |>.symm
 obtain rfl:fn=Tryz.f4:=(Option.some.inj (Tryz.func4.symm.trans hfn)).symm
 refine ⟨by kernel_rfl,fun j t ht => ?_⟩
 have wR:Tryz.f4.params.toList.all (fun t => !Tryz.prog.wantsStandIn t)=true:=by kernel_rfl
 have hm:t∈Tryz.f4.params.toList:=Array.mem_toList_iff.2 (Array.mem_of_getElem? ht)
 have:=List.all_eq_true.1 wR t hm
 exact (show Tryz.prog.wantsStandIn t=false by simpa using this)
theorem card1:Rows.orderBackUptoRow.wfByText (Rows.OpenSpec.upto Rows.orderBackSpec)=true:=by kernel_rfl
theorem card2:Tryz.pinned.checked.prog.mainIs=some (true,("52d89ea66f9b054a1e9b376e7589da8cb69240856ce437513011a9f7de00e165" : String).toList):=by kernel_rfl
theorem card3:false=Rows.orderBackUptoRow.goesBy Tryz.pinned.checked.prog:=by kernel_rfl
end Go.Proofs.YtidfokedcnhahaaGreatDoor.orderBack
namespace Go.Proofs.YtidfokedcnhahaaGreatDoor
open Go.RowKit
theorem orderBack_card_upto:Rows.OrderBackUptoCardSaid :=
 Claim7.holds_tied_plain_at .later [] _ _ _ _ orderBack.saidUpto (fun _ h=>by cases h) orderBack.card1 (fun _ h=>by cases h) orderBackUpto_row_tie rfl ⟨rfl,rfl⟩ orderBack.card2 rfl orderBack.plain orderBack.card3
end Go.Proofs.YtidfokedcnhahaaGreatDoor
end
