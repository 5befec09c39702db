/-
  OrderTaken, part 10 of 10.
-/
import Derived.Test.YtidfokedcnhahaaGreatDoorGOB9
set_option linter.unusedSimpArgs false
set_option linter.unnecessarySimpa false
set_option linter.unusedVariables false
set_option linter.unusedSectionVars false
noncomputable section
set_option maxRecDepth 100000
namespace Go.Proofs.YtidfokedcnhahaaGreatDoor.orderTaken
open Go.ChangeShapes Go.WideShapes Go.ChangeAt Go.RowKit Go.aA Door
theorem run (a0:ae) (a1:Order) (a2:Int) (a3:Int) (a4:ae):aG vE vF (Aq uN) av [.str a0, .agg [.int .i64 a1.header, .str a1.cd, .int .i64 a1.order, .int .i64 a1.update, .sl .stop a1.nodes .no, .sl .na a1.aS .no], .int .i64 a2, .int .i64 a3, .str a4] [] kOk=uN a0 a1 a2 a3 a4 (fun q0=>kOk (.bool q0) []):=by kernel_rfl
theorem JD (H:Type) (enc:TypeId×Value→H) (W:World) (base:Nat) (args:Array Value) (ds gs:List (DataW H)) (before:List MemPlace)
  (pY:∀(j:Nat) t v,Tryz.f5.params[j]? = some t→args[j]? = some v→Value.okWide Tryz.prog W .any base t v)
  (hW:DataW.Whole enc Tryz.prog Tryz.f5.params.toList Rows.orderTakenSpec.vars false W args.toList ds gs before) (hL:laidMetH Tryz.prog Rows.orderTakenUptoRow.laid W) (hk:Rows.uptoSmall H (ds++gs)=true) :
  Calls Tryz.prog 5 args W fun e W'=>∃v,e = .returned v∧Rows.orderTakenSpec.post enc Tryz.prog Tryz.f5 false true false false W args v W':=by
 have hW':=hW;obtain ⟨p,q,hA0,hV,hpq,hfz,Na⟩:=hW;have hA:DataW.TrodAll enc Tryz.prog W 0 (fun _=>true) true [9,25,3,3,9] args.toList ds p:=hA0;have pY:∀(j:Nat) t v,(#[9,25,3,3,9]:Array Nat)[j]? = some t→args[j]? = some v→Value.okWide Tryz.prog W .any base t v:=pY;obtain ⟨v0,vs0,d0,ds0,p0,q0,hargs,rfl,rfl,h0,r0⟩:=trodAll_cons hA;obtain ⟨v1,vs1,d1,ds1,p1,q1,rfl,rfl,rfl,h1,r1⟩:=trodAll_cons r0;obtain ⟨v2,vs2,d2,ds2,p2,q2,rfl,rfl,rfl,h2,r2⟩:=trodAll_cons r1;obtain ⟨v3,vs3,d3,ds3,p3,q3,rfl,rfl,rfl,h3,r3⟩:=trodAll_cons r2;obtain ⟨v4,vs4,d4,ds4,p4,q4,rfl,rfl,rfl,h4,r4⟩:=trodAll_cons r3;obtain ⟨rfl,rfl,rfl⟩:=trodAll_nil r4
 obtain rfl:args = #[v0,v1,v2,v3,v4]:=by cases args; simp_all
 have hV':DataW.TrodVars enc Tryz.prog W (fun _=>true) [] gs q:=hV;obtain ⟨rfl,rfl⟩:=trodVars_none hV';have hb:Rows.uptoBulkAll ([d0,d1,d2,d3,d4] ++ [])≤1048576:=of_decide_eq_true hk;simp only[List.append_nil,Rows.uptoBulkAll]at hb;obtain ⟨a0,q0,s0⟩:=yx (p := .str) (N:=1048576) leaves (by kernel_rfl) (by kernel_rfl) (pY 0 9 v0 rfl rfl) h0 (by omega) (Nat.le_of_ble_eq_true rfl);obtain ⟨a1,q1,s1⟩:=ZU (T := .order) (N:=1048576) leaves (by kernel_rfl) (by kernel_rfl) (pY 1 25 v1 rfl rfl) h1 (by omega) (Nat.le_of_ble_eq_true rfl);obtain ⟨a2,q2,s2⟩:=yx (p := .int .i64) (N:=1048576) leaves (by kernel_rfl) (by kernel_rfl) (pY 2 3 v2 rfl rfl) h2 (by omega) (Nat.le_of_ble_eq_true rfl)
 obtain ⟨a3,q3,s3⟩:=yx (p := .int .i64) (N:=1048576) leaves (by kernel_rfl) (by kernel_rfl) (pY 3 3 v3 rfl rfl) h3 (by omega) (Nat.le_of_ble_eq_true rfl);obtain ⟨a4,q4,s4⟩:=yx (p := .str) (N:=1048576) leaves (by kernel_rfl) (by kernel_rfl) (pY 4 9 v4 rfl rfl) h4 (by omega) (Nat.le_of_ble_eq_true rfl);have ra:cz W [] Vy [.str a0, .agg [.int .i64 a1.header, .str a1.cd, .int .i64 a1.order, .int .i64 a1.update, .sl .stop a1.nodes .no, .sl .na a1.aS .no], .int .i64 a2, .int .i64 a3, .str a4] #[v0,v1,v2,v3,v4].toList:=(.cons q0 (.cons q1 (.cons q2 (.cons q3 (.cons q4 .nil)))));obtain ⟨hsays,O8⟩:=ZV (W:=W) hL
 refine (ND Tryz.func5 rfl rfl (PZ Unit _ (ie _)) hsays O8 ra ((run a0 a1 a2 a3 a4).trans (ZF a0 a1 a2 a3 a4 s0 s1 s2 s3 s4 (fun q0=>kOk (.bool q0) [])))).mono fun e W' ⟨he,L⟩=>⟨_,he,?_⟩
 exact R9 (by kernel_rfl) (R8 (by kernel_rfl)) rfl rfl rfl (show Tryz.prog.underlying 4=some .bool by kernel_rfl) hW' L
theorem reads (os:Os) {H:Type} (enc:TypeId×Value→H):(DataW.whole enc Tryz.prog ((yy os).forCall (fun _ _=>0) ⟨#[], #[.string .empty, .agg #[.int .i64 0, .string .empty, .int .i64 0, .int .i64 0, .slice none 0 0, .slice none 0 0], .int .i64 0, .int .i64 0, .string .empty], []⟩).memory Tryz.f5.params.toList Rows.orderTakenSpec.vars false (#[.string .empty, .agg #[.int .i64 0, .string .empty, .int .i64 0, .int .i64 0, .slice none 0 0, .slice none 0 0], .int .i64 0, .int .i64 0, .string .empty]:Array Value).toList 8).map (fun x=>(x.1,x.2.1))=some ([.lit (.string []), .agg [.lit (.int .i64 0), .lit (.string []), .lit (.int .i64 0), .lit (.int .i64 0), .nil, .nil], .lit (.int .i64 0), .lit (.int .i64 0), .lit (.string [])], []):=by kernel_rfl
theorem lifted (os:Os) (started:os.Started) (H:Type) (enc:TypeId×Value→H) (F:Stop.Interp) :
  ReturnsInHanded {} Tryz.checked os 5 .any ((Rows.OpenSpec.upto Rows.orderTakenSpec).preRow enc Tryz.prog Tryz.f5 Rows.orderTakenUptoRow.domain false Rows.orderTakenUptoRow.laid) (((Rows.OpenSpec.upto Rows.orderTakenSpec).at F).post enc Tryz.prog Tryz.f5 false true false false):=by
 obtain ⟨⟨x1,x2,x3⟩,hx,hx1⟩:=Option.map_eq_some_iff.1 (reads os enc);simp only[Prod.mk.injEq]at hx1;obtain ⟨rfl,rfl⟩:=hx1;refine returnsInHanded_of_row (C:=Tryz.checked) (s:=Rows.OpenSpec.upto Rows.orderTakenSpec) own started (by kernel_rfl) Tryz.func5
  (witness_row_atRef (enc:=enc) (C:=Tryz.checked) false (yy os) #[.string .empty, .agg #[.int .i64 0, .string .empty, .int .i64 0, .int .i64 0, .slice none 0 0, .slice none 0 0], .int .i64 0, .int .i64 0, .string .empty] rfl (by kernel_rfl) (by kernel_rfl) (by kernel_rfl)
   (OpenSpec.preRow_of_cond 8 hx (by kernel_rfl) (fun k hk=>by cases hk; kernel_rfl) (by kernel_rfl) (VA os _))) ?_
 intro W base args ds gs before pY hW _ sC _ hL _ _;exact JD H enc W base args ds gs before pY hW hL (sC _ rfl)
theorem fact1:Rows.orderTakenUptoRow.wf (OpenSpec.ofChange (Rows.OpenSpec.upto Rows.orderTakenSpec).bare)=true:=by kernel_rfl
theorem fact2:laidOutB Tryz.pinned.checked.prog=true:=by kernel_rfl
theorem fact3:mapsRowed Tryz.pinned.checked.prog=true:=by kernel_rfl
theorem fact4:Tryz.f5.params.all (Tryz.pinned.checked.prog.readableRec ·)=true:=by kernel_rfl
theorem fact5:namedTie Tryz.pinned.checked.prog Rows.orderTakenUptoRow.named (Rows.OpenSpec.upto Rows.orderTakenSpec).bare.vars=true:=by kernel_rfl
theorem fact6:(Rows.orderTakenUptoRow.stops == [])=true:=by kernel_rfl
theorem fact7:(Tryz.pinned.checked.prog.stops == [])=true:=by kernel_rfl
theorem fact8:(Rows.orderTakenUptoRow.knobs == [])=true:=by kernel_rfl
theorem fact9:(Tryz.pinned.checked.prog.stopKnobs == [])=true:=by kernel_rfl
theorem UH:(Rows.orderTakenUptoRow.inPlace==Tryz.pinned.checked.prog.inPlace 5)=true:=by kernel_rfl
theorem UI:(Rows.orderTakenUptoRow.unfollowed==Tryz.pinned.checked.prog.unfollowed 5)=true:=by kernel_rfl
theorem UJ:(Rows.orderTakenUptoRow.recurses==Tryz.pinned.checked.prog.recurses 5)=true:=by kernel_rfl
theorem UK:(Rows.orderTakenUptoRow.named==Tryz.pinned.checked.prog.varsNamed 5)=true:=by kernel_rfl
theorem UL:(Rows.orderTakenUptoRow.maps==(Tryz.f5.params.toList++(Rows.OpenSpec.upto Rows.orderTakenSpec).bare.plain.varTypes Tryz.pinned.checked.prog).any (Tryz.pinned.checked.prog.mapsRec ·))=true:=by kernel_rfl
theorem UM:(Rows.orderTakenUptoRow.ifaces==(Tryz.f5.params.toList++(Rows.OpenSpec.upto Rows.orderTakenSpec).bare.plain.varTypes Tryz.pinned.checked.prog).any (Tryz.pinned.checked.prog.ifacesRec ·))=true:=by kernel_rfl
theorem UN:(Rows.orderTakenUptoRow.mapsOut==Tryz.pinned.checked.prog.mapsAmong Tryz.f5.resultTypes.toList)=true:=by kernel_rfl
theorem UO:(Rows.orderTakenUptoRow.loops==(Tryz.f5.params.toList++(Rows.OpenSpec.upto Rows.orderTakenSpec).bare.plain.varTypes Tryz.pinned.checked.prog).any (Tryz.pinned.checked.prog.loopsFrom ·))=true:=by kernel_rfl
theorem UP:(Rows.orderTakenUptoRow.wideKeys==(Tryz.f5.params.toList++(Rows.OpenSpec.upto Rows.orderTakenSpec).bare.plain.varTypes Tryz.pinned.checked.prog++Tryz.f5.resultTypes.toList).any (Tryz.pinned.checked.prog.wideKeysFrom ·))=true:=by kernel_rfl
theorem UQ:(Rows.OpenSpec.upto Rows.orderTakenSpec).bare.vars.all (Tryz.pinned.checked.prog.varReadable ·)=true:=by kernel_rfl
theorem UR:Tryz.f5.resultTypes.all (fun t=>Tryz.pinned.checked.prog.readableRec t&&decide (t<Tryz.pinned.checked.prog.types.size))=true:=by kernel_rfl
theorem US:(Rows.orderTakenUptoRow.ifacesOut==Tryz.f5.resultTypes.toList.any (Tryz.pinned.checked.prog.ifacesRec ·))=true:=by kernel_rfl
theorem UT:(Rows.orderTakenUptoRow.loopsOut==Tryz.f5.resultTypes.toList.any (Tryz.pinned.checked.prog.loopsFrom ·))=true:=by kernel_rfl
theorem UU:(Rows.orderTakenUptoRow.plainKeys==Tryz.pinned.checked.prog.plainKeys)=true:=by kernel_rfl
theorem UW:Rows.orderTakenUptoRow.shortTexts.isNone=true:=by kernel_rfl
theorem UX:Tryz.pinned.checked.prog.stopsHeard=true:=by kernel_rfl
theorem UY:Tryz.pinned.checked.prog.mayEnter=true:=by kernel_rfl
theorem UZ:(Rows.orderTakenUptoRow.lifted==Tryz.pinned.checked.prog.liftsFinal)=true:=by kernel_rfl
theorem U0:(Tryz.pinned.checked.prog.make==some Rows.orderTakenUptoRow.make)=true:=by kernel_rfl
theorem U1:(Rows.orderTakenUptoRow.kinds==(if Rows.orderTakenUptoRow.domain.isEmpty then []else Tryz.f5.params.toList.map fun t=>match Tryz.pinned.checked.prog.underlying t with|some (.int k)=>some k|_=>none))=true:=by kernel_rfl
theorem U2:(Rows.orderTakenUptoRow.pinned==Rows.orderTakenUptoRow.pinnedBy)=true:=by kernel_rfl
theorem U3:(Rows.orderTakenUptoRow.veiled==(Tryz.f5.params.toList++(Rows.OpenSpec.upto Rows.orderTakenSpec).bare.plain.varTypes Tryz.pinned.checked.prog++Tryz.f5.resultTypes.toList).any (Tryz.pinned.checked.prog.veiledRec ·))=true:=by kernel_rfl
theorem U4:Rows.orderTakenUptoRow.veiledFits Tryz.pinned.checked.prog Tryz.f5.params.toList (Tryz.f5.params.toList++(Rows.OpenSpec.upto Rows.orderTakenSpec).bare.plain.varTypes Tryz.pinned.checked.prog++Tryz.f5.resultTypes.toList)=true:=by kernel_rfl
theorem closed:joinedFacts Tryz.pinned.checked.prog 5 Tryz.f5 (Rows.OpenSpec.upto Rows.orderTakenSpec).bare Rows.orderTakenUptoRow=true :=
 RW fact1 fact2 fact3 fact4 fact5 fact6 fact7 fact8 fact9 UH UI UJ UK UL UM UN UO UP UQ UR US UT UU UW UX UY UZ U0 U1 U2 U3 U4
theorem JE:Rows.OrderTakenUptoSaid :=
 OpenClaim.holds_of_cond 5 Tryz.f5 rfl rfl rfl rfl rfl rfl rfl ⟨rfl,rfl,rfl,rfl,rfl⟩ rfl rfl rfl rfl rfl (by kernel_rfl) Tryz.func5 closed
  (of_decide_eq_true (by kernel_rfl)) (by unfold Func.isWrapper; first|(rw[if_pos (by decide +kernel)]; kernel_rfl)|(rw[if_neg (by decide +kernel)]; exact ⟨rfl,rfl⟩))
  (fun os started H enc _ F=>by rw[OpenClaim.pre_eq_preRow]; exact lifted os started H enc F)
theorem plain (f:FuncId) (fn:Func) (hf:Tryz.pinned.checked.prog.funcNamed "humpyard/humpyardlaw08.OrderTaken" = some f) (hfn:Tryz.pinned.checked.prog.funcs[f]? = some fn) :
  true=Tryz.pinned.checked.prog.looks []∧∀(j:Nat) t,fn.params[j]? = some t→Tryz.pinned.checked.prog.wantsStandIn t=false:=by
 obtain rfl:f=5:=Option.some.inj ((show Tryz.prog.funcNamed "humpyard/humpyardlaw08.OrderTaken" = some 5 by kernel_rfl).symm.trans hf) |>.symm;obtain rfl:fn=Tryz.f5:=(Option.some.inj (Tryz.func5.symm.trans hfn)).symm;refine ⟨by kernel_rfl,fun j t ht => ?_⟩;have uQ:Tryz.f5.params.toList.all (fun t => !Tryz.prog.wantsStandIn t)=true:=by kernel_rfl
 have hm:t∈Tryz.f5.params.toList:=Array.mem_toList_iff.2 (Array.mem_of_getElem? ht);have:=List.all_eq_true.1 uQ t hm;exact (show Tryz.prog.wantsStandIn t=false by simpa using this)
theorem card1:Rows.orderTakenUptoRow.wfByText (Rows.OpenSpec.upto Rows.orderTakenSpec)=true:=by kernel_rfl
theorem card2:Tryz.pinned.checked.prog.mainIs=some (true,("52d89ea66f9b054a1e9b376e7589da8cb69240856ce437513011a9f7de00e165" : String).toList):=by kernel_rfl
theorem card3:false=Rows.orderTakenUptoRow.goesBy Tryz.pinned.checked.prog:=by kernel_rfl
end Go.Proofs.YtidfokedcnhahaaGreatDoor.orderTaken
namespace Go.Proofs.YtidfokedcnhahaaGreatDoor
open Go.RowKit
theorem orderTaken_card_upto:Rows.OrderTakenUptoCardSaid :=
 Claim7.holds_tied_plain_at .later [] _ _ _ _ orderTaken.JE (fun _ h=>by cases h) orderTaken.card1 (fun _ h=>by cases h) orderTakenUpto_row_tie rfl ⟨rfl,rfl⟩ orderTaken.card2 rfl orderTaken.plain orderTaken.card3
end Go.Proofs.YtidfokedcnhahaaGreatDoor
end
