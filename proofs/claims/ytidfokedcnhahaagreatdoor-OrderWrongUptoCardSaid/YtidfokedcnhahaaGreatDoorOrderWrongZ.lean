/-
  OrderWrong, part 10 of 10.
-/
import Derived.Test.YtidfokedcnhahaaGreatDoorGOB9
set_option linter.unusedSimpArgs false
set_option linter.unnecessarySimpa false
set_option linter.unusedVariables false
set_option linter.unusedSectionVars false
noncomputable section
set_option maxRecDepth 100000
namespace Go.Proofs.YtidfokedcnhahaaGreatDoor.orderWrong
open Go.ChangeShapes Go.WideShapes Go.ChangeAt Go.RowKit Go.aA Door
theorem run (a0:Order) (a1:Int) (a2:Int) (a3:Int):aG nD nE (su l9) av [.agg [.int .i64 a0.header, .str a0.cd, .int .i64 a0.order, .int .i64 a0.update, .sl .stop a0.nodes .no, .sl .na a0.aS .no], .int .i64 a1, .int .i64 a2, .int .i64 a3] [] kOk=l9 a0 a1 a2 a3 (fun q0=>kOk (.bool q0) []):=by kernel_rfl
theorem JD (H:Type) (enc:TypeId×Value→H) (W:World) (base:Nat) (args:Array Value) (ds gs:List (DataW H)) (before:List MemPlace)
  (pY:∀(j:Nat) t v,Tryz.f8.params[j]? = some t→args[j]? = some v→Value.okWide Tryz.prog W .any base t v)
  (hW:DataW.Whole enc Tryz.prog Tryz.f8.params.toList Rows.orderWrongSpec.vars false W args.toList ds gs before) (hL:laidMetH Tryz.prog Rows.orderWrongUptoRow.laid W) (hk:Rows.uptoSmall H (ds++gs)=true) :
  Calls Tryz.prog 8 args W fun e W'=>∃v,e = .returned v∧Rows.orderWrongSpec.post enc Tryz.prog Tryz.f8 false true false false W args v W':=by
 have hW':=hW;obtain ⟨p,q,hA0,hV,hpq,hfz,Na⟩:=hW;have hA:DataW.TrodAll enc Tryz.prog W 0 (fun _=>true) true [25,3,3,3] args.toList ds p:=hA0;have pY:∀(j:Nat) t v,(#[25,3,3,3]:Array Nat)[j]? = some t→args[j]? = some v→Value.okWide Tryz.prog W .any base t v:=pY;obtain ⟨v0,vs0,d0,ds0,p0,q0,hargs,rfl,rfl,h0,r0⟩:=trodAll_cons hA;obtain ⟨v1,vs1,d1,ds1,p1,q1,rfl,rfl,rfl,h1,r1⟩:=trodAll_cons r0;obtain ⟨v2,vs2,d2,ds2,p2,q2,rfl,rfl,rfl,h2,r2⟩:=trodAll_cons r1;obtain ⟨v3,vs3,d3,ds3,p3,q3,rfl,rfl,rfl,h3,r3⟩:=trodAll_cons r2;obtain ⟨rfl,rfl,rfl⟩:=trodAll_nil r3;obtain rfl:args = #[v0,v1,v2,v3]:=by cases args; simp_all
 have hV':DataW.TrodVars enc Tryz.prog W (fun _=>true) [] gs q:=hV;obtain ⟨rfl,rfl⟩:=trodVars_none hV';have hb:Rows.uptoBulkAll ([d0,d1,d2,d3] ++ [])≤1048576:=of_decide_eq_true hk;simp only[List.append_nil,Rows.uptoBulkAll]at hb;obtain ⟨a0,q0,s0⟩:=ZU (T := .order) (N:=1048576) leaves (by kernel_rfl) (by kernel_rfl) (pY 0 25 v0 rfl rfl) h0 (by omega) (Nat.le_of_ble_eq_true rfl);obtain ⟨a1,q1,s1⟩:=yx (p := .int .i64) (N:=1048576) leaves (by kernel_rfl) (by kernel_rfl) (pY 1 3 v1 rfl rfl) h1 (by omega) (Nat.le_of_ble_eq_true rfl);obtain ⟨a2,q2,s2⟩:=yx (p := .int .i64) (N:=1048576) leaves (by kernel_rfl) (by kernel_rfl) (pY 2 3 v2 rfl rfl) h2 (by omega) (Nat.le_of_ble_eq_true rfl)
 obtain ⟨a3,q3,s3⟩:=yx (p := .int .i64) (N:=1048576) leaves (by kernel_rfl) (by kernel_rfl) (pY 3 3 v3 rfl rfl) h3 (by omega) (Nat.le_of_ble_eq_true rfl);have ra:cz W [] Vy [.agg [.int .i64 a0.header, .str a0.cd, .int .i64 a0.order, .int .i64 a0.update, .sl .stop a0.nodes .no, .sl .na a0.aS .no], .int .i64 a1, .int .i64 a2, .int .i64 a3] #[v0,v1,v2,v3].toList:=(.cons q0 (.cons q1 (.cons q2 (.cons q3 .nil))));obtain ⟨hsays,O8⟩:=ZV (W:=W) hL;refine (ND Tryz.func8 rfl rfl (Jp Unit _ (ie _)) hsays O8 ra ((run a0 a1 a2 a3).trans (ZH a0 a1 a2 a3 s0 s1 s2 s3 (fun q0=>kOk (.bool q0) [])))).mono fun e W' ⟨he,L⟩=>⟨_,he,?_⟩
 exact R9 (by kernel_rfl) (R8 (by kernel_rfl)) rfl rfl rfl (show Tryz.prog.underlying 4=some .bool by kernel_rfl) hW' L
theorem reads (os:Os) {H:Type} (enc:TypeId×Value→H):(DataW.whole enc Tryz.prog ((yy os).forCall (fun _ _=>0) ⟨#[], #[.agg #[.int .i64 0, .string .empty, .int .i64 0, .int .i64 0, .slice none 0 0, .slice none 0 0], .int .i64 0, .int .i64 0, .int .i64 0], []⟩).memory Tryz.f8.params.toList Rows.orderWrongSpec.vars false (#[.agg #[.int .i64 0, .string .empty, .int .i64 0, .int .i64 0, .slice none 0 0, .slice none 0 0], .int .i64 0, .int .i64 0, .int .i64 0]:Array Value).toList 8).map (fun x=>(x.1,x.2.1))=some ([.agg [.lit (.int .i64 0), .lit (.string []), .lit (.int .i64 0), .lit (.int .i64 0), .nil, .nil], .lit (.int .i64 0), .lit (.int .i64 0), .lit (.int .i64 0)], []):=by kernel_rfl
theorem lifted (os:Os) (started:os.Started) (H:Type) (enc:TypeId×Value→H) (F:Stop.Interp) :
  ReturnsInHanded {} Tryz.checked os 8 .any ((Rows.OpenSpec.upto Rows.orderWrongSpec).preRow enc Tryz.prog Tryz.f8 Rows.orderWrongUptoRow.domain false Rows.orderWrongUptoRow.laid) (((Rows.OpenSpec.upto Rows.orderWrongSpec).at F).post enc Tryz.prog Tryz.f8 false true false false):=by
 obtain ⟨⟨x1,x2,x3⟩,hx,hx1⟩:=Option.map_eq_some_iff.1 (reads os enc);simp only[Prod.mk.injEq]at hx1;obtain ⟨rfl,rfl⟩:=hx1;refine returnsInHanded_of_row (C:=Tryz.checked) (s:=Rows.OpenSpec.upto Rows.orderWrongSpec) own started (by kernel_rfl) Tryz.func8
  (witness_row_atRef (enc:=enc) (C:=Tryz.checked) false (yy os) #[.agg #[.int .i64 0, .string .empty, .int .i64 0, .int .i64 0, .slice none 0 0, .slice none 0 0], .int .i64 0, .int .i64 0, .int .i64 0] rfl (by kernel_rfl) (by kernel_rfl) (by kernel_rfl)
   (OpenSpec.preRow_of_cond 8 hx (by kernel_rfl) (fun k hk=>by cases hk; kernel_rfl) (by kernel_rfl) (VA os _))) ?_
 intro W base args ds gs before pY hW _ sC _ hL _ _;exact JD H enc W base args ds gs before pY hW hL (sC _ rfl)
theorem fact1:Rows.orderWrongUptoRow.wf (OpenSpec.ofChange (Rows.OpenSpec.upto Rows.orderWrongSpec).bare)=true:=by kernel_rfl
theorem fact2:laidOutB Tryz.pinned.checked.prog=true:=by kernel_rfl
theorem fact3:mapsRowed Tryz.pinned.checked.prog=true:=by kernel_rfl
theorem fact4:Tryz.f8.params.all (Tryz.pinned.checked.prog.readableRec ·)=true:=by kernel_rfl
theorem fact5:namedTie Tryz.pinned.checked.prog Rows.orderWrongUptoRow.named (Rows.OpenSpec.upto Rows.orderWrongSpec).bare.vars=true:=by kernel_rfl
theorem fact6:(Rows.orderWrongUptoRow.stops == [])=true:=by kernel_rfl
theorem fact7:(Tryz.pinned.checked.prog.stops == [])=true:=by kernel_rfl
theorem fact8:(Rows.orderWrongUptoRow.knobs == [])=true:=by kernel_rfl
theorem fact9:(Tryz.pinned.checked.prog.stopKnobs == [])=true:=by kernel_rfl
theorem UH:(Rows.orderWrongUptoRow.inPlace==Tryz.pinned.checked.prog.inPlace 8)=true:=by kernel_rfl
theorem UI:(Rows.orderWrongUptoRow.unfollowed==Tryz.pinned.checked.prog.unfollowed 8)=true:=by kernel_rfl
theorem UJ:(Rows.orderWrongUptoRow.recurses==Tryz.pinned.checked.prog.recurses 8)=true:=by kernel_rfl
theorem UK:(Rows.orderWrongUptoRow.named==Tryz.pinned.checked.prog.varsNamed 8)=true:=by kernel_rfl
theorem UL:(Rows.orderWrongUptoRow.maps==(Tryz.f8.params.toList++(Rows.OpenSpec.upto Rows.orderWrongSpec).bare.plain.varTypes Tryz.pinned.checked.prog).any (Tryz.pinned.checked.prog.mapsRec ·))=true:=by kernel_rfl
theorem UM:(Rows.orderWrongUptoRow.ifaces==(Tryz.f8.params.toList++(Rows.OpenSpec.upto Rows.orderWrongSpec).bare.plain.varTypes Tryz.pinned.checked.prog).any (Tryz.pinned.checked.prog.ifacesRec ·))=true:=by kernel_rfl
theorem UN:(Rows.orderWrongUptoRow.mapsOut==Tryz.pinned.checked.prog.mapsAmong Tryz.f8.resultTypes.toList)=true:=by kernel_rfl
theorem UO:(Rows.orderWrongUptoRow.loops==(Tryz.f8.params.toList++(Rows.OpenSpec.upto Rows.orderWrongSpec).bare.plain.varTypes Tryz.pinned.checked.prog).any (Tryz.pinned.checked.prog.loopsFrom ·))=true:=by kernel_rfl
theorem UP:(Rows.orderWrongUptoRow.wideKeys==(Tryz.f8.params.toList++(Rows.OpenSpec.upto Rows.orderWrongSpec).bare.plain.varTypes Tryz.pinned.checked.prog++Tryz.f8.resultTypes.toList).any (Tryz.pinned.checked.prog.wideKeysFrom ·))=true:=by kernel_rfl
theorem UQ:(Rows.OpenSpec.upto Rows.orderWrongSpec).bare.vars.all (Tryz.pinned.checked.prog.varReadable ·)=true:=by kernel_rfl
theorem UR:Tryz.f8.resultTypes.all (fun t=>Tryz.pinned.checked.prog.readableRec t&&decide (t<Tryz.pinned.checked.prog.types.size))=true:=by kernel_rfl
theorem US:(Rows.orderWrongUptoRow.ifacesOut==Tryz.f8.resultTypes.toList.any (Tryz.pinned.checked.prog.ifacesRec ·))=true:=by kernel_rfl
theorem UT:(Rows.orderWrongUptoRow.loopsOut==Tryz.f8.resultTypes.toList.any (Tryz.pinned.checked.prog.loopsFrom ·))=true:=by kernel_rfl
theorem UU:(Rows.orderWrongUptoRow.plainKeys==Tryz.pinned.checked.prog.plainKeys)=true:=by kernel_rfl
theorem UW:Rows.orderWrongUptoRow.shortTexts.isNone=true:=by kernel_rfl
theorem UX:Tryz.pinned.checked.prog.stopsHeard=true:=by kernel_rfl
theorem UY:Tryz.pinned.checked.prog.mayEnter=true:=by kernel_rfl
theorem UZ:(Rows.orderWrongUptoRow.lifted==Tryz.pinned.checked.prog.liftsFinal)=true:=by kernel_rfl
theorem U0:(Tryz.pinned.checked.prog.make==some Rows.orderWrongUptoRow.make)=true:=by kernel_rfl
theorem U1:(Rows.orderWrongUptoRow.kinds==(if Rows.orderWrongUptoRow.domain.isEmpty then []else Tryz.f8.params.toList.map fun t=>match Tryz.pinned.checked.prog.underlying t with|some (.int k)=>some k|_=>none))=true:=by kernel_rfl
theorem U2:(Rows.orderWrongUptoRow.pinned==Rows.orderWrongUptoRow.pinnedBy)=true:=by kernel_rfl
theorem U3:(Rows.orderWrongUptoRow.veiled==(Tryz.f8.params.toList++(Rows.OpenSpec.upto Rows.orderWrongSpec).bare.plain.varTypes Tryz.pinned.checked.prog++Tryz.f8.resultTypes.toList).any (Tryz.pinned.checked.prog.veiledRec ·))=true:=by kernel_rfl
theorem U4:Rows.orderWrongUptoRow.veiledFits Tryz.pinned.checked.prog Tryz.f8.params.toList (Tryz.f8.params.toList++(Rows.OpenSpec.upto Rows.orderWrongSpec).bare.plain.varTypes Tryz.pinned.checked.prog++Tryz.f8.resultTypes.toList)=true:=by kernel_rfl
theorem closed:joinedFacts Tryz.pinned.checked.prog 8 Tryz.f8 (Rows.OpenSpec.upto Rows.orderWrongSpec).bare Rows.orderWrongUptoRow=true :=
 RW fact1 fact2 fact3 fact4 fact5 fact6 fact7 fact8 fact9 UH UI UJ UK UL UM UN UO UP UQ UR US UT UU UW UX UY UZ U0 U1 U2 U3 U4
theorem JE:Rows.OrderWrongUptoSaid :=
 OpenClaim.holds_of_cond 8 Tryz.f8 rfl rfl rfl rfl rfl rfl rfl ⟨rfl,rfl,rfl,rfl,rfl⟩ rfl rfl rfl rfl rfl (by kernel_rfl) Tryz.func8 closed
  (of_decide_eq_true (by kernel_rfl)) (by unfold Func.isWrapper; first|(rw[if_pos (by decide +kernel)]; kernel_rfl)|(rw[if_neg (by decide +kernel)]; exact ⟨rfl,rfl⟩))
  (fun os started H enc _ F=>by rw[OpenClaim.pre_eq_preRow]; exact lifted os started H enc F)
theorem plain (f:FuncId) (fn:Func) (hf:Tryz.pinned.checked.prog.funcNamed "humpyard/humpyardlaw08.OrderWrong" = some f) (hfn:Tryz.pinned.checked.prog.funcs[f]? = some fn) :
  true=Tryz.pinned.checked.prog.looks []∧∀(j:Nat) t,fn.params[j]? = some t→Tryz.pinned.checked.prog.wantsStandIn t=false:=by
 obtain rfl:f=8:=Option.some.inj ((show Tryz.prog.funcNamed "humpyard/humpyardlaw08.OrderWrong" = some 8 by kernel_rfl).symm.trans hf) |>.symm;obtain rfl:fn=Tryz.f8:=(Option.some.inj (Tryz.func8.symm.trans hfn)).symm;refine ⟨by kernel_rfl,fun j t ht => ?_⟩;have uQ:Tryz.f8.params.toList.all (fun t => !Tryz.prog.wantsStandIn t)=true:=by kernel_rfl
 have hm:t∈Tryz.f8.params.toList:=Array.mem_toList_iff.2 (Array.mem_of_getElem? ht);have:=List.all_eq_true.1 uQ t hm;exact (show Tryz.prog.wantsStandIn t=false by simpa using this)
theorem card1:Rows.orderWrongUptoRow.wfByText (Rows.OpenSpec.upto Rows.orderWrongSpec)=true:=by kernel_rfl
theorem card2:Tryz.pinned.checked.prog.mainIs=some (true,("52d89ea66f9b054a1e9b376e7589da8cb69240856ce437513011a9f7de00e165" : String).toList):=by kernel_rfl
theorem card3:false=Rows.orderWrongUptoRow.goesBy Tryz.pinned.checked.prog:=by kernel_rfl
end Go.Proofs.YtidfokedcnhahaaGreatDoor.orderWrong
namespace Go.Proofs.YtidfokedcnhahaaGreatDoor
open Go.RowKit
theorem orderWrong_card_upto:Rows.OrderWrongUptoCardSaid :=
 Claim7.holds_tied_plain_at .later [] _ _ _ _ orderWrong.JE (fun _ h=>by cases h) orderWrong.card1 (fun _ h=>by cases h) orderWrongUpto_row_tie rfl ⟨rfl,rfl⟩ orderWrong.card2 rfl orderWrong.plain orderWrong.card3
end Go.Proofs.YtidfokedcnhahaaGreatDoor
end
