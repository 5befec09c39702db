/-
  OrderApart, part 10 of 10.
-/
import Derived.Test.YtidfokedcnhahaaGreatDoorOrderApartB9
set_option linter.unusedSimpArgs false
set_option linter.unnecessarySimpa false
set_option linter.unusedVariables false
set_option linter.unusedSectionVars false
noncomputable section
set_option maxRecDepth 100000
namespace Go.Proofs.YtidfokedcnhahaaGreatDoor.orderApart
open Go.ChangeShapes Go.WideShapes Go.ChangeAt Go.RowKit Go.aC Door
theorem run (a0:Order) (a1:Order) (a2:Int) (a3:Int):aI uf ug (yA th) ax [.agg [.int .i64 a0.header, .str a0.cO, .int .i64 a0.order, .int .i64 a0.update, .sl .stop a0.nodes .no, .sl .pD a0.bK .no], .agg [.int .i64 a1.header, .str a1.cO, .int .i64 a1.order, .int .i64 a1.update, .sl .stop a1.nodes .no, .sl .pD a1.bK .no], .int .i64 a2, .int .i64 a3] [] kOk=th a0 a1 a2 a3 (fun q0=>kOk (.bool q0) []):=by kernel_rfl
theorem contract (H:Type) (enc:TypeId×Value→H) (W:World) (base:Nat) (args:Array Value) (ds gs:List (DataW H)) (before:List MemPlace)
  (Np:∀(j:Nat) t v,Tryz.f9.params[j]? = some t→args[j]? = some v→Value.okWide Tryz.prog W .any base t v)
  (hW:DataW.Whole enc Tryz.prog Tryz.f9.params.toList Rows.orderApartSpec.vars false W args.toList ds gs before) (hL:laidMetH Tryz.prog Rows.orderApartUptoRow.laid W) (hk:Rows.uptoSmall H (ds++gs)=true) :
  Calls Tryz.prog 9 args W fun e W'=>∃v,e = .returned v∧Rows.orderApartSpec.post enc Tryz.prog Tryz.f9 false true false false W args v W':=by
 have hW':=hW
 obtain ⟨p,q,hA0,hV,hpq,hfz,Nl⟩:=hW
 have hA:DataW.TrodAll enc Tryz.prog W 0 (fun _=>true) true [25,25,3,3] args.toList ds p:=hA0
 have Np:∀(j:Nat) t v,(#[25,25,3,3]:Array Nat)[j]? = some t→args[j]? = some v→Value.okWide Tryz.prog W .any base t v:=Np
 obtain ⟨v0,vs0,d0,ds0,p0,q0,hargs,rfl,rfl,h0,r0⟩:=trodAll_cons hA
 obtain ⟨v1,vs1,d1,ds1,p1,q1,rfl,rfl,rfl,h1,r1⟩:=trodAll_cons r0
 obtain ⟨v2,vs2,d2,ds2,p2,q2,rfl,rfl,rfl,h2,r2⟩:=trodAll_cons r1
 obtain ⟨v3,vs3,d3,ds3,p3,q3,rfl,rfl,rfl,h3,r3⟩:=trodAll_cons r2
 obtain ⟨rfl,rfl,rfl⟩:=trodAll_nil r3
 obtain rfl:args = #[v0,v1,v2,v3]:=by cases args; simp_all
 have hV':DataW.TrodVars enc Tryz.prog W (fun _=>true) [] gs q:=hV
 obtain ⟨rfl,rfl⟩:=trodVars_none hV'
 have hb:Rows.uptoBulkAll ([d0,d1,d2,d3] ++ [])≤1048576:=of_decide_eq_true hk
 simp only[List.append_nil,Rows.uptoBulkAll]at hb
 obtain ⟨a0,q0,s0⟩:=arg_agg (T := .order) (N:=1048576) leaves (by kernel_rfl) (by kernel_rfl) (Np 0 25 v0 rfl rfl) h0 (by omega) (Nat.le_of_ble_eq_true rfl)
 obtain ⟨a1,q1,s1⟩:=arg_agg (T := .order) (N:=1048576) leaves (by kernel_rfl) (by kernel_rfl) (Np 1 25 v1 rfl rfl) h1 (by omega) (Nat.le_of_ble_eq_true rfl)
 obtain ⟨a2,q2,s2⟩:=arg_one (p := .int .i64) (N:=1048576) leaves (by kernel_rfl) (by kernel_rfl) (Np 2 3 v2 rfl rfl) h2 (by omega) (Nat.le_of_ble_eq_true rfl)
 obtain ⟨a3,q3,s3⟩:=arg_one (p := .int .i64) (N:=1048576) leaves (by kernel_rfl) (by kernel_rfl) (Np 3 3 v3 rfl rfl) h3 (by omega) (Nat.le_of_ble_eq_true rfl)
 have ra:cv W [] V8 [.agg [.int .i64 a0.header, .str a0.cO, .int .i64 a0.order, .int .i64 a0.update, .sl .stop a0.nodes .no, .sl .pD a0.bK .no], .agg [.int .i64 a1.header, .str a1.cO, .int .i64 a1.order, .int .i64 a1.update, .sl .stop a1.nodes .no, .sl .pD a1.bK .no], .int .i64 a2, .int .i64 a3] #[v0,v1,v2,v3].toList:=(.cons q0 (.cons q1 (.cons q2 (.cons q3 .nil))))
 obtain ⟨hsays,hblocks⟩:=lay_met (W:=W) hL
 refine (calls_true Tryz.func9 rfl rfl (NI Unit _ (jm _)) hsays hblocks ra ((run a0 a1 a2 a3).trans (WT a0 a1 a2 a3 s0 s1 s2 s3 (fun q0=>kOk (.bool q0) [])))).mono fun e W' ⟨he,L⟩=>⟨_,he,?_⟩
 exact post_true (by kernel_rfl) (params_ok (by kernel_rfl)) rfl rfl rfl (show Tryz.prog.underlying 4=some .bool by kernel_rfl) hW' L
theorem reads (os:Os) {H:Type} (enc:TypeId×Value→H):(DataW.whole enc Tryz.prog ((Ur os).forCall (fun _ _=>0) ⟨#[], #[.agg #[.int .i64 0, .string .empty, .int .i64 0, .int .i64 0, .slice none 0 0, .slice none 0 0], .agg #[.int .i64 0, .string .empty, .int .i64 0, .int .i64 0, .slice none 0 0, .slice none 0 0], .int .i64 0, .int .i64 0], []⟩).memory Tryz.f9.params.toList Rows.orderApartSpec.vars false (#[.agg #[.int .i64 0, .string .empty, .int .i64 0, .int .i64 0, .slice none 0 0, .slice none 0 0], .agg #[.int .i64 0, .string .empty, .int .i64 0, .int .i64 0, .slice none 0 0, .slice none 0 0], .int .i64 0, .int .i64 0]:Array Value).toList 8).map (fun x=>(x.1,x.2.1))=some ([.agg [.lit (.int .i64 0), .lit (.string []), .lit (.int .i64 0), .lit (.int .i64 0), .nil, .nil], .agg [.lit (.int .i64 0), .lit (.string []), .lit (.int .i64 0), .lit (.int .i64 0), .nil, .nil], .lit (.int .i64 0), .lit (.int .i64 0)], []):=by kernel_rfl
theorem lifted (os:Os) (started:os.Started) (H:Type) (enc:TypeId×Value→H) (F:Stop.Interp) :
  ReturnsInHanded {} Tryz.checked os 9 .any ((Rows.OpenSpec.upto Rows.orderApartSpec).preRow enc Tryz.prog Tryz.f9 Rows.orderApartUptoRow.domain false Rows.orderApartUptoRow.laid) (((Rows.OpenSpec.upto Rows.orderApartSpec).at F).post enc Tryz.prog Tryz.f9 false true false false):=by
 obtain ⟨⟨x1,x2,x3⟩,hx,hx1⟩:=Option.map_eq_some_iff.1 (reads os enc)
 simp only[Prod.mk.injEq]at hx1
 obtain ⟨rfl,rfl⟩:=hx1
 refine returnsInHanded_of_row (C:=Tryz.checked) (s:=Rows.OpenSpec.upto Rows.orderApartSpec) own started (by kernel_rfl) Tryz.func9
  (witness_row_atRef (enc:=enc) (C:=Tryz.checked) false (Ur os) #[.agg #[.int .i64 0, .string .empty, .int .i64 0, .int .i64 0, .slice none 0 0, .slice none 0 0], .agg #[.int .i64 0, .string .empty, .int .i64 0, .int .i64 0, .slice none 0 0, .slice none 0 0], .int .i64 0, .int .i64 0] rfl (by kernel_rfl) (by kernel_rfl) (by kernel_rfl)
   (OpenSpec.preRow_of_cond 8 hx (by kernel_rfl) (fun k hk=>by cases hk; kernel_rfl) (by kernel_rfl) (laid_met os _))) ?_
 intro W base args ds gs before Np hW _ xp _ hL _ _
 exact contract H enc W base args ds gs before Np hW hL (xp _ rfl)
theorem fact1:Rows.orderApartUptoRow.wf (OpenSpec.ofChange (Rows.OpenSpec.upto Rows.orderApartSpec).bare)=true:=by kernel_rfl
theorem fact2:laidOutB Tryz.pinned.checked.prog=true:=by kernel_rfl
theorem fact3:mapsRowed Tryz.pinned.checked.prog=true:=by kernel_rfl
theorem fact4:Tryz.f9.params.all (Tryz.pinned.checked.prog.readableRec ·)=true:=by kernel_rfl
theorem fact5:namedTie Tryz.pinned.checked.prog Rows.orderApartUptoRow.named (Rows.OpenSpec.upto Rows.orderApartSpec).bare.vars=true:=by kernel_rfl
theorem fact6:(Rows.orderApartUptoRow.stops == [])=true:=by kernel_rfl
theorem fact7:(Tryz.pinned.checked.prog.stops == [])=true:=by kernel_rfl
theorem fact8:(Rows.orderApartUptoRow.knobs == [])=true:=by kernel_rfl
theorem fact9:(Tryz.pinned.checked.prog.stopKnobs == [])=true:=by kernel_rfl
theorem fact10:(Rows.orderApartUptoRow.inPlace==Tryz.pinned.checked.prog.inPlace 9)=true:=by kernel_rfl
theorem fact11:(Rows.orderApartUptoRow.unfollowed==Tryz.pinned.checked.prog.unfollowed 9)=true:=by kernel_rfl
theorem fact12:(Rows.orderApartUptoRow.recurses==Tryz.pinned.checked.prog.recurses 9)=true:=by kernel_rfl
theorem fact13:(Rows.orderApartUptoRow.named==Tryz.pinned.checked.prog.varsNamed 9)=true:=by kernel_rfl
theorem fact14:(Rows.orderApartUptoRow.maps==(Tryz.f9.params.toList++(Rows.OpenSpec.upto Rows.orderApartSpec).bare.plain.varTypes Tryz.pinned.checked.prog).any (Tryz.pinned.checked.prog.mapsRec ·))=true:=by kernel_rfl
theorem fact15:(Rows.orderApartUptoRow.ifaces==(Tryz.f9.params.toList++(Rows.OpenSpec.upto Rows.orderApartSpec).bare.plain.varTypes Tryz.pinned.checked.prog).any (Tryz.pinned.checked.prog.ifacesRec ·))=true:=by kernel_rfl
theorem fact16:(Rows.orderApartUptoRow.mapsOut==Tryz.pinned.checked.prog.mapsAmong Tryz.f9.resultTypes.toList)=true:=by kernel_rfl
theorem fact17:(Rows.orderApartUptoRow.loops==(Tryz.f9.params.toList++(Rows.OpenSpec.upto Rows.orderApartSpec).bare.plain.varTypes Tryz.pinned.checked.prog).any (Tryz.pinned.checked.prog.loopsFrom ·))=true:=by kernel_rfl
theorem fact18:(Rows.orderApartUptoRow.wideKeys==(Tryz.f9.params.toList++(Rows.OpenSpec.upto Rows.orderApartSpec).bare.plain.varTypes Tryz.pinned.checked.prog++Tryz.f9.resultTypes.toList).any (Tryz.pinned.checked.prog.wideKeysFrom ·))=true:=by kernel_rfl
theorem fact19:(Rows.OpenSpec.upto Rows.orderApartSpec).bare.vars.all (Tryz.pinned.checked.prog.varReadable ·)=true:=by kernel_rfl
theorem fact20:Tryz.f9.resultTypes.all (fun t=>Tryz.pinned.checked.prog.readableRec t&&decide (t<Tryz.pinned.checked.prog.types.size))=true:=by kernel_rfl
theorem fact21:(Rows.orderApartUptoRow.ifacesOut==Tryz.f9.resultTypes.toList.any (Tryz.pinned.checked.prog.ifacesRec ·))=true:=by kernel_rfl
theorem fact22:(Rows.orderApartUptoRow.loopsOut==Tryz.f9.resultTypes.toList.any (Tryz.pinned.checked.prog.loopsFrom ·))=true:=by kernel_rfl
theorem fact23:(Rows.orderApartUptoRow.plainKeys==Tryz.pinned.checked.prog.plainKeys)=true:=by kernel_rfl
theorem fact24:Rows.orderApartUptoRow.shortTexts.isNone=true:=by kernel_rfl
theorem fact25:Tryz.pinned.checked.prog.stopsHeard=true:=by kernel_rfl
theorem fact26:Tryz.pinned.checked.prog.mayEnter=true:=by kernel_rfl
theorem fact27:(Rows.orderApartUptoRow.lifted==Tryz.pinned.checked.prog.liftsFinal)=true:=by kernel_rfl
theorem fact28:(Tryz.pinned.checked.prog.make==some Rows.orderApartUptoRow.make)=true:=by kernel_rfl
theorem fact29:(Rows.orderApartUptoRow.kinds==(if Rows.orderApartUptoRow.domain.isEmpty then []else Tryz.f9.params.toList.map fun t=>match Tryz.pinned.checked.prog.underlying t with|some (.int k)=>some k|_=>none))=true:=by kernel_rfl
theorem fact30:(Rows.orderApartUptoRow.pinned==Rows.orderApartUptoRow.pinnedBy)=true:=by kernel_rfl
theorem fact31:(Rows.orderApartUptoRow.veiled==(Tryz.f9.params.toList++(Rows.OpenSpec.upto Rows.orderApartSpec).bare.plain.varTypes Tryz.pinned.checked.prog++Tryz.f9.resultTypes.toList).any (Tryz.pinned.checked.prog.veiledRec ·))=true:=by kernel_rfl
theorem fact32:Rows.orderApartUptoRow.veiledFits Tryz.pinned.checked.prog Tryz.f9.params.toList (Tryz.f9.params.toList++(Rows.OpenSpec.upto Rows.orderApartSpec).bare.plain.varTypes Tryz.pinned.checked.prog++Tryz.f9.resultTypes.toList)=true:=by kernel_rfl
theorem closed:joinedFacts Tryz.pinned.checked.prog 9 Tryz.f9 (Rows.OpenSpec.upto Rows.orderApartSpec).bare Rows.orderApartUptoRow=true :=
 joined_of fact1 fact2 fact3 fact4 fact5 fact6 fact7 fact8 fact9 fact10 fact11 fact12 fact13 fact14 fact15 fact16 fact17 fact18 fact19 fact20 fact21 fact22 fact23 fact24 fact25 fact26 fact27 fact28 fact29 fact30 fact31 fact32
theorem saidUpto:Rows.OrderApartUptoSaid :=
 OpenClaim.holds_of_cond 9 Tryz.f9 rfl rfl rfl rfl rfl rfl rfl ⟨rfl,rfl,rfl,rfl,rfl⟩ rfl rfl rfl rfl rfl (by kernel_rfl) Tryz.func9 closed
  (of_decide_eq_true (by kernel_rfl)) (by unfold Func.isWrapper; first|(rw[if_pos (by decide +kernel)]; kernel_rfl)|(rw[if_neg (by decide +kernel)]; exact ⟨rfl,rfl⟩))
  (fun os started H enc _ F=>by rw[OpenClaim.pre_eq_preRow]; exact lifted os started H enc F)
theorem plain (f:FuncId) (fn:Func) (hf:Tryz.pinned.checked.prog.funcNamed "humpyard/humpyardlaw08.OrderApart" = some f) (hfn:Tryz.pinned.checked.prog.funcs[f]? = some fn) :
  true=Tryz.pinned.checked.prog.looks []∧∀(j:Nat) t,fn.params[j]? = some t→Tryz.pinned.checked.prog.wantsStandIn t=false:=by
 obtain rfl:f=9:=Option.some.inj ((show Tryz.prog.funcNamed "humpyard/humpyardlaw08.OrderApart" = some 9 by kernel_rfl).symm.trans hf) |>.symm
 obtain rfl:fn=Tryz.f9:=(Option.some.inj (Tryz.func9.symm.trans hfn)).symm
 refine ⟨by kernel_rfl,fun j t ht => ?_⟩
 have wT:Tryz.f9.params.toList.all (fun t => !Tryz.prog.wantsStandIn t)=true:=by kernel_rfl
 have hm:t∈Tryz.f9.params.toList:=Array.mem_toList_iff.2 (Array.mem_of_getElem? ht)
 have:=List.all_eq_true.1 wT t hm
 exact (show Tryz.prog.wantsStandIn t=false by simpa using this)
theorem card1:Rows.orderApartUptoRow.wfByText (Rows.OpenSpec.upto Rows.orderApartSpec)=true:=by kernel_rfl
theorem card2:Tryz.pinned.checked.prog.mainIs=some (true,("52d89ea66f9b054a1e9b376e7589da8cb69240856ce437513011a9f7de00e165" : String).toList):=by kernel_rfl
theorem card3:false=Rows.orderApartUptoRow.goesBy Tryz.pinned.checked.prog:=by kernel_rfl
end Go.Proofs.YtidfokedcnhahaaGreatDoor.orderApart
namespace Go.Proofs.YtidfokedcnhahaaGreatDoor
open Go.RowKit
theorem orderApart_card_upto:Rows.OrderApartUptoCardSaid :=
 Claim7.holds_tied_plain_at .later [] _ _ _ _ orderApart.saidUpto (fun _ h=>by cases h) orderApart.card1 (fun _ h=>by cases h) orderApartUpto_row_tie rfl ⟨rfl,rfl⟩ orderApart.card2 rfl orderApart.plain orderApart.card3
end Go.Proofs.YtidfokedcnhahaaGreatDoor
end
