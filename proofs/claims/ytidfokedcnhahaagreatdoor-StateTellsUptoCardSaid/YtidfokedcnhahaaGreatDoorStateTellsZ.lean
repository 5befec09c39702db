/-
  StateTells, part 10 of 10.
-/
import Derived.Test.YtidfokedcnhahaaGreatDoorStateTellsB9
set_option linter.unusedSimpArgs false
set_option linter.unusedVariables false
open Go.Proofs.Tryz renaming f10->ir,prog->ao
open Go.Value renaming okWide->Jj
open List renaming all_eq_true->gF,append_nil->oK
open Nat renaming le_of_ble_eq_true->FV
open Option renaming map_eq_some_iff->ZX
open Option.some renaming inj->aok
open Prod.mk renaming injEq->kA
noncomputable section
set_option maxRecDepth 100000
namespace Go.Proofs.YtidfokedcnhahaaGreatDoor.stateTells
open Go.ChangeShapes Go.WideShapes Go.ChangeAt Go.RowKit Go.ak Door
theorem run (a0:ak.State) (a1:ak.State) (a2:ad) (a3:Int) (a4:ad):aL Pa topic_Name_q (ZE I9) dy [.agg [.int .i64 a0.header,.int .i64 a0.bC,.str a0.bW,.int .i64 a0.order,.int .i64 a0.update,.bool a0.live,.int .i64 a0.node,.int .i64 a0.seq,.bool a0.cB,.int .i64 a0.accepted],.agg [.int .i64 a1.header,.int .i64 a1.bC,.str a1.bW,.int .i64 a1.order,.int .i64 a1.update,.bool a1.live,.int .i64 a1.node,.int .i64 a1.seq,.bool a1.cB,.int .i64 a1.accepted],.str a2,.int .i64 a3,.str a4] [] Ej=I9 a0 a1 a2 a3 a4 (fun q0=>Ej (.bool q0) []):=by kernel_rfl
theorem aIB (H:Type) (enc:TypeId×Value->H) (W:World) (base:Nat) (args:Array Value) (ds gs:List (DataW H)) (before:List MemPlace)
  (lX:∀(j:Nat) t v,ir.params[j]? = some t->args[j]? = some v->Jj ao W .any base t v)
  (hW:DataW.Whole enc ao ir.params.toList Rows.stateTellsSpec.vars false W args.toList ds gs before) (hL:laidMetH ao Rows.stateTellsUptoRow.laid W) (hk:Rows.uptoSmall H (ds++gs)=true) :
  Calls ao 10 args W fun e W'=>∃v,e=.returned v/\Rows.stateTellsSpec.post enc ao ir false true false false W args v W':=by
 have SH:=hW;obtain ⟨p,q,vW,hV,hpq,nY,fk⟩:=hW;have hA:DataW.TrodAll enc ao W 0 (fun _=>true) true [63,63,9,3,9] args.toList ds p:=vW;have lX:∀(j:Nat) t v,(#[63,63,9,3,9]:Array Nat)[j]? = some t->args[j]? = some v->Jj ao W .any base t v:=lX;obtain ⟨v0,vs0,d0,ds0,p0,q0,Kc,rfl,rfl,h0,r0⟩:=trodAll_cons hA;obtain ⟨v1,vs1,d1,ds1,p1,q1,rfl,rfl,rfl,h1,r1⟩:=trodAll_cons r0;obtain ⟨v2,vs2,d2,ds2,p2,q2,rfl,rfl,rfl,h2,r2⟩:=trodAll_cons r1;obtain ⟨v3,vs3,d3,ds3,p3,q3,rfl,rfl,rfl,h3,r3⟩:=trodAll_cons r2;obtain ⟨v4,vs4,d4,ds4,p4,q4,rfl,rfl,rfl,h4,r4⟩:=trodAll_cons r3;obtain ⟨rfl,rfl,rfl⟩:=trodAll_nil r4;obtain rfl:args = #[v0,v1,v2,v3,v4]:=by cases args; simp_all
 have hV':DataW.TrodVars enc ao W (fun _=>true) [] gs q:=hV;obtain ⟨rfl,rfl⟩:=trodVars_none hV';have hb:Rows.uptoBulkAll ([d0,d1,d2,d3,d4]++[])<=1048576:=of_decide_eq_true hk;simp only[oK,Rows.uptoBulkAll]at hb;obtain ⟨a0,q0,s0⟩:=acv (T:=.state) (N:=1048576) leaves (by kernel_rfl) (by kernel_rfl) (lX 0 63 v0 rfl rfl) h0 (by omega) (FV rfl);obtain ⟨a1,q1,s1⟩:=acv (T:=.state) (N:=1048576) leaves (by kernel_rfl) (by kernel_rfl) (lX 1 63 v1 rfl rfl) h1 (by omega) (FV rfl);obtain ⟨a2,q2,s2⟩:=SG (p:=.str) (N:=1048576) leaves (by kernel_rfl) (by kernel_rfl) (lX 2 9 v2 rfl rfl) h2 (by omega) (FV rfl);obtain ⟨a3,q3,s3⟩:=SG (p:=.int .i64) (N:=1048576) leaves (by kernel_rfl) (by kernel_rfl) (lX 3 3 v3 rfl rfl) h3 (by omega) (FV rfl)
 obtain ⟨a4,q4,s4⟩:=SG (p:=.str) (N:=1048576) leaves (by kernel_rfl) (by kernel_rfl) (lX 4 9 v4 rfl rfl) h4 (by omega) (FV rfl);have ra:aQ W [] tS [.agg [.int .i64 a0.header,.int .i64 a0.bC,.str a0.bW,.int .i64 a0.order,.int .i64 a0.update,.bool a0.live,.int .i64 a0.node,.int .i64 a0.seq,.bool a0.cB,.int .i64 a0.accepted],.agg [.int .i64 a1.header,.int .i64 a1.bC,.str a1.bW,.int .i64 a1.order,.int .i64 a1.update,.bool a1.live,.int .i64 a1.node,.int .i64 a1.seq,.bool a1.cB,.int .i64 a1.accepted],.str a2,.int .i64 a3,.str a4] #[v0,v1,v2,v3,v4].toList:=(.cons q0 (.cons q1 (.cons q2 (.cons q3 (.cons q4 .nil)))))
 obtain ⟨aIC,aID⟩:=asG (W:=W) hL;refine(asa Tryz.func10 rfl rfl (aIt Unit _ (iB _)) aIC aID ra ((run a0 a1 a2 a3 a4).trans (aIA a0 a1 a2 a3 a4 s0 s1 s2 s3 s4 (fun q0=>Ej (.bool q0) [])))).mono fun e W' ⟨he,L⟩=>⟨_,he,?_⟩
 exact asd (by kernel_rfl) (asb (by kernel_rfl)) rfl rfl rfl (show ao.underlying 4=some .bool by kernel_rfl) SH L
theorem reads (os:Os) {H:Type} (enc:TypeId×Value->H):(DataW.whole enc ao ((SO os).forCall (fun _ _=>0) ⟨#[],#[.agg #[.int .i64 0,.int .i64 0,.string .empty,.int .i64 0,.int .i64 0,.bool false,.int .i64 0,.int .i64 0,.bool false,.int .i64 0],.agg #[.int .i64 0,.int .i64 0,.string .empty,.int .i64 0,.int .i64 0,.bool false,.int .i64 0,.int .i64 0,.bool false,.int .i64 0],.string .empty,.int .i64 0,.string .empty],[]⟩).memory ir.params.toList Rows.stateTellsSpec.vars false (#[.agg #[.int .i64 0,.int .i64 0,.string .empty,.int .i64 0,.int .i64 0,.bool false,.int .i64 0,.int .i64 0,.bool false,.int .i64 0],.agg #[.int .i64 0,.int .i64 0,.string .empty,.int .i64 0,.int .i64 0,.bool false,.int .i64 0,.int .i64 0,.bool false,.int .i64 0],.string .empty,.int .i64 0,.string .empty]:Array Value).toList 8).map (fun x=>(x.1,x.2.1))=some ([.agg [.lit (.int .i64 0),.lit (.int .i64 0),.lit (.string []),.lit (.int .i64 0),.lit (.int .i64 0),.lit (.bool false),.lit (.int .i64 0),.lit (.int .i64 0),.lit (.bool false),.lit (.int .i64 0)],.agg [.lit (.int .i64 0),.lit (.int .i64 0),.lit (.string []),.lit (.int .i64 0),.lit (.int .i64 0),.lit (.bool false),.lit (.int .i64 0),.lit (.int .i64 0),.lit (.bool false),.lit (.int .i64 0)],.lit (.string []),.lit (.int .i64 0),.lit (.string [])],[]):=by kernel_rfl
theorem lifted (os:Os) (started:os.Started) (H:Type) (enc:TypeId×Value->H) (F:Stop.Interp) :
  ReturnsInHanded {} Tryz.checked os 10 .any ((Rows.OpenSpec.upto Rows.stateTellsSpec).preRow enc ao ir Rows.stateTellsUptoRow.domain false Rows.stateTellsUptoRow.laid) (((Rows.OpenSpec.upto Rows.stateTellsSpec).at F).post enc ao ir false true false false):=by
 obtain ⟨⟨x1,x2,x3⟩,hx,Gr⟩:=ZX.1 (reads os enc);simp only[kA]at Gr;obtain ⟨rfl,rfl⟩:=Gr;refine returnsInHanded_of_row (C:=Tryz.checked) (s:=Rows.OpenSpec.upto Rows.stateTellsSpec) own started (by kernel_rfl) Tryz.func10
  (witness_row_atRef (enc:=enc) (C:=Tryz.checked) false (SO os) #[.agg #[.int .i64 0,.int .i64 0,.string .empty,.int .i64 0,.int .i64 0,.bool false,.int .i64 0,.int .i64 0,.bool false,.int .i64 0],.agg #[.int .i64 0,.int .i64 0,.string .empty,.int .i64 0,.int .i64 0,.bool false,.int .i64 0,.int .i64 0,.bool false,.int .i64 0],.string .empty,.int .i64 0,.string .empty] rfl (by kernel_rfl) (by kernel_rfl) (by kernel_rfl)
   (OpenSpec.preRow_of_cond 8 hx (by kernel_rfl) (fun k hk=>by cases hk; kernel_rfl) (by kernel_rfl) (asK os _))) ?_
 intro W base args ds gs before lX hW _ ji _ hL _ _;exact aIB H enc W base args ds gs before lX hW hL (ji _ rfl)
theorem aIE:Rows.stateTellsUptoRow.wf (OpenSpec.ofChange (Rows.OpenSpec.upto Rows.stateTellsSpec).bare)=true:=by kernel_rfl
theorem aIF:laidOutB Tryz.pinned.checked.prog=true:=by kernel_rfl
theorem aIG:mapsRowed Tryz.pinned.checked.prog=true:=by kernel_rfl
theorem aIH:ir.params.all (Tryz.pinned.checked.prog.readableRec ·)=true:=by kernel_rfl
theorem aII:namedTie Tryz.pinned.checked.prog Rows.stateTellsUptoRow.named (Rows.OpenSpec.upto Rows.stateTellsSpec).bare.vars=true:=by kernel_rfl
theorem aIJ:(Rows.stateTellsUptoRow.stops==[])=true:=by kernel_rfl
theorem aIK:(Tryz.pinned.checked.prog.stops==[])=true:=by kernel_rfl
theorem aIL:(Rows.stateTellsUptoRow.knobs==[])=true:=by kernel_rfl
theorem aIM:(Tryz.pinned.checked.prog.stopKnobs==[])=true:=by kernel_rfl
theorem aIN:(Rows.stateTellsUptoRow.inPlace==Tryz.pinned.checked.prog.inPlace 10)=true:=by kernel_rfl
theorem aIO:(Rows.stateTellsUptoRow.unfollowed==Tryz.pinned.checked.prog.unfollowed 10)=true:=by kernel_rfl
theorem aIP:(Rows.stateTellsUptoRow.recurses==Tryz.pinned.checked.prog.recurses 10)=true:=by kernel_rfl
theorem aIQ:(Rows.stateTellsUptoRow.named==Tryz.pinned.checked.prog.varsNamed 10)=true:=by kernel_rfl
theorem aIR:(Rows.stateTellsUptoRow.maps==(ir.params.toList++(Rows.OpenSpec.upto Rows.stateTellsSpec).bare.plain.varTypes Tryz.pinned.checked.prog).any (Tryz.pinned.checked.prog.mapsRec ·))=true:=by kernel_rfl
theorem aIS:(Rows.stateTellsUptoRow.ifaces==(ir.params.toList++(Rows.OpenSpec.upto Rows.stateTellsSpec).bare.plain.varTypes Tryz.pinned.checked.prog).any (Tryz.pinned.checked.prog.ifacesRec ·))=true:=by kernel_rfl
theorem aIT:(Rows.stateTellsUptoRow.mapsOut==Tryz.pinned.checked.prog.mapsAmong ir.resultTypes.toList)=true:=by kernel_rfl
theorem aIU:(Rows.stateTellsUptoRow.loops==(ir.params.toList++(Rows.OpenSpec.upto Rows.stateTellsSpec).bare.plain.varTypes Tryz.pinned.checked.prog).any (Tryz.pinned.checked.prog.loopsFrom ·))=true:=by kernel_rfl
theorem aIV:(Rows.stateTellsUptoRow.wideKeys==(ir.params.toList++(Rows.OpenSpec.upto Rows.stateTellsSpec).bare.plain.varTypes Tryz.pinned.checked.prog++ir.resultTypes.toList).any (Tryz.pinned.checked.prog.wideKeysFrom ·))=true:=by kernel_rfl
theorem aIW:(Rows.OpenSpec.upto Rows.stateTellsSpec).bare.vars.all (Tryz.pinned.checked.prog.varReadable ·)=true:=by kernel_rfl
theorem aIX:ir.resultTypes.all (fun t=>Tryz.pinned.checked.prog.readableRec t&&decide (t<Tryz.pinned.checked.prog.types.size))=true:=by kernel_rfl
theorem aIY:(Rows.stateTellsUptoRow.ifacesOut==ir.resultTypes.toList.any (Tryz.pinned.checked.prog.ifacesRec ·))=true:=by kernel_rfl
theorem aIZ:(Rows.stateTellsUptoRow.loopsOut==ir.resultTypes.toList.any (Tryz.pinned.checked.prog.loopsFrom ·))=true:=by kernel_rfl
theorem aI0:(Rows.stateTellsUptoRow.plainKeys==Tryz.pinned.checked.prog.plainKeys)=true:=by kernel_rfl
theorem aI1:Rows.stateTellsUptoRow.shortTexts.isNone=true:=by kernel_rfl
theorem aI2:Tryz.pinned.checked.prog.stopsHeard=true:=by kernel_rfl
theorem aI3:Tryz.pinned.checked.prog.mayEnter=true:=by kernel_rfl
theorem aI4:(Rows.stateTellsUptoRow.lifted==Tryz.pinned.checked.prog.liftsFinal)=true:=by kernel_rfl
theorem aI5:(Tryz.pinned.checked.prog.make==some Rows.stateTellsUptoRow.make)=true:=by kernel_rfl
theorem aI6:(Rows.stateTellsUptoRow.kinds==(if Rows.stateTellsUptoRow.domain.isEmpty then []else ir.params.toList.map fun t=>match Tryz.pinned.checked.prog.underlying t with|some (.int k)=>some k|_=>none))=true:=by kernel_rfl
theorem aI7:(Rows.stateTellsUptoRow.pinned==Rows.stateTellsUptoRow.pinnedBy)=true:=by kernel_rfl
theorem aI8:(Rows.stateTellsUptoRow.veiled==(ir.params.toList++(Rows.OpenSpec.upto Rows.stateTellsSpec).bare.plain.varTypes Tryz.pinned.checked.prog++ir.resultTypes.toList).any (Tryz.pinned.checked.prog.veiledRec ·))=true:=by kernel_rfl
theorem aI9:Rows.stateTellsUptoRow.veiledFits Tryz.pinned.checked.prog ir.params.toList (ir.params.toList++(Rows.OpenSpec.upto Rows.stateTellsSpec).bare.plain.varTypes Tryz.pinned.checked.prog++ir.resultTypes.toList)=true:=by kernel_rfl
theorem closed:joinedFacts Tryz.pinned.checked.prog 10 ir (Rows.OpenSpec.upto Rows.stateTellsSpec).bare Rows.stateTellsUptoRow=true:=
 aol aIE aIF aIG aIH aII aIJ aIK aIL aIM aIN aIO aIP aIQ aIR aIS aIT aIU aIV aIW aIX aIY aIZ aI0 aI1 aI2 aI3 aI4 aI5 aI6 aI7 aI8 aI9
theorem aJa:Rows.StateTellsUptoSaid:=
 OpenClaim.holds_of_cond 10 ir rfl rfl rfl rfl rfl rfl rfl ⟨rfl,rfl,rfl,rfl,rfl⟩ rfl rfl rfl rfl rfl (by kernel_rfl) Tryz.func10 closed
  (of_decide_eq_true (by kernel_rfl)) (by unfold Func.isWrapper; first|(rw[if_pos (by decide +kernel)]; kernel_rfl)|(rw[if_neg (by decide +kernel)]; exact⟨rfl,rfl⟩))
  (fun os started H enc _ F=>by rw[OpenClaim.pre_eq_preRow]; exact lifted os started H enc F)
theorem plain (f:FuncId) (fn:Func) (hf:Tryz.pinned.checked.prog.funcNamed "humpyard/humpyardlaw09.StateTells" = some f) (hfn:Tryz.pinned.checked.prog.funcs[f]? = some fn) :
  true=Tryz.pinned.checked.prog.looks []/\∀(j:Nat) t,fn.params[j]? = some t->Tryz.pinned.checked.prog.wantsStandIn t=false:=by
 obtain rfl:f=10:=aok ((show ao.funcNamed "humpyard/humpyardlaw09.StateTells" = some 10 by kernel_rfl).symm.trans hf) |>.symm;obtain rfl:fn=ir:=(aok (Tryz.func10.symm.trans hfn)).symm;refine⟨by kernel_rfl,fun j t ht => ?_⟩;have fK:ir.params.toList.all (fun t => !Tryz.prog.wantsStandIn t)=true:=by kernel_rfl
 have hm:t∈ir.params.toList:=Array.mem_toList_iff.2 (Array.mem_of_getElem? ht);have:=gF.1 fK t hm;exact(show ao.wantsStandIn t=false by simpa using this)
theorem aJb:Rows.stateTellsUptoRow.wfByText (Rows.OpenSpec.upto Rows.stateTellsSpec)=true:=by kernel_rfl
theorem aJc:Tryz.pinned.checked.prog.mainIs=some (true,("52d89ea66f9b054a1e9b376e7589da8cb69240856ce437513011a9f7de00e165" : String).toList):=by kernel_rfl
theorem aJd:false=Rows.stateTellsUptoRow.goesBy Tryz.pinned.checked.prog:=by kernel_rfl
end Go.Proofs.YtidfokedcnhahaaGreatDoor.stateTells
namespace Go.Proofs.YtidfokedcnhahaaGreatDoor
open Go.RowKit
theorem stateTells_card_upto:Rows.StateTellsUptoCardSaid:=
 Claim7.holds_tied_plain_at .later [] _ _ _ _ stateTells.aJa (fun _ h=>by cases h) stateTells.aJb (fun _ h=>by cases h) stateTellsUpto_row_tie rfl ⟨rfl,rfl⟩ stateTells.aJc rfl stateTells.plain stateTells.aJd
end Go.Proofs.YtidfokedcnhahaaGreatDoor
end
