/-
  FleetTells: for every input whose bulk is at most 1048576 the law returns true, and each argument reads behind the call as it read before; part 9 of 9 of the proof: an interpreter of the model's code over typed data, proved sound; the functions that the law reaches, printed as Lean functions and tied; the plain law. Own texts laid one behind the other.
-/
import Derived.Test.YtolnaonmpohciaaDoorFleetTellsB8
set_option linter.unusedSimpArgs false
set_option linter.unnecessarySimpa false
set_option linter.unusedVariables false
set_option linter.unusedSectionVars false
noncomputable section
set_option maxRecDepth 100000
namespace Go.Proofs.YtolnaonmpohciaaDoor.fleetTells
open Go.ChangeShapes Go.WideShapes Go.ChangeAt Go.RowKit Go.ad Door

theorem run (a0:ad.bN) (a1:ad.bN) (a2:List Int) (a3:ad.State) (a4:Int) (a5:Int) (a6:List oD) (a7:kh):bx lB lC (o5 k7) aL [.agg [.str a0.ae, .int .i64 a0.header, .int .i64 a0.order, .int .i64 a0.update, .int .i64 a0.aX, .int .i64 a0.seen, .sl (.int .i64) a0.path .no, .int .i64 a0.seq, .bool a0.open_, .int .i64 a0.rel, .bool a0.wait, .int .i64 a0.pending.header, .str a0.pending.ae, .int .i64 a0.pending.order, .int .i64 a0.pending.update, .sl .stop a0.pending.nodes .no, .sl .dt a0.pending.af .no], .agg [.str a1.ae, .int .i64 a1.header, .int .i64 a1.order, .int .i64 a1.update, .int .i64 a1.aX, .int .i64 a1.seen, .sl (.int .i64) a1.path .no, .int .i64 a1.seq, .bool a1.open_, .int .i64 a1.rel, .bool a1.wait, .int .i64 a1.pending.header, .str a1.pending.ae, .int .i64 a1.pending.order, .int .i64 a1.pending.update, .sl .stop a1.pending.nodes .no, .sl .dt a1.pending.af .no], .sl (.int .i64) a2 .no, .agg [.int .i64 a3.header, .int .i64 a3.aX, .str a3.ae, .int .i64 a3.order, .int .i64 a3.update, .bool a3.live, .int .i64 a3.node, .int .i64 a3.seq, .bool a3.dW, .int .i64 a3.accepted], .int .i64 a4, .int .i64 a5, .sl .u7 a6 .no, .agg [.int .i64 a7.header, .int .i64 a7.order, .int .i64 a7.update, .int .i64 a7.seq, .int .i64 a7.from_, .int .i64 a7.ax, .sl (.int .i64) a7.turns .no]] [] kOk=k7 a0 a1 a2 a3 a4 a5 a6 a7 (fun q0=>kOk (.bool q0) []):=by kernel_rfl

theorem Y5 (H:Type) (enc:TypeId×Value→H) (W:World) (base:Nat) (args:Array Value) (ds gs:List (DataW H)) (before:List MemPlace)
  (Ag:∀(j:Nat) t v,Tryd.f3.params[j]? = some t→args[j]? = some v→Value.okWide Tryd.prog W .any base t v)
  (hW:DataW.Whole enc Tryd.prog Tryd.f3.params.toList Rows.fleetTellsSpec.vars false W args.toList ds gs before) (hL:laidMetH Tryd.prog Rows.fleetTellsUptoRow.laid W) (hk:Rows.uptoSmall H (ds++gs)=true) :
  Calls Tryd.prog 3 args W fun e W'=>∃v,e = .returned v∧Rows.fleetTellsSpec.post enc Tryd.prog Tryd.f3 false true false false W args v W':=by
 have hW':=hW
 obtain ⟨p,q,hA0,hV,hpq,TX,DC⟩:=hW
 have hA:DataW.TrodAll enc Tryd.prog W 0 (fun _=>true) true [28,28,22,30,3,3,31,33] args.toList ds p:=hA0
 have Ag:∀(j:Nat) t v,(#[28,28,22,30,3,3,31,33]:Array Nat)[j]? = some t→args[j]? = some v→Value.okWide Tryd.prog W .any base t v:=Ag
 obtain ⟨v0,vs0,d0,ds0,p0,q0,T7,rfl,rfl,h0,r0⟩:=trodAll_cons hA
 obtain ⟨v1,vs1,d1,ds1,p1,q1,rfl,rfl,rfl,h1,r1⟩:=trodAll_cons r0
 obtain ⟨v2,vs2,d2,ds2,p2,q2,rfl,rfl,rfl,h2,r2⟩:=trodAll_cons r1
 obtain ⟨v3,vs3,d3,ds3,p3,q3,rfl,rfl,rfl,h3,r3⟩:=trodAll_cons r2
 obtain ⟨v4,vs4,d4,ds4,p4,q4,rfl,rfl,rfl,h4,r4⟩:=trodAll_cons r3
 obtain ⟨v5,vs5,d5,ds5,p5,q5,rfl,rfl,rfl,h5,r5⟩:=trodAll_cons r4
 obtain ⟨v6,vs6,d6,ds6,p6,q6,rfl,rfl,rfl,h6,r6⟩:=trodAll_cons r5
 obtain ⟨v7,vs7,d7,ds7,p7,q7,rfl,rfl,rfl,h7,r7⟩:=trodAll_cons r6
 obtain ⟨rfl,rfl,rfl⟩:=trodAll_nil r7
 obtain rfl:args = #[v0,v1,v2,v3,v4,v5,v6,v7]:=by cases args; simp_all
 have hV':DataW.TrodVars enc Tryd.prog W (fun _=>true) [] gs q:=hV
 obtain ⟨rfl,rfl⟩:=trodVars_none hV'
 have hb:Rows.uptoBulkAll ([d0,d1,d2,d3,d4,d5,d6,d7] ++ [])≤1048576:=of_decide_eq_true hk
 simp only[List.append_nil,Rows.uptoBulkAll]at hb
 obtain ⟨a0,q0,s0⟩:=Ll (T := .C8) (N:=1048576) leaves (by kernel_rfl) (by kernel_rfl) (Ag 0 28 v0 rfl rfl) h0 (by omega) (Nat.le_of_ble_eq_true rfl)
 obtain ⟨a1,q1,s1⟩:=Ll (T := .C8) (N:=1048576) leaves (by kernel_rfl) (by kernel_rfl) (Ag 1 28 v1 rfl rfl) h1 (by omega) (Nat.le_of_ble_eq_true rfl)
 obtain ⟨a2,q2,s2⟩:=Lk (p := .sl (.int .i64)) (N:=1048576) leaves (by kernel_rfl) (by kernel_rfl) (Ag 2 22 v2 rfl rfl) h2 (by omega) (Nat.le_of_ble_eq_true rfl)
 obtain ⟨a3,q3,s3⟩:=Ll (T := .state) (N:=1048576) leaves (by kernel_rfl) (by kernel_rfl) (Ag 3 30 v3 rfl rfl) h3 (by omega) (Nat.le_of_ble_eq_true rfl)
 obtain ⟨a4,q4,s4⟩:=Lk (p := .int .i64) (N:=1048576) leaves (by kernel_rfl) (by kernel_rfl) (Ag 4 3 v4 rfl rfl) h4 (by omega) (Nat.le_of_ble_eq_true rfl)
 obtain ⟨a5,q5,s5⟩:=Lk (p := .int .i64) (N:=1048576) leaves (by kernel_rfl) (by kernel_rfl) (Ag 5 3 v5 rfl rfl) h5 (by omega) (Nat.le_of_ble_eq_true rfl)
 obtain ⟨a6,q6,s6⟩:=Lk (p := .sl .u7) (N:=1048576) leaves (by kernel_rfl) (by kernel_rfl) (Ag 6 31 v6 rfl rfl) h6 (by omega) (Nat.le_of_ble_eq_true rfl)
 obtain ⟨a7,q7,s7⟩:=Ll (T := .C9) (N:=1048576) leaves (by kernel_rfl) (by kernel_rfl) (Ag 7 33 v7 rfl rfl) h7 (by omega) (Nat.le_of_ble_eq_true rfl)
 have ra:bl W [] Mr [.agg [.str a0.ae, .int .i64 a0.header, .int .i64 a0.order, .int .i64 a0.update, .int .i64 a0.aX, .int .i64 a0.seen, .sl (.int .i64) a0.path .no, .int .i64 a0.seq, .bool a0.open_, .int .i64 a0.rel, .bool a0.wait, .int .i64 a0.pending.header, .str a0.pending.ae, .int .i64 a0.pending.order, .int .i64 a0.pending.update, .sl .stop a0.pending.nodes .no, .sl .dt a0.pending.af .no], .agg [.str a1.ae, .int .i64 a1.header, .int .i64 a1.order, .int .i64 a1.update, .int .i64 a1.aX, .int .i64 a1.seen, .sl (.int .i64) a1.path .no, .int .i64 a1.seq, .bool a1.open_, .int .i64 a1.rel, .bool a1.wait, .int .i64 a1.pending.header, .str a1.pending.ae, .int .i64 a1.pending.order, .int .i64 a1.pending.update, .sl .stop a1.pending.nodes .no, .sl .dt a1.pending.af .no], .sl (.int .i64) a2 .no, .agg [.int .i64 a3.header, .int .i64 a3.aX, .str a3.ae, .int .i64 a3.order, .int .i64 a3.update, .bool a3.live, .int .i64 a3.node, .int .i64 a3.seq, .bool a3.dW, .int .i64 a3.accepted], .int .i64 a4, .int .i64 a5, .sl .u7 a6 .no, .agg [.int .i64 a7.header, .int .i64 a7.order, .int .i64 a7.update, .int .i64 a7.seq, .int .i64 a7.from_, .int .i64 a7.ax, .sl (.int .i64) a7.turns .no]] #[v0,v1,v2,v3,v4,v5,v6,v7].toList:=(.cons q0 (.cons q1 (.cons q2 (.cons q3 (.cons q4 (.cons q5 (.cons q6 (.cons q7 .nil))))))))
 obtain ⟨hsays,hblocks⟩:=Z8 (W:=W) hL
 refine (S7 Tryd.func3 rfl rfl (DI Unit _ (Af _)) hsays hblocks ra ((run a0 a1 a2 a3 a4 a5 a6 a7).trans (K4 a0 a1 a2 a3 a4 a5 a6 a7 s0 s1 s2 s3 s4 s5 s6 s7 (fun q0=>kOk (.bool q0) [])))).mono fun e W' ⟨he,L⟩=>⟨_,he,?_⟩
 exact VG (by kernel_rfl) (VF (by kernel_rfl)) rfl rfl rfl (show Tryd.prog.underlying 4=some .bool by kernel_rfl) hW' L

theorem reads (os:Os) {H:Type} (enc:TypeId×Value→H):(DataW.whole enc Tryd.prog ((I9 os).forCall (fun _ _=>0) ⟨#[], #[.agg #[.string .empty, .int .i64 0, .int .i64 0, .int .i64 0, .int .i64 0, .int .i64 0, .slice none 0 0, .int .i64 0, .bool false, .int .i64 0, .bool false, .int .i64 0, .string .empty, .int .i64 0, .int .i64 0, .slice none 0 0, .slice none 0 0], .agg #[.string .empty, .int .i64 0, .int .i64 0, .int .i64 0, .int .i64 0, .int .i64 0, .slice none 0 0, .int .i64 0, .bool false, .int .i64 0, .bool false, .int .i64 0, .string .empty, .int .i64 0, .int .i64 0, .slice none 0 0, .slice none 0 0], .slice none 0 0, .agg #[.int .i64 0, .int .i64 0, .string .empty, .int .i64 0, .int .i64 0, .bool false, .int .i64 0, .int .i64 0, .bool false, .int .i64 0], .int .i64 0, .int .i64 0, .slice none 0 0, .agg #[.int .i64 0, .int .i64 0, .int .i64 0, .int .i64 0, .int .i64 0, .int .i64 0, .slice none 0 0]], []⟩).memory Tryd.f3.params.toList Rows.fleetTellsSpec.vars false (#[.agg #[.string .empty, .int .i64 0, .int .i64 0, .int .i64 0, .int .i64 0, .int .i64 0, .slice none 0 0, .int .i64 0, .bool false, .int .i64 0, .bool false, .int .i64 0, .string .empty, .int .i64 0, .int .i64 0, .slice none 0 0, .slice none 0 0], .agg #[.string .empty, .int .i64 0, .int .i64 0, .int .i64 0, .int .i64 0, .int .i64 0, .slice none 0 0, .int .i64 0, .bool false, .int .i64 0, .bool false, .int .i64 0, .string .empty, .int .i64 0, .int .i64 0, .slice none 0 0, .slice none 0 0], .slice none 0 0, .agg #[.int .i64 0, .int .i64 0, .string .empty, .int .i64 0, .int .i64 0, .bool false, .int .i64 0, .int .i64 0, .bool false, .int .i64 0], .int .i64 0, .int .i64 0, .slice none 0 0, .agg #[.int .i64 0, .int .i64 0, .int .i64 0, .int .i64 0, .int .i64 0, .int .i64 0, .slice none 0 0]]:Array Value).toList 8).map (fun x=>(x.1,x.2.1))=some ([.agg [.lit (.string []), .lit (.int .i64 0), .lit (.int .i64 0), .lit (.int .i64 0), .lit (.int .i64 0), .lit (.int .i64 0), .nil, .lit (.int .i64 0), .lit (.bool false), .lit (.int .i64 0), .lit (.bool false), .agg [.lit (.int .i64 0), .lit (.string []), .lit (.int .i64 0), .lit (.int .i64 0), .nil, .nil]], .agg [.lit (.string []), .lit (.int .i64 0), .lit (.int .i64 0), .lit (.int .i64 0), .lit (.int .i64 0), .lit (.int .i64 0), .nil, .lit (.int .i64 0), .lit (.bool false), .lit (.int .i64 0), .lit (.bool false), .agg [.lit (.int .i64 0), .lit (.string []), .lit (.int .i64 0), .lit (.int .i64 0), .nil, .nil]], .nil, .agg [.lit (.int .i64 0), .lit (.int .i64 0), .lit (.string []), .lit (.int .i64 0), .lit (.int .i64 0), .lit (.bool false), .lit (.int .i64 0), .lit (.int .i64 0), .lit (.bool false), .lit (.int .i64 0)], .lit (.int .i64 0), .lit (.int .i64 0), .nil, .agg [.lit (.int .i64 0), .lit (.int .i64 0), .lit (.int .i64 0), .lit (.int .i64 0), .lit (.int .i64 0), .lit (.int .i64 0), .nil]], []):=by kernel_rfl
theorem lifted (os:Os) (started:os.Started) (H:Type) (enc:TypeId×Value→H) (F:Stop.Interp) :
  ReturnsInHanded {} Tryd.checked os 3 .any ((Rows.OpenSpec.upto Rows.fleetTellsSpec).preRow enc Tryd.prog Tryd.f3 Rows.fleetTellsUptoRow.domain false Rows.fleetTellsUptoRow.laid) (((Rows.OpenSpec.upto Rows.fleetTellsSpec).at F).post enc Tryd.prog Tryd.f3 false true false false):=by
 obtain ⟨⟨x1,x2,x3⟩,hx,hx1⟩:=Option.map_eq_some_iff.1 (reads os enc)
 simp only[Prod.mk.injEq]at hx1
 obtain ⟨rfl,rfl⟩:=hx1
 refine returnsInHanded_of_row (C:=Tryd.checked) (s:=Rows.OpenSpec.upto Rows.fleetTellsSpec) own started (by kernel_rfl) Tryd.func3
  (witness_row_atRef (enc:=enc) (C:=Tryd.checked) false (I9 os) #[.agg #[.string .empty, .int .i64 0, .int .i64 0, .int .i64 0, .int .i64 0, .int .i64 0, .slice none 0 0, .int .i64 0, .bool false, .int .i64 0, .bool false, .int .i64 0, .string .empty, .int .i64 0, .int .i64 0, .slice none 0 0, .slice none 0 0], .agg #[.string .empty, .int .i64 0, .int .i64 0, .int .i64 0, .int .i64 0, .int .i64 0, .slice none 0 0, .int .i64 0, .bool false, .int .i64 0, .bool false, .int .i64 0, .string .empty, .int .i64 0, .int .i64 0, .slice none 0 0, .slice none 0 0], .slice none 0 0, .agg #[.int .i64 0, .int .i64 0, .string .empty, .int .i64 0, .int .i64 0, .bool false, .int .i64 0, .int .i64 0, .bool false, .int .i64 0], .int .i64 0, .int .i64 0, .slice none 0 0, .agg #[.int .i64 0, .int .i64 0, .int .i64 0, .int .i64 0, .int .i64 0, .int .i64 0, .slice none 0 0]] rfl (by kernel_rfl) (by kernel_rfl) (by kernel_rfl)
   (OpenSpec.preRow_of_cond 8 hx (by kernel_rfl) (fun k hk=>by cases hk; kernel_rfl) (by kernel_rfl) (Ya os _))) ?_
 intro W base args ds gs before Ag hW _ ko _ hL _ _
 exact Y5 H enc W base args ds gs before Ag hW hL (ko _ rfl)

theorem fact1:Rows.fleetTellsUptoRow.wf (OpenSpec.ofChange (Rows.OpenSpec.upto Rows.fleetTellsSpec).bare)=true:=by kernel_rfl
theorem fact2:laidOutB Tryd.pinned.checked.prog=true:=by kernel_rfl
theorem fact3:mapsRowed Tryd.pinned.checked.prog=true:=by kernel_rfl
theorem fact4:Tryd.f3.params.all (Tryd.pinned.checked.prog.readableRec ·)=true:=by kernel_rfl
theorem fact5:namedTie Tryd.pinned.checked.prog Rows.fleetTellsUptoRow.named (Rows.OpenSpec.upto Rows.fleetTellsSpec).bare.vars=true:=by kernel_rfl
theorem fact6:(Rows.fleetTellsUptoRow.stops == [])=true:=by kernel_rfl
theorem fact7:(Tryd.pinned.checked.prog.stops == [])=true:=by kernel_rfl
theorem fact8:(Rows.fleetTellsUptoRow.knobs == [])=true:=by kernel_rfl
theorem fact9:(Tryd.pinned.checked.prog.stopKnobs == [])=true:=by kernel_rfl
theorem fact10:(Rows.fleetTellsUptoRow.inPlace==Tryd.pinned.checked.prog.inPlace 3)=true:=by kernel_rfl
theorem fact11:(Rows.fleetTellsUptoRow.unfollowed==Tryd.pinned.checked.prog.unfollowed 3)=true:=by kernel_rfl
theorem fact12:(Rows.fleetTellsUptoRow.recurses==Tryd.pinned.checked.prog.recurses 3)=true:=by kernel_rfl
theorem fact13:(Rows.fleetTellsUptoRow.named==Tryd.pinned.checked.prog.varsNamed 3)=true:=by kernel_rfl
theorem fact14:(Rows.fleetTellsUptoRow.maps==(Tryd.f3.params.toList++(Rows.OpenSpec.upto Rows.fleetTellsSpec).bare.plain.varTypes Tryd.pinned.checked.prog).any (Tryd.pinned.checked.prog.mapsRec ·))=true:=by kernel_rfl
theorem fact15:(Rows.fleetTellsUptoRow.ifaces==(Tryd.f3.params.toList++(Rows.OpenSpec.upto Rows.fleetTellsSpec).bare.plain.varTypes Tryd.pinned.checked.prog).any (Tryd.pinned.checked.prog.ifacesRec ·))=true:=by kernel_rfl
theorem fact16:(Rows.fleetTellsUptoRow.mapsOut==Tryd.pinned.checked.prog.mapsAmong Tryd.f3.resultTypes.toList)=true:=by kernel_rfl
theorem fact17:(Rows.fleetTellsUptoRow.loops==(Tryd.f3.params.toList++(Rows.OpenSpec.upto Rows.fleetTellsSpec).bare.plain.varTypes Tryd.pinned.checked.prog).any (Tryd.pinned.checked.prog.loopsFrom ·))=true:=by kernel_rfl
theorem fact18:(Rows.fleetTellsUptoRow.wideKeys==(Tryd.f3.params.toList++(Rows.OpenSpec.upto Rows.fleetTellsSpec).bare.plain.varTypes Tryd.pinned.checked.prog++Tryd.f3.resultTypes.toList).any (Tryd.pinned.checked.prog.wideKeysFrom ·))=true:=by kernel_rfl
theorem fact19:(Rows.OpenSpec.upto Rows.fleetTellsSpec).bare.vars.all (Tryd.pinned.checked.prog.varReadable ·)=true:=by kernel_rfl
theorem fact20:Tryd.f3.resultTypes.all (fun t=>Tryd.pinned.checked.prog.readableRec t&&decide (t<Tryd.pinned.checked.prog.types.size))=true:=by kernel_rfl
theorem fact21:(Rows.fleetTellsUptoRow.ifacesOut==Tryd.f3.resultTypes.toList.any (Tryd.pinned.checked.prog.ifacesRec ·))=true:=by kernel_rfl
theorem fact22:(Rows.fleetTellsUptoRow.loopsOut==Tryd.f3.resultTypes.toList.any (Tryd.pinned.checked.prog.loopsFrom ·))=true:=by kernel_rfl
theorem fact23:(Rows.fleetTellsUptoRow.plainKeys==Tryd.pinned.checked.prog.plainKeys)=true:=by kernel_rfl
theorem fact24:Rows.fleetTellsUptoRow.shortTexts.isNone=true:=by kernel_rfl
theorem fact25:Tryd.pinned.checked.prog.stopsHeard=true:=by kernel_rfl
theorem fact26:Tryd.pinned.checked.prog.mayEnter=true:=by kernel_rfl
theorem fact27:(Rows.fleetTellsUptoRow.lifted==Tryd.pinned.checked.prog.liftsFinal)=true:=by kernel_rfl
theorem fact28:(Tryd.pinned.checked.prog.make==some Rows.fleetTellsUptoRow.make)=true:=by kernel_rfl
theorem fact29:(Rows.fleetTellsUptoRow.kinds==(if Rows.fleetTellsUptoRow.domain.isEmpty then []else Tryd.f3.params.toList.map fun t=>match Tryd.pinned.checked.prog.underlying t with|some (.int k)=>some k|_=>none))=true:=by kernel_rfl
theorem fact30:(Rows.fleetTellsUptoRow.pinned==Rows.fleetTellsUptoRow.pinnedBy)=true:=by kernel_rfl
theorem fact31:(Rows.fleetTellsUptoRow.veiled==(Tryd.f3.params.toList++(Rows.OpenSpec.upto Rows.fleetTellsSpec).bare.plain.varTypes Tryd.pinned.checked.prog++Tryd.f3.resultTypes.toList).any (Tryd.pinned.checked.prog.veiledRec ·))=true:=by kernel_rfl
theorem fact32:Rows.fleetTellsUptoRow.veiledFits Tryd.pinned.checked.prog Tryd.f3.params.toList (Tryd.f3.params.toList++(Rows.OpenSpec.upto Rows.fleetTellsSpec).bare.plain.varTypes Tryd.pinned.checked.prog++Tryd.f3.resultTypes.toList)=true:=by kernel_rfl
theorem closed:joinedFacts Tryd.pinned.checked.prog 3 Tryd.f3 (Rows.OpenSpec.upto Rows.fleetTellsSpec).bare Rows.fleetTellsUptoRow=true :=
 UA fact1 fact2 fact3 fact4 fact5 fact6 fact7 fact8 fact9 fact10 fact11 fact12 fact13 fact14 fact15 fact16 fact17 fact18 fact19 fact20 fact21 fact22 fact23 fact24 fact25 fact26 fact27 fact28 fact29 fact30 fact31 fact32

theorem Y6:Rows.FleetTellsUptoSaid :=
 OpenClaim.holds_of_cond 3 Tryd.f3 rfl rfl rfl rfl rfl rfl rfl ⟨rfl,rfl,rfl,rfl,rfl⟩ rfl rfl rfl rfl rfl (by kernel_rfl) Tryd.func3 closed
  (of_decide_eq_true (by kernel_rfl)) (by unfold Func.isWrapper; first|(rw[if_pos (by decide +kernel)]; kernel_rfl)|(rw[if_neg (by decide +kernel)]; exact ⟨rfl,rfl⟩))
  (fun os started H enc _ F=>by rw[OpenClaim.pre_eq_preRow]; exact lifted os started H enc F)

theorem plain (f:FuncId) (fn:Func) (hf:Tryd.pinned.checked.prog.funcNamed "humpyard/humpyardlaw18.FleetTells" = some f) (hfn:Tryd.pinned.checked.prog.funcs[f]? = some fn) :
  false=Tryd.pinned.checked.prog.looks []∧∀(j:Nat) t,fn.params[j]? = some t→Tryd.pinned.checked.prog.wantsStandIn t=false:=by
 obtain rfl:f=3:=Option.some.inj ((show Tryd.prog.funcNamed "humpyard/humpyardlaw18.FleetTells" = some 3 by kernel_rfl).symm.trans hf) |>.symm
 obtain rfl:fn=Tryd.f3:=(Option.some.inj (Tryd.func3.symm.trans hfn)).symm
 refine ⟨by kernel_rfl,fun j t ht => ?_⟩
 have vM:Tryd.f3.params.toList.all (fun t => !Tryd.prog.wantsStandIn t)=true:=by kernel_rfl
 have hm:t∈Tryd.f3.params.toList:=Array.mem_toList_iff.2 (Array.mem_of_getElem? ht)
 have:=List.all_eq_true.1 vM t hm
 exact (show Tryd.prog.wantsStandIn t=false by simpa using this)
theorem card1:Rows.fleetTellsUptoRow.wfByText (Rows.OpenSpec.upto Rows.fleetTellsSpec)=true:=by kernel_rfl
theorem card2:Tryd.pinned.checked.prog.mainIs=some (true,("ea04d2931e2bd14512d3c7dc06761c1f186a48904e267a8ace9d222ab70efee8" : String).toList):=by kernel_rfl
theorem card3:false=Rows.fleetTellsUptoRow.goesBy Tryd.pinned.checked.prog:=by kernel_rfl
end Go.Proofs.YtolnaonmpohciaaDoor.fleetTells
namespace Go.Proofs.YtolnaonmpohciaaDoor
open Go.RowKit
theorem fleetTells_card_upto:Rows.FleetTellsUptoCardSaid :=
 Claim7.holds_tied_plain_at .later [] _ _ _ _ fleetTells.Y6 (fun _ h=>by cases h) fleetTells.card1 (fun _ h=>by cases h) fleetTellsUpto_row_tie rfl ⟨rfl,rfl⟩ fleetTells.card2 rfl fleetTells.plain fleetTells.card3
end Go.Proofs.YtolnaonmpohciaaDoor
end
