/-
  JsonTells, part 10 of 10.
-/
import Derived.Test.YtmlkkgfenfdndaaGreatDoorJsonTellsB9
set_option linter.unusedSimpArgs false
set_option linter.unnecessarySimpa false
set_option linter.unusedVariables false
set_option linter.unusedSectionVars false
noncomputable section
set_option maxRecDepth 100000
namespace Go.Proofs.YtmlkkgfenfdndaaGreatDoor.jsonTells
open Go.ChangeShapes Go.WideShapes Go.ChangeAt Go.RowKit Go.bb Door
theorem run (a0:Json) (a1:Json) (a2:af) (a3:Raw) (a4:Int) (a5:af):aG wB wC (Bs vA) aC [.agg [.int .i64 a0.kind, .int .i64 a0.num.au, .int .i64 a0.num.exp, .str a0.text, .sl .str a0.names .no, .sl .json a0.items .no], .agg [.int .i64 a1.kind, .int .i64 a1.num.au, .int .i64 a1.num.exp, .str a1.text, .sl .str a1.names .no, .sl .json a1.items .no], .str a2, .agg [.int .i64 a3.kind, .int .i64 a3.au, .int .i64 a3.exp, .sl (.int .i64) a3.text .no, .sl .raw a3.items .no], .int .i64 a4, .str a5] [] kOk=vA a0 a1 a2 a3 a4 a5 (fun q0=>kOk (.bool q0) []):=by kernel_rfl
theorem contract (H:Type) (enc:TypeId×Value→H) (W:World) (base:Nat) (args:Array Value) (ds gs:List (DataW H)) (before:List MemPlace)
  (Gv:∀(j:Nat) t v,Tryz.f8.params[j]? = some t→args[j]? = some v→Value.okWide Tryz.prog W .any base t v)
  (hW:DataW.Whole enc Tryz.prog Tryz.f8.params.toList Rows.jsonTellsSpec.vars false W args.toList ds gs before) (hL:laidMetH Tryz.prog Rows.jsonTellsUptoRow.laid W) (hk:Rows.uptoSmall H (ds++gs)=true) :
  Calls Tryz.prog 8 args W fun e W'=>∃v,e = .returned v∧Rows.jsonTellsSpec.post enc Tryz.prog Tryz.f8 false true false false W args v W':=by
 have hW':=hW;obtain ⟨p,q,hA0,hV,hpq,hfz,Ns⟩:=hW;have hA:DataW.TrodAll enc Tryz.prog W 0 (fun _=>true) true [31,31,9,25,3,9] args.toList ds p:=hA0;have Gv:∀(j:Nat) t v,(#[31,31,9,25,3,9]:Array Nat)[j]? = some t→args[j]? = some v→Value.okWide Tryz.prog W .any base t v:=Gv;obtain ⟨v0,vs0,d0,ds0,p0,q0,hargs,rfl,rfl,h0,r0⟩:=trodAll_cons hA;obtain ⟨v1,vs1,d1,ds1,p1,q1,rfl,rfl,rfl,h1,r1⟩:=trodAll_cons r0;obtain ⟨v2,vs2,d2,ds2,p2,q2,rfl,rfl,rfl,h2,r2⟩:=trodAll_cons r1;obtain ⟨v3,vs3,d3,ds3,p3,q3,rfl,rfl,rfl,h3,r3⟩:=trodAll_cons r2;obtain ⟨v4,vs4,d4,ds4,p4,q4,rfl,rfl,rfl,h4,r4⟩:=trodAll_cons r3;obtain ⟨v5,vs5,d5,ds5,p5,q5,rfl,rfl,rfl,h5,r5⟩:=trodAll_cons r4
 obtain ⟨rfl,rfl,rfl⟩:=trodAll_nil r5;obtain rfl:args = #[v0,v1,v2,v3,v4,v5]:=by cases args; simp_all
 have hV':DataW.TrodVars enc Tryz.prog W (fun _=>true) [] gs q:=hV;obtain ⟨rfl,rfl⟩:=trodVars_none hV';have hb:Rows.uptoBulkAll ([d0,d1,d2,d3,d4,d5] ++ [])≤1048576:=of_decide_eq_true hk;simp only[List.append_nil,Rows.uptoBulkAll]at hb;obtain ⟨a0,q0,s0⟩:=Zz (T := .json) (N:=1048576) leaves (by kernel_rfl) (by kernel_rfl) (Gv 0 31 v0 rfl rfl) h0 (by omega) (Nat.le_of_ble_eq_true rfl);obtain ⟨a1,q1,s1⟩:=Zz (T := .json) (N:=1048576) leaves (by kernel_rfl) (by kernel_rfl) (Gv 1 31 v1 rfl rfl) h1 (by omega) (Nat.le_of_ble_eq_true rfl);obtain ⟨a2,q2,s2⟩:=Zy (p := .str) (N:=1048576) leaves (by kernel_rfl) (by kernel_rfl) (Gv 2 9 v2 rfl rfl) h2 (by omega) (Nat.le_of_ble_eq_true rfl)
 obtain ⟨a3,q3,s3⟩:=Zz (T := .raw) (N:=1048576) leaves (by kernel_rfl) (by kernel_rfl) (Gv 3 25 v3 rfl rfl) h3 (by omega) (Nat.le_of_ble_eq_true rfl);obtain ⟨a4,q4,s4⟩:=Zy (p := .int .i64) (N:=1048576) leaves (by kernel_rfl) (by kernel_rfl) (Gv 4 3 v4 rfl rfl) h4 (by omega) (Nat.le_of_ble_eq_true rfl);obtain ⟨a5,q5,s5⟩:=Zy (p := .str) (N:=1048576) leaves (by kernel_rfl) (by kernel_rfl) (Gv 5 9 v5 rfl rfl) h5 (by omega) (Nat.le_of_ble_eq_true rfl);have ra:cN W [] V2 [.agg [.int .i64 a0.kind, .int .i64 a0.num.au, .int .i64 a0.num.exp, .str a0.text, .sl .str a0.names .no, .sl .json a0.items .no], .agg [.int .i64 a1.kind, .int .i64 a1.num.au, .int .i64 a1.num.exp, .str a1.text, .sl .str a1.names .no, .sl .json a1.items .no], .str a2, .agg [.int .i64 a3.kind, .int .i64 a3.au, .int .i64 a3.exp, .sl (.int .i64) a3.text .no, .sl .raw a3.items .no], .int .i64 a4, .str a5] #[v0,v1,v2,v3,v4,v5].toList:=(.cons q0 (.cons q1 (.cons q2 (.cons q3 (.cons q4 (.cons q5 .nil))))))
 obtain ⟨hsays,hblocks⟩:=lay_met (W:=W) hL;refine (calls_true Tryz.func8 rfl rfl (Pm Unit _ (fo _)) hsays hblocks ra ((run a0 a1 a2 a3 a4 a5).trans (ZQ a0 a1 a2 a3 a4 a5 s0 s1 s2 s3 s4 s5 (fun q0=>kOk (.bool q0) [])))).mono fun e W' ⟨he,L⟩=>⟨_,he,?_⟩
 exact post_true (by kernel_rfl) (params_ok (by kernel_rfl)) rfl rfl rfl (show Tryz.prog.underlying 4=some .bool by kernel_rfl) hW' L
theorem reads (os:Os) {H:Type} (enc:TypeId×Value→H):(DataW.whole enc Tryz.prog ((Uk os).forCall (fun _ _=>0) ⟨#[], #[.agg #[.int .i64 0, .int .i64 0, .int .i64 0, .string .empty, .slice none 0 0, .slice none 0 0], .agg #[.int .i64 0, .int .i64 0, .int .i64 0, .string .empty, .slice none 0 0, .slice none 0 0], .string .empty, .agg #[.int .i64 0, .int .i64 0, .int .i64 0, .slice none 0 0, .slice none 0 0], .int .i64 0, .string .empty], []⟩).memory Tryz.f8.params.toList Rows.jsonTellsSpec.vars false (#[.agg #[.int .i64 0, .int .i64 0, .int .i64 0, .string .empty, .slice none 0 0, .slice none 0 0], .agg #[.int .i64 0, .int .i64 0, .int .i64 0, .string .empty, .slice none 0 0, .slice none 0 0], .string .empty, .agg #[.int .i64 0, .int .i64 0, .int .i64 0, .slice none 0 0, .slice none 0 0], .int .i64 0, .string .empty]:Array Value).toList 8).map (fun x=>(x.1,x.2.1))=some ([.agg [.lit (.int .i64 0), .agg [.lit (.int .i64 0), .lit (.int .i64 0)], .lit (.string []), .nil, .nil], .agg [.lit (.int .i64 0), .agg [.lit (.int .i64 0), .lit (.int .i64 0)], .lit (.string []), .nil, .nil], .lit (.string []), .agg [.lit (.int .i64 0), .lit (.int .i64 0), .lit (.int .i64 0), .nil, .nil], .lit (.int .i64 0), .lit (.string [])], []):=by kernel_rfl
theorem lifted (os:Os) (started:os.Started) (H:Type) (enc:TypeId×Value→H) (F:Stop.Interp) :
  ReturnsInHanded {} Tryz.checked os 8 .any ((Rows.OpenSpec.upto Rows.jsonTellsSpec).preRow enc Tryz.prog Tryz.f8 Rows.jsonTellsUptoRow.domain false Rows.jsonTellsUptoRow.laid) (((Rows.OpenSpec.upto Rows.jsonTellsSpec).at F).post enc Tryz.prog Tryz.f8 false true false false):=by
 obtain ⟨⟨x1,x2,x3⟩,hx,hx1⟩:=Option.map_eq_some_iff.1 (reads os enc);simp only[Prod.mk.injEq]at hx1;obtain ⟨rfl,rfl⟩:=hx1;refine returnsInHanded_of_row (C:=Tryz.checked) (s:=Rows.OpenSpec.upto Rows.jsonTellsSpec) own started (by kernel_rfl) Tryz.func8
  (witness_row_atRef (enc:=enc) (C:=Tryz.checked) false (Uk os) #[.agg #[.int .i64 0, .int .i64 0, .int .i64 0, .string .empty, .slice none 0 0, .slice none 0 0], .agg #[.int .i64 0, .int .i64 0, .int .i64 0, .string .empty, .slice none 0 0, .slice none 0 0], .string .empty, .agg #[.int .i64 0, .int .i64 0, .int .i64 0, .slice none 0 0, .slice none 0 0], .int .i64 0, .string .empty] rfl (by kernel_rfl) (by kernel_rfl) (by kernel_rfl)
   (OpenSpec.preRow_of_cond 8 hx (by kernel_rfl) (fun k hk=>by cases hk; kernel_rfl) (by kernel_rfl) (laid_met os _))) ?_
 intro W base args ds gs before Gv hW _ yi _ hL _ _;exact contract H enc W base args ds gs before Gv hW hL (yi _ rfl)
theorem saidUpto:Rows.JsonTellsUptoSaid :=
 OpenClaim.holds_of_cond 8 Tryz.f8 rfl rfl rfl rfl rfl rfl rfl ⟨rfl,rfl,rfl,rfl,rfl⟩ rfl rfl rfl rfl rfl (by kernel_rfl) Tryz.func8 (by kernel_rfl)
  (of_decide_eq_true (by kernel_rfl)) (by unfold Func.isWrapper; first|(rw[if_pos (by decide +kernel)]; kernel_rfl)|(rw[if_neg (by decide +kernel)]; exact ⟨rfl,rfl⟩))
  (fun os started H enc _ F=>by rw[OpenClaim.pre_eq_preRow]; exact lifted os started H enc F)
theorem plain (f:FuncId) (fn:Func) (hf:Tryz.pinned.checked.prog.funcNamed "humpyard/humpyardlaw04.JsonTells" = some f) (hfn:Tryz.pinned.checked.prog.funcs[f]? = some fn) :
  true=Tryz.pinned.checked.prog.looks []∧∀(j:Nat) t,fn.params[j]? = some t→Tryz.pinned.checked.prog.wantsStandIn t=false:=by
 obtain rfl:f=8:=Option.some.inj ((show Tryz.prog.funcNamed "humpyard/humpyardlaw04.JsonTells" = some 8 by kernel_rfl).symm.trans hf) |>.symm;obtain rfl:fn=Tryz.f8:=(Option.some.inj (Tryz.func8.symm.trans hfn)).symm;refine ⟨by kernel_rfl,fun j t ht => ?_⟩;have Dw:Tryz.f8.params.toList.all (fun t => !Tryz.prog.wantsStandIn t)=true:=by kernel_rfl
 have hm:t∈Tryz.f8.params.toList:=Array.mem_toList_iff.2 (Array.mem_of_getElem? ht);have:=List.all_eq_true.1 Dw t hm;exact (show Tryz.prog.wantsStandIn t=false by simpa using this)
end Go.Proofs.YtmlkkgfenfdndaaGreatDoor.jsonTells
namespace Go.Proofs.YtmlkkgfenfdndaaGreatDoor
open Go.RowKit
theorem jsonTells_card_upto:Rows.JsonTellsUptoCardSaid :=
 Claim7.holds_tied_plain_at .later [] _ _ _ _ jsonTells.saidUpto (fun _ h=>by cases h) (by kernel_rfl) (fun _ h=>by cases h) jsonTellsUpto_row_tie rfl ⟨rfl,rfl⟩ (by kernel_rfl) rfl jsonTells.plain (by kernel_rfl)
end Go.Proofs.YtmlkkgfenfdndaaGreatDoor
end
