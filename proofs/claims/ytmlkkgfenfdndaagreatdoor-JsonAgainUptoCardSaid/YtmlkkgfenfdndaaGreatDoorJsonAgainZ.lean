/-
  JsonAgain: for every input whose bulk is at most 1048576 the law returns true, and each argument reads behind the call as it read before; part 9 of 9 of the proof: an interpreter of the model's code over typed data, proved sound; the functions that the law reaches, printed as Lean functions and tied; the plain law. Own texts laid one behind the other.
-/
import Derived.Test.YtmlkkgfenfdndaaGreatDoorJsonAgainB8
set_option linter.unusedSimpArgs false
set_option linter.unnecessarySimpa false
set_option linter.unusedVariables false
set_option linter.unusedSectionVars false
set_option maxRecDepth 100000
namespace Go.Proofs.YtmlkkgfenfdndaaGreatDoor
open Go Go.ay Go.Lib

theorem wt_str {s:aj} (h:∃n,Wt n (.str s)∧n≤1048576):s.length≤1048576:=by
  obtain ⟨n,h,hn⟩:=h
  cases h with
  | str h=>omega
theorem wt_i64 {z:Int} (h:∃n,Wt n (.int .i64 z)∧n≤1048576):D3 z:=by
  obtain ⟨n,h,hn⟩:=h
  cases h with
  | int h1 hk=>exact I1.1 hk
def nilJ:Json:=⟨0,⟨0,0⟩, [], [], []⟩
theorem N6 {R:Type} (v:Json) (hl:H7 v=true) (k:Bool→Option R):di v v k=k true:=by
  obtain ⟨r,h1,h2⟩:=jsame (R:=R) v v hl
  rw[h2,h1.2 rfl]

theorem UO {R:Type} (l:List aj) (hl:l.length≤1000) (ok:Bool) (e0:Bool→Option R) (e1:Bool→Bool→Option R):∀(F i:Nat),i≤l.length→l.length - i<F →
    bB F ok l (l.length:Int) (i:Int) e0 e1=e0 ok:=by
  intro F
  induction F with
  | zero=>intro i _ h; omega
  | succ F ih =>
    intro i hi hF
    show oF cS cD bS di (fun lY lZ mF tQ=>bB F lY lZ mF tQ e0 e1) ok l (l.length:Int) (i:Int) e0 e1=_
    unfold oF
    simp only[Json.eta]
    by_cases h:i<l.length
    rotate_left
    · have h1:decide ((i:Int)<(l.length:Int))=false:=by simp; omega
      rw[h1]
      rfl
    have h1:decide ((i:Int)<(l.length:Int))=true:=by simp; omega
    have hw:IntKind.i64.wrap ((i:Int)+1)=((i+1:Nat):Int):=by rw[dB (by omega) (by omega)]; omega
    have hg:l.getD (i:Int).toNat (Ty.cn .str)=l[i]:=getD_at h _
    have hn:=ih (i+1) (by omega) (by omega)
    rw[h1,cond_true,aS (by simp),hg,PL]
    by_cases he:(so l[i]).2.1=0
    rotate_left
    · have e1:((so l[i]).2.1 != 0)=true:=by simpa using he
      have e2:=SZ _ he
      rw[e1,cond_true,e2]
      have:=N6 (R:=R) nilJ rfl
      unfold nilJ at this
      rw[this,hw]
      exact hn
    · have e1:((so l[i]).2.1 != 0)=false:=by simpa using he
      obtain ⟨g1,g2,g3⟩:=XK _ he
      generalize (so l[i]).1=v at g1 g2 g3
      have km:(eT v==([]:aj))=false:=by simpa using SP v g1
      rw[e1,cond_false,NQ v g1 g2 (by omega),PL,NC v g2,g1,Bool.not_true,cond_false,km,cond_false]
      by_cases hp:(eT v).length≤20000
      · have e2:decide (((eT v).length:Int)≤20000)=true:=by simp; omega
        rw[e2,cond_true,SO g1 hp]
        show (bif ((0:Int) != 0)then _ else di v v _)=_
        rw[show ((0:Int) != 0)=false from rfl,cond_false,N6 v g2,hw]
        exact hn
      · have e2:decide (((eT v).length:Int)≤20000)=false:=by simp; omega
        rw[e2,cond_false,hw]
        exact hn

theorem N7 {R:Type} (s:aj) (x:Raw) (a:Int) (more:aj) (h1:∃n,Wt n (.str s)∧n≤1048576) (h2:∃n,NR n (Ty.cells .raw x)∧n≤1048576) (h3:∃n,Wt n (.int .i64 a)∧n≤1048576) (h4:∃n,Wt n (.str more)∧n≤1048576) (k:Bool→Option R) :
    sa s x a more k=k true:=by
  obtain ⟨o1,t1⟩:=raw_bulk h2
  have hm:=wt_str h4
  obtain ⟨v,hv,rv⟩:=jfit (R:=R) x o1 1 (by omega) (by omega)
  have e:sa s x a more k=sR iI fV cz cD bB s x a more k:=rfl
  rw[e]
  unfold sR
  simp only[Raw.eta,Json.eta]
  have pv:=fun q:aj→Option R=>NQ v hv.right hv.len (by have:=hv.size; omega) q
  rw[awake04,rv,pv]
  by_cases hs:s.length>3000
  · have e1:decide ((s.length:Int)>3000)=true:=by simp; omega
    rw[e1]
    rfl
  have e1:decide ((s.length:Int)>3000)=false:=by simp; omega
  rw[e1,cond_false]
  by_cases ht:(eT v).length>3000
  · have e2:decide (((eT v).length:Int)>3000)=true:=by simp; omega
    rw[e2]
    rfl
  have e2:decide (((eT v).length:Int)>3000)=false:=by simp; omega
  rw[e2,cond_false]
  generalize eT v=t at ht
  have hw0:IntKind.i64.wrap ((t.length:Int)+1)=(t.length:Int)+1:=dB (by omega) (by omega)
  rw[hw0]
  obtain ⟨y,y0,y1,hy⟩:=pick04 (R:=R) a ((t.length:Int)+1) (wt_i64 h3) (by omega) (by omega)
  rw[hy]
  have hw:IntKind.i64.wrap (y+(more.length:Int))=y+(more.length:Int):=dB (by omega) (by omega)
  simp only[hw]
  repeat rw[aS (by simp only[Bool.and_eq_true,decide_eq_true_eq,List.length_append,List.length_take,List.length_drop]; omega)]
  have key:∀(a b c:aj) (F:Nat) (e1:Bool→Bool→Option R),3<F→bB F true [a,b,c] 3 0 (fun GB=>k GB) e1=k true:=fun a b c F e1 hF=>UO [a,b,c] (by simp) true (fun GB=>k GB) e1 F 0 (by simp) (by simp only[List.length_cons,List.length_nil]; omega)
  exact key _ _ _ _ _ (by simp only[List.length_cons,List.length_nil]; omega)
end Go.Proofs.YtmlkkgfenfdndaaGreatDoor

set_option maxRecDepth 100000
namespace Go.Proofs.YtmlkkgfenfdndaaGreatDoor.jsonAgain
open Go.ChangeShapes Go.WideShapes Go.ChangeAt Go.RowKit Go.ay Door

theorem run (a0:aj) (a1:Raw) (a2:Int) (a3:aj):aA sP sQ (Cl sa) bg [.str a0, .agg [.int .i64 a1.kind, .int .i64 a1.aB, .int .i64 a1.exp, .sl (.int .i64) a1.text .no, .sl .raw a1.items .no], .int .i64 a2, .str a3] [] kOk=sa a0 a1 a2 a3 (fun q0=>kOk (.bool q0) []):=by kernel_rfl

theorem contract (H:Type) (enc:TypeId × Value→H) (W:World) (base:Nat) (args:Array Value) (ds gs:List (DataW H)) (before:List MemPlace)
    (Cu:∀(j:Nat) t v,Tryz.f11.params[j]? = some t→args[j]? = some v→Value.okWide Tryz.prog W .any base t v)
    (hW:DataW.Whole enc Tryz.prog Tryz.f11.params.toList Rows.jsonAgainSpec.vars false W args.toList ds gs before) (hL:laidMetH Tryz.prog Rows.jsonAgainUptoRow.laid W) (hk:Rows.uptoSmall H (ds++gs)=true) :
    Calls Tryz.prog 11 args W fun e W'=>∃v,e = .returned v∧Rows.jsonAgainSpec.post enc Tryz.prog Tryz.f11 false true false false W args v W':=by
  have hW':=hW
  obtain ⟨p,q,hA0,hV,hpq,UZ,E7⟩:=hW
  have hA:DataW.TrodAll enc Tryz.prog W 0 (fun _=>true) true [9,25,3,9] args.toList ds p:=hA0
  have Cu:∀(j:Nat) t v,(#[9,25,3,9]:Array Nat)[j]? = some t→args[j]? = some v→Value.okWide Tryz.prog W .any base t v:=Cu
  obtain ⟨v0,vs0,d0,ds0,p0,q0,Vc,rfl,rfl,h0,r0⟩:=trodAll_cons hA
  obtain ⟨v1,vs1,d1,ds1,p1,q1,rfl,rfl,rfl,h1,r1⟩:=trodAll_cons r0
  obtain ⟨v2,vs2,d2,ds2,p2,q2,rfl,rfl,rfl,h2,r2⟩:=trodAll_cons r1
  obtain ⟨v3,vs3,d3,ds3,p3,q3,rfl,rfl,rfl,h3,r3⟩:=trodAll_cons r2
  obtain ⟨rfl,rfl,rfl⟩:=trodAll_nil r3
  obtain rfl:args = #[v0,v1,v2,v3]:=by cases args; simp_all
  have hV':DataW.TrodVars enc Tryz.prog W (fun _=>true) [] gs q:=hV
  obtain ⟨rfl,rfl⟩:=trodVars_none hV'
  have hb:Rows.uptoBulkAll ([d0,d1,d2,d3] ++ [])≤1048576:=of_decide_eq_true hk
  simp only[List.append_nil,Rows.uptoBulkAll]at hb
  obtain ⟨a0,q0,s0⟩:=NS (p := .str) (N:=1048576) leaves (by kernel_rfl) (by kernel_rfl) (Cu 0 9 v0 rfl rfl) h0 (by omega) (Nat.le_of_ble_eq_true rfl)
  obtain ⟨a1,q1,s1⟩:=arg_aggW (T := .raw) (N:=1048576) leaves (by kernel_rfl) (by kernel_rfl) (Cu 1 25 v1 rfl rfl) h1 (by omega) (Nat.le_of_ble_eq_true rfl)
  obtain ⟨a2,q2,s2⟩:=NS (p := .int .i64) (N:=1048576) leaves (by kernel_rfl) (by kernel_rfl) (Cu 2 3 v2 rfl rfl) h2 (by omega) (Nat.le_of_ble_eq_true rfl)
  obtain ⟨a3,q3,s3⟩:=NS (p := .str) (N:=1048576) leaves (by kernel_rfl) (by kernel_rfl) (Cu 3 9 v3 rfl rfl) h3 (by omega) (Nat.le_of_ble_eq_true rfl)
  have ra:cK W [] K4 [.str a0, .agg [.int .i64 a1.kind, .int .i64 a1.aB, .int .i64 a1.exp, .sl (.int .i64) a1.text .no, .sl .raw a1.items .no], .int .i64 a2, .str a3] #[v0,v1,v2,v3].toList:=(.cons q0 (.cons q1 (.cons q2 (.cons q3 .nil))))
  obtain ⟨hsays,hblocks⟩:=lay_met (W:=W) hL
  refine (TY Tryz.func11 rfl rfl (Gp Unit _ (aO _)) hsays hblocks ra ((run a0 a1 a2 a3).trans (N7 a0 a1 a2 a3 s0 s1 s2 s3 (fun q0=>kOk (.bool q0) [])))).mono fun e W' ⟨he,L⟩=>⟨_,he,?_⟩
  exact W0 (by kernel_rfl) (WZ (by kernel_rfl)) rfl rfl rfl (show Tryz.prog.underlying 4=some .bool by kernel_rfl) hW' L

theorem reads (os:Os) {H:Type} (enc:TypeId × Value→H):(DataW.whole enc Tryz.prog ((J1 os).forCall (fun _ _=>0) ⟨#[], #[.string .empty, .agg #[.int .i64 0, .int .i64 0, .int .i64 0, .slice none 0 0, .slice none 0 0], .int .i64 0, .string .empty], []⟩).memory Tryz.f11.params.toList Rows.jsonAgainSpec.vars false (#[.string .empty, .agg #[.int .i64 0, .int .i64 0, .int .i64 0, .slice none 0 0, .slice none 0 0], .int .i64 0, .string .empty]:Array Value).toList 8).map (fun x=>(x.1,x.2.1))=some ([.lit (.string []), .agg [.lit (.int .i64 0), .lit (.int .i64 0), .lit (.int .i64 0), .nil, .nil], .lit (.int .i64 0), .lit (.string [])], []):=by kernel_rfl
theorem lifted (os:Os) (started:os.Started) (H:Type) (enc:TypeId × Value→H) (F:Stop.Interp) :
    ReturnsInHanded {} Tryz.checked os 11 .any ((Rows.OpenSpec.upto Rows.jsonAgainSpec).preRow enc Tryz.prog Tryz.f11 Rows.jsonAgainUptoRow.domain false Rows.jsonAgainUptoRow.laid) (((Rows.OpenSpec.upto Rows.jsonAgainSpec).at F).post enc Tryz.prog Tryz.f11 false true false false):=by
  obtain ⟨⟨x1,x2,x3⟩,hx,hx1⟩:=Option.map_eq_some_iff.1 (reads os enc)
  simp only[Prod.mk.injEq]at hx1
  obtain ⟨rfl,rfl⟩:=hx1
  refine returnsInHanded_of_row (C:=Tryz.checked) (s:=Rows.OpenSpec.upto Rows.jsonAgainSpec) own started (by kernel_rfl) Tryz.func11
    (witness_row_atRef (enc:=enc) (C:=Tryz.checked) false (J1 os) #[.string .empty, .agg #[.int .i64 0, .int .i64 0, .int .i64 0, .slice none 0 0, .slice none 0 0], .int .i64 0, .string .empty] rfl (by kernel_rfl) (by kernel_rfl) (by kernel_rfl)
      (OpenSpec.preRow_of_cond 8 hx (by kernel_rfl) (fun k hk=>by cases hk; kernel_rfl) (by kernel_rfl) (ZD os _))) ?_
  intro W base args ds gs before Cu hW _ w6 _ hL _ _
  exact contract H enc W base args ds gs before Cu hW hL (w6 _ rfl)

theorem saidUpto:Rows.JsonAgainUptoSaid :=
  OpenClaim.holds_of_cond 11 Tryz.f11 rfl rfl rfl rfl rfl rfl rfl ⟨rfl,rfl,rfl,rfl,rfl⟩ rfl rfl rfl rfl rfl (by kernel_rfl) Tryz.func11 (by kernel_rfl)
    (of_decide_eq_true (by kernel_rfl)) (by unfold Func.isWrapper; first|(rw[if_pos (by decide +kernel)]; kernel_rfl)|(rw[if_neg (by decide +kernel)]; exact ⟨rfl,rfl⟩))
    (fun os started H enc _ F=>by rw[OpenClaim.pre_eq_preRow]; exact lifted os started H enc F)

theorem plain (f:FuncId) (fn:Func) (hf:Tryz.pinned.checked.prog.funcNamed "humpyard/humpyardlaw04.JsonAgain" = some f) (hfn:Tryz.pinned.checked.prog.funcs[f]? = some fn) :
    true=Tryz.pinned.checked.prog.looks []∧∀(j:Nat) t,fn.params[j]? = some t→Tryz.pinned.checked.prog.wantsStandIn t=false:=by
  obtain rfl:f=11:=Option.some.inj ((show Tryz.prog.funcNamed "humpyard/humpyardlaw04.JsonAgain" = some 11 by kernel_rfl).symm.trans hf) |>.symm
  obtain rfl:fn=Tryz.f11:=(Option.some.inj (Tryz.func11.symm.trans hfn)).symm
  refine ⟨by kernel_rfl,fun j t ht => ?_⟩
  have yf:Tryz.f11.params.toList.all (fun t => !Tryz.prog.wantsStandIn t)=true:=by kernel_rfl
  have hm:t∈Tryz.f11.params.toList:=Array.mem_toList_iff.2 (Array.mem_of_getElem? ht)
  have:=List.all_eq_true.1 yf t hm
  exact (show Tryz.prog.wantsStandIn t=false by simpa using this)
end Go.Proofs.YtmlkkgfenfdndaaGreatDoor.jsonAgain
namespace Go.Proofs.YtmlkkgfenfdndaaGreatDoor
open Go.RowKit
theorem jsonAgain_card_upto:Rows.JsonAgainUptoCardSaid :=
  Claim7.holds_tied_plain_at .later [] _ _ _ _ jsonAgain.saidUpto (fun _ h=>by cases h) (by kernel_rfl) (fun _ h=>by cases h) jsonAgainUpto_row_tie rfl ⟨rfl,rfl⟩ (by kernel_rfl) rfl jsonAgain.plain (by kernel_rfl)
end Go.Proofs.YtmlkkgfenfdndaaGreatDoor

