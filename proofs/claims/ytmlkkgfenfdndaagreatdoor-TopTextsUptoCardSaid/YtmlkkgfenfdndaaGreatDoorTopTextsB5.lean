/-
  TopTexts: for every input whose bulk is at most 1048576 the law returns true, and each argument reads behind the call as it read before; part 5 of 8 of the proof: an interpreter of the model's code over typed data, proved sound; the functions that the law reaches, printed as Lean functions and tied; the plain law. Own texts laid one behind the other.
-/
import Derived.OpenShut
import Derived.JoinedCond
import Derived.Test.YtmlkkgfenfdndaaGreatDoorProg
import Derived.Shelf.Strconv.AtoiAll
import Derived.Shelf.Strconv.Itoa3
import Derived.Shelf.Strconv.ToErrorRange
import Derived.Shelf.Strings.Builder1
import Derived.Shelf.Strings.IndexAnyAll
import Derived.Shelf.Strings.LastIndex
import Derived.Shelf.Strings.Repeat
import Derived.Shelf.Strings.Search1
import Derived.Shelf.Strings.SlTrimAscii
import Derived.Shelf.Strings.Trim
import Derived.Shelf.Unicode.DecodeAny
import Derived.Shelf.Unicode.ValidAny
import Derived.Test.YtmlkkgfenfdndaaGreatDoorTopTextsB4
set_option linter.unusedSimpArgs false
set_option linter.unnecessarySimpa false
set_option linter.unusedVariables false
set_option linter.unusedSectionVars false
noncomputable section
namespace Go.aF
open Go.RowKit Go.ChangeShapes Go.WideShapes Go.Proofs.YtmlkkgfenfdndaaGreatDoor

def kOk:V→aG→Option Unit:=fun v _=>match v with | .bool true=>some ()|_=>none

def Us (w w':World):Prop:=w'.os=w.os∧w'.output=w.output∧w.heap.size≤w'.heap.size∧∀b,b<w.heap.size→w'.heap[b]? = w.heap[b]?

section
variable {H:Type} {enc:TypeId × Value→H} {P:Program} {tt:dA} {w:World} {spare:Nat→Bool} {held:Bool}

theorem S0 (c:js) (b y:Nat):¬sF ([]:aG) c b y:=fun ho=>by
 obtain ⟨i,f,_,g2,_⟩:=ho
 simp[aG.at,bO.from_]at g2

theorem S1 {g:Nat} {fn:Func} (hf:P.funcs[g]? = some fn) (hn:(fn.name == "runtime.NumGoroutine")=false) (hb:fn.body.isNone=false) {sp:Spec Unit} (Po:Spec.Ok P g sp) {vs:List V} {args:Array Value}
  (hs:nR.U3 w) (hb0:∀b,nR.blocks b→b<w.heap.size) (ra:cy w [] Kb vs args.toList) (hk:sp vs [] kOk=some ()):Calls P g args w fun e w'=>e = .returned (.bool true)∧Us w w':=by
 obtain ⟨nx,w1,h1,h2⟩:=Po vs [] kOk () hk w Kb args (wf0 w hs hb0) ra
 have Qb:fn.name ≠ "runtime.NumGoroutine" :=by simpa using hn
 have oH:fn.body≠none:=fun e=>by rw[e]at hb; cases hb
 have h0:(callFunc g args).run P w = .ok (.enter g args) w:=by simp[callFunc,hf,Qb,oH]
 rw[h0]at h1
 cases h1
 refine Calls.mono h2 fun e w' ⟨d,he,v,h',c',_,x,rv,hv⟩ => ?_
 subst he
 have hv':v = .bool true:=by
  unfold kOk at hv
  split at hv
  ·rfl
  ·cases hv
 subst hv'
 cases rv
 exact ⟨rfl,x.os,x.output,x.size,fun b hb=>x.block b hb (S0 _ b)⟩

def Ut (P:Program) (t:TypeId):Bool :=
 match P.underlying t with
 | some .bool|some (.int _)|some .string|some (.slice _)=>true
 | _=>false

theorem V9 {ts:List TypeId} (h:ts.all (fun t=>P.readableRec t&&decide (t<P.types.size))=true):∀t∈ts,P.readableRec t=true∧t<P.types.size:=by
 intro t ht
 have:=List.all_eq_true.1 h t ht
 simpa using this

def Uu (P:Program) (t:TypeId):Bool :=
 match P.underlying t with
 | some (.struct _)|some (.array _ _)=>true
 | _=>false

theorem L3 (hl:laidOutB P=true) {w':World} (L:Us w w'):∀ {ts:List TypeId} {vs:List Value} {ds:List (DataW H)} {ps:List MemPlace},(∀t∈ts,P.readableRec t=true∧t<P.types.size) →
  DataW.TrodAll enc P w 0 (fun _=>true) true ts vs ds ps→DataW.TrodAll enc P w' 0 (fun b=>decide (b<w.heap.size)) true ts vs ds ps
 | [],vs,ds,ps,_,h=>by obtain ⟨rfl,rfl,rfl⟩:=trodAll_nil h; exact h
 | t::ts,vs,ds,ps,hp,h=>by
  have jb:=h.lt
  obtain ⟨v,vs1,d,ds1,p,q,rfl,rfl,rfl,h1,h2⟩:=trodAll_cons h
  obtain ⟨hr,A5⟩:=hp t (by simp)
  have hb:∀x∈p,x.block<w.heap.size:=fun x hx=>jb x (by simp[hx])
  refine trodAll_cons_mk (WideElems.Trod_stays hl hr A5 h1 (fun x hx => ?_) fun x hx=>by simpa using hb x hx) (L3 hl L (fun t ht=>hp t (by simp[ht])) h2)
  have:=L.2.2.2 _ (hb x hx)
  cases x with
  | cell b o=>simp only[World.sameAt,World.cell?]; simp only[MemPlace.block]at this; rw[this]
  | map b=>exact this

theorem S2 {w':World} (L:Us w w') (may:MemPlace→Prop):w.keptBut w' may:=by
 refine ⟨L.1,L.2.1,fun i hi => ?_⟩
 rw[L.2.2.2 i hi]
 cases w.heap[i]? with
 | none=>rfl
 | some o=>cases o <;> simp

theorem Wa (hl:laidOutB P=true) {f:Func} {s:ChangeSpec} {w':World} {args:Array Value} {ds gs:List (DataW H)} {before:List MemPlace} {tb:TypeId} (hp:∀t∈f.params.toList,P.readableRec t=true∧t<P.types.size)
  (hv:s.vars = []) (hs:s.fn H (ds++gs) = { results := [.lit (.bool true)],args:=ds }) (hres:f.resultTypes = #[tb]) (hb:P.underlying tb=some .bool)
  (hW:DataW.Whole enc P f.params.toList s.vars false w args.toList ds gs before) (L:Us w w'):s.post enc P f false true false false w args (.bool true) w':=by
 have hW':=hW
 obtain ⟨p,q,hA,hV,hpq,hz,hn⟩:=hW'
 rw[hv]at hV
 obtain ⟨hg,hq⟩:=trodVars_none hV
 subst hg; subst hq
 refine ⟨ds, [],before, [],p, [],hW,?_,?_,?_,S2 L _,fun h=>by cases h⟩
 ·rw[hs,hres]
  exact trodAll_cons_mk (shut_bool hb _) trodAll_mk0
 ·rw[hs]
  exact L3 hl L hp hA
 ·rw[hs,hv]
  rfl
end
end Go.aF

namespace Go.Proofs.YtmlkkgfenfdndaaGreatDoor
open Go.aF

def tt:dA := [
 ⟨.other,1,0, [.undef],none,false,false,false⟩,
 ⟨.func,1,8, [.aT],none,false,false,false⟩,
 ⟨.int .i64,1,8, [.int .i64 0],some (.int .i64),false,false,false⟩,
 ⟨.int .i64,1,8, [.int .i64 0],some (.int .i64),false,false,false⟩,
 ⟨.bool,1,1, [.bool false],some .bool,false,false,false⟩,
 ⟨.int .u8,1,1, [.int .u8 0],some (.int .u8),false,false,false⟩,
 ⟨.int .u8,1,1, [.int .u8 0],none,false,false,false⟩,
 ⟨.struct [(0,2),(1,3),(2,4),(3,6)],4,24, [.int .i64 0, .int .i64 0, .bool false, .int .u8 0],none,false,false,false⟩,
 ⟨.struct [(0,2),(1,3),(2,4),(3,6)],4,24, [.int .i64 0, .int .i64 0, .bool false, .int .u8 0],none,false,false,false⟩,
 ⟨.string,1,16, [.str []],some .str,false,false,false⟩,
 ⟨.string,1,16, [.str []],some .str,false,false,false⟩,
 ⟨.string,1,16, [.str []],some .str,false,false,false⟩,
 ⟨.int .u64,1,8, [.int .u64 0],some (.int .u64),false,false,false⟩,
 ⟨.struct [(0,9),(1,12)],2,24, [.str [], .int .u64 0],none,false,false,false⟩,
 ⟨.struct [(0,9),(1,12)],2,24, [.str [], .int .u64 0],none,false,false,false⟩,
 ⟨.ptr 210,1,8, [.eI],none,false,false,false⟩,
 ⟨.ptr 213,1,8, [.eI],none,false,false,false⟩,
 ⟨.ptr 220,1,8, [.eI],none,false,false,false⟩,
 ⟨.struct [(0,17)],1,8, [.eI],none,false,false,false⟩,
 ⟨.struct [(0,17)],1,8, [.eI],none,false,false,false⟩,
 ⟨.iface,1,16, [.dv],none,false,false,false⟩,
 ⟨.int .i32,1,4, [.int .i32 0],some (.int .i32),false,false,false⟩,
 ⟨.slice 3,1,24, [.cM],none,false,false,false⟩,
 ⟨.slice 25,1,24, [.cM],none,false,false,false⟩,
 ⟨.struct [(0,3),(1,3),(2,3),(3,22),(4,23)],5,72, [.int .i64 0, .int .i64 0, .int .i64 0, .cM, .cM],none,false,false,false⟩,
 ⟨.struct [(0,3),(1,3),(2,3),(3,22),(4,23)],5,72, [.int .i64 0, .int .i64 0, .int .i64 0, .cM, .cM],some .raw,false,false,false⟩,
 ⟨.struct [(0,3),(1,3)],2,16, [.int .i64 0, .int .i64 0],none,false,false,false⟩,
 ⟨.struct [(0,3),(1,3)],2,16, [.int .i64 0, .int .i64 0],some .dcm,true,false,false⟩,
 ⟨.slice 9,1,24, [.cM],none,false,false,false⟩,
 ⟨.slice 31,1,24, [.cM],none,false,false,false⟩,
 ⟨.struct [(0,3),(1,27),(3,9),(4,28),(5,29)],6,88, [.int .i64 0, .int .i64 0, .int .i64 0, .str [], .cM, .cM],none,false,false,false⟩,
 ⟨.struct [(0,3),(1,27),(3,9),(4,28),(5,29)],6,88, [.int .i64 0, .int .i64 0, .int .i64 0, .str [], .cM, .cM],some .json,false,false,false⟩,
 ⟨.func,1,8, [.aT],none,false,false,false⟩,
 ⟨.func,1,8, [.aT],none,false,false,false⟩,
 ⟨.func,1,8, [.aT],none,false,false,false⟩,
 ⟨.int .i64,1,8, [.int .i64 0],some (.int .i64),false,false,false⟩,
 ⟨.other,1,0, [.undef],none,false,false,false⟩,
 ⟨.func,1,8, [.aT],none,false,false,false⟩,
 ⟨.other,1,0, [.undef],none,false,false,false⟩,
 ⟨.func,1,8, [.aT],none,false,false,false⟩,
 ⟨.func,1,8, [.aT],none,false,false,false⟩,
 ⟨.slice 5,1,24, [.cM],none,false,false,false⟩,
 ⟨.func,1,8, [.aT],none,false,false,false⟩,
 ⟨.func,1,8, [.aT],none,false,false,false⟩,
 ⟨.slice 48,1,24, [.cM],none,false,false,false⟩,
 ⟨.func,1,8, [.aT],none,false,false,false⟩,
 ⟨.func,1,8, [.aT],none,false,false,false⟩,
 ⟨.struct [(0,3),(1,3),(2,3),(3,22)],4,48, [.int .i64 0, .int .i64 0, .int .i64 0, .cM],none,false,false,false⟩,
 ⟨.struct [(0,3),(1,3),(2,3),(3,22)],4,48, [.int .i64 0, .int .i64 0, .int .i64 0, .cM],some .OR,false,false,false⟩,
 ⟨.slice 53,1,24, [.cM],none,false,false,false⟩,
 ⟨.other,1,0, [.undef],none,false,false,false⟩,
 ⟨.func,1,8, [.aT],none,false,false,false⟩,
 ⟨.struct [(0,3),(1,9),(2,27),(4,3)],5,48, [.int .i64 0, .str [], .int .i64 0, .int .i64 0, .int .i64 0],none,false,false,false⟩,
 ⟨.struct [(0,3),(1,9),(2,27),(4,3)],5,48, [.int .i64 0, .str [], .int .i64 0, .int .i64 0, .int .i64 0],some .token,true,false,false⟩,
 ⟨.other,1,0, [.undef],none,false,false,false⟩,
 ⟨.func,1,8, [.aT],none,false,false,false⟩,
 ⟨.func,1,8, [.aT],none,false,false,false⟩,
 ⟨.func,1,8, [.aT],none,false,false,false⟩,
 ⟨.func,1,8, [.aT],none,false,false,false⟩,
 ⟨.func,1,8, [.aT],none,false,false,false⟩,
 ⟨.func,1,8, [.aT],none,false,false,false⟩,
 ⟨.func,1,8, [.aT],none,false,false,false⟩,
 ⟨.func,1,8, [.aT],none,false,false,false⟩,
 ⟨.func,1,8, [.aT],none,false,false,false⟩,
 ⟨.func,1,8, [.aT],none,false,false,false⟩,
 ⟨.func,1,8, [.aT],none,false,false,false⟩,
 ⟨.func,1,8, [.aT],none,false,false,false⟩,
 ⟨.func,1,8, [.aT],none,false,false,false⟩,
 ⟨.func,1,8, [.aT],none,false,false,false⟩,
 ⟨.func,1,8, [.aT],none,false,false,false⟩,
 ⟨.func,1,8, [.aT],none,false,false,false⟩,
 ⟨.ptr 73,1,8, [.eI],none,false,false,false⟩,
 ⟨.struct [(0,71),(1,41)],2,32, [.eI, .cM],none,false,false,false⟩,
 ⟨.struct [(0,71),(1,41)],2,32, [.eI, .cM],none,false,false,true⟩,
 ⟨.func,1,8, [.aT],none,false,false,false⟩,
 ⟨.func,1,8, [.aT],none,false,false,false⟩,
 ⟨.int .u32,1,4, [.int .u32 0],some (.int .u32),false,false,false⟩,
 ⟨.func,1,8, [.aT],none,false,false,false⟩,
 ⟨.arr 8 5,8,8, [.int .u8 0, .int .u8 0, .int .u8 0, .int .u8 0, .int .u8 0, .int .u8 0, .int .u8 0, .int .u8 0],none,false,false,false⟩,
 ⟨.int .u64,1,8, [.int .u64 0],some (.int .u64),false,false,false⟩,
 ⟨.func,1,8, [.aT],none,false,false,false⟩,
 ⟨.ptr 83,1,8, [.eI],none,false,false,false⟩,
 ⟨.struct [(0,49),(1,35)],2,32, [.cM, .int .i64 0],none,false,false,false⟩,
 ⟨.struct [(0,49),(1,35)],2,32, [.cM, .int .i64 0],none,false,false,false⟩,
 ⟨.func,1,8, [.aT],none,false,false,false⟩,
 ⟨.func,1,8, [.aT],none,false,false,false⟩,
 ⟨.func,1,8, [.aT],none,false,false,false⟩,
 ⟨.func,1,8, [.aT],none,false,false,false⟩,
 ⟨.func,1,8, [.aT],none,false,false,false⟩,
 ⟨.func,1,8, [.aT],none,false,false,false⟩,
 ⟨.other,1,0, [.undef],none,false,false,false⟩,
 ⟨.func,1,8, [.aT],none,false,false,false⟩,
 ⟨.func,1,8, [.aT],none,false,false,false⟩,
 ⟨.iface,1,16, [.dv],none,false,false,false⟩,
 ⟨.iface,1,16, [.dv],none,false,false,false⟩,
 ⟨.func,1,8, [.aT],none,false,false,false⟩,
 ⟨.func,1,8, [.aT],none,false,false,false⟩,
 ⟨.other,1,0, [.undef],none,false,false,false⟩,
 ⟨.func,1,8, [.aT],none,false,false,false⟩,
 ⟨.func,1,8, [.aT],none,false,false,false⟩,
 ⟨.func,1,8, [.aT],none,false,false,false⟩,
 ⟨.ptr 103,1,8, [.eI],none,false,false,false⟩,
 ⟨.struct [(0,49),(1,3),(2,35)],3,40, [.cM, .int .i64 0, .int .i64 0],none,false,false,false⟩,
 ⟨.struct [(0,49),(1,3),(2,35)],3,40, [.cM, .int .i64 0, .int .i64 0],none,false,false,false⟩,
 ⟨.slice 21,1,24, [.cM],none,false,false,false⟩,
 ⟨.func,1,8, [.aT],none,false,false,false⟩,
 ⟨.ptr 5,1,8, [.eI],none,false,false,false⟩,
 ⟨.func,1,8, [.aT],none,false,false,false⟩,
 ⟨.func,1,8, [.aT],none,false,false,false⟩,
 ⟨.map 9 3,1,8, [.nS],none,false,false,false⟩,
 ⟨.func,1,8, [.aT],none,false,false,false⟩,
 ⟨.func,1,8, [.aT],none,false,false,false⟩,
 ⟨.func,1,8, [.aT],none,false,false,false⟩,
 ⟨.other,1,0, [.undef],none,false,false,false⟩,
 ⟨.func,1,8, [.aT],none,false,false,false⟩,
 ⟨.other,1,0, [.undef],none,false,false,false⟩,
 ⟨.func,1,8, [.aT],none,false,false,false⟩,
 ⟨.func,1,8, [.aT],none,false,false,false⟩,
 ⟨.func,1,8, [.aT],none,false,false,false⟩,
 ⟨.func,1,8, [.aT],none,false,false,false⟩,
 ⟨.func,1,8, [.aT],none,false,false,false⟩,
 ⟨.func,1,8, [.aT],none,false,false,false⟩,
 ⟨.func,1,8, [.aT],none,false,false,false⟩,
 ⟨.other,1,0, [.undef],none,false,false,false⟩,
 ⟨.func,1,8, [.aT],none,false,false,false⟩,
 ⟨.func,1,8, [.aT],none,false,false,false⟩,
 ⟨.func,1,8, [.aT],none,false,false,false⟩,
 ⟨.func,1,8, [.aT],none,false,false,false⟩,
 ⟨.other,1,0, [.undef],none,false,false,false⟩,
 ⟨.func,1,8, [.aT],none,false,false,false⟩,
 ⟨.func,1,8, [.aT],none,false,false,false⟩,
 ⟨.func,1,8, [.aT],none,false,false,false⟩,
 ⟨.func,1,8, [.aT],none,false,false,false⟩,
 ⟨.func,1,8, [.aT],none,false,false,false⟩,
 ⟨.arr 256 4,256,256, [.bool false, .bool false, .bool false, .bool false, .bool false, .bool false, .bool false, .bool false, .bool false, .bool false, .bool false, .bool false, .bool false, .bool false, .bool false, .bool false, .bool false, .bool false, .bool false, .bool false, .bool false, .bool false, .bool false, .bool false, .bool false, .bool false, .bool false, .bool false, .bool false, .bool false, .bool false, .bool false, .bool false, .bool false, .bool false, .bool false, .bool false, .bool false, .bool false, .bool false, .bool false, .bool false, .bool false, .bool false, .bool false, .bool false, .bool false, .bool false, .bool false, .bool false, .bool false, .bool false, .bool false, .bool false, .bool false, .bool false, .bool false, .bool false, .bool false, .bool false, .bool false, .bool false, .bool false, .bool false, .bool false, .bool false, .bool false, .bool false, .bool false, .bool false, .bool false, .bool false, .bool false, .bool false, .bool false, .bool false, .bool false, .bool false, .bool false, .bool false, .bool false, .bool false, .bool false, .bool false, .bool false, .bool false, .bool false, .bool false, .bool false, .bool false, .bool false, .bool false, .bool false, .bool false, .bool false, .bool false, .bool false, .bool false, .bool false, .bool false, .bool false, .bool false, .bool false, .bool false, .bool false, .bool false, .bool false, .bool false, .bool false, .bool false, .bool false, .bool false, .bool false, .bool false, .bool false, .bool false, .bool false, .bool false, .bool false, .bool false, .bool false, .bool false, .bool false, .bool false, .bool false, .bool false, .bool false, .bool false, .bool false, .bool false, .bool false, .bool false, .bool false, .bool false, .bool false, .bool false, .bool false, .bool false, .bool false, .bool false, .bool false, .bool false, .bool false, .bool false, .bool false, .bool false, .bool false, .bool false, .bool false, .bool false, .bool false, .bool false, .bool false, .bool false, .bool false, .bool false, .bool false, .bool false, .bool false, .bool false, .bool false, .bool false, .bool false, .bool false, .bool false, .bool false, .bool false, .bool false, .bool false, .bool false, .bool false, .bool false, .bool false, .bool false, .bool false, .bool false, .bool false, .bool false, .bool false, .bool false, .bool false, .bool false, .bool false, .bool false, .bool false, .bool false, .bool false, .bool false, .bool false, .bool false, .bool false, .bool false, .bool false, .bool false, .bool false, .bool false, .bool false, .bool false, .bool false, .bool false, .bool false, .bool false, .bool false, .bool false, .bool false, .bool false, .bool false, .bool false, .bool false, .bool false, .bool false, .bool false, .bool false, .bool false, .bool false, .bool false, .bool false, .bool false, .bool false, .bool false, .bool false, .bool false, .bool false, .bool false, .bool false, .bool false, .bool false, .bool false, .bool false, .bool false, .bool false, .bool false, .bool false, .bool false, .bool false, .bool false, .bool false, .bool false, .bool false, .bool false, .bool false, .bool false, .bool false, .bool false, .bool false, .bool false, .bool false, .bool false, .bool false, .bool false, .bool false, .bool false, .bool false, .bool false, .bool false, .bool false],none,false,false,false⟩,
 ⟨.arr 256 4,256,256, [.bool false, .bool false, .bool false, .bool false, .bool false, .bool false, .bool false, .bool false, .bool false, .bool false, .bool false, .bool false, .bool false, .bool false, .bool false, .bool false, .bool false, .bool false, .bool false, .bool false, .bool false, .bool false, .bool false, .bool false, .bool false, .bool false, .bool false, .bool false, .bool false, .bool false, .bool false, .bool false, .bool false, .bool false, .bool false, .bool false, .bool false, .bool false, .bool false, .bool false, .bool false, .bool false, .bool false, .bool false, .bool false, .bool false, .bool false, .bool false, .bool false, .bool false, .bool false, .bool false, .bool false, .bool false, .bool false, .bool false, .bool false, .bool false, .bool false, .bool false, .bool false, .bool false, .bool false, .bool false, .bool false, .bool false, .bool false, .bool false, .bool false, .bool false, .bool false, .bool false, .bool false, .bool false, .bool false, .bool false, .bool false, .bool false, .bool false, .bool false, .bool false, .bool false, .bool false, .bool false, .bool false, .bool false, .bool false, .bool false, .bool false, .bool false, .bool false, .bool false, .bool false, .bool false, .bool false, .bool false, .bool false, .bool false, .bool false, .bool false, .bool false, .bool false, .bool false, .bool false, .bool false, .bool false, .bool false, .bool false, .bool false, .bool false, .bool false, .bool false, .bool false, .bool false, .bool false, .bool false, .bool false, .bool false, .bool false, .bool false, .bool false, .bool false, .bool false, .bool false, .bool false, .bool false, .bool false, .bool false, .bool false, .bool false, .bool false, .bool false, .bool false, .bool false, .bool false, .bool false, .bool false, .bool false, .bool false, .bool false, .bool false, .bool false, .bool false, .bool false, .bool false, .bool false, .bool false, .bool false, .bool false, .bool false, .bool false, .bool false, .bool false, .bool false, .bool false, .bool false, .bool false, .bool false, .bool false, .bool false, .bool false, .bool false, .bool false, .bool false, .bool false, .bool false, .bool false, .bool false, .bool false, .bool false, .bool false, .bool false, .bool false, .bool false, .bool false, .bool false, .bool false, .bool false, .bool false, .bool false, .bool false, .bool false, .bool false, .bool false, .bool false, .bool false, .bool false, .bool false, .bool false, .bool false, .bool false, .bool false, .bool false, .bool false, .bool false, .bool false, .bool false, .bool false, .bool false, .bool false, .bool false, .bool false, .bool false, .bool false, .bool false, .bool false, .bool false, .bool false, .bool false, .bool false, .bool false, .bool false, .bool false, .bool false, .bool false, .bool false, .bool false, .bool false, .bool false, .bool false, .bool false, .bool false, .bool false, .bool false, .bool false, .bool false, .bool false, .bool false, .bool false, .bool false, .bool false, .bool false, .bool false, .bool false, .bool false, .bool false, .bool false, .bool false, .bool false, .bool false, .bool false, .bool false, .bool false, .bool false, .bool false, .bool false, .bool false, .bool false, .bool false, .bool false, .bool false, .bool false, .bool false, .bool false, .bool false, .bool false],none,false,false,false⟩,
 ⟨.other,1,0, [.undef],none,false,false,false⟩,
 ⟨.func,1,8, [.aT],none,false,false,false⟩,
 ⟨.func,1,8, [.aT],none,false,false,false⟩,
 ⟨.ptr 135,1,8, [.eI],none,false,false,false⟩,
 ⟨.ptr 142,1,8, [.eI],none,false,false,false⟩,
 ⟨.struct [(0,9)],1,16, [.str []],none,false,false,false⟩,
 ⟨.struct [(0,9)],1,16, [.str []],none,false,false,false⟩,
 ⟨.func,1,8, [.aT],none,false,false,false⟩,
 ⟨.other,1,0, [.undef],none,false,false,false⟩,
 ⟨.func,1,8, [.aT],none,false,false,false⟩,
 ⟨.func,1,8, [.aT],none,false,false,false⟩,
 ⟨.ptr 149,1,8, [.eI],none,false,false,false⟩,
 ⟨.struct [(0,9)],1,16, [.str []],none,false,false,false⟩,
 ⟨.struct [(0,9)],1,16, [.str []],none,false,false,false⟩,
 ⟨.func,1,8, [.aT],none,false,false,false⟩,
 ⟨.func,1,8, [.aT],none,false,false,false⟩,
 ⟨.arr 256 5,256,256, [.int .u8 0, .int .u8 0, .int .u8 0, .int .u8 0, .int .u8 0, .int .u8 0, .int .u8 0, .int .u8 0, .int .u8 0, .int .u8 0, .int .u8 0, .int .u8 0, .int .u8 0, .int .u8 0, .int .u8 0, .int .u8 0, .int .u8 0, .int .u8 0, .int .u8 0, .int .u8 0, .int .u8 0, .int .u8 0, .int .u8 0, .int .u8 0, .int .u8 0, .int .u8 0, .int .u8 0, .int .u8 0, .int .u8 0, .int .u8 0, .int .u8 0, .int .u8 0, .int .u8 0, .int .u8 0, .int .u8 0, .int .u8 0, .int .u8 0, .int .u8 0, .int .u8 0, .int .u8 0, .int .u8 0, .int .u8 0, .int .u8 0, .int .u8 0, .int .u8 0, .int .u8 0, .int .u8 0, .int .u8 0, .int .u8 0, .int .u8 0, .int .u8 0, .int .u8 0, .int .u8 0, .int .u8 0, .int .u8 0, .int .u8 0, .int .u8 0, .int .u8 0, .int .u8 0, .int .u8 0, .int .u8 0, .int .u8 0, .int .u8 0, .int .u8 0, .int .u8 0, .int .u8 0, .int .u8 0, .int .u8 0, .int .u8 0, .int .u8 0, .int .u8 0, .int .u8 0, .int .u8 0, .int .u8 0, .int .u8 0, .int .u8 0, .int .u8 0, .int .u8 0, .int .u8 0, .int .u8 0, .int .u8 0, .int .u8 0, .int .u8 0, .int .u8 0, .int .u8 0, .int .u8 0, .int .u8 0, .int .u8 0, .int .u8 0, .int .u8 0, .int .u8 0, .int .u8 0, .int .u8 0, .int .u8 0, .int .u8 0, .int .u8 0, .int .u8 0, .int .u8 0, .int .u8 0, .int .u8 0, .int .u8 0, .int .u8 0, .int .u8 0, .int .u8 0, .int .u8 0, .int .u8 0, .int .u8 0, .int .u8 0, .int .u8 0, .int .u8 0, .int .u8 0, .int .u8 0, .int .u8 0, .int .u8 0, .int .u8 0, .int .u8 0, .int .u8 0, .int .u8 0, .int .u8 0, .int .u8 0, .int .u8 0, .int .u8 0, .int .u8 0, .int .u8 0, .int .u8 0, .int .u8 0, .int .u8 0, .int .u8 0, .int .u8 0, .int .u8 0, .int .u8 0, .int .u8 0, .int .u8 0, .int .u8 0, .int .u8 0, .int .u8 0, .int .u8 0, .int .u8 0, .int .u8 0, .int .u8 0, .int .u8 0, .int .u8 0, .int .u8 0, .int .u8 0, .int .u8 0, .int .u8 0, .int .u8 0, .int .u8 0, .int .u8 0, .int .u8 0, .int .u8 0, .int .u8 0, .int .u8 0, .int .u8 0, .int .u8 0, .int .u8 0, .int .u8 0, .int .u8 0, .int .u8 0, .int .u8 0, .int .u8 0, .int .u8 0, .int .u8 0, .int .u8 0, .int .u8 0, .int .u8 0, .int .u8 0, .int .u8 0, .int .u8 0, .int .u8 0, .int .u8 0, .int .u8 0, .int .u8 0, .int .u8 0, .int .u8 0, .int .u8 0, .int .u8 0, .int .u8 0, .int .u8 0, .int .u8 0, .int .u8 0, .int .u8 0, .int .u8 0, .int .u8 0, .int .u8 0, .int .u8 0, .int .u8 0, .int .u8 0, .int .u8 0, .int .u8 0, .int .u8 0, .int .u8 0, .int .u8 0, .int .u8 0, .int .u8 0, .int .u8 0, .int .u8 0, .int .u8 0, .int .u8 0, .int .u8 0, .int .u8 0, .int .u8 0, .int .u8 0, .int .u8 0, .int .u8 0, .int .u8 0, .int .u8 0, .int .u8 0, .int .u8 0, .int .u8 0, .int .u8 0, .int .u8 0, .int .u8 0, .int .u8 0, .int .u8 0, .int .u8 0, .int .u8 0, .int .u8 0, .int .u8 0, .int .u8 0, .int .u8 0, .int .u8 0, .int .u8 0, .int .u8 0, .int .u8 0, .int .u8 0, .int .u8 0, .int .u8 0, .int .u8 0, .int .u8 0, .int .u8 0, .int .u8 0, .int .u8 0, .int .u8 0, .int .u8 0, .int .u8 0, .int .u8 0, .int .u8 0, .int .u8 0, .int .u8 0, .int .u8 0, .int .u8 0, .int .u8 0, .int .u8 0, .int .u8 0, .int .u8 0, .int .u8 0, .int .u8 0, .int .u8 0, .int .u8 0, .int .u8 0, .int .u8 0, .int .u8 0, .int .u8 0, .int .u8 0, .int .u8 0],none,false,false,false⟩,
 ⟨.struct [(0,5),(1,5)],2,2, [.int .u8 0, .int .u8 0],none,false,false,false⟩,
 ⟨.struct [(0,5),(1,5)],2,2, [.int .u8 0, .int .u8 0],none,false,false,false⟩,
 ⟨.arr 16 154,32,32, [.int .u8 0, .int .u8 0, .int .u8 0, .int .u8 0, .int .u8 0, .int .u8 0, .int .u8 0, .int .u8 0, .int .u8 0, .int .u8 0, .int .u8 0, .int .u8 0, .int .u8 0, .int .u8 0, .int .u8 0, .int .u8 0, .int .u8 0, .int .u8 0, .int .u8 0, .int .u8 0, .int .u8 0, .int .u8 0, .int .u8 0, .int .u8 0, .int .u8 0, .int .u8 0, .int .u8 0, .int .u8 0, .int .u8 0, .int .u8 0, .int .u8 0, .int .u8 0],none,false,false,false⟩,
 ⟨.other,1,8, [.eI],none,false,false,false⟩,
 ⟨.func,1,8, [.aT],none,false,false,false⟩,
 ⟨.func,1,8, [.aT],none,false,false,false⟩,
 ⟨.map 9 4,1,8, [.nS],none,false,false,false⟩,
 ⟨.func,1,8, [.aT],none,false,false,false⟩,
 ⟨.func,1,8, [.aT],none,false,false,false⟩,
 ⟨.func,1,8, [.aT],none,false,false,false⟩,
 ⟨.func,1,8, [.aT],none,false,false,false⟩,
 ⟨.func,1,8, [.aT],none,false,false,false⟩,
 ⟨.int .u64,1,8, [.int .u64 0],some (.int .u64),false,false,false⟩,
 ⟨.other,1,0, [.undef],none,false,false,false⟩,
 ⟨.func,1,8, [.aT],none,false,false,false⟩,
 ⟨.func,1,8, [.aT],none,false,false,false⟩,
 ⟨.other,1,0, [.undef],none,false,false,false⟩,
 ⟨.func,1,8, [.aT],none,false,false,false⟩,
 ⟨.func,1,8, [.aT],none,false,false,false⟩,
 ⟨.func,1,8, [.aT],none,false,false,false⟩,
 ⟨.func,1,8, [.aT],none,false,false,false⟩,
 ⟨.other,1,0, [.undef],none,false,false,false⟩,
 ⟨.func,1,8, [.aT],none,false,false,false⟩,
 ⟨.func,1,8, [.aT],none,false,false,false⟩,
 ⟨.arr 24 5,24,24, [.int .u8 0, .int .u8 0, .int .u8 0, .int .u8 0, .int .u8 0, .int .u8 0, .int .u8 0, .int .u8 0, .int .u8 0, .int .u8 0, .int .u8 0, .int .u8 0, .int .u8 0, .int .u8 0, .int .u8 0, .int .u8 0, .int .u8 0, .int .u8 0, .int .u8 0, .int .u8 0, .int .u8 0, .int .u8 0, .int .u8 0, .int .u8 0],none,false,false,false⟩,
 ⟨.func,1,8, [.aT],none,false,false,false⟩,
 ⟨.func,1,8, [.aT],none,false,false,false⟩,
 ⟨.other,1,0, [.undef],none,false,false,false⟩,
 ⟨.func,1,8, [.aT],none,false,false,false⟩,
 ⟨.func,1,8, [.aT],none,false,false,false⟩,
 ⟨.func,1,8, [.aT],none,false,false,false⟩,
 ⟨.int .i64,1,8, [.int .i64 0],some (.int .i64),false,false,false⟩,
 ⟨.other,1,0, [.undef],none,false,false,false⟩,
 ⟨.func,1,8, [.aT],none,false,false,false⟩,
 ⟨.ptr 200,1,8, [.eI],none,false,false,false⟩,
 ⟨.func,1,8, [.aT],none,false,false,false⟩,
 ⟨.func,1,8, [.aT],none,false,false,false⟩,
 ⟨.func,1,8, [.aT],none,false,false,false⟩,
 ⟨.func,1,8, [.aT],none,false,false,false⟩,
 ⟨.arr 20 165,20,160, [.int .u64 0, .int .u64 0, .int .u64 0, .int .u64 0, .int .u64 0, .int .u64 0, .int .u64 0, .int .u64 0, .int .u64 0, .int .u64 0, .int .u64 0, .int .u64 0, .int .u64 0, .int .u64 0, .int .u64 0, .int .u64 0, .int .u64 0, .int .u64 0, .int .u64 0, .int .u64 0],none,false,false,false⟩,
 ⟨.arr 65 5,65,65, [.int .u8 0, .int .u8 0, .int .u8 0, .int .u8 0, .int .u8 0, .int .u8 0, .int .u8 0, .int .u8 0, .int .u8 0, .int .u8 0, .int .u8 0, .int .u8 0, .int .u8 0, .int .u8 0, .int .u8 0, .int .u8 0, .int .u8 0, .int .u8 0, .int .u8 0, .int .u8 0, .int .u8 0, .int .u8 0, .int .u8 0, .int .u8 0, .int .u8 0, .int .u8 0, .int .u8 0, .int .u8 0, .int .u8 0, .int .u8 0, .int .u8 0, .int .u8 0, .int .u8 0, .int .u8 0, .int .u8 0, .int .u8 0, .int .u8 0, .int .u8 0, .int .u8 0, .int .u8 0, .int .u8 0, .int .u8 0, .int .u8 0, .int .u8 0, .int .u8 0, .int .u8 0, .int .u8 0, .int .u8 0, .int .u8 0, .int .u8 0, .int .u8 0, .int .u8 0, .int .u8 0, .int .u8 0, .int .u8 0, .int .u8 0, .int .u8 0, .int .u8 0, .int .u8 0, .int .u8 0, .int .u8 0, .int .u8 0, .int .u8 0, .int .u8 0, .int .u8 0],none,false,false,false⟩,
 ⟨.func,1,8, [.aT],none,false,false,false⟩,
 ⟨.func,1,8, [.aT],none,false,false,false⟩,
 ⟨.func,1,8, [.aT],none,false,false,false⟩,
 ⟨.other,1,0, [.undef],none,false,false,false⟩,
 ⟨.func,1,8, [.aT],none,false,false,false⟩,
 ⟨.struct [(0,9),(1,9),(2,94)],3,48, [.str [], .str [], .dv],none,false,false,false⟩,
 ⟨.struct [(0,9),(1,9),(2,94)],3,48, [.str [], .str [], .dv],none,false,false,false⟩,
 ⟨.func,1,8, [.aT],none,false,false,false⟩,
 ⟨.func,1,8, [.aT],none,false,false,false⟩,
 ⟨.func,1,8, [.aT],none,false,false,false⟩,
 ⟨.ptr 206,1,8, [.eI],none,false,false,false⟩,
 ⟨.struct [(0,9)],1,16, [.str []],none,false,false,false⟩,
 ⟨.struct [(0,9)],1,16, [.str []],none,false,false,false⟩,
 ⟨.arr 32 5,32,32, [.int .u8 0, .int .u8 0, .int .u8 0, .int .u8 0, .int .u8 0, .int .u8 0, .int .u8 0, .int .u8 0, .int .u8 0, .int .u8 0, .int .u8 0, .int .u8 0, .int .u8 0, .int .u8 0, .int .u8 0, .int .u8 0, .int .u8 0, .int .u8 0, .int .u8 0, .int .u8 0, .int .u8 0, .int .u8 0, .int .u8 0, .int .u8 0, .int .u8 0, .int .u8 0, .int .u8 0, .int .u8 0, .int .u8 0, .int .u8 0, .int .u8 0, .int .u8 0],none,false,false,false⟩,
 ⟨.arr 64 5,64,64, [.int .u8 0, .int .u8 0, .int .u8 0, .int .u8 0, .int .u8 0, .int .u8 0, .int .u8 0, .int .u8 0, .int .u8 0, .int .u8 0, .int .u8 0, .int .u8 0, .int .u8 0, .int .u8 0, .int .u8 0, .int .u8 0, .int .u8 0, .int .u8 0, .int .u8 0, .int .u8 0, .int .u8 0, .int .u8 0, .int .u8 0, .int .u8 0, .int .u8 0, .int .u8 0, .int .u8 0, .int .u8 0, .int .u8 0, .int .u8 0, .int .u8 0, .int .u8 0, .int .u8 0, .int .u8 0, .int .u8 0, .int .u8 0, .int .u8 0, .int .u8 0, .int .u8 0, .int .u8 0, .int .u8 0, .int .u8 0, .int .u8 0, .int .u8 0, .int .u8 0, .int .u8 0, .int .u8 0, .int .u8 0, .int .u8 0, .int .u8 0, .int .u8 0, .int .u8 0, .int .u8 0, .int .u8 0, .int .u8 0, .int .u8 0, .int .u8 0, .int .u8 0, .int .u8 0, .int .u8 0, .int .u8 0, .int .u8 0, .int .u8 0, .int .u8 0],none,false,false,false⟩,
 ⟨.struct [(0,17),(1,17),(2,17),(3,9)],4,40, [.eI, .eI, .eI, .str []],none,false,false,false⟩,
 ⟨.struct [(0,17),(1,17),(2,17),(3,9)],4,40, [.eI, .eI, .eI, .str []],none,false,false,false⟩,
 ⟨.arr 0 16,0,0, [],none,false,false,false⟩,
 ⟨.struct [(0,211)],0,0, [],none,false,false,false⟩,
 ⟨.struct [(0,211)],0,0, [],none,false,false,false⟩,
 ⟨.int .u8,1,1, [.int .u8 0],none,false,false,false⟩,
 ⟨.int .u8,1,1, [.int .u8 0],none,false,false,false⟩,
 ⟨.func,1,8, [.aT],none,false,false,false⟩,
 ⟨.int .i32,1,4, [.int .i32 0],some (.int .i32),false,false,false⟩,
 ⟨.int .i32,1,4, [.int .i32 0],some (.int .i32),false,false,false⟩,
 ⟨.struct [(0,12),(1,12),(2,76),(3,214),(4,5),(5,5),(6,215),(7,216),(8,106),(9,217),(10,218)],11,48, [.int .u64 0, .int .u64 0, .int .u32 0, .int .u8 0, .int .u8 0, .int .u8 0, .int .u8 0, .aT, .eI, .int .i32 0, .int .i32 0],none,false,false,false⟩,
 ⟨.struct [(0,12),(1,12),(2,76),(3,214),(4,5),(5,5),(6,215),(7,216),(8,106),(9,217),(10,218)],11,48, [.int .u64 0, .int .u64 0, .int .u32 0, .int .u8 0, .int .u8 0, .int .u8 0, .int .u8 0, .aT, .eI, .int .i32 0, .int .i32 0],none,false,false,false⟩]

end Go.Proofs.YtmlkkgfenfdndaaGreatDoor

namespace Go.aF
open Go.RowKit

def U:Nat→List V→List V
 | 0,l=>l
 | n+1,l => .undef::U n l
def PU:Nat→List ck→List ck
 | 0,l=>l
 | n+1,l => .leaf .undef::PU n l

section
variable {R:Type} {P:Program} {tt:dA}

abbrev uI (R:Type):=Nat × Bool × Spec R
def fV:List (uI R)→Env R
 | [],_=>none
 | e::l,i=>bif Nat.beq i e.1 then some e.2 else fV l i
inductive eU (P:Program):List (uI R)→Prop
 | n:eU P []
 | p {g:Nat} {sp:Spec R} {l:List (uI R)} (h:Spec.Ok P g sp) (t:eU P l):eU P ((g,true,sp)::l)
 | f {g:Nat} {sp:Spec R} {l:List (uI R)} (h:Spec.Ok P g sp) (hs:nR.soft g=false) (t:eU P l):eU P ((g,false,sp)::l)
 | s {g:Nat} {sp:Spec R} {l:List (uI R)} (h:Spec.Ok P g sp) (hs:Ey sp) (t:eU P l):eU P ((g,false,sp)::l)
theorem envL_ok {l:List (uI R)} (h:eU P l):R4 P (fV l):=by
 induction h with
 | n=>intro i b sp h; cases h
 | p h0 t ih =>
  intro i b sp h
  simp only[fV]at h
  cases hb:Nat.beq i _ with
  | true =>
   rw[hb,cond_true]at h
   cases h
   have:=Nat.eq_of_beq_eq_true hb
   subst this
   exact ⟨h0,fun h=>by cases h⟩
  | false =>
   rw[hb,cond_false]at h
   exact ih i b sp h
 | f h0 hs t ih =>
  intro i b sp h
  simp only[fV]at h
  cases hb:Nat.beq i _ with
  | true =>
   rw[hb,cond_true]at h
   cases h
   have:=Nat.eq_of_beq_eq_true hb
   subst this
   exact ⟨h0,fun _ h=>by rw[hs]at h; cases h⟩
  | false =>
   rw[hb,cond_false]at h
   exact ih i b sp h
 | s h0 hs t ih =>
  intro i b sp h
  simp only[fV]at h
  cases hb:Nat.beq i _ with
  | true =>
   rw[hb,cond_true]at h
   cases h
   have:=Nat.eq_of_beq_eq_true hb
   subst this
   exact ⟨h0,fun _ _=>hs⟩
  | false =>
   rw[hb,cond_false]at h
   exact ih i b sp h

def rR (P:Program) (g:Nat) (s:Spec R→Spec R):Prop:=∀o,Spec.Ok P g o→Spec.Ok P g (s o)
def gR (tt:dA) (l:List (uI R)) (L:Nat→Option (Hint × eJ R)) (uM:Bool) (fn:Func) (code:Code) (ps:List ck) (hs:List aN) (run:ck.aH ps→aN.aH hs→(V→aG→Option R)→Option R):Prop :=
 ∀x y k,funK tt (fV l) L uM fn code (ck.cz ps x) (aN.cz hs y) k=run x y k
theorem cQ (T:vS P tt) (hm:P.follows .mixedOrders=true) {l:List (uI R)} (hE:eU P l) {L:Nat→Option (Hint × eJ R)} {g:Nat} {fn:Func} {code:Code} {uM:Bool} {ps:List ck} {hs:List aN}
  {run:ck.aH ps→aN.aH hs→(V→aG→Option R)→Option R} (hf:P.funcs[g]? = some fn) (hb:fn.body=some code) (hn:(fn.name == "runtime.NumGoroutine")=false) (hr:fn.results.size=fn.resultTypes.size)
  (hl:∀a∈br code,lM tt (fV l) L hs.length a) (h:gR tt l L uM fn code ps hs run):rR P g (bj ps hs run) :=
 fun _ ho=>V4 ho (SW T hm (envL_ok hE) hf hb hn hr hs.length hl) h

def xw:Nat→Option (Hint × eJ R):=fun _=>none
theorem dV {E:Env R} {l:List Code} {m:Nat}:∀a∈l,lM tt E xw m a:=fun _ _ _ _ h=>by cases h
end
end Go.aF

set_option maxRecDepth 100000
namespace Go.Proofs.YtmlkkgfenfdndaaGreatDoor
open Go Go.aF

theorem YS:tt.length=221:=by kernel_rfl
theorem und1:(tt.at 1).d.Is Tryz.prog 1:=⟨_,_,_,rfl⟩
theorem inf1:ay Tryz.prog tt 1:=⟨Tryz.t1,by kernel_rfl,by kernel_rfl,by kernel_rfl,by kernel_rfl⟩
theorem und2:(tt.at 2).d.Is Tryz.prog 2:=(by kernel_rfl:Tryz.prog.underlying 2=some (.int .i64))
theorem inf2:ay Tryz.prog tt 2:=⟨Tryz.t2,by kernel_rfl,by kernel_rfl,by kernel_rfl,by kernel_rfl⟩
theorem und3:(tt.at 3).d.Is Tryz.prog 3:=(by kernel_rfl:Tryz.prog.underlying 3=some (.int .i64))
theorem inf3:ay Tryz.prog tt 3:=⟨Tryz.t3,by kernel_rfl,by kernel_rfl,by kernel_rfl,by kernel_rfl⟩
theorem und4:(tt.at 4).d.Is Tryz.prog 4:=(by kernel_rfl:Tryz.prog.underlying 4=some .bool)
theorem inf4:ay Tryz.prog tt 4:=⟨Tryz.t4,by kernel_rfl,by kernel_rfl,by kernel_rfl,by kernel_rfl⟩
theorem und5:(tt.at 5).d.Is Tryz.prog 5:=(by kernel_rfl:Tryz.prog.underlying 5=some (.int .u8))
theorem inf5:ay Tryz.prog tt 5:=⟨Tryz.t5,by kernel_rfl,by kernel_rfl,by kernel_rfl,by kernel_rfl⟩
theorem und6:(tt.at 6).d.Is Tryz.prog 6:=(by kernel_rfl:Tryz.prog.underlying 6=some (.int .u8))
theorem inf6:ay Tryz.prog tt 6:=⟨Tryz.t6,by kernel_rfl,by kernel_rfl,by kernel_rfl,by kernel_rfl⟩
theorem und7:(tt.at 7).d.Is Tryz.prog 7:=⟨Tryz.prog.fieldsOf 7,by kernel_rfl,by kernel_rfl⟩
theorem inf7:ay Tryz.prog tt 7:=⟨Tryz.t7,by kernel_rfl,by kernel_rfl,by kernel_rfl,by kernel_rfl⟩
theorem und8:(tt.at 8).d.Is Tryz.prog 8:=⟨Tryz.prog.fieldsOf 8,by kernel_rfl,by kernel_rfl⟩
theorem inf8:ay Tryz.prog tt 8:=⟨Tryz.t8,by kernel_rfl,by kernel_rfl,by kernel_rfl,by kernel_rfl⟩
theorem und9:(tt.at 9).d.Is Tryz.prog 9:=(by kernel_rfl:Tryz.prog.underlying 9=some .string)
theorem inf9:ay Tryz.prog tt 9:=⟨Tryz.t9,by kernel_rfl,by kernel_rfl,by kernel_rfl,by kernel_rfl⟩
theorem und10:(tt.at 10).d.Is Tryz.prog 10:=(by kernel_rfl:Tryz.prog.underlying 10=some .string)
theorem inf10:ay Tryz.prog tt 10:=⟨Tryz.t10,by kernel_rfl,by kernel_rfl,by kernel_rfl,by kernel_rfl⟩
theorem und11:(tt.at 11).d.Is Tryz.prog 11:=(by kernel_rfl:Tryz.prog.underlying 11=some .string)
theorem inf11:ay Tryz.prog tt 11:=⟨Tryz.t11,by kernel_rfl,by kernel_rfl,by kernel_rfl,by kernel_rfl⟩
theorem und12:(tt.at 12).d.Is Tryz.prog 12:=(by kernel_rfl:Tryz.prog.underlying 12=some (.int .u64))
theorem inf12:ay Tryz.prog tt 12:=⟨Tryz.t12,by kernel_rfl,by kernel_rfl,by kernel_rfl,by kernel_rfl⟩
theorem und13:(tt.at 13).d.Is Tryz.prog 13:=⟨Tryz.prog.fieldsOf 13,by kernel_rfl,by kernel_rfl⟩
theorem inf13:ay Tryz.prog tt 13:=⟨Tryz.t13,by kernel_rfl,by kernel_rfl,by kernel_rfl,by kernel_rfl⟩
theorem und14:(tt.at 14).d.Is Tryz.prog 14:=⟨Tryz.prog.fieldsOf 14,by kernel_rfl,by kernel_rfl⟩
theorem inf14:ay Tryz.prog tt 14:=⟨Tryz.t14,by kernel_rfl,by kernel_rfl,by kernel_rfl,by kernel_rfl⟩
theorem und15:(tt.at 15).d.Is Tryz.prog 15:=(by kernel_rfl:Tryz.prog.underlying 15=some (.pointer 210))
theorem inf15:ay Tryz.prog tt 15:=⟨Tryz.t15,by kernel_rfl,by kernel_rfl,by kernel_rfl,by kernel_rfl⟩
theorem und16:(tt.at 16).d.Is Tryz.prog 16:=(by kernel_rfl:Tryz.prog.underlying 16=some (.pointer 213))
theorem inf16:ay Tryz.prog tt 16:=⟨Tryz.t16,by kernel_rfl,by kernel_rfl,by kernel_rfl,by kernel_rfl⟩
theorem und17:(tt.at 17).d.Is Tryz.prog 17:=(by kernel_rfl:Tryz.prog.underlying 17=some (.pointer 220))
theorem inf17:ay Tryz.prog tt 17:=⟨Tryz.t17,by kernel_rfl,by kernel_rfl,by kernel_rfl,by kernel_rfl⟩
theorem und18:(tt.at 18).d.Is Tryz.prog 18:=⟨Tryz.prog.fieldsOf 18,by kernel_rfl,by kernel_rfl⟩
theorem inf18:ay Tryz.prog tt 18:=⟨Tryz.t18,by kernel_rfl,by kernel_rfl,by kernel_rfl,by kernel_rfl⟩
theorem und19:(tt.at 19).d.Is Tryz.prog 19:=⟨Tryz.prog.fieldsOf 19,by kernel_rfl,by kernel_rfl⟩
theorem inf19:ay Tryz.prog tt 19:=⟨Tryz.t19,by kernel_rfl,by kernel_rfl,by kernel_rfl,by kernel_rfl⟩
theorem und20:(tt.at 20).d.Is Tryz.prog 20:=⟨_,rfl⟩
theorem inf20:ay Tryz.prog tt 20:=⟨Tryz.t20,by kernel_rfl,by kernel_rfl,by kernel_rfl,by kernel_rfl⟩
theorem und21:(tt.at 21).d.Is Tryz.prog 21:=(by kernel_rfl:Tryz.prog.underlying 21=some (.int .i32))
theorem inf21:ay Tryz.prog tt 21:=⟨Tryz.t21,by kernel_rfl,by kernel_rfl,by kernel_rfl,by kernel_rfl⟩
theorem und22:(tt.at 22).d.Is Tryz.prog 22:=(by kernel_rfl:Tryz.prog.underlying 22=some (.slice 3))
theorem inf22:ay Tryz.prog tt 22:=⟨Tryz.t22,by kernel_rfl,by kernel_rfl,by kernel_rfl,by kernel_rfl⟩
theorem und23:(tt.at 23).d.Is Tryz.prog 23:=(by kernel_rfl:Tryz.prog.underlying 23=some (.slice 25))
theorem inf23:ay Tryz.prog tt 23:=⟨Tryz.t23,by kernel_rfl,by kernel_rfl,by kernel_rfl,by kernel_rfl⟩
theorem und24:(tt.at 24).d.Is Tryz.prog 24:=⟨Tryz.prog.fieldsOf 24,by kernel_rfl,by kernel_rfl⟩
theorem inf24:ay Tryz.prog tt 24:=⟨Tryz.t24,by kernel_rfl,by kernel_rfl,by kernel_rfl,by kernel_rfl⟩
theorem und25:(tt.at 25).d.Is Tryz.prog 25:=⟨Tryz.prog.fieldsOf 25,by kernel_rfl,by kernel_rfl⟩
theorem inf25:ay Tryz.prog tt 25:=⟨Tryz.t25,by kernel_rfl,by kernel_rfl,by kernel_rfl,by kernel_rfl⟩
theorem und26:(tt.at 26).d.Is Tryz.prog 26:=⟨Tryz.prog.fieldsOf 26,by kernel_rfl,by kernel_rfl⟩
theorem inf26:ay Tryz.prog tt 26:=⟨Tryz.t26,by kernel_rfl,by kernel_rfl,by kernel_rfl,by kernel_rfl⟩
theorem und27:(tt.at 27).d.Is Tryz.prog 27:=⟨Tryz.prog.fieldsOf 27,by kernel_rfl,by kernel_rfl⟩
theorem inf27:ay Tryz.prog tt 27:=⟨Tryz.t27,by kernel_rfl,by kernel_rfl,by kernel_rfl,by kernel_rfl⟩
theorem und28:(tt.at 28).d.Is Tryz.prog 28:=(by kernel_rfl:Tryz.prog.underlying 28=some (.slice 9))
theorem inf28:ay Tryz.prog tt 28:=⟨Tryz.t28,by kernel_rfl,by kernel_rfl,by kernel_rfl,by kernel_rfl⟩
theorem und29:(tt.at 29).d.Is Tryz.prog 29:=(by kernel_rfl:Tryz.prog.underlying 29=some (.slice 31))
theorem inf29:ay Tryz.prog tt 29:=⟨Tryz.t29,by kernel_rfl,by kernel_rfl,by kernel_rfl,by kernel_rfl⟩
theorem und30:(tt.at 30).d.Is Tryz.prog 30:=⟨Tryz.prog.fieldsOf 30,by kernel_rfl,by kernel_rfl⟩
theorem inf30:ay Tryz.prog tt 30:=⟨Tryz.t30,by kernel_rfl,by kernel_rfl,by kernel_rfl,by kernel_rfl⟩
theorem und31:(tt.at 31).d.Is Tryz.prog 31:=⟨Tryz.prog.fieldsOf 31,by kernel_rfl,by kernel_rfl⟩
theorem inf31:ay Tryz.prog tt 31:=⟨Tryz.t31,by kernel_rfl,by kernel_rfl,by kernel_rfl,by kernel_rfl⟩
theorem und32:(tt.at 32).d.Is Tryz.prog 32:=⟨_,_,_,rfl⟩
theorem inf32:ay Tryz.prog tt 32:=⟨Tryz.t32,by kernel_rfl,by kernel_rfl,by kernel_rfl,by kernel_rfl⟩
theorem und33:(tt.at 33).d.Is Tryz.prog 33:=⟨_,_,_,rfl⟩
theorem inf33:ay Tryz.prog tt 33:=⟨Tryz.t33,by kernel_rfl,by kernel_rfl,by kernel_rfl,by kernel_rfl⟩
theorem und34:(tt.at 34).d.Is Tryz.prog 34:=⟨_,_,_,rfl⟩
theorem inf34:ay Tryz.prog tt 34:=⟨Tryz.t34,by kernel_rfl,by kernel_rfl,by kernel_rfl,by kernel_rfl⟩
theorem und35:(tt.at 35).d.Is Tryz.prog 35:=(by kernel_rfl:Tryz.prog.underlying 35=some (.int .i64))
theorem inf35:ay Tryz.prog tt 35:=⟨Tryz.t35,by kernel_rfl,by kernel_rfl,by kernel_rfl,by kernel_rfl⟩
theorem und37:(tt.at 37).d.Is Tryz.prog 37:=⟨_,_,_,rfl⟩
theorem inf37:ay Tryz.prog tt 37:=⟨Tryz.t37,by kernel_rfl,by kernel_rfl,by kernel_rfl,by kernel_rfl⟩
theorem und39:(tt.at 39).d.Is Tryz.prog 39:=⟨_,_,_,rfl⟩
theorem inf39:ay Tryz.prog tt 39:=⟨Tryz.t39,by kernel_rfl,by kernel_rfl,by kernel_rfl,by kernel_rfl⟩
theorem und40:(tt.at 40).d.Is Tryz.prog 40:=⟨_,_,_,rfl⟩
theorem inf40:ay Tryz.prog tt 40:=⟨Tryz.t40,by kernel_rfl,by kernel_rfl,by kernel_rfl,by kernel_rfl⟩
theorem und41:(tt.at 41).d.Is Tryz.prog 41:=(by kernel_rfl:Tryz.prog.underlying 41=some (.slice 5))
theorem inf41:ay Tryz.prog tt 41:=⟨Tryz.t41,by kernel_rfl,by kernel_rfl,by kernel_rfl,by kernel_rfl⟩
theorem und42:(tt.at 42).d.Is Tryz.prog 42:=⟨_,_,_,rfl⟩
theorem inf42:ay Tryz.prog tt 42:=⟨Tryz.t42,by kernel_rfl,by kernel_rfl,by kernel_rfl,by kernel_rfl⟩
theorem und43:(tt.at 43).d.Is Tryz.prog 43:=⟨_,_,_,rfl⟩
theorem inf43:ay Tryz.prog tt 43:=⟨Tryz.t43,by kernel_rfl,by kernel_rfl,by kernel_rfl,by kernel_rfl⟩
theorem und44:(tt.at 44).d.Is Tryz.prog 44:=(by kernel_rfl:Tryz.prog.underlying 44=some (.slice 48))
theorem inf44:ay Tryz.prog tt 44:=⟨Tryz.t44,by kernel_rfl,by kernel_rfl,by kernel_rfl,by kernel_rfl⟩
theorem und45:(tt.at 45).d.Is Tryz.prog 45:=⟨_,_,_,rfl⟩
theorem inf45:ay Tryz.prog tt 45:=⟨Tryz.t45,by kernel_rfl,by kernel_rfl,by kernel_rfl,by kernel_rfl⟩
theorem und46:(tt.at 46).d.Is Tryz.prog 46:=⟨_,_,_,rfl⟩
theorem inf46:ay Tryz.prog tt 46:=⟨Tryz.t46,by kernel_rfl,by kernel_rfl,by kernel_rfl,by kernel_rfl⟩
theorem und47:(tt.at 47).d.Is Tryz.prog 47:=⟨Tryz.prog.fieldsOf 47,by kernel_rfl,by kernel_rfl⟩
theorem inf47:ay Tryz.prog tt 47:=⟨Tryz.t47,by kernel_rfl,by kernel_rfl,by kernel_rfl,by kernel_rfl⟩
theorem und48:(tt.at 48).d.Is Tryz.prog 48:=⟨Tryz.prog.fieldsOf 48,by kernel_rfl,by kernel_rfl⟩
theorem inf48:ay Tryz.prog tt 48:=⟨Tryz.t48,by kernel_rfl,by kernel_rfl,by kernel_rfl,by kernel_rfl⟩
theorem und49:(tt.at 49).d.Is Tryz.prog 49:=(by kernel_rfl:Tryz.prog.underlying 49=some (.slice 53))
theorem inf49:ay Tryz.prog tt 49:=⟨Tryz.t49,by kernel_rfl,by kernel_rfl,by kernel_rfl,by kernel_rfl⟩
theorem und51:(tt.at 51).d.Is Tryz.prog 51:=⟨_,_,_,rfl⟩
theorem inf51:ay Tryz.prog tt 51:=⟨Tryz.t51,by kernel_rfl,by kernel_rfl,by kernel_rfl,by kernel_rfl⟩
theorem und52:(tt.at 52).d.Is Tryz.prog 52:=⟨Tryz.prog.fieldsOf 52,by kernel_rfl,by kernel_rfl⟩
theorem inf52:ay Tryz.prog tt 52:=⟨Tryz.t52,by kernel_rfl,by kernel_rfl,by kernel_rfl,by kernel_rfl⟩
theorem und53:(tt.at 53).d.Is Tryz.prog 53:=⟨Tryz.prog.fieldsOf 53,by kernel_rfl,by kernel_rfl⟩
theorem inf53:ay Tryz.prog tt 53:=⟨Tryz.t53,by kernel_rfl,by kernel_rfl,by kernel_rfl,by kernel_rfl⟩
theorem und55:(tt.at 55).d.Is Tryz.prog 55:=⟨_,_,_,rfl⟩
theorem inf55:ay Tryz.prog tt 55:=⟨Tryz.t55,by kernel_rfl,by kernel_rfl,by kernel_rfl,by kernel_rfl⟩
theorem und56:(tt.at 56).d.Is Tryz.prog 56:=⟨_,_,_,rfl⟩
theorem inf56:ay Tryz.prog tt 56:=⟨Tryz.t56,by kernel_rfl,by kernel_rfl,by kernel_rfl,by kernel_rfl⟩
theorem und57:(tt.at 57).d.Is Tryz.prog 57:=⟨_,_,_,rfl⟩
theorem inf57:ay Tryz.prog tt 57:=⟨Tryz.t57,by kernel_rfl,by kernel_rfl,by kernel_rfl,by kernel_rfl⟩
theorem und58:(tt.at 58).d.Is Tryz.prog 58:=⟨_,_,_,rfl⟩
theorem inf58:ay Tryz.prog tt 58:=⟨Tryz.t58,by kernel_rfl,by kernel_rfl,by kernel_rfl,by kernel_rfl⟩
theorem und59:(tt.at 59).d.Is Tryz.prog 59:=⟨_,_,_,rfl⟩
theorem inf59:ay Tryz.prog tt 59:=⟨Tryz.t59,by kernel_rfl,by kernel_rfl,by kernel_rfl,by kernel_rfl⟩
theorem und60:(tt.at 60).d.Is Tryz.prog 60:=⟨_,_,_,rfl⟩
theorem inf60:ay Tryz.prog tt 60:=⟨Tryz.t60,by kernel_rfl,by kernel_rfl,by kernel_rfl,by kernel_rfl⟩
theorem und61:(tt.at 61).d.Is Tryz.prog 61:=⟨_,_,_,rfl⟩
theorem inf61:ay Tryz.prog tt 61:=⟨Tryz.t61,by kernel_rfl,by kernel_rfl,by kernel_rfl,by kernel_rfl⟩
theorem und62:(tt.at 62).d.Is Tryz.prog 62:=⟨_,_,_,rfl⟩
theorem inf62:ay Tryz.prog tt 62:=⟨Tryz.t62,by kernel_rfl,by kernel_rfl,by kernel_rfl,by kernel_rfl⟩
theorem und63:(tt.at 63).d.Is Tryz.prog 63:=⟨_,_,_,rfl⟩
theorem inf63:ay Tryz.prog tt 63:=⟨Tryz.t63,by kernel_rfl,by kernel_rfl,by kernel_rfl,by kernel_rfl⟩
theorem und64:(tt.at 64).d.Is Tryz.prog 64:=⟨_,_,_,rfl⟩
theorem inf64:ay Tryz.prog tt 64:=⟨Tryz.t64,by kernel_rfl,by kernel_rfl,by kernel_rfl,by kernel_rfl⟩
theorem und65:(tt.at 65).d.Is Tryz.prog 65:=⟨_,_,_,rfl⟩
theorem inf65:ay Tryz.prog tt 65:=⟨Tryz.t65,by kernel_rfl,by kernel_rfl,by kernel_rfl,by kernel_rfl⟩
theorem und66:(tt.at 66).d.Is Tryz.prog 66:=⟨_,_,_,rfl⟩
theorem inf66:ay Tryz.prog tt 66:=⟨Tryz.t66,by kernel_rfl,by kernel_rfl,by kernel_rfl,by kernel_rfl⟩
theorem und67:(tt.at 67).d.Is Tryz.prog 67:=⟨_,_,_,rfl⟩
theorem inf67:ay Tryz.prog tt 67:=⟨Tryz.t67,by kernel_rfl,by kernel_rfl,by kernel_rfl,by kernel_rfl⟩
theorem und68:(tt.at 68).d.Is Tryz.prog 68:=⟨_,_,_,rfl⟩
theorem inf68:ay Tryz.prog tt 68:=⟨Tryz.t68,by kernel_rfl,by kernel_rfl,by kernel_rfl,by kernel_rfl⟩
theorem und69:(tt.at 69).d.Is Tryz.prog 69:=⟨_,_,_,rfl⟩
theorem inf69:ay Tryz.prog tt 69:=⟨Tryz.t69,by kernel_rfl,by kernel_rfl,by kernel_rfl,by kernel_rfl⟩
theorem und70:(tt.at 70).d.Is Tryz.prog 70:=⟨_,_,_,rfl⟩
theorem inf70:ay Tryz.prog tt 70:=⟨Tryz.t70,by kernel_rfl,by kernel_rfl,by kernel_rfl,by kernel_rfl⟩
theorem und71:(tt.at 71).d.Is Tryz.prog 71:=(by kernel_rfl:Tryz.prog.underlying 71=some (.pointer 73))
theorem inf71:ay Tryz.prog tt 71:=⟨Tryz.t71,by kernel_rfl,by kernel_rfl,by kernel_rfl,by kernel_rfl⟩
theorem und72:(tt.at 72).d.Is Tryz.prog 72:=⟨Tryz.prog.fieldsOf 72,by kernel_rfl,by kernel_rfl⟩
theorem inf72:ay Tryz.prog tt 72:=⟨Tryz.t72,by kernel_rfl,by kernel_rfl,by kernel_rfl,by kernel_rfl⟩
theorem und73:(tt.at 73).d.Is Tryz.prog 73:=⟨Tryz.prog.fieldsOf 73,by kernel_rfl,by kernel_rfl⟩
theorem inf73:ay Tryz.prog tt 73:=⟨Tryz.t73,by kernel_rfl,by kernel_rfl,by kernel_rfl,by kernel_rfl⟩
theorem und74:(tt.at 74).d.Is Tryz.prog 74:=⟨_,_,_,rfl⟩
theorem inf74:ay Tryz.prog tt 74:=⟨Tryz.t74,by kernel_rfl,by kernel_rfl,by kernel_rfl,by kernel_rfl⟩
theorem und75:(tt.at 75).d.Is Tryz.prog 75:=⟨_,_,_,rfl⟩
theorem inf75:ay Tryz.prog tt 75:=⟨Tryz.t75,by kernel_rfl,by kernel_rfl,by kernel_rfl,by kernel_rfl⟩
theorem und76:(tt.at 76).d.Is Tryz.prog 76:=(by kernel_rfl:Tryz.prog.underlying 76=some (.int .u32))
theorem inf76:ay Tryz.prog tt 76:=⟨Tryz.t76,by kernel_rfl,by kernel_rfl,by kernel_rfl,by kernel_rfl⟩
theorem und77:(tt.at 77).d.Is Tryz.prog 77:=⟨_,_,_,rfl⟩
theorem inf77:ay Tryz.prog tt 77:=⟨Tryz.t77,by kernel_rfl,by kernel_rfl,by kernel_rfl,by kernel_rfl⟩
theorem und78:(tt.at 78).d.Is Tryz.prog 78:=(by kernel_rfl:Tryz.prog.underlying 78=some (.array 8 5))
theorem inf78:ay Tryz.prog tt 78:=⟨Tryz.t78,by kernel_rfl,by kernel_rfl,by kernel_rfl,by kernel_rfl⟩
theorem und79:(tt.at 79).d.Is Tryz.prog 79:=(by kernel_rfl:Tryz.prog.underlying 79=some (.int .u64))
theorem inf79:ay Tryz.prog tt 79:=⟨Tryz.t79,by kernel_rfl,by kernel_rfl,by kernel_rfl,by kernel_rfl⟩
theorem und80:(tt.at 80).d.Is Tryz.prog 80:=⟨_,_,_,rfl⟩
theorem inf80:ay Tryz.prog tt 80:=⟨Tryz.t80,by kernel_rfl,by kernel_rfl,by kernel_rfl,by kernel_rfl⟩
theorem und81:(tt.at 81).d.Is Tryz.prog 81:=(by kernel_rfl:Tryz.prog.underlying 81=some (.pointer 83))
theorem inf81:ay Tryz.prog tt 81:=⟨Tryz.t81,by kernel_rfl,by kernel_rfl,by kernel_rfl,by kernel_rfl⟩
theorem und82:(tt.at 82).d.Is Tryz.prog 82:=⟨Tryz.prog.fieldsOf 82,by kernel_rfl,by kernel_rfl⟩
theorem inf82:ay Tryz.prog tt 82:=⟨Tryz.t82,by kernel_rfl,by kernel_rfl,by kernel_rfl,by kernel_rfl⟩
theorem und83:(tt.at 83).d.Is Tryz.prog 83:=⟨Tryz.prog.fieldsOf 83,by kernel_rfl,by kernel_rfl⟩
theorem inf83:ay Tryz.prog tt 83:=⟨Tryz.t83,by kernel_rfl,by kernel_rfl,by kernel_rfl,by kernel_rfl⟩
theorem und84:(tt.at 84).d.Is Tryz.prog 84:=⟨_,_,_,rfl⟩
theorem inf84:ay Tryz.prog tt 84:=⟨Tryz.t84,by kernel_rfl,by kernel_rfl,by kernel_rfl,by kernel_rfl⟩
theorem und85:(tt.at 85).d.Is Tryz.prog 85:=⟨_,_,_,rfl⟩
theorem inf85:ay Tryz.prog tt 85:=⟨Tryz.t85,by kernel_rfl,by kernel_rfl,by kernel_rfl,by kernel_rfl⟩
theorem und86:(tt.at 86).d.Is Tryz.prog 86:=⟨_,_,_,rfl⟩
theorem inf86:ay Tryz.prog tt 86:=⟨Tryz.t86,by kernel_rfl,by kernel_rfl,by kernel_rfl,by kernel_rfl⟩
theorem und87:(tt.at 87).d.Is Tryz.prog 87:=⟨_,_,_,rfl⟩
theorem inf87:ay Tryz.prog tt 87:=⟨Tryz.t87,by kernel_rfl,by kernel_rfl,by kernel_rfl,by kernel_rfl⟩
theorem und88:(tt.at 88).d.Is Tryz.prog 88:=⟨_,_,_,rfl⟩
theorem inf88:ay Tryz.prog tt 88:=⟨Tryz.t88,by kernel_rfl,by kernel_rfl,by kernel_rfl,by kernel_rfl⟩
theorem und89:(tt.at 89).d.Is Tryz.prog 89:=⟨_,_,_,rfl⟩
theorem inf89:ay Tryz.prog tt 89:=⟨Tryz.t89,by kernel_rfl,by kernel_rfl,by kernel_rfl,by kernel_rfl⟩
theorem und91:(tt.at 91).d.Is Tryz.prog 91:=⟨_,_,_,rfl⟩
theorem inf91:ay Tryz.prog tt 91:=⟨Tryz.t91,by kernel_rfl,by kernel_rfl,by kernel_rfl,by kernel_rfl⟩
theorem und92:(tt.at 92).d.Is Tryz.prog 92:=⟨_,_,_,rfl⟩
theorem inf92:ay Tryz.prog tt 92:=⟨Tryz.t92,by kernel_rfl,by kernel_rfl,by kernel_rfl,by kernel_rfl⟩
theorem und93:(tt.at 93).d.Is Tryz.prog 93:=⟨_,rfl⟩
theorem inf93:ay Tryz.prog tt 93:=⟨Tryz.t93,by kernel_rfl,by kernel_rfl,by kernel_rfl,by kernel_rfl⟩
theorem und94:(tt.at 94).d.Is Tryz.prog 94:=⟨_,rfl⟩
theorem inf94:ay Tryz.prog tt 94:=⟨Tryz.t94,by kernel_rfl,by kernel_rfl,by kernel_rfl,by kernel_rfl⟩
theorem und95:(tt.at 95).d.Is Tryz.prog 95:=⟨_,_,_,rfl⟩
theorem inf95:ay Tryz.prog tt 95:=⟨Tryz.t95,by kernel_rfl,by kernel_rfl,by kernel_rfl,by kernel_rfl⟩
theorem und96:(tt.at 96).d.Is Tryz.prog 96:=⟨_,_,_,rfl⟩
theorem inf96:ay Tryz.prog tt 96:=⟨Tryz.t96,by kernel_rfl,by kernel_rfl,by kernel_rfl,by kernel_rfl⟩
theorem und98:(tt.at 98).d.Is Tryz.prog 98:=⟨_,_,_,rfl⟩
theorem inf98:ay Tryz.prog tt 98:=⟨Tryz.t98,by kernel_rfl,by kernel_rfl,by kernel_rfl,by kernel_rfl⟩
theorem und99:(tt.at 99).d.Is Tryz.prog 99:=⟨_,_,_,rfl⟩
theorem inf99:ay Tryz.prog tt 99:=⟨Tryz.t99,by kernel_rfl,by kernel_rfl,by kernel_rfl,by kernel_rfl⟩
theorem und100:(tt.at 100).d.Is Tryz.prog 100:=⟨_,_,_,rfl⟩
theorem inf100:ay Tryz.prog tt 100:=⟨Tryz.t100,by kernel_rfl,by kernel_rfl,by kernel_rfl,by kernel_rfl⟩
theorem und101:(tt.at 101).d.Is Tryz.prog 101:=(by kernel_rfl:Tryz.prog.underlying 101=some (.pointer 103))
theorem inf101:ay Tryz.prog tt 101:=⟨Tryz.t101,by kernel_rfl,by kernel_rfl,by kernel_rfl,by kernel_rfl⟩
theorem und102:(tt.at 102).d.Is Tryz.prog 102:=⟨Tryz.prog.fieldsOf 102,by kernel_rfl,by kernel_rfl⟩
theorem inf102:ay Tryz.prog tt 102:=⟨Tryz.t102,by kernel_rfl,by kernel_rfl,by kernel_rfl,by kernel_rfl⟩
theorem und103:(tt.at 103).d.Is Tryz.prog 103:=⟨Tryz.prog.fieldsOf 103,by kernel_rfl,by kernel_rfl⟩
theorem inf103:ay Tryz.prog tt 103:=⟨Tryz.t103,by kernel_rfl,by kernel_rfl,by kernel_rfl,by kernel_rfl⟩
theorem und104:(tt.at 104).d.Is Tryz.prog 104:=(by kernel_rfl:Tryz.prog.underlying 104=some (.slice 21))
theorem inf104:ay Tryz.prog tt 104:=⟨Tryz.t104,by kernel_rfl,by kernel_rfl,by kernel_rfl,by kernel_rfl⟩
theorem und105:(tt.at 105).d.Is Tryz.prog 105:=⟨_,_,_,rfl⟩
theorem inf105:ay Tryz.prog tt 105:=⟨Tryz.t105,by kernel_rfl,by kernel_rfl,by kernel_rfl,by kernel_rfl⟩
theorem und106:(tt.at 106).d.Is Tryz.prog 106:=(by kernel_rfl:Tryz.prog.underlying 106=some (.pointer 5))
theorem inf106:ay Tryz.prog tt 106:=⟨Tryz.t106,by kernel_rfl,by kernel_rfl,by kernel_rfl,by kernel_rfl⟩
theorem und107:(tt.at 107).d.Is Tryz.prog 107:=⟨_,_,_,rfl⟩
theorem inf107:ay Tryz.prog tt 107:=⟨Tryz.t107,by kernel_rfl,by kernel_rfl,by kernel_rfl,by kernel_rfl⟩
theorem und108:(tt.at 108).d.Is Tryz.prog 108:=⟨_,_,_,rfl⟩
theorem inf108:ay Tryz.prog tt 108:=⟨Tryz.t108,by kernel_rfl,by kernel_rfl,by kernel_rfl,by kernel_rfl⟩
theorem und109:(tt.at 109).d.Is Tryz.prog 109:=(by kernel_rfl:Tryz.prog.underlying 109=some (.map 9 3))
theorem inf109:ay Tryz.prog tt 109:=⟨Tryz.t109,by kernel_rfl,by kernel_rfl,by kernel_rfl,by kernel_rfl⟩
theorem und110:(tt.at 110).d.Is Tryz.prog 110:=⟨_,_,_,rfl⟩
theorem inf110:ay Tryz.prog tt 110:=⟨Tryz.t110,by kernel_rfl,by kernel_rfl,by kernel_rfl,by kernel_rfl⟩
theorem und111:(tt.at 111).d.Is Tryz.prog 111:=⟨_,_,_,rfl⟩
theorem inf111:ay Tryz.prog tt 111:=⟨Tryz.t111,by kernel_rfl,by kernel_rfl,by kernel_rfl,by kernel_rfl⟩
theorem und112:(tt.at 112).d.Is Tryz.prog 112:=⟨_,_,_,rfl⟩
theorem inf112:ay Tryz.prog tt 112:=⟨Tryz.t112,by kernel_rfl,by kernel_rfl,by kernel_rfl,by kernel_rfl⟩
theorem und114:(tt.at 114).d.Is Tryz.prog 114:=⟨_,_,_,rfl⟩
theorem inf114:ay Tryz.prog tt 114:=⟨Tryz.t114,by kernel_rfl,by kernel_rfl,by kernel_rfl,by kernel_rfl⟩
theorem und116:(tt.at 116).d.Is Tryz.prog 116:=⟨_,_,_,rfl⟩
theorem inf116:ay Tryz.prog tt 116:=⟨Tryz.t116,by kernel_rfl,by kernel_rfl,by kernel_rfl,by kernel_rfl⟩
theorem und117:(tt.at 117).d.Is Tryz.prog 117:=⟨_,_,_,rfl⟩
theorem inf117:ay Tryz.prog tt 117:=⟨Tryz.t117,by kernel_rfl,by kernel_rfl,by kernel_rfl,by kernel_rfl⟩
theorem und118:(tt.at 118).d.Is Tryz.prog 118:=⟨_,_,_,rfl⟩
theorem inf118:ay Tryz.prog tt 118:=⟨Tryz.t118,by kernel_rfl,by kernel_rfl,by kernel_rfl,by kernel_rfl⟩
theorem und119:(tt.at 119).d.Is Tryz.prog 119:=⟨_,_,_,rfl⟩
theorem inf119:ay Tryz.prog tt 119:=⟨Tryz.t119,by kernel_rfl,by kernel_rfl,by kernel_rfl,by kernel_rfl⟩
theorem und120:(tt.at 120).d.Is Tryz.prog 120:=⟨_,_,_,rfl⟩
theorem inf120:ay Tryz.prog tt 120:=⟨Tryz.t120,by kernel_rfl,by kernel_rfl,by kernel_rfl,by kernel_rfl⟩
theorem und121:(tt.at 121).d.Is Tryz.prog 121:=⟨_,_,_,rfl⟩
theorem inf121:ay Tryz.prog tt 121:=⟨Tryz.t121,by kernel_rfl,by kernel_rfl,by kernel_rfl,by kernel_rfl⟩
theorem und122:(tt.at 122).d.Is Tryz.prog 122:=⟨_,_,_,rfl⟩
theorem inf122:ay Tryz.prog tt 122:=⟨Tryz.t122,by kernel_rfl,by kernel_rfl,by kernel_rfl,by kernel_rfl⟩
theorem und124:(tt.at 124).d.Is Tryz.prog 124:=⟨_,_,_,rfl⟩
theorem inf124:ay Tryz.prog tt 124:=⟨Tryz.t124,by kernel_rfl,by kernel_rfl,by kernel_rfl,by kernel_rfl⟩
theorem und125:(tt.at 125).d.Is Tryz.prog 125:=⟨_,_,_,rfl⟩
theorem inf125:ay Tryz.prog tt 125:=⟨Tryz.t125,by kernel_rfl,by kernel_rfl,by kernel_rfl,by kernel_rfl⟩
theorem und126:(tt.at 126).d.Is Tryz.prog 126:=⟨_,_,_,rfl⟩
theorem inf126:ay Tryz.prog tt 126:=⟨Tryz.t126,by kernel_rfl,by kernel_rfl,by kernel_rfl,by kernel_rfl⟩
theorem und127:(tt.at 127).d.Is Tryz.prog 127:=⟨_,_,_,rfl⟩
theorem inf127:ay Tryz.prog tt 127:=⟨Tryz.t127,by kernel_rfl,by kernel_rfl,by kernel_rfl,by kernel_rfl⟩
theorem und129:(tt.at 129).d.Is Tryz.prog 129:=⟨_,_,_,rfl⟩
theorem inf129:ay Tryz.prog tt 129:=⟨Tryz.t129,by kernel_rfl,by kernel_rfl,by kernel_rfl,by kernel_rfl⟩
theorem und130:(tt.at 130).d.Is Tryz.prog 130:=⟨_,_,_,rfl⟩
theorem inf130:ay Tryz.prog tt 130:=⟨Tryz.t130,by kernel_rfl,by kernel_rfl,by kernel_rfl,by kernel_rfl⟩
theorem und131:(tt.at 131).d.Is Tryz.prog 131:=⟨_,_,_,rfl⟩
theorem inf131:ay Tryz.prog tt 131:=⟨Tryz.t131,by kernel_rfl,by kernel_rfl,by kernel_rfl,by kernel_rfl⟩
theorem und132:(tt.at 132).d.Is Tryz.prog 132:=⟨_,_,_,rfl⟩
theorem inf132:ay Tryz.prog tt 132:=⟨Tryz.t132,by kernel_rfl,by kernel_rfl,by kernel_rfl,by kernel_rfl⟩
theorem und133:(tt.at 133).d.Is Tryz.prog 133:=⟨_,_,_,rfl⟩
theorem inf133:ay Tryz.prog tt 133:=⟨Tryz.t133,by kernel_rfl,by kernel_rfl,by kernel_rfl,by kernel_rfl⟩
theorem und134:(tt.at 134).d.Is Tryz.prog 134:=(by kernel_rfl:Tryz.prog.underlying 134=some (.array 256 4))
theorem inf134:ay Tryz.prog tt 134:=⟨Tryz.t134,by kernel_rfl,by kernel_rfl,by kernel_rfl,by kernel_rfl⟩
theorem und135:(tt.at 135).d.Is Tryz.prog 135:=(by kernel_rfl:Tryz.prog.underlying 135=some (.array 256 4))
theorem inf135:ay Tryz.prog tt 135:=⟨Tryz.t135,by kernel_rfl,by kernel_rfl,by kernel_rfl,by kernel_rfl⟩
theorem und137:(tt.at 137).d.Is Tryz.prog 137:=⟨_,_,_,rfl⟩
theorem inf137:ay Tryz.prog tt 137:=⟨Tryz.t137,by kernel_rfl,by kernel_rfl,by kernel_rfl,by kernel_rfl⟩
theorem und138:(tt.at 138).d.Is Tryz.prog 138:=⟨_,_,_,rfl⟩
theorem inf138:ay Tryz.prog tt 138:=⟨Tryz.t138,by kernel_rfl,by kernel_rfl,by kernel_rfl,by kernel_rfl⟩
theorem und139:(tt.at 139).d.Is Tryz.prog 139:=(by kernel_rfl:Tryz.prog.underlying 139=some (.pointer 135))
theorem inf139:ay Tryz.prog tt 139:=⟨Tryz.t139,by kernel_rfl,by kernel_rfl,by kernel_rfl,by kernel_rfl⟩
theorem und140:(tt.at 140).d.Is Tryz.prog 140:=(by kernel_rfl:Tryz.prog.underlying 140=some (.pointer 142))
theorem inf140:ay Tryz.prog tt 140:=⟨Tryz.t140,by kernel_rfl,by kernel_rfl,by kernel_rfl,by kernel_rfl⟩
theorem und141:(tt.at 141).d.Is Tryz.prog 141:=⟨Tryz.prog.fieldsOf 141,by kernel_rfl,by kernel_rfl⟩
theorem inf141:ay Tryz.prog tt 141:=⟨Tryz.t141,by kernel_rfl,by kernel_rfl,by kernel_rfl,by kernel_rfl⟩
theorem und142:(tt.at 142).d.Is Tryz.prog 142:=⟨Tryz.prog.fieldsOf 142,by kernel_rfl,by kernel_rfl⟩
theorem inf142:ay Tryz.prog tt 142:=⟨Tryz.t142,by kernel_rfl,by kernel_rfl,by kernel_rfl,by kernel_rfl⟩
theorem und143:(tt.at 143).d.Is Tryz.prog 143:=⟨_,_,_,rfl⟩
theorem inf143:ay Tryz.prog tt 143:=⟨Tryz.t143,by kernel_rfl,by kernel_rfl,by kernel_rfl,by kernel_rfl⟩
theorem und145:(tt.at 145).d.Is Tryz.prog 145:=⟨_,_,_,rfl⟩
theorem inf145:ay Tryz.prog tt 145:=⟨Tryz.t145,by kernel_rfl,by kernel_rfl,by kernel_rfl,by kernel_rfl⟩
theorem und146:(tt.at 146).d.Is Tryz.prog 146:=⟨_,_,_,rfl⟩
theorem inf146:ay Tryz.prog tt 146:=⟨Tryz.t146,by kernel_rfl,by kernel_rfl,by kernel_rfl,by kernel_rfl⟩
theorem und147:(tt.at 147).d.Is Tryz.prog 147:=(by kernel_rfl:Tryz.prog.underlying 147=some (.pointer 149))
theorem inf147:ay Tryz.prog tt 147:=⟨Tryz.t147,by kernel_rfl,by kernel_rfl,by kernel_rfl,by kernel_rfl⟩
theorem und148:(tt.at 148).d.Is Tryz.prog 148:=⟨Tryz.prog.fieldsOf 148,by kernel_rfl,by kernel_rfl⟩
theorem inf148:ay Tryz.prog tt 148:=⟨Tryz.t148,by kernel_rfl,by kernel_rfl,by kernel_rfl,by kernel_rfl⟩
theorem und149:(tt.at 149).d.Is Tryz.prog 149:=⟨Tryz.prog.fieldsOf 149,by kernel_rfl,by kernel_rfl⟩
theorem inf149:ay Tryz.prog tt 149:=⟨Tryz.t149,by kernel_rfl,by kernel_rfl,by kernel_rfl,by kernel_rfl⟩
theorem und150:(tt.at 150).d.Is Tryz.prog 150:=⟨_,_,_,rfl⟩
theorem inf150:ay Tryz.prog tt 150:=⟨Tryz.t150,by kernel_rfl,by kernel_rfl,by kernel_rfl,by kernel_rfl⟩
theorem und151:(tt.at 151).d.Is Tryz.prog 151:=⟨_,_,_,rfl⟩
theorem inf151:ay Tryz.prog tt 151:=⟨Tryz.t151,by kernel_rfl,by kernel_rfl,by kernel_rfl,by kernel_rfl⟩
theorem und152:(tt.at 152).d.Is Tryz.prog 152:=(by kernel_rfl:Tryz.prog.underlying 152=some (.array 256 5))
theorem inf152:ay Tryz.prog tt 152:=⟨Tryz.t152,by kernel_rfl,by kernel_rfl,by kernel_rfl,by kernel_rfl⟩
theorem und153:(tt.at 153).d.Is Tryz.prog 153:=⟨Tryz.prog.fieldsOf 153,by kernel_rfl,by kernel_rfl⟩
theorem inf153:ay Tryz.prog tt 153:=⟨Tryz.t153,by kernel_rfl,by kernel_rfl,by kernel_rfl,by kernel_rfl⟩
theorem und154:(tt.at 154).d.Is Tryz.prog 154:=⟨Tryz.prog.fieldsOf 154,by kernel_rfl,by kernel_rfl⟩
theorem inf154:ay Tryz.prog tt 154:=⟨Tryz.t154,by kernel_rfl,by kernel_rfl,by kernel_rfl,by kernel_rfl⟩
theorem und155:(tt.at 155).d.Is Tryz.prog 155:=(by kernel_rfl:Tryz.prog.underlying 155=some (.array 16 154))
theorem inf155:ay Tryz.prog tt 155:=⟨Tryz.t155,by kernel_rfl,by kernel_rfl,by kernel_rfl,by kernel_rfl⟩
theorem und157:(tt.at 157).d.Is Tryz.prog 157:=⟨_,_,_,rfl⟩
theorem inf157:ay Tryz.prog tt 157:=⟨Tryz.t157,by kernel_rfl,by kernel_rfl,by kernel_rfl,by kernel_rfl⟩
theorem und158:(tt.at 158).d.Is Tryz.prog 158:=⟨_,_,_,rfl⟩
theorem inf158:ay Tryz.prog tt 158:=⟨Tryz.t158,by kernel_rfl,by kernel_rfl,by kernel_rfl,by kernel_rfl⟩
theorem und159:(tt.at 159).d.Is Tryz.prog 159:=(by kernel_rfl:Tryz.prog.underlying 159=some (.map 9 4))
theorem inf159:ay Tryz.prog tt 159:=⟨Tryz.t159,by kernel_rfl,by kernel_rfl,by kernel_rfl,by kernel_rfl⟩
theorem und160:(tt.at 160).d.Is Tryz.prog 160:=⟨_,_,_,rfl⟩
theorem inf160:ay Tryz.prog tt 160:=⟨Tryz.t160,by kernel_rfl,by kernel_rfl,by kernel_rfl,by kernel_rfl⟩
theorem und161:(tt.at 161).d.Is Tryz.prog 161:=⟨_,_,_,rfl⟩
theorem inf161:ay Tryz.prog tt 161:=⟨Tryz.t161,by kernel_rfl,by kernel_rfl,by kernel_rfl,by kernel_rfl⟩
theorem und162:(tt.at 162).d.Is Tryz.prog 162:=⟨_,_,_,rfl⟩
theorem inf162:ay Tryz.prog tt 162:=⟨Tryz.t162,by kernel_rfl,by kernel_rfl,by kernel_rfl,by kernel_rfl⟩
theorem und163:(tt.at 163).d.Is Tryz.prog 163:=⟨_,_,_,rfl⟩
theorem inf163:ay Tryz.prog tt 163:=⟨Tryz.t163,by kernel_rfl,by kernel_rfl,by kernel_rfl,by kernel_rfl⟩
theorem und164:(tt.at 164).d.Is Tryz.prog 164:=⟨_,_,_,rfl⟩
theorem inf164:ay Tryz.prog tt 164:=⟨Tryz.t164,by kernel_rfl,by kernel_rfl,by kernel_rfl,by kernel_rfl⟩
theorem und165:(tt.at 165).d.Is Tryz.prog 165:=(by kernel_rfl:Tryz.prog.underlying 165=some (.int .u64))
theorem inf165:ay Tryz.prog tt 165:=⟨Tryz.t165,by kernel_rfl,by kernel_rfl,by kernel_rfl,by kernel_rfl⟩
theorem und167:(tt.at 167).d.Is Tryz.prog 167:=⟨_,_,_,rfl⟩
theorem inf167:ay Tryz.prog tt 167:=⟨Tryz.t167,by kernel_rfl,by kernel_rfl,by kernel_rfl,by kernel_rfl⟩
theorem und168:(tt.at 168).d.Is Tryz.prog 168:=⟨_,_,_,rfl⟩
theorem inf168:ay Tryz.prog tt 168:=⟨Tryz.t168,by kernel_rfl,by kernel_rfl,by kernel_rfl,by kernel_rfl⟩
theorem und170:(tt.at 170).d.Is Tryz.prog 170:=⟨_,_,_,rfl⟩
theorem inf170:ay Tryz.prog tt 170:=⟨Tryz.t170,by kernel_rfl,by kernel_rfl,by kernel_rfl,by kernel_rfl⟩
theorem und171:(tt.at 171).d.Is Tryz.prog 171:=⟨_,_,_,rfl⟩
theorem inf171:ay Tryz.prog tt 171:=⟨Tryz.t171,by kernel_rfl,by kernel_rfl,by kernel_rfl,by kernel_rfl⟩
theorem und172:(tt.at 172).d.Is Tryz.prog 172:=⟨_,_,_,rfl⟩
theorem inf172:ay Tryz.prog tt 172:=⟨Tryz.t172,by kernel_rfl,by kernel_rfl,by kernel_rfl,by kernel_rfl⟩
theorem und173:(tt.at 173).d.Is Tryz.prog 173:=⟨_,_,_,rfl⟩
theorem inf173:ay Tryz.prog tt 173:=⟨Tryz.t173,by kernel_rfl,by kernel_rfl,by kernel_rfl,by kernel_rfl⟩
theorem und175:(tt.at 175).d.Is Tryz.prog 175:=⟨_,_,_,rfl⟩
theorem inf175:ay Tryz.prog tt 175:=⟨Tryz.t175,by kernel_rfl,by kernel_rfl,by kernel_rfl,by kernel_rfl⟩
theorem und176:(tt.at 176).d.Is Tryz.prog 176:=⟨_,_,_,rfl⟩
theorem inf176:ay Tryz.prog tt 176:=⟨Tryz.t176,by kernel_rfl,by kernel_rfl,by kernel_rfl,by kernel_rfl⟩
theorem und177:(tt.at 177).d.Is Tryz.prog 177:=(by kernel_rfl:Tryz.prog.underlying 177=some (.array 24 5))
theorem inf177:ay Tryz.prog tt 177:=⟨Tryz.t177,by kernel_rfl,by kernel_rfl,by kernel_rfl,by kernel_rfl⟩
theorem und178:(tt.at 178).d.Is Tryz.prog 178:=⟨_,_,_,rfl⟩
theorem inf178:ay Tryz.prog tt 178:=⟨Tryz.t178,by kernel_rfl,by kernel_rfl,by kernel_rfl,by kernel_rfl⟩
theorem und179:(tt.at 179).d.Is Tryz.prog 179:=⟨_,_,_,rfl⟩
theorem inf179:ay Tryz.prog tt 179:=⟨Tryz.t179,by kernel_rfl,by kernel_rfl,by kernel_rfl,by kernel_rfl⟩
theorem und181:(tt.at 181).d.Is Tryz.prog 181:=⟨_,_,_,rfl⟩
theorem inf181:ay Tryz.prog tt 181:=⟨Tryz.t181,by kernel_rfl,by kernel_rfl,by kernel_rfl,by kernel_rfl⟩
theorem und182:(tt.at 182).d.Is Tryz.prog 182:=⟨_,_,_,rfl⟩
theorem inf182:ay Tryz.prog tt 182:=⟨Tryz.t182,by kernel_rfl,by kernel_rfl,by kernel_rfl,by kernel_rfl⟩
theorem und183:(tt.at 183).d.Is Tryz.prog 183:=⟨_,_,_,rfl⟩
theorem inf183:ay Tryz.prog tt 183:=⟨Tryz.t183,by kernel_rfl,by kernel_rfl,by kernel_rfl,by kernel_rfl⟩
theorem und184:(tt.at 184).d.Is Tryz.prog 184:=(by kernel_rfl:Tryz.prog.underlying 184=some (.int .i64))
theorem inf184:ay Tryz.prog tt 184:=⟨Tryz.t184,by kernel_rfl,by kernel_rfl,by kernel_rfl,by kernel_rfl⟩
theorem und186:(tt.at 186).d.Is Tryz.prog 186:=⟨_,_,_,rfl⟩
theorem inf186:ay Tryz.prog tt 186:=⟨Tryz.t186,by kernel_rfl,by kernel_rfl,by kernel_rfl,by kernel_rfl⟩
theorem und187:(tt.at 187).d.Is Tryz.prog 187:=(by kernel_rfl:Tryz.prog.underlying 187=some (.pointer 200))
theorem inf187:ay Tryz.prog tt 187:=⟨Tryz.t187,by kernel_rfl,by kernel_rfl,by kernel_rfl,by kernel_rfl⟩
theorem und188:(tt.at 188).d.Is Tryz.prog 188:=⟨_,_,_,rfl⟩
theorem inf188:ay Tryz.prog tt 188:=⟨Tryz.t188,by kernel_rfl,by kernel_rfl,by kernel_rfl,by kernel_rfl⟩
theorem und189:(tt.at 189).d.Is Tryz.prog 189:=⟨_,_,_,rfl⟩
theorem inf189:ay Tryz.prog tt 189:=⟨Tryz.t189,by kernel_rfl,by kernel_rfl,by kernel_rfl,by kernel_rfl⟩
theorem und190:(tt.at 190).d.Is Tryz.prog 190:=⟨_,_,_,rfl⟩
theorem inf190:ay Tryz.prog tt 190:=⟨Tryz.t190,by kernel_rfl,by kernel_rfl,by kernel_rfl,by kernel_rfl⟩
theorem und191:(tt.at 191).d.Is Tryz.prog 191:=⟨_,_,_,rfl⟩
theorem inf191:ay Tryz.prog tt 191:=⟨Tryz.t191,by kernel_rfl,by kernel_rfl,by kernel_rfl,by kernel_rfl⟩
theorem und192:(tt.at 192).d.Is Tryz.prog 192:=(by kernel_rfl:Tryz.prog.underlying 192=some (.array 20 165))
theorem inf192:ay Tryz.prog tt 192:=⟨Tryz.t192,by kernel_rfl,by kernel_rfl,by kernel_rfl,by kernel_rfl⟩
theorem und193:(tt.at 193).d.Is Tryz.prog 193:=(by kernel_rfl:Tryz.prog.underlying 193=some (.array 65 5))
theorem inf193:ay Tryz.prog tt 193:=⟨Tryz.t193,by kernel_rfl,by kernel_rfl,by kernel_rfl,by kernel_rfl⟩
theorem und194:(tt.at 194).d.Is Tryz.prog 194:=⟨_,_,_,rfl⟩
theorem inf194:ay Tryz.prog tt 194:=⟨Tryz.t194,by kernel_rfl,by kernel_rfl,by kernel_rfl,by kernel_rfl⟩
theorem und195:(tt.at 195).d.Is Tryz.prog 195:=⟨_,_,_,rfl⟩
theorem inf195:ay Tryz.prog tt 195:=⟨Tryz.t195,by kernel_rfl,by kernel_rfl,by kernel_rfl,by kernel_rfl⟩
theorem und196:(tt.at 196).d.Is Tryz.prog 196:=⟨_,_,_,rfl⟩
theorem inf196:ay Tryz.prog tt 196:=⟨Tryz.t196,by kernel_rfl,by kernel_rfl,by kernel_rfl,by kernel_rfl⟩
theorem und198:(tt.at 198).d.Is Tryz.prog 198:=⟨_,_,_,rfl⟩
theorem inf198:ay Tryz.prog tt 198:=⟨Tryz.t198,by kernel_rfl,by kernel_rfl,by kernel_rfl,by kernel_rfl⟩
theorem und199:(tt.at 199).d.Is Tryz.prog 199:=⟨Tryz.prog.fieldsOf 199,by kernel_rfl,by kernel_rfl⟩
theorem inf199:ay Tryz.prog tt 199:=⟨Tryz.t199,by kernel_rfl,by kernel_rfl,by kernel_rfl,by kernel_rfl⟩
theorem und200:(tt.at 200).d.Is Tryz.prog 200:=⟨Tryz.prog.fieldsOf 200,by kernel_rfl,by kernel_rfl⟩
theorem inf200:ay Tryz.prog tt 200:=⟨Tryz.t200,by kernel_rfl,by kernel_rfl,by kernel_rfl,by kernel_rfl⟩
theorem und201:(tt.at 201).d.Is Tryz.prog 201:=⟨_,_,_,rfl⟩
theorem inf201:ay Tryz.prog tt 201:=⟨Tryz.t201,by kernel_rfl,by kernel_rfl,by kernel_rfl,by kernel_rfl⟩
theorem und202:(tt.at 202).d.Is Tryz.prog 202:=⟨_,_,_,rfl⟩
theorem inf202:ay Tryz.prog tt 202:=⟨Tryz.t202,by kernel_rfl,by kernel_rfl,by kernel_rfl,by kernel_rfl⟩
theorem und203:(tt.at 203).d.Is Tryz.prog 203:=⟨_,_,_,rfl⟩
theorem inf203:ay Tryz.prog tt 203:=⟨Tryz.t203,by kernel_rfl,by kernel_rfl,by kernel_rfl,by kernel_rfl⟩
theorem und204:(tt.at 204).d.Is Tryz.prog 204:=(by kernel_rfl:Tryz.prog.underlying 204=some (.pointer 206))
theorem inf204:ay Tryz.prog tt 204:=⟨Tryz.t204,by kernel_rfl,by kernel_rfl,by kernel_rfl,by kernel_rfl⟩
theorem und205:(tt.at 205).d.Is Tryz.prog 205:=⟨Tryz.prog.fieldsOf 205,by kernel_rfl,by kernel_rfl⟩
theorem inf205:ay Tryz.prog tt 205:=⟨Tryz.t205,by kernel_rfl,by kernel_rfl,by kernel_rfl,by kernel_rfl⟩
theorem und206:(tt.at 206).d.Is Tryz.prog 206:=⟨Tryz.prog.fieldsOf 206,by kernel_rfl,by kernel_rfl⟩
theorem inf206:ay Tryz.prog tt 206:=⟨Tryz.t206,by kernel_rfl,by kernel_rfl,by kernel_rfl,by kernel_rfl⟩
theorem und207:(tt.at 207).d.Is Tryz.prog 207:=(by kernel_rfl:Tryz.prog.underlying 207=some (.array 32 5))
theorem inf207:ay Tryz.prog tt 207:=⟨Tryz.t207,by kernel_rfl,by kernel_rfl,by kernel_rfl,by kernel_rfl⟩
theorem und208:(tt.at 208).d.Is Tryz.prog 208:=(by kernel_rfl:Tryz.prog.underlying 208=some (.array 64 5))
theorem inf208:ay Tryz.prog tt 208:=⟨Tryz.t208,by kernel_rfl,by kernel_rfl,by kernel_rfl,by kernel_rfl⟩
theorem und209:(tt.at 209).d.Is Tryz.prog 209:=⟨Tryz.prog.fieldsOf 209,by kernel_rfl,by kernel_rfl⟩
theorem inf209:ay Tryz.prog tt 209:=⟨Tryz.t209,by kernel_rfl,by kernel_rfl,by kernel_rfl,by kernel_rfl⟩
theorem und210:(tt.at 210).d.Is Tryz.prog 210:=⟨Tryz.prog.fieldsOf 210,by kernel_rfl,by kernel_rfl⟩
theorem inf210:ay Tryz.prog tt 210:=⟨Tryz.t210,by kernel_rfl,by kernel_rfl,by kernel_rfl,by kernel_rfl⟩
theorem und211:(tt.at 211).d.Is Tryz.prog 211:=(by kernel_rfl:Tryz.prog.underlying 211=some (.array 0 16))
theorem inf211:ay Tryz.prog tt 211:=⟨Tryz.t211,by kernel_rfl,by kernel_rfl,by kernel_rfl,by kernel_rfl⟩
theorem und212:(tt.at 212).d.Is Tryz.prog 212:=⟨Tryz.prog.fieldsOf 212,by kernel_rfl,by kernel_rfl⟩
theorem inf212:ay Tryz.prog tt 212:=⟨Tryz.t212,by kernel_rfl,by kernel_rfl,by kernel_rfl,by kernel_rfl⟩
theorem und213:(tt.at 213).d.Is Tryz.prog 213:=⟨Tryz.prog.fieldsOf 213,by kernel_rfl,by kernel_rfl⟩
theorem inf213:ay Tryz.prog tt 213:=⟨Tryz.t213,by kernel_rfl,by kernel_rfl,by kernel_rfl,by kernel_rfl⟩
theorem und214:(tt.at 214).d.Is Tryz.prog 214:=(by kernel_rfl:Tryz.prog.underlying 214=some (.int .u8))
theorem inf214:ay Tryz.prog tt 214:=⟨Tryz.t214,by kernel_rfl,by kernel_rfl,by kernel_rfl,by kernel_rfl⟩
theorem und215:(tt.at 215).d.Is Tryz.prog 215:=(by kernel_rfl:Tryz.prog.underlying 215=some (.int .u8))
theorem inf215:ay Tryz.prog tt 215:=⟨Tryz.t215,by kernel_rfl,by kernel_rfl,by kernel_rfl,by kernel_rfl⟩
theorem und216:(tt.at 216).d.Is Tryz.prog 216:=⟨_,_,_,rfl⟩
theorem inf216:ay Tryz.prog tt 216:=⟨Tryz.t216,by kernel_rfl,by kernel_rfl,by kernel_rfl,by kernel_rfl⟩
theorem und217:(tt.at 217).d.Is Tryz.prog 217:=(by kernel_rfl:Tryz.prog.underlying 217=some (.int .i32))
theorem inf217:ay Tryz.prog tt 217:=⟨Tryz.t217,by kernel_rfl,by kernel_rfl,by kernel_rfl,by kernel_rfl⟩
theorem und218:(tt.at 218).d.Is Tryz.prog 218:=(by kernel_rfl:Tryz.prog.underlying 218=some (.int .i32))
theorem inf218:ay Tryz.prog tt 218:=⟨Tryz.t218,by kernel_rfl,by kernel_rfl,by kernel_rfl,by kernel_rfl⟩
theorem und219:(tt.at 219).d.Is Tryz.prog 219:=⟨Tryz.prog.fieldsOf 219,by kernel_rfl,by kernel_rfl⟩
theorem inf219:ay Tryz.prog tt 219:=⟨Tryz.t219,by kernel_rfl,by kernel_rfl,by kernel_rfl,by kernel_rfl⟩
theorem und220:(tt.at 220).d.Is Tryz.prog 220:=⟨Tryz.prog.fieldsOf 220,by kernel_rfl,by kernel_rfl⟩
theorem inf220:ay Tryz.prog tt 220:=⟨Tryz.t220,by kernel_rfl,by kernel_rfl,by kernel_rfl,by kernel_rfl⟩
theorem TTund:∀t,(tt.at t).d.Is Tryz.prog t:=fun t=>match t with
 | 0=>trivial
 | 1=>und1
 | 2=>und2
 | 3=>und3
 | 4=>und4
 | 5=>und5
 | 6=>und6
 | 7=>und7
 | 8=>und8
 | 9=>und9
 | 10=>und10
 | 11=>und11
 | 12=>und12
 | 13=>und13
 | 14=>und14
 | 15=>und15
 | 16=>und16
 | 17=>und17
 | 18=>und18
 | 19=>und19
 | 20=>und20
 | 21=>und21
 | 22=>und22
 | 23=>und23
 | 24=>und24
 | 25=>und25
 | 26=>und26
 | 27=>und27
 | 28=>und28
 | 29=>und29
 | 30=>und30
 | 31=>und31
 | 32=>und32
 | 33=>und33
 | 34=>und34
 | 35=>und35
 | 36=>trivial
 | 37=>und37
 | 38=>trivial
 | 39=>und39
 | 40=>und40
 | 41=>und41
 | 42=>und42
 | 43=>und43
 | 44=>und44
 | 45=>und45
 | 46=>und46
 | 47=>und47
 | 48=>und48
 | 49=>und49
 | 50=>trivial
 | 51=>und51
 | 52=>und52
 | 53=>und53
 | 54=>trivial
 | 55=>und55
 | 56=>und56
 | 57=>und57
 | 58=>und58
 | 59=>und59
 | 60=>und60
 | 61=>und61
 | 62=>und62
 | 63=>und63
 | 64=>und64
 | 65=>und65
 | 66=>und66
 | 67=>und67
 | 68=>und68
 | 69=>und69
 | 70=>und70
 | 71=>und71
 | 72=>und72
 | 73=>und73
 | 74=>und74
 | 75=>und75
 | 76=>und76
 | 77=>und77
 | 78=>und78
 | 79=>und79
 | 80=>und80
 | 81=>und81
 | 82=>und82
 | 83=>und83
 | 84=>und84
 | 85=>und85
 | 86=>und86
 | 87=>und87
 | 88=>und88
 | 89=>und89
 | 90=>trivial
 | 91=>und91
 | 92=>und92
 | 93=>und93
 | 94=>und94
 | 95=>und95
 | 96=>und96
 | 97=>trivial
 | 98=>und98
 | 99=>und99
 | 100=>und100
 | 101=>und101
 | 102=>und102
 | 103=>und103
 | 104=>und104
 | 105=>und105
 | 106=>und106
 | 107=>und107
 | 108=>und108
 | 109=>und109
 | 110=>und110
 | 111=>und111
 | 112=>und112
 | 113=>trivial
 | 114=>und114
 | 115=>trivial
 | 116=>und116
 | 117=>und117
 | 118=>und118
 | 119=>und119
 | 120=>und120
 | 121=>und121
 | 122=>und122
 | 123=>trivial
 | 124=>und124
 | 125=>und125
 | 126=>und126
 | 127=>und127
 | 128=>trivial
 | 129=>und129
 | 130=>und130
 | 131=>und131
 | 132=>und132
 | 133=>und133
 | 134=>und134
 | 135=>und135
 | 136=>trivial
 | 137=>und137
 | 138=>und138
 | 139=>und139
 | 140=>und140
 | 141=>und141
 | 142=>und142
 | 143=>und143
 | 144=>trivial
 | 145=>und145
 | 146=>und146
 | 147=>und147
 | 148=>und148
 | 149=>und149
 | 150=>und150
 | 151=>und151
 | 152=>und152
 | 153=>und153
 | 154=>und154
 | 155=>und155
 | 156=>trivial
 | 157=>und157
 | 158=>und158
 | 159=>und159
 | 160=>und160
 | 161=>und161
 | 162=>und162
 | 163=>und163
 | 164=>und164
 | 165=>und165
 | 166=>trivial
 | 167=>und167
 | 168=>und168
 | 169=>trivial
 | 170=>und170
 | 171=>und171
 | 172=>und172
 | 173=>und173
 | 174=>trivial
 | 175=>und175
 | 176=>und176
 | 177=>und177
 | 178=>und178
 | 179=>und179
 | 180=>trivial
 | 181=>und181
 | 182=>und182
 | 183=>und183
 | 184=>und184
 | 185=>trivial
 | 186=>und186
 | 187=>und187
 | 188=>und188
 | 189=>und189
 | 190=>und190
 | 191=>und191
 | 192=>und192
 | 193=>und193
 | 194=>und194
 | 195=>und195
 | 196=>und196
 | 197=>trivial
 | 198=>und198
 | 199=>und199
 | 200=>und200
 | 201=>und201
 | 202=>und202
 | 203=>und203
 | 204=>und204
 | 205=>und205
 | 206=>und206
 | 207=>und207
 | 208=>und208
 | 209=>und209
 | 210=>und210
 | 211=>und211
 | 212=>und212
 | 213=>und213
 | 214=>und214
 | 215=>und215
 | 216=>und216
 | 217=>und217
 | 218=>und218
 | 219=>und219
 | 220=>und220
 | k+221=>YP YS (Nat.le_add_left _ _)
theorem TTinf:∀t,tt.ok t=true→ay Tryz.prog tt t:=fun t=>match t with
 | 0=>fun h=>nomatch h
 | 1=>fun h=>inf1
 | 2=>fun h=>inf2
 | 3=>fun h=>inf3
 | 4=>fun h=>inf4
 | 5=>fun h=>inf5
 | 6=>fun h=>inf6
 | 7=>fun h=>inf7
 | 8=>fun h=>inf8
 | 9=>fun h=>inf9
 | 10=>fun h=>inf10
 | 11=>fun h=>inf11
 | 12=>fun h=>inf12
 | 13=>fun h=>inf13
 | 14=>fun h=>inf14
 | 15=>fun h=>inf15
 | 16=>fun h=>inf16
 | 17=>fun h=>inf17
 | 18=>fun h=>inf18
 | 19=>fun h=>inf19
 | 20=>fun h=>inf20
 | 21=>fun h=>inf21
 | 22=>fun h=>inf22
 | 23=>fun h=>inf23
 | 24=>fun h=>inf24
 | 25=>fun h=>inf25
 | 26=>fun h=>inf26
 | 27=>fun h=>inf27
 | 28=>fun h=>inf28
 | 29=>fun h=>inf29
 | 30=>fun h=>inf30
 | 31=>fun h=>inf31
 | 32=>fun h=>inf32
 | 33=>fun h=>inf33
 | 34=>fun h=>inf34
 | 35=>fun h=>inf35
 | 36=>fun h=>nomatch h
 | 37=>fun h=>inf37
 | 38=>fun h=>nomatch h
 | 39=>fun h=>inf39
 | 40=>fun h=>inf40
 | 41=>fun h=>inf41
 | 42=>fun h=>inf42
 | 43=>fun h=>inf43
 | 44=>fun h=>inf44
 | 45=>fun h=>inf45
 | 46=>fun h=>inf46
 | 47=>fun h=>inf47
 | 48=>fun h=>inf48
 | 49=>fun h=>inf49
 | 50=>fun h=>nomatch h
 | 51=>fun h=>inf51
 | 52=>fun h=>inf52
 | 53=>fun h=>inf53
 | 54=>fun h=>nomatch h
 | 55=>fun h=>inf55
 | 56=>fun h=>inf56
 | 57=>fun h=>inf57
 | 58=>fun h=>inf58
 | 59=>fun h=>inf59
 | 60=>fun h=>inf60
 | 61=>fun h=>inf61
 | 62=>fun h=>inf62
 | 63=>fun h=>inf63
 | 64=>fun h=>inf64
 | 65=>fun h=>inf65
 | 66=>fun h=>inf66
 | 67=>fun h=>inf67
 | 68=>fun h=>inf68
 | 69=>fun h=>inf69
 | 70=>fun h=>inf70
 | 71=>fun h=>inf71
 | 72=>fun h=>inf72
 | 73=>fun h=>inf73
 | 74=>fun h=>inf74
 | 75=>fun h=>inf75
 | 76=>fun h=>inf76
 | 77=>fun h=>inf77
 | 78=>fun h=>inf78
 | 79=>fun h=>inf79
 | 80=>fun h=>inf80
 | 81=>fun h=>inf81
 | 82=>fun h=>inf82
 | 83=>fun h=>inf83
 | 84=>fun h=>inf84
 | 85=>fun h=>inf85
 | 86=>fun h=>inf86
 | 87=>fun h=>inf87
 | 88=>fun h=>inf88
 | 89=>fun h=>inf89
 | 90=>fun h=>nomatch h
 | 91=>fun h=>inf91
 | 92=>fun h=>inf92
 | 93=>fun h=>inf93
 | 94=>fun h=>inf94
 | 95=>fun h=>inf95
 | 96=>fun h=>inf96
 | 97=>fun h=>nomatch h
 | 98=>fun h=>inf98
 | 99=>fun h=>inf99
 | 100=>fun h=>inf100
 | 101=>fun h=>inf101
 | 102=>fun h=>inf102
 | 103=>fun h=>inf103
 | 104=>fun h=>inf104
 | 105=>fun h=>inf105
 | 106=>fun h=>inf106
 | 107=>fun h=>inf107
 | 108=>fun h=>inf108
 | 109=>fun h=>inf109
 | 110=>fun h=>inf110
 | 111=>fun h=>inf111
 | 112=>fun h=>inf112
 | 113=>fun h=>nomatch h
 | 114=>fun h=>inf114
 | 115=>fun h=>nomatch h
 | 116=>fun h=>inf116
 | 117=>fun h=>inf117
 | 118=>fun h=>inf118
 | 119=>fun h=>inf119
 | 120=>fun h=>inf120
 | 121=>fun h=>inf121
 | 122=>fun h=>inf122
 | 123=>fun h=>nomatch h
 | 124=>fun h=>inf124
 | 125=>fun h=>inf125
 | 126=>fun h=>inf126
 | 127=>fun h=>inf127
 | 128=>fun h=>nomatch h
 | 129=>fun h=>inf129
 | 130=>fun h=>inf130
 | 131=>fun h=>inf131
 | 132=>fun h=>inf132
 | 133=>fun h=>inf133
 | 134=>fun h=>inf134
 | 135=>fun h=>inf135
 | 136=>fun h=>nomatch h
 | 137=>fun h=>inf137
 | 138=>fun h=>inf138
 | 139=>fun h=>inf139
 | 140=>fun h=>inf140
 | 141=>fun h=>inf141
 | 142=>fun h=>inf142
 | 143=>fun h=>inf143
 | 144=>fun h=>nomatch h
 | 145=>fun h=>inf145
 | 146=>fun h=>inf146
 | 147=>fun h=>inf147
 | 148=>fun h=>inf148
 | 149=>fun h=>inf149
 | 150=>fun h=>inf150
 | 151=>fun h=>inf151
 | 152=>fun h=>inf152
 | 153=>fun h=>inf153
 | 154=>fun h=>inf154
 | 155=>fun h=>inf155
 | 156=>fun h=>nomatch h
 | 157=>fun h=>inf157
 | 158=>fun h=>inf158
 | 159=>fun h=>inf159
 | 160=>fun h=>inf160
 | 161=>fun h=>inf161
 | 162=>fun h=>inf162
 | 163=>fun h=>inf163
 | 164=>fun h=>inf164
 | 165=>fun h=>inf165
 | 166=>fun h=>nomatch h
 | 167=>fun h=>inf167
 | 168=>fun h=>inf168
 | 169=>fun h=>nomatch h
 | 170=>fun h=>inf170
 | 171=>fun h=>inf171
 | 172=>fun h=>inf172
 | 173=>fun h=>inf173
 | 174=>fun h=>nomatch h
 | 175=>fun h=>inf175
 | 176=>fun h=>inf176
 | 177=>fun h=>inf177
 | 178=>fun h=>inf178
 | 179=>fun h=>inf179
 | 180=>fun h=>nomatch h
 | 181=>fun h=>inf181
 | 182=>fun h=>inf182
 | 183=>fun h=>inf183
 | 184=>fun h=>inf184
 | 185=>fun h=>nomatch h
 | 186=>fun h=>inf186
 | 187=>fun h=>inf187
 | 188=>fun h=>inf188
 | 189=>fun h=>inf189
 | 190=>fun h=>inf190
 | 191=>fun h=>inf191
 | 192=>fun h=>inf192
 | 193=>fun h=>inf193
 | 194=>fun h=>inf194
 | 195=>fun h=>inf195
 | 196=>fun h=>inf196
 | 197=>fun h=>nomatch h
 | 198=>fun h=>inf198
 | 199=>fun h=>inf199
 | 200=>fun h=>inf200
 | 201=>fun h=>inf201
 | 202=>fun h=>inf202
 | 203=>fun h=>inf203
 | 204=>fun h=>inf204
 | 205=>fun h=>inf205
 | 206=>fun h=>inf206
 | 207=>fun h=>inf207
 | 208=>fun h=>inf208
 | 209=>fun h=>inf209
 | 210=>fun h=>inf210
 | 211=>fun h=>inf211
 | 212=>fun h=>inf212
 | 213=>fun h=>inf213
 | 214=>fun h=>inf214
 | 215=>fun h=>inf215
 | 216=>fun h=>inf216
 | 217=>fun h=>inf217
 | 218=>fun h=>inf218
 | 219=>fun h=>inf219
 | 220=>fun h=>inf220
 | k+221=>fun h=>(ok_past YS (Nat.le_add_left _ _) h).elim
theorem eqf27:Jf Tryz.prog tt 27 := .of (by kernel_rfl) (by kernel_rfl) (by kernel_rfl) (by kernel_rfl)
theorem eqf53:Jf Tryz.prog tt 53 := .of (by kernel_rfl) (by kernel_rfl) (by kernel_rfl) (by kernel_rfl)
theorem TTeq:∀t,(tt.at t).eq=true→Jf Tryz.prog tt t:=fun t=>match t with
 | 0=>fun h=>nomatch h
 | 1=>fun h=>nomatch h
 | 2=>fun h=>nomatch h
 | 3=>fun h=>nomatch h
 | 4=>fun h=>nomatch h
 | 5=>fun h=>nomatch h
 | 6=>fun h=>nomatch h
 | 7=>fun h=>nomatch h
 | 8=>fun h=>nomatch h
 | 9=>fun h=>nomatch h
 | 10=>fun h=>nomatch h
 | 11=>fun h=>nomatch h
 | 12=>fun h=>nomatch h
 | 13=>fun h=>nomatch h
 | 14=>fun h=>nomatch h
 | 15=>fun h=>nomatch h
 | 16=>fun h=>nomatch h
 | 17=>fun h=>nomatch h
 | 18=>fun h=>nomatch h
 | 19=>fun h=>nomatch h
 | 20=>fun h=>nomatch h
 | 21=>fun h=>nomatch h
 | 22=>fun h=>nomatch h
 | 23=>fun h=>nomatch h
 | 24=>fun h=>nomatch h
 | 25=>fun h=>nomatch h
 | 26=>fun h=>nomatch h
 | 27=>fun h=>eqf27
 | 28=>fun h=>nomatch h
 | 29=>fun h=>nomatch h
 | 30=>fun h=>nomatch h
 | 31=>fun h=>nomatch h
 | 32=>fun h=>nomatch h
 | 33=>fun h=>nomatch h
 | 34=>fun h=>nomatch h
 | 35=>fun h=>nomatch h
 | 36=>fun h=>nomatch h
 | 37=>fun h=>nomatch h
 | 38=>fun h=>nomatch h
 | 39=>fun h=>nomatch h
 | 40=>fun h=>nomatch h
 | 41=>fun h=>nomatch h
 | 42=>fun h=>nomatch h
 | 43=>fun h=>nomatch h
 | 44=>fun h=>nomatch h
 | 45=>fun h=>nomatch h
 | 46=>fun h=>nomatch h
 | 47=>fun h=>nomatch h
 | 48=>fun h=>nomatch h
 | 49=>fun h=>nomatch h
 | 50=>fun h=>nomatch h
 | 51=>fun h=>nomatch h
 | 52=>fun h=>nomatch h
 | 53=>fun h=>eqf53
 | 54=>fun h=>nomatch h
 | 55=>fun h=>nomatch h
 | 56=>fun h=>nomatch h
 | 57=>fun h=>nomatch h
 | 58=>fun h=>nomatch h
 | 59=>fun h=>nomatch h
 | 60=>fun h=>nomatch h
 | 61=>fun h=>nomatch h
 | 62=>fun h=>nomatch h
 | 63=>fun h=>nomatch h
 | 64=>fun h=>nomatch h
 | 65=>fun h=>nomatch h
 | 66=>fun h=>nomatch h
 | 67=>fun h=>nomatch h
 | 68=>fun h=>nomatch h
 | 69=>fun h=>nomatch h
 | 70=>fun h=>nomatch h
 | 71=>fun h=>nomatch h
 | 72=>fun h=>nomatch h
 | 73=>fun h=>nomatch h
 | 74=>fun h=>nomatch h
 | 75=>fun h=>nomatch h
 | 76=>fun h=>nomatch h
 | 77=>fun h=>nomatch h
 | 78=>fun h=>nomatch h
 | 79=>fun h=>nomatch h
 | 80=>fun h=>nomatch h
 | 81=>fun h=>nomatch h
 | 82=>fun h=>nomatch h
 | 83=>fun h=>nomatch h
 | 84=>fun h=>nomatch h
 | 85=>fun h=>nomatch h
 | 86=>fun h=>nomatch h
 | 87=>fun h=>nomatch h
 | 88=>fun h=>nomatch h
 | 89=>fun h=>nomatch h
 | 90=>fun h=>nomatch h
 | 91=>fun h=>nomatch h
 | 92=>fun h=>nomatch h
 | 93=>fun h=>nomatch h
 | 94=>fun h=>nomatch h
 | 95=>fun h=>nomatch h
 | 96=>fun h=>nomatch h
 | 97=>fun h=>nomatch h
 | 98=>fun h=>nomatch h
 | 99=>fun h=>nomatch h
 | 100=>fun h=>nomatch h
 | 101=>fun h=>nomatch h
 | 102=>fun h=>nomatch h
 | 103=>fun h=>nomatch h
 | 104=>fun h=>nomatch h
 | 105=>fun h=>nomatch h
 | 106=>fun h=>nomatch h
 | 107=>fun h=>nomatch h
 | 108=>fun h=>nomatch h
 | 109=>fun h=>nomatch h
 | 110=>fun h=>nomatch h
 | 111=>fun h=>nomatch h
 | 112=>fun h=>nomatch h
 | 113=>fun h=>nomatch h
 | 114=>fun h=>nomatch h
 | 115=>fun h=>nomatch h
 | 116=>fun h=>nomatch h
 | 117=>fun h=>nomatch h
 | 118=>fun h=>nomatch h
 | 119=>fun h=>nomatch h
 | 120=>fun h=>nomatch h
 | 121=>fun h=>nomatch h
 | 122=>fun h=>nomatch h
 | 123=>fun h=>nomatch h
 | 124=>fun h=>nomatch h
 | 125=>fun h=>nomatch h
 | 126=>fun h=>nomatch h
 | 127=>fun h=>nomatch h
 | 128=>fun h=>nomatch h
 | 129=>fun h=>nomatch h
 | 130=>fun h=>nomatch h
 | 131=>fun h=>nomatch h
 | 132=>fun h=>nomatch h
 | 133=>fun h=>nomatch h
 | 134=>fun h=>nomatch h
 | 135=>fun h=>nomatch h
 | 136=>fun h=>nomatch h
 | 137=>fun h=>nomatch h
 | 138=>fun h=>nomatch h
 | 139=>fun h=>nomatch h
 | 140=>fun h=>nomatch h
 | 141=>fun h=>nomatch h
 | 142=>fun h=>nomatch h
 | 143=>fun h=>nomatch h
 | 144=>fun h=>nomatch h
 | 145=>fun h=>nomatch h
 | 146=>fun h=>nomatch h
 | 147=>fun h=>nomatch h
 | 148=>fun h=>nomatch h
 | 149=>fun h=>nomatch h
 | 150=>fun h=>nomatch h
 | 151=>fun h=>nomatch h
 | 152=>fun h=>nomatch h
 | 153=>fun h=>nomatch h
 | 154=>fun h=>nomatch h
 | 155=>fun h=>nomatch h
 | 156=>fun h=>nomatch h
 | 157=>fun h=>nomatch h
 | 158=>fun h=>nomatch h
 | 159=>fun h=>nomatch h
 | 160=>fun h=>nomatch h
 | 161=>fun h=>nomatch h
 | 162=>fun h=>nomatch h
 | 163=>fun h=>nomatch h
 | 164=>fun h=>nomatch h
 | 165=>fun h=>nomatch h
 | 166=>fun h=>nomatch h
 | 167=>fun h=>nomatch h
 | 168=>fun h=>nomatch h
 | 169=>fun h=>nomatch h
 | 170=>fun h=>nomatch h
 | 171=>fun h=>nomatch h
 | 172=>fun h=>nomatch h
 | 173=>fun h=>nomatch h
 | 174=>fun h=>nomatch h
 | 175=>fun h=>nomatch h
 | 176=>fun h=>nomatch h
 | 177=>fun h=>nomatch h
 | 178=>fun h=>nomatch h
 | 179=>fun h=>nomatch h
 | 180=>fun h=>nomatch h
 | 181=>fun h=>nomatch h
 | 182=>fun h=>nomatch h
 | 183=>fun h=>nomatch h
 | 184=>fun h=>nomatch h
 | 185=>fun h=>nomatch h
 | 186=>fun h=>nomatch h
 | 187=>fun h=>nomatch h
 | 188=>fun h=>nomatch h
 | 189=>fun h=>nomatch h
 | 190=>fun h=>nomatch h
 | 191=>fun h=>nomatch h
 | 192=>fun h=>nomatch h
 | 193=>fun h=>nomatch h
 | 194=>fun h=>nomatch h
 | 195=>fun h=>nomatch h
 | 196=>fun h=>nomatch h
 | 197=>fun h=>nomatch h
 | 198=>fun h=>nomatch h
 | 199=>fun h=>nomatch h
 | 200=>fun h=>nomatch h
 | 201=>fun h=>nomatch h
 | 202=>fun h=>nomatch h
 | 203=>fun h=>nomatch h
 | 204=>fun h=>nomatch h
 | 205=>fun h=>nomatch h
 | 206=>fun h=>nomatch h
 | 207=>fun h=>nomatch h
 | 208=>fun h=>nomatch h
 | 209=>fun h=>nomatch h
 | 210=>fun h=>nomatch h
 | 211=>fun h=>nomatch h
 | 212=>fun h=>nomatch h
 | 213=>fun h=>nomatch h
 | 214=>fun h=>nomatch h
 | 215=>fun h=>nomatch h
 | 216=>fun h=>nomatch h
 | 217=>fun h=>nomatch h
 | 218=>fun h=>nomatch h
 | 219=>fun h=>nomatch h
 | 220=>fun h=>nomatch h
 | k+221=>fun h=>(eq_past YS (Nat.le_add_left _ _) h).elim
theorem TTeqs:∀t,∀(w:World) (h:aG) (c:js) (cs ds:List V) (xs ys:Array Value) (b:Bool),O5 (tt.at t) cs ds=true→cy w h c cs xs.toList→cy w h c ds ys.toList →
  lB cs ds=some b→Tryz.prog.eqGuardType Tryz.prog.depth t=false∧(Op.equalIn 10000 t (.agg xs) (.agg ys)).run Tryz.prog w = .ok b w :=
 fun t _ _ _ _ _ _ _ _ hk rx ry hb=>YQ (TTeq t (eqOk_eq hk)) hk rx ry hb
theorem TT:vS Tryz.prog tt:=⟨TTund,fun t h=>(TTinf t h).spec,TTeqs,u8s_of (by kernel_rfl),blds_of (by kernel_rfl),fun t h=>(TTinf t h).one⟩
theorem mixed:Tryz.prog.follows .mixedOrders=true:=by kernel_rfl
end Go.Proofs.YtmlkkgfenfdndaaGreatDoor

set_option maxRecDepth 100000
namespace Go.Proofs
open Go.Shelf
def Tryz.S3:Go.Shelf.Ren:=⟨fun|196=>72|259=>111|n=>n,fun|9=>9|4=>4|3=>3|5=>5|12=>12|119=>152|0=>0|46=>79|139=>155|138=>154|53=>165|n=>n,fun|3=>1|4=>2|n=>n⟩
theorem Tryz.YT:Go.Proofs.Lays.n196 Tryz.prog Tryz.S3 := {
 mixed:=by kernel_rfl
 f196:=Tryz.func72.trans (congrArg some (by kernel_rfl))
 f259:=Tryz.func111.trans (congrArg some (by kernel_rfl))
 t0:=Tryz.underlying0
 a0:=Tryz.isAgg0
 z0:=Tryz.sizeOf0
 v0:=Tryz.zeroValue0
 t3:=Tryz.underlying3
 a3:=Tryz.isAgg3
 z3:=Tryz.sizeOf3
 v3:=Tryz.zeroValue3
 t4:=Tryz.underlying4
 a4:=Tryz.isAgg4
 z4:=Tryz.sizeOf4
 v4:=Tryz.zeroValue4
 t5:=Tryz.underlying5
 a5:=Tryz.isAgg5
 z5:=Tryz.sizeOf5
 v5:=Tryz.zeroValue5
 t9:=Tryz.underlying9
 a9:=Tryz.isAgg9
 z9:=Tryz.sizeOf9
 v9:=Tryz.zeroValue9
 t12:=Tryz.underlying12
 a12:=Tryz.isAgg12
 z12:=Tryz.sizeOf12
 v12:=Tryz.zeroValue12
 t46:=Tryz.underlying79
 a46:=Tryz.isAgg79
 z46:=Tryz.sizeOf79
 v46:=Tryz.zeroValue79
 t53:=Tryz.underlying165
 a53:=Tryz.isAgg165
 z53:=Tryz.sizeOf165
 v53:=Tryz.zeroValue165
 t119:=Tryz.underlying152
 a119:=Tryz.isAgg152
 z119:=Tryz.sizeOf152
 t138:=Tryz.underlying154
 a138:=Tryz.isAgg154
 z138:=Tryz.sizeOf154
 v138:=Tryz.zeroValue154
 t139:=Tryz.underlying155
 a139:=Tryz.isAgg155
 z139:=Tryz.sizeOf155
 v139:=Tryz.zeroValue155
 g3:=by kernel_rfl
 g4:=by kernel_rfl }

def Tryz.S4:Go.Shelf.Ren:=⟨fun|197=>130|260=>148|n=>n,fun|9=>9|21=>21|3=>3|4=>4|5=>5|105=>169|119=>152|0=>0|46=>79|139=>155|138=>154|n=>n,fun|3=>1|4=>2|n=>n⟩
theorem Tryz.lay197:Go.Proofs.Lays.n197 Tryz.prog Tryz.S4 := {
 mixed:=by kernel_rfl
 f197:=Tryz.func130.trans (congrArg some (by kernel_rfl))
 f260:=Tryz.func148.trans (congrArg some (by kernel_rfl))
 t0:=Tryz.underlying0
 a0:=Tryz.isAgg0
 z0:=Tryz.sizeOf0
 v0:=Tryz.zeroValue0
 t3:=Tryz.underlying3
 a3:=Tryz.isAgg3
 z3:=Tryz.sizeOf3
 v3:=Tryz.zeroValue3
 t4:=Tryz.underlying4
 a4:=Tryz.isAgg4
 z4:=Tryz.sizeOf4
 v4:=Tryz.zeroValue4
 t5:=Tryz.underlying5
 a5:=Tryz.isAgg5
 z5:=Tryz.sizeOf5
 v5:=Tryz.zeroValue5
 t9:=Tryz.underlying9
 a9:=Tryz.isAgg9
 z9:=Tryz.sizeOf9
 v9:=Tryz.zeroValue9
 t21:=Tryz.underlying21
 a21:=Tryz.isAgg21
 z21:=Tryz.sizeOf21
 v21:=Tryz.zeroValue21
 t46:=Tryz.underlying79
 a46:=Tryz.isAgg79
 z46:=Tryz.sizeOf79
 v46:=Tryz.zeroValue79
 t105:=Tryz.underlying169
 a105:=Tryz.isAgg169
 z105:=Tryz.sizeOf169
 v105:=Tryz.zeroValue169
 t119:=Tryz.underlying152
 a119:=Tryz.isAgg152
 z119:=Tryz.sizeOf152
 t138:=Tryz.underlying154
 a138:=Tryz.isAgg154
 z138:=Tryz.sizeOf154
 v138:=Tryz.zeroValue154
 t139:=Tryz.underlying155
 a139:=Tryz.isAgg155
 z139:=Tryz.sizeOf155
 v139:=Tryz.zeroValue155
 g3:=by kernel_rfl
 g4:=by kernel_rfl }

def Tryz.S5:Go.Shelf.Ren:=⟨fun|171=>66|243=>92|246=>124|283=>143|284=>144|285=>145|286=>146|129=>161|317=>160|318=>162|319=>163|320=>164|337=>174|338=>175|n=>n,fun|3=>3|9=>9|2=>2|4=>4|171=>177|0=>0|53=>165|37=>41|5=>5|173=>180|212=>192|51=>76|20=>20|213=>193|46=>79|232=>207|233=>208|n=>n,fun|17=>3|18=>6|19=>7|n=>n⟩
theorem Tryz.lay171:Go.Proofs.LaysM.n171 Tryz.prog Tryz.S5 := {
 mixed:=by kernel_rfl
 f129:=Tryz.func161.trans (congrArg some (by kernel_rfl))
 f171:=Tryz.func66.trans (congrArg some (by kernel_rfl))
 f243:=Tryz.func92.trans (congrArg some (by kernel_rfl))
 f246:=Tryz.func124.trans (congrArg some (by kernel_rfl))
 f283:=Tryz.func143.trans (congrArg some (by kernel_rfl))
 f284:=Tryz.func144.trans (congrArg some (by kernel_rfl))
 f285:=Tryz.func145.trans (congrArg some (by kernel_rfl))
 f286:=Tryz.func146.trans (congrArg some (by kernel_rfl))
 f317:=Tryz.func160.trans (congrArg some (by kernel_rfl))
 f318:=Tryz.func162.trans (congrArg some (by kernel_rfl))
 f319:=Tryz.func163.trans (congrArg some (by kernel_rfl))
 f320:=Tryz.func164.trans (congrArg some (by kernel_rfl))
 f337:=Tryz.func174.trans (congrArg some (by kernel_rfl))
 f338:=Tryz.func175.trans (congrArg some (by kernel_rfl))
 t0:=Tryz.underlying0
 a0:=Tryz.isAgg0
 z0:=Tryz.sizeOf0
 v0:=Tryz.zeroValue0
 t2:=Tryz.underlying2
 a2:=Tryz.isAgg2
 z2:=Tryz.sizeOf2
 v2:=Tryz.zeroValue2
 t3:=Tryz.underlying3
 a3:=Tryz.isAgg3
 z3:=Tryz.sizeOf3
 v3:=Tryz.zeroValue3
 t4:=Tryz.underlying4
 a4:=Tryz.isAgg4
 z4:=Tryz.sizeOf4
 v4:=Tryz.zeroValue4
 t5:=Tryz.underlying5
 a5:=Tryz.isAgg5
 z5:=Tryz.sizeOf5
 v5:=Tryz.zeroValue5
 t9:=Tryz.underlying9
 a9:=Tryz.isAgg9
 z9:=Tryz.sizeOf9
 v9:=Tryz.zeroValue9
 t20:=Tryz.underlying20
 a20:=Tryz.isAgg20
 z20:=Tryz.sizeOf20
 v20:=Tryz.zeroValue20
 t37:=Tryz.underlying41
 a37:=Tryz.isAgg41
 z37:=Tryz.sizeOf41
 v37:=Tryz.zeroValue41
 t46:=Tryz.underlying79
 a46:=Tryz.isAgg79
 z46:=Tryz.sizeOf79
 v46:=Tryz.zeroValue79
 t51:=Tryz.underlying76
 a51:=Tryz.isAgg76
 z51:=Tryz.sizeOf76
 v51:=Tryz.zeroValue76
 t53:=Tryz.underlying165
 a53:=Tryz.isAgg165
 z53:=Tryz.sizeOf165
 v53:=Tryz.zeroValue165
 t171:=Tryz.underlying177
 a171:=Tryz.isAgg177
 z171:=Tryz.sizeOf177
 v171:=Tryz.zeroValue177
 t173:=Tryz.underlying180
 a173:=Tryz.isAgg180
 z173:=Tryz.sizeOf180
 v173:=Tryz.zeroValue180
 t212:=Tryz.underlying192
 a212:=Tryz.isAgg192
 z212:=Tryz.sizeOf192
 v212:=Tryz.zeroValue192
 t213:=Tryz.underlying193
 a213:=Tryz.isAgg193
 z213:=Tryz.sizeOf193
 t232:=Tryz.underlying207
 a232:=Tryz.isAgg207
 z232:=Tryz.sizeOf207
 v232:=Tryz.zeroValue207
 t233:=Tryz.underlying208
 a233:=Tryz.isAgg208
 z233:=Tryz.sizeOf208
 v233:=Tryz.zeroValue208
 g17:=by kernel_rfl
 g18:=by kernel_rfl
 g19:=by kernel_rfl
 i0:=by kernel_rfl
 i2:=by kernel_rfl
 i3:=by kernel_rfl
 i4:=by kernel_rfl
 i5:=by kernel_rfl
 i9:=by kernel_rfl
 i20:=by kernel_rfl
 i37:=by kernel_rfl
 i46:=by kernel_rfl
 i51:=by kernel_rfl
 i53:=by kernel_rfl
 i171:=by kernel_rfl
 i173:=by kernel_rfl
 i212:=by kernel_rfl
 i232:=by kernel_rfl
 i233:=by kernel_rfl
 m17:=by kernel_rfl
 m18:=by kernel_rfl
 m19:=by kernel_rfl }

def Tryz.CY:Go.Shelf.Ren:=⟨fun|105=>67|212=>93|99=>94|165=>95|166=>52|170=>96|169=>39|263=>125|264=>126|206=>127|240=>73|241=>128|276=>112|277=>147|n=>n,fun|9=>9|3=>3|4=>4|20=>20|0=>0|46=>79|109=>128|5=>5|72=>73|76=>97|51=>76|146=>123|53=>165|148=>166|70=>71|37=>41|75=>94|127=>106|164=>156|80=>75|n=>n,fun|n=>n⟩
theorem Tryz.YU:Go.Proofs.Lays.n105 Tryz.prog Tryz.CY := {
 mixed:=by kernel_rfl
 f99:=Tryz.func94.trans (congrArg some (by kernel_rfl))
 f105:=Tryz.func67.trans (congrArg some (by kernel_rfl))
 f165:=Tryz.func95.trans (congrArg some (by kernel_rfl))
 f166:=Tryz.func52.trans (congrArg some (by kernel_rfl))
 f169:=Tryz.func39.trans (congrArg some (by kernel_rfl))
 f170:=Tryz.func96.trans (congrArg some (by kernel_rfl))
 f206:=Tryz.func127.trans (congrArg some (by kernel_rfl))
 f212:=Tryz.func93.trans (congrArg some (by kernel_rfl))
 f240:=Tryz.func73.trans (congrArg some (by kernel_rfl))
 f241:=Tryz.func128.trans (congrArg some (by kernel_rfl))
 f263:=Tryz.func125.trans (congrArg some (by kernel_rfl))
 f264:=Tryz.func126.trans (congrArg some (by kernel_rfl))
 f276:=Tryz.func112.trans (congrArg some (by kernel_rfl))
 f277:=Tryz.func147.trans (congrArg some (by kernel_rfl))
 t0:=Tryz.underlying0
 a0:=Tryz.isAgg0
 z0:=Tryz.sizeOf0
 v0:=Tryz.zeroValue0
 t3:=Tryz.underlying3
 a3:=Tryz.isAgg3
 z3:=Tryz.sizeOf3
 v3:=Tryz.zeroValue3
 t4:=Tryz.underlying4
 a4:=Tryz.isAgg4
 z4:=Tryz.sizeOf4
 v4:=Tryz.zeroValue4
 t5:=Tryz.underlying5
 a5:=Tryz.isAgg5
 z5:=Tryz.sizeOf5
 v5:=Tryz.zeroValue5
 t9:=Tryz.underlying9
 a9:=Tryz.isAgg9
 z9:=Tryz.sizeOf9
 v9:=Tryz.zeroValue9
 t20:=Tryz.underlying20
 a20:=Tryz.isAgg20
 z20:=Tryz.sizeOf20
 v20:=Tryz.zeroValue20
 t37:=Tryz.underlying41
 a37:=Tryz.isAgg41
 z37:=Tryz.sizeOf41
 v37:=Tryz.zeroValue41
 t46:=Tryz.underlying79
 a46:=Tryz.isAgg79
 z46:=Tryz.sizeOf79
 v46:=Tryz.zeroValue79
 t51:=Tryz.underlying76
 a51:=Tryz.isAgg76
 z51:=Tryz.sizeOf76
 v51:=Tryz.zeroValue76
 t53:=Tryz.underlying165
 a53:=Tryz.isAgg165
 z53:=Tryz.sizeOf165
 v53:=Tryz.zeroValue165
 t70:=Tryz.underlying71
 a70:=Tryz.isAgg71
 z70:=Tryz.sizeOf71
 v70:=Tryz.zeroValue71
 t72:=Tryz.underlying73
 a72:=Tryz.isAgg73
 z72:=Tryz.sizeOf73
 v72:=Tryz.zeroValue73
 t75:=Tryz.underlying94
 a75:=Tryz.isAgg94
 z75:=Tryz.sizeOf94
 v75:=Tryz.zeroValue94
 t76:=Tryz.underlying97
 a76:=Tryz.isAgg97
 z76:=Tryz.sizeOf97
 v76:=Tryz.zeroValue97
 t109:=Tryz.underlying128
 a109:=Tryz.isAgg128
 z109:=Tryz.sizeOf128
 v109:=Tryz.zeroValue128
 t127:=Tryz.underlying106
 a127:=Tryz.isAgg106
 z127:=Tryz.sizeOf106
 v127:=Tryz.zeroValue106
 t146:=Tryz.underlying123
 a146:=Tryz.isAgg123
 z146:=Tryz.sizeOf123
 v146:=Tryz.zeroValue123
 t148:=Tryz.underlying166
 a148:=Tryz.isAgg166
 z148:=Tryz.sizeOf166
 v148:=Tryz.zeroValue166
 t164:=Tryz.underlying156
 a164:=Tryz.isAgg156
 z164:=Tryz.sizeOf156
 v164:=Tryz.zeroValue156 }

def Tryz.S6:Go.Shelf.Ren:=⟨fun|161=>68|231=>97|227=>98|233=>99|235=>100|228=>129|197=>130|151=>131|260=>148|152=>149|137=>71|119=>165|224=>166|225=>167|217=>110|266=>139|n=>n,fun|9=>9|4=>4|3=>3|5=>5|117=>136|116=>135|0=>0|124=>139|105=>169|21=>21|119=>152|46=>79|139=>155|138=>154|n=>n,fun|3=>1|4=>2|n=>n⟩
theorem Tryz.S7:Go.Proofs.Lays.n161 Tryz.prog Tryz.S6 := {
 mixed:=by kernel_rfl
 f119:=Tryz.func165.trans (congrArg some (by kernel_rfl))
 f137:=Tryz.func71.trans (congrArg some (by kernel_rfl))
 f151:=Tryz.func131.trans (congrArg some (by kernel_rfl))
 f152:=Tryz.func149.trans (congrArg some (by kernel_rfl))
 f161:=Tryz.func68.trans (congrArg some (by kernel_rfl))
 f197:=Tryz.func130.trans (congrArg some (by kernel_rfl))
 f217:=Tryz.func110.trans (congrArg some (by kernel_rfl))
 f224:=Tryz.func166.trans (congrArg some (by kernel_rfl))
 f225:=Tryz.func167.trans (congrArg some (by kernel_rfl))
 f227:=Tryz.func98.trans (congrArg some (by kernel_rfl))
 f228:=Tryz.func129.trans (congrArg some (by kernel_rfl))
 f231:=Tryz.func97.trans (congrArg some (by kernel_rfl))
 f233:=Tryz.func99.trans (congrArg some (by kernel_rfl))
 f235:=Tryz.func100.trans (congrArg some (by kernel_rfl))
 f260:=Tryz.func148.trans (congrArg some (by kernel_rfl))
 f266:=Tryz.func139.trans (congrArg some (by kernel_rfl))
 t0:=Tryz.underlying0
 a0:=Tryz.isAgg0
 z0:=Tryz.sizeOf0
 v0:=Tryz.zeroValue0
 t3:=Tryz.underlying3
 a3:=Tryz.isAgg3
 z3:=Tryz.sizeOf3
 v3:=Tryz.zeroValue3
 t4:=Tryz.underlying4
 a4:=Tryz.isAgg4
 z4:=Tryz.sizeOf4
 v4:=Tryz.zeroValue4
 t5:=Tryz.underlying5
 a5:=Tryz.isAgg5
 z5:=Tryz.sizeOf5
 v5:=Tryz.zeroValue5
 t9:=Tryz.underlying9
 a9:=Tryz.isAgg9
 z9:=Tryz.sizeOf9
 v9:=Tryz.zeroValue9
 t21:=Tryz.underlying21
 a21:=Tryz.isAgg21
 z21:=Tryz.sizeOf21
 v21:=Tryz.zeroValue21
 t46:=Tryz.underlying79
 a46:=Tryz.isAgg79
 z46:=Tryz.sizeOf79
 v46:=Tryz.zeroValue79
 t105:=Tryz.underlying169
 a105:=Tryz.isAgg169
 z105:=Tryz.sizeOf169
 v105:=Tryz.zeroValue169
 t116:=Tryz.underlying135
 a116:=Tryz.isAgg135
 z116:=Tryz.sizeOf135
 t117:=Tryz.underlying136
 a117:=Tryz.isAgg136
 z117:=Tryz.sizeOf136
 v117:=Tryz.zeroValue136
 t119:=Tryz.underlying152
 a119:=Tryz.isAgg152
 z119:=Tryz.sizeOf152
 t124:=Tryz.underlying139
 a124:=Tryz.isAgg139
 z124:=Tryz.sizeOf139
 v124:=Tryz.zeroValue139
 t138:=Tryz.underlying154
 a138:=Tryz.isAgg154
 z138:=Tryz.sizeOf154
 v138:=Tryz.zeroValue154
 t139:=Tryz.underlying155
 a139:=Tryz.isAgg155
 z139:=Tryz.sizeOf155
 v139:=Tryz.zeroValue155
 g3:=by kernel_rfl
 g4:=by kernel_rfl }

def Tryz.S8:Go.Shelf.Ren:=⟨fun|162=>104|232=>132|227=>98|234=>133|236=>134|228=>129|271=>150|151=>131|120=>168|197=>130|152=>149|260=>148|137=>71|119=>165|224=>166|225=>167|217=>110|266=>139|n=>n,fun|9=>9|4=>4|3=>3|5=>5|117=>136|116=>135|0=>0|124=>139|21=>21|105=>169|46=>79|119=>152|139=>155|138=>154|n=>n,fun|3=>1|4=>2|n=>n⟩
theorem Tryz.S9:Go.Proofs.Lays.n162 Tryz.prog Tryz.S8 := {
 mixed:=by kernel_rfl
 f119:=Tryz.func165.trans (congrArg some (by kernel_rfl))
 f120:=Tryz.func168.trans (congrArg some (by kernel_rfl))
 f137:=Tryz.func71.trans (congrArg some (by kernel_rfl))
 f151:=Tryz.func131.trans (congrArg some (by kernel_rfl))
 f152:=Tryz.func149.trans (congrArg some (by kernel_rfl))
 f162:=Tryz.func104.trans (congrArg some (by kernel_rfl))
 f197:=Tryz.func130.trans (congrArg some (by kernel_rfl))
 f217:=Tryz.func110.trans (congrArg some (by kernel_rfl))
 f224:=Tryz.func166.trans (congrArg some (by kernel_rfl))
 f225:=Tryz.func167.trans (congrArg some (by kernel_rfl))
 f227:=Tryz.func98.trans (congrArg some (by kernel_rfl))
 f228:=Tryz.func129.trans (congrArg some (by kernel_rfl))
 f232:=Tryz.func132.trans (congrArg some (by kernel_rfl))
 f234:=Tryz.func133.trans (congrArg some (by kernel_rfl))
 f236:=Tryz.func134.trans (congrArg some (by kernel_rfl))
 f260:=Tryz.func148.trans (congrArg some (by kernel_rfl))
 f266:=Tryz.func139.trans (congrArg some (by kernel_rfl))
 f271:=Tryz.func150.trans (congrArg some (by kernel_rfl))
 t0:=Tryz.underlying0
 a0:=Tryz.isAgg0
 z0:=Tryz.sizeOf0
 v0:=Tryz.zeroValue0
 t3:=Tryz.underlying3
 a3:=Tryz.isAgg3
 z3:=Tryz.sizeOf3
 v3:=Tryz.zeroValue3
 t4:=Tryz.underlying4
 a4:=Tryz.isAgg4
 z4:=Tryz.sizeOf4
 v4:=Tryz.zeroValue4
 t5:=Tryz.underlying5
 a5:=Tryz.isAgg5
 z5:=Tryz.sizeOf5
 v5:=Tryz.zeroValue5
 t9:=Tryz.underlying9
 a9:=Tryz.isAgg9
 z9:=Tryz.sizeOf9
 v9:=Tryz.zeroValue9
 t21:=Tryz.underlying21
 a21:=Tryz.isAgg21
 z21:=Tryz.sizeOf21
 v21:=Tryz.zeroValue21
 t46:=Tryz.underlying79
 a46:=Tryz.isAgg79
 z46:=Tryz.sizeOf79
 v46:=Tryz.zeroValue79
 t105:=Tryz.underlying169
 a105:=Tryz.isAgg169
 z105:=Tryz.sizeOf169
 v105:=Tryz.zeroValue169
 t116:=Tryz.underlying135
 a116:=Tryz.isAgg135
 z116:=Tryz.sizeOf135
 t117:=Tryz.underlying136
 a117:=Tryz.isAgg136
 z117:=Tryz.sizeOf136
 v117:=Tryz.zeroValue136
 t119:=Tryz.underlying152
 a119:=Tryz.isAgg152
 z119:=Tryz.sizeOf152
 t124:=Tryz.underlying139
 a124:=Tryz.isAgg139
 z124:=Tryz.sizeOf139
 v124:=Tryz.zeroValue139
 t138:=Tryz.underlying154
 a138:=Tryz.isAgg154
 z138:=Tryz.sizeOf154
 v138:=Tryz.zeroValue154
 t139:=Tryz.underlying155
 a139:=Tryz.isAgg155
 z139:=Tryz.sizeOf155
 v139:=Tryz.zeroValue155
 g3:=by kernel_rfl
 g4:=by kernel_rfl }

def Tryz.Ta:Go.Shelf.Ren:=⟨fun|172=>105|244=>135|245=>136|247=>151|279=>152|280=>153|281=>154|282=>155|287=>169|316=>170|171=>66|205=>171|321=>176|322=>177|243=>92|246=>124|283=>143|284=>144|285=>145|286=>146|129=>161|317=>160|318=>162|319=>163|320=>164|337=>174|338=>175|n=>n,fun|9=>9|3=>3|75=>94|76=>97|4=>4|5=>5|167=>184|37=>41|0=>0|85=>185|2=>2|168=>187|53=>165|175=>197|46=>79|210=>200|127=>106|145=>206|143=>204|21=>21|171=>177|173=>180|212=>192|51=>76|20=>20|213=>193|232=>207|233=>208|80=>75|n=>n,fun|15=>4|16=>5|17=>3|18=>6|19=>7|n=>n⟩
theorem Tryz.Tb:Go.Proofs.LaysC.n172 Tryz.prog Tryz.Ta := {
 mixed:=by kernel_rfl
 f129:=Tryz.func161.trans (congrArg some (by kernel_rfl))
 f171:=Tryz.func66.trans (congrArg some (by kernel_rfl))
 f172:=Tryz.func105.trans (congrArg some (by kernel_rfl))
 f205:=Tryz.func171.trans (congrArg some (by kernel_rfl))
 f243:=Tryz.func92.trans (congrArg some (by kernel_rfl))
 f244:=Tryz.func135.trans (congrArg some (by kernel_rfl))
 f245:=Tryz.func136.trans (congrArg some (by kernel_rfl))
 f246:=Tryz.func124.trans (congrArg some (by kernel_rfl))
 f247:=Tryz.func151.trans (congrArg some (by kernel_rfl))
 f279:=Tryz.func152.trans (congrArg some (by kernel_rfl))
 f280:=Tryz.func153.trans (congrArg some (by kernel_rfl))
 f281:=Tryz.func154.trans (congrArg some (by kernel_rfl))
 f282:=Tryz.func155.trans (congrArg some (by kernel_rfl))
 f283:=Tryz.func143.trans (congrArg some (by kernel_rfl))
 f284:=Tryz.func144.trans (congrArg some (by kernel_rfl))
 f285:=Tryz.func145.trans (congrArg some (by kernel_rfl))
 f286:=Tryz.func146.trans (congrArg some (by kernel_rfl))
 f287:=Tryz.func169.trans (congrArg some (by kernel_rfl))
 f316:=Tryz.func170.trans (congrArg some (by kernel_rfl))
 f317:=Tryz.func160.trans (congrArg some (by kernel_rfl))
 f318:=Tryz.func162.trans (congrArg some (by kernel_rfl))
 f319:=Tryz.func163.trans (congrArg some (by kernel_rfl))
 f320:=Tryz.func164.trans (congrArg some (by kernel_rfl))
 f321:=Tryz.func176.trans (congrArg some (by kernel_rfl))
 f322:=Tryz.func177.trans (congrArg some (by kernel_rfl))
 f337:=Tryz.func174.trans (congrArg some (by kernel_rfl))
 f338:=Tryz.func175.trans (congrArg some (by kernel_rfl))
 t0:=Tryz.underlying0
 a0:=Tryz.isAgg0
 z0:=Tryz.sizeOf0
 v0:=Tryz.zeroValue0
 t2:=Tryz.underlying2
 a2:=Tryz.isAgg2
 z2:=Tryz.sizeOf2
 v2:=Tryz.zeroValue2
 t3:=Tryz.underlying3
 a3:=Tryz.isAgg3
 z3:=Tryz.sizeOf3
 v3:=Tryz.zeroValue3
 t4:=Tryz.underlying4
 a4:=Tryz.isAgg4
 z4:=Tryz.sizeOf4
 v4:=Tryz.zeroValue4
 t5:=Tryz.underlying5
 a5:=Tryz.isAgg5
 z5:=Tryz.sizeOf5
 v5:=Tryz.zeroValue5
 t9:=Tryz.underlying9
 a9:=Tryz.isAgg9
 z9:=Tryz.sizeOf9
 v9:=Tryz.zeroValue9
 t20:=Tryz.underlying20
 a20:=Tryz.isAgg20
 z20:=Tryz.sizeOf20
 v20:=Tryz.zeroValue20
 t21:=Tryz.underlying21
 a21:=Tryz.isAgg21
 z21:=Tryz.sizeOf21
 v21:=Tryz.zeroValue21
 t37:=Tryz.underlying41
 a37:=Tryz.isAgg41
 z37:=Tryz.sizeOf41
 v37:=Tryz.zeroValue41
 t46:=Tryz.underlying79
 a46:=Tryz.isAgg79
 z46:=Tryz.sizeOf79
 v46:=Tryz.zeroValue79
 t51:=Tryz.underlying76
 a51:=Tryz.isAgg76
 z51:=Tryz.sizeOf76
 v51:=Tryz.zeroValue76
 t53:=Tryz.underlying165
 a53:=Tryz.isAgg165
 z53:=Tryz.sizeOf165
 v53:=Tryz.zeroValue165
 t75:=Tryz.underlying94
 a75:=Tryz.isAgg94
 z75:=Tryz.sizeOf94
 v75:=Tryz.zeroValue94
 t76:=Tryz.underlying97
 a76:=Tryz.isAgg97
 z76:=Tryz.sizeOf97
 v76:=Tryz.zeroValue97
 t85:=Tryz.underlying185
 a85:=Tryz.isAgg185
 z85:=Tryz.sizeOf185
 v85:=Tryz.zeroValue185
 t127:=Tryz.underlying106
 a127:=Tryz.isAgg106
 z127:=Tryz.sizeOf106
 v127:=Tryz.zeroValue106
 t143:=Tryz.underlying204
 a143:=Tryz.isAgg204
 z143:=Tryz.sizeOf204
 v143:=Tryz.zeroValue204
 t145:=Tryz.underlying206
 a145:=Tryz.isAgg206
 z145:=Tryz.sizeOf206
 v145:=Tryz.zeroValue206
 t167:=Tryz.underlying184
 a167:=Tryz.isAgg184
 z167:=Tryz.sizeOf184
 v167:=Tryz.zeroValue184
 t168:=Tryz.underlying187
 a168:=Tryz.isAgg187
 z168:=Tryz.sizeOf187
 v168:=Tryz.zeroValue187
 t171:=Tryz.underlying177
 a171:=Tryz.isAgg177
 z171:=Tryz.sizeOf177
 v171:=Tryz.zeroValue177
 t173:=Tryz.underlying180
 a173:=Tryz.isAgg180
 z173:=Tryz.sizeOf180
 v173:=Tryz.zeroValue180
 t175:=Tryz.underlying197
 a175:=Tryz.isAgg197
 z175:=Tryz.sizeOf197
 v175:=Tryz.zeroValue197
 t210:=Tryz.underlying200
 a210:=Tryz.isAgg200
 z210:=Tryz.sizeOf200
 v210:=Tryz.zeroValue200
 t212:=Tryz.underlying192
 a212:=Tryz.isAgg192
 z212:=Tryz.sizeOf192
 v212:=Tryz.zeroValue192
 t213:=Tryz.underlying193
 a213:=Tryz.isAgg193
 z213:=Tryz.sizeOf193
 t232:=Tryz.underlying207
 a232:=Tryz.isAgg207
 z232:=Tryz.sizeOf207
 v232:=Tryz.zeroValue207
 t233:=Tryz.underlying208
 a233:=Tryz.isAgg208
 z233:=Tryz.sizeOf208
 v233:=Tryz.zeroValue208
 g15:=by kernel_rfl
 g16:=by kernel_rfl
 g17:=by kernel_rfl
 g18:=by kernel_rfl
 g19:=by kernel_rfl
 t80:=Tryz.underlying75
 a80:=Tryz.isAgg75
 z80:=Tryz.sizeOf75
 v80:=Tryz.zeroValue75
 i0:=by kernel_rfl
 i2:=by kernel_rfl
 i3:=by kernel_rfl
 i4:=by kernel_rfl
 i5:=by kernel_rfl
 i9:=by kernel_rfl
 i20:=by kernel_rfl
 i21:=by kernel_rfl
 i37:=by kernel_rfl
 i46:=by kernel_rfl
 i51:=by kernel_rfl
 i53:=by kernel_rfl
 i75:=by kernel_rfl
 i76:=by kernel_rfl
 i80:=by kernel_rfl
 i85:=by kernel_rfl
 i127:=by kernel_rfl
 i143:=by kernel_rfl
 i145:=by kernel_rfl
 i167:=by kernel_rfl
 i168:=by kernel_rfl
 i171:=by kernel_rfl
 i173:=by kernel_rfl
 i175:=by kernel_rfl
 i210:=by kernel_rfl
 i212:=by kernel_rfl
 i232:=by kernel_rfl
 i233:=by kernel_rfl
 m15:=by kernel_rfl
 m16:=by kernel_rfl
 m17:=by kernel_rfl
 m18:=by kernel_rfl
 m19:=by kernel_rfl
 c0:=by kernel_rfl
 c2:=by kernel_rfl
 c3:=by kernel_rfl
 c4:=by kernel_rfl
 c5:=by kernel_rfl
 c9:=by kernel_rfl
 c20:=by kernel_rfl
 c21:=by kernel_rfl
 c37:=by kernel_rfl
 c46:=by kernel_rfl
 c51:=by kernel_rfl
 c53:=by kernel_rfl
 c75:=by kernel_rfl
 c76:=by kernel_rfl
 c80:=by kernel_rfl
 c85:=by kernel_rfl
 c127:=by kernel_rfl
 c143:=by kernel_rfl
 c145:=by kernel_rfl
 c167:=by kernel_rfl
 c168:=by kernel_rfl
 c171:=by kernel_rfl
 c173:=by kernel_rfl
 c175:=by kernel_rfl
 c210:=by kernel_rfl
 c212:=by kernel_rfl
 c213:=by kernel_rfl
 c232:=by kernel_rfl
 c233:=by kernel_rfl }

def Tryz.Tc:Go.Shelf.Ren:=⟨fun|245=>136|279=>152|280=>153|281=>154|282=>155|316=>170|171=>66|205=>171|243=>92|246=>124|283=>143|284=>144|285=>145|286=>146|129=>161|317=>160|318=>162|319=>163|320=>164|337=>174|338=>175|n=>n,fun|9=>9|3=>3|75=>94|167=>184|4=>4|168=>187|210=>200|37=>41|0=>0|127=>106|145=>206|143=>204|2=>2|171=>177|53=>165|5=>5|173=>180|212=>192|51=>76|20=>20|213=>193|46=>79|232=>207|233=>208|80=>75|n=>n,fun|15=>4|16=>5|17=>3|18=>6|19=>7|n=>n⟩
theorem Tryz.YV:Go.Proofs.LaysC.n245 Tryz.prog Tryz.Tc := {
 mixed:=by kernel_rfl
 f129:=Tryz.func161.trans (congrArg some (by kernel_rfl))
 f171:=Tryz.func66.trans (congrArg some (by kernel_rfl))
 f205:=Tryz.func171.trans (congrArg some (by kernel_rfl))
 f243:=Tryz.func92.trans (congrArg some (by kernel_rfl))
 f245:=Tryz.func136.trans (congrArg some (by kernel_rfl))
 f246:=Tryz.func124.trans (congrArg some (by kernel_rfl))
 f279:=Tryz.func152.trans (congrArg some (by kernel_rfl))
 f280:=Tryz.func153.trans (congrArg some (by kernel_rfl))
 f281:=Tryz.func154.trans (congrArg some (by kernel_rfl))
 f282:=Tryz.func155.trans (congrArg some (by kernel_rfl))
 f283:=Tryz.func143.trans (congrArg some (by kernel_rfl))
 f284:=Tryz.func144.trans (congrArg some (by kernel_rfl))
 f285:=Tryz.func145.trans (congrArg some (by kernel_rfl))
 f286:=Tryz.func146.trans (congrArg some (by kernel_rfl))
 f316:=Tryz.func170.trans (congrArg some (by kernel_rfl))
 f317:=Tryz.func160.trans (congrArg some (by kernel_rfl))
 f318:=Tryz.func162.trans (congrArg some (by kernel_rfl))
 f319:=Tryz.func163.trans (congrArg some (by kernel_rfl))
 f320:=Tryz.func164.trans (congrArg some (by kernel_rfl))
 f337:=Tryz.func174.trans (congrArg some (by kernel_rfl))
 f338:=Tryz.func175.trans (congrArg some (by kernel_rfl))
 t0:=Tryz.underlying0
 a0:=Tryz.isAgg0
 z0:=Tryz.sizeOf0
 v0:=Tryz.zeroValue0
 t2:=Tryz.underlying2
 a2:=Tryz.isAgg2
 z2:=Tryz.sizeOf2
 v2:=Tryz.zeroValue2
 t3:=Tryz.underlying3
 a3:=Tryz.isAgg3
 z3:=Tryz.sizeOf3
 v3:=Tryz.zeroValue3
 t4:=Tryz.underlying4
 a4:=Tryz.isAgg4
 z4:=Tryz.sizeOf4
 v4:=Tryz.zeroValue4
 t5:=Tryz.underlying5
 a5:=Tryz.isAgg5
 z5:=Tryz.sizeOf5
 v5:=Tryz.zeroValue5
 t9:=Tryz.underlying9
 a9:=Tryz.isAgg9
 z9:=Tryz.sizeOf9
 v9:=Tryz.zeroValue9
 t20:=Tryz.underlying20
 a20:=Tryz.isAgg20
 z20:=Tryz.sizeOf20
 v20:=Tryz.zeroValue20
 t37:=Tryz.underlying41
 a37:=Tryz.isAgg41
 z37:=Tryz.sizeOf41
 v37:=Tryz.zeroValue41
 t46:=Tryz.underlying79
 a46:=Tryz.isAgg79
 z46:=Tryz.sizeOf79
 v46:=Tryz.zeroValue79
 t51:=Tryz.underlying76
 a51:=Tryz.isAgg76
 z51:=Tryz.sizeOf76
 v51:=Tryz.zeroValue76
 t53:=Tryz.underlying165
 a53:=Tryz.isAgg165
 z53:=Tryz.sizeOf165
 v53:=Tryz.zeroValue165
 t75:=Tryz.underlying94
 a75:=Tryz.isAgg94
 z75:=Tryz.sizeOf94
 v75:=Tryz.zeroValue94
 t127:=Tryz.underlying106
 a127:=Tryz.isAgg106
 z127:=Tryz.sizeOf106
 v127:=Tryz.zeroValue106
 t143:=Tryz.underlying204
 a143:=Tryz.isAgg204
 z143:=Tryz.sizeOf204
 v143:=Tryz.zeroValue204
 t145:=Tryz.underlying206
 a145:=Tryz.isAgg206
 z145:=Tryz.sizeOf206
 v145:=Tryz.zeroValue206
 t167:=Tryz.underlying184
 a167:=Tryz.isAgg184
 z167:=Tryz.sizeOf184
 v167:=Tryz.zeroValue184
 t168:=Tryz.underlying187
 a168:=Tryz.isAgg187
 z168:=Tryz.sizeOf187
 v168:=Tryz.zeroValue187
 t171:=Tryz.underlying177
 a171:=Tryz.isAgg177
 z171:=Tryz.sizeOf177
 v171:=Tryz.zeroValue177
 t173:=Tryz.underlying180
 a173:=Tryz.isAgg180
 z173:=Tryz.sizeOf180
 v173:=Tryz.zeroValue180
 t210:=Tryz.underlying200
 a210:=Tryz.isAgg200
 z210:=Tryz.sizeOf200
 v210:=Tryz.zeroValue200
 t212:=Tryz.underlying192
 a212:=Tryz.isAgg192
 z212:=Tryz.sizeOf192
 v212:=Tryz.zeroValue192
 t213:=Tryz.underlying193
 a213:=Tryz.isAgg193
 z213:=Tryz.sizeOf193
 t232:=Tryz.underlying207
 a232:=Tryz.isAgg207
 z232:=Tryz.sizeOf207
 v232:=Tryz.zeroValue207
 t233:=Tryz.underlying208
 a233:=Tryz.isAgg208
 z233:=Tryz.sizeOf208
 v233:=Tryz.zeroValue208
 g15:=by kernel_rfl
 g16:=by kernel_rfl
 g17:=by kernel_rfl
 g18:=by kernel_rfl
 g19:=by kernel_rfl
 t80:=Tryz.underlying75
 a80:=Tryz.isAgg75
 z80:=Tryz.sizeOf75
 v80:=Tryz.zeroValue75
 i0:=by kernel_rfl
 i2:=by kernel_rfl
 i3:=by kernel_rfl
 i4:=by kernel_rfl
 i5:=by kernel_rfl
 i9:=by kernel_rfl
 i20:=by kernel_rfl
 i37:=by kernel_rfl
 i46:=by kernel_rfl
 i51:=by kernel_rfl
 i53:=by kernel_rfl
 i75:=by kernel_rfl
 i80:=by kernel_rfl
 i127:=by kernel_rfl
 i143:=by kernel_rfl
 i145:=by kernel_rfl
 i167:=by kernel_rfl
 i168:=by kernel_rfl
 i171:=by kernel_rfl
 i173:=by kernel_rfl
 i210:=by kernel_rfl
 i212:=by kernel_rfl
 i232:=by kernel_rfl
 i233:=by kernel_rfl
 m15:=by kernel_rfl
 m16:=by kernel_rfl
 m17:=by kernel_rfl
 m18:=by kernel_rfl
 m19:=by kernel_rfl
 c0:=by kernel_rfl
 c2:=by kernel_rfl
 c3:=by kernel_rfl
 c4:=by kernel_rfl
 c5:=by kernel_rfl
 c9:=by kernel_rfl
 c20:=by kernel_rfl
 c37:=by kernel_rfl
 c46:=by kernel_rfl
 c51:=by kernel_rfl
 c53:=by kernel_rfl
 c75:=by kernel_rfl
 c80:=by kernel_rfl
 c127:=by kernel_rfl
 c143:=by kernel_rfl
 c145:=by kernel_rfl
 c167:=by kernel_rfl
 c168:=by kernel_rfl
 c171:=by kernel_rfl
 c173:=by kernel_rfl
 c210:=by kernel_rfl
 c212:=by kernel_rfl
 c213:=by kernel_rfl
 c232:=by kernel_rfl
 c233:=by kernel_rfl }

def Tryz.Td:Go.Shelf.Ren:=⟨fun|150=>173|153=>178|152=>149|226=>179|227=>98|228=>129|137=>71|119=>165|224=>166|225=>167|217=>110|266=>139|n=>n,fun|9=>9|4=>4|3=>3|5=>5|21=>21|117=>136|116=>135|0=>0|46=>79|124=>139|n=>n,fun|n=>n⟩
theorem Tryz.lay150:Go.Proofs.Lays.n150 Tryz.prog Tryz.Td := {
 mixed:=by kernel_rfl
 f119:=Tryz.func165.trans (congrArg some (by kernel_rfl))
 f137:=Tryz.func71.trans (congrArg some (by kernel_rfl))
 f150:=Tryz.func173.trans (congrArg some (by kernel_rfl))
 f152:=Tryz.func149.trans (congrArg some (by kernel_rfl))
 f153:=Tryz.func178.trans (congrArg some (by kernel_rfl))
 f217:=Tryz.func110.trans (congrArg some (by kernel_rfl))
 f224:=Tryz.func166.trans (congrArg some (by kernel_rfl))
 f225:=Tryz.func167.trans (congrArg some (by kernel_rfl))
 f226:=Tryz.func179.trans (congrArg some (by kernel_rfl))
 f227:=Tryz.func98.trans (congrArg some (by kernel_rfl))
 f228:=Tryz.func129.trans (congrArg some (by kernel_rfl))
 f266:=Tryz.func139.trans (congrArg some (by kernel_rfl))
 t0:=Tryz.underlying0
 a0:=Tryz.isAgg0
 z0:=Tryz.sizeOf0
 v0:=Tryz.zeroValue0
 t3:=Tryz.underlying3
 a3:=Tryz.isAgg3
 z3:=Tryz.sizeOf3
 v3:=Tryz.zeroValue3
 t4:=Tryz.underlying4
 a4:=Tryz.isAgg4
 z4:=Tryz.sizeOf4
 v4:=Tryz.zeroValue4
 t5:=Tryz.underlying5
 a5:=Tryz.isAgg5
 z5:=Tryz.sizeOf5
 v5:=Tryz.zeroValue5
 t9:=Tryz.underlying9
 a9:=Tryz.isAgg9
 z9:=Tryz.sizeOf9
 v9:=Tryz.zeroValue9
 t21:=Tryz.underlying21
 a21:=Tryz.isAgg21
 z21:=Tryz.sizeOf21
 v21:=Tryz.zeroValue21
 t46:=Tryz.underlying79
 a46:=Tryz.isAgg79
 z46:=Tryz.sizeOf79
 v46:=Tryz.zeroValue79
 t116:=Tryz.underlying135
 a116:=Tryz.isAgg135
 z116:=Tryz.sizeOf135
 t117:=Tryz.underlying136
 a117:=Tryz.isAgg136
 z117:=Tryz.sizeOf136
 v117:=Tryz.zeroValue136
 t124:=Tryz.underlying139
 a124:=Tryz.isAgg139
 z124:=Tryz.sizeOf139
 v124:=Tryz.zeroValue139 }

def Tryz.Te:Go.Shelf.Ren:=⟨fun|137=>71|217=>110|266=>139|n=>n,fun|9=>9|5=>5|3=>3|n=>n,fun|n=>n⟩
theorem Tryz.lay137:Go.Proofs.Lays.n137 Tryz.prog Tryz.Te := {
 mixed:=by kernel_rfl
 f137:=Tryz.func71.trans (congrArg some (by kernel_rfl))
 f217:=Tryz.func110.trans (congrArg some (by kernel_rfl))
 f266:=Tryz.func139.trans (congrArg some (by kernel_rfl))
 t3:=Tryz.underlying3
 a3:=Tryz.isAgg3
 z3:=Tryz.sizeOf3
 v3:=Tryz.zeroValue3
 t5:=Tryz.underlying5
 a5:=Tryz.isAgg5
 z5:=Tryz.sizeOf5
 v5:=Tryz.zeroValue5
 t9:=Tryz.underlying9
 a9:=Tryz.isAgg9
 z9:=Tryz.sizeOf9
 v9:=Tryz.zeroValue9 }

def Tryz.Tf:Go.Shelf.Ren:=⟨fun|148=>41|222=>62|223=>63|269=>87|n=>n,fun|9=>9|3=>3|4=>4|5=>5|146=>123|51=>76|46=>79|n=>n,fun|n=>n⟩
theorem Tryz.lay148:Go.Proofs.Lays.n148 Tryz.prog Tryz.Tf := {
 mixed:=by kernel_rfl
 f148:=Tryz.func41.trans (congrArg some (by kernel_rfl))
 f222:=Tryz.func62.trans (congrArg some (by kernel_rfl))
 f223:=Tryz.func63.trans (congrArg some (by kernel_rfl))
 f269:=Tryz.func87.trans (congrArg some (by kernel_rfl))
 t3:=Tryz.underlying3
 a3:=Tryz.isAgg3
 z3:=Tryz.sizeOf3
 v3:=Tryz.zeroValue3
 t4:=Tryz.underlying4
 a4:=Tryz.isAgg4
 z4:=Tryz.sizeOf4
 v4:=Tryz.zeroValue4
 t5:=Tryz.underlying5
 a5:=Tryz.isAgg5
 z5:=Tryz.sizeOf5
 v5:=Tryz.zeroValue5
 t9:=Tryz.underlying9
 a9:=Tryz.isAgg9
 z9:=Tryz.sizeOf9
 v9:=Tryz.zeroValue9
 t46:=Tryz.underlying79
 a46:=Tryz.isAgg79
 z46:=Tryz.sizeOf79
 v46:=Tryz.zeroValue79
 t51:=Tryz.underlying76
 a51:=Tryz.isAgg76
 z51:=Tryz.sizeOf76
 v51:=Tryz.zeroValue76
 t146:=Tryz.underlying123
 a146:=Tryz.isAgg123
 z146:=Tryz.sizeOf123
 v146:=Tryz.zeroValue123 }

def Tryz.GX:Go.Shelf.Ren:=⟨fun|169=>39|n=>n,fun|70=>71|9=>9|0=>0|72=>73|37=>41|127=>106|3=>3|5=>5|n=>n,fun|n=>n⟩
theorem Tryz.lay169:Go.Proofs.Lays.n169 Tryz.prog Tryz.GX := {
 mixed:=by kernel_rfl
 f169:=Tryz.func39.trans (congrArg some (by kernel_rfl))
 t0:=Tryz.underlying0
 a0:=Tryz.isAgg0
 z0:=Tryz.sizeOf0
 v0:=Tryz.zeroValue0
 t3:=Tryz.underlying3
 a3:=Tryz.isAgg3
 z3:=Tryz.sizeOf3
 v3:=Tryz.zeroValue3
 t9:=Tryz.underlying9
 a9:=Tryz.isAgg9
 z9:=Tryz.sizeOf9
 v9:=Tryz.zeroValue9
 t37:=Tryz.underlying41
 a37:=Tryz.isAgg41
 z37:=Tryz.sizeOf41
 v37:=Tryz.zeroValue41
 t70:=Tryz.underlying71
 a70:=Tryz.isAgg71
 z70:=Tryz.sizeOf71
 v70:=Tryz.zeroValue71
 t72:=Tryz.underlying73
 a72:=Tryz.isAgg73
 z72:=Tryz.sizeOf73
 v72:=Tryz.zeroValue73
 t127:=Tryz.underlying106
 a127:=Tryz.isAgg106
 z127:=Tryz.sizeOf106
 v127:=Tryz.zeroValue106 }

end Go.Proofs
end
