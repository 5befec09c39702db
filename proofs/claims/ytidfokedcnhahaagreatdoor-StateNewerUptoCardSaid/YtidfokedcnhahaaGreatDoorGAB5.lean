/-
  GA, part 5 of 10.
-/
import Derived.OpenShut
import Derived.JoinedCond
import Derived.Test.YtidfokedcnhahaaGreatDoorProg
import Derived.Shelf.Strconv.AtoiAll
import Derived.Shelf.Strconv.Itoa3
import Derived.Shelf.Strconv.ToErrorRange
import Derived.Shelf.Strings.Builder1
import Derived.Shelf.Strings.IndexAnyAll
import Derived.Shelf.Strings.LastIndex
import Derived.Shelf.Strings.Repeat
import Derived.Shelf.Strings.Search1
import Derived.Shelf.Strings.SlTrimAscii
import Derived.Shelf.Strings.Trim
import Derived.Shelf.Unicode.DecodeAny
import Derived.Shelf.Unicode.ValidAny
import Derived.Test.YtidfokedcnhahaaGreatDoorGAB4
set_option linter.unusedSimpArgs false
set_option linter.unnecessarySimpa false
set_option linter.unusedVariables false
set_option linter.unusedSectionVars false
noncomputable section
namespace Go.aq
open Go.RowKit Go.ChangeShapes Go.WideShapes Go.Proofs.YtidfokedcnhahaaGreatDoor
def kOk:V→aM→Option Unit:=fun v _=>match v with | .bool true=>some ()|_=>none
def Later (w w':World):Prop:=w'.os=w.os∧w'.output=w.output∧w.heap.size≤w'.heap.size∧∀b,b<w.heap.size→w'.heap[b]? = w.heap[b]?
section
variable {H:Type} {enc:TypeId×Value→H} {P:Program} {tt:dd} {w:World} {spare:Nat→Bool} {held:Bool}
theorem none_owned (c:jI) (b y:Nat):¬xk ([]:aM) c b y:=fun ho=>by
 obtain ⟨i,f,_,g2,_⟩:=ho
 simp[aM.at,cm.from_]at g2
theorem Ec {g:Nat} {fn:Func} (hf:P.funcs[g]? = some fn) (hn:(fn.name == "runtime.NumGoroutine")=false) (hb:fn.body.isNone=false) {sp:Spec Unit} (hsp:Spec.Ok P g sp) {vs:List V} {args:Array Value}
  (hs:pg.says w) (hb0:∀b,pg.blocks b→b<w.heap.size) (ra:cC w [] RR vs args.toList) (hk:sp vs [] kOk=some ()):Calls P g args w fun e w'=>e = .returned (.bool true)∧Later w w':=by
 obtain ⟨nx,w1,h1,h2⟩:=hsp vs [] kOk () hk w RR args (wf0 w hs hb0) ra
 have hn':fn.name ≠ "runtime.NumGoroutine" :=by simpa using hn
 have ph:fn.body≠none:=fun e=>by rw[e]at hb; cases hb
 have h0:(callFunc g args).run P w = .ok (.enter g args) w:=by simp[callFunc,hf,hn',ph]
 rw[h0]at h1
 cases h1
 refine Calls.mono h2 fun e w' ⟨d,he,v,h',c',_,x,rv,hv⟩ => ?_
 subst he
 have hv':v = .bool true:=by
  unfold kOk at hv
  split at hv
  ·rfl
  ·cases hv
 subst hv'
 cases rv
 exact ⟨rfl,x.os,x.output,x.size,fun b hb=>x.block b hb (none_owned _ b)⟩
def oneCell (P:Program) (t:TypeId):Bool :=
 match P.underlying t with
 | some .bool|some (.int _)|some .string|some (.slice _)=>true
 | _=>false
theorem MF {N:Nat} (pP:Pv P tt) {t:TypeId} {v:Value} {d:DataW H} {ps:List MemPlace} {p:fj} {base:Nat} (ho:oneCell P t=true) (hl:nq P tt 8 t=some [p]) (lN:Value.okWide P w .any base t v)
  (h:DataW.Trod enc P w 0 spare held t v d ps) (hb:Rows.uptoBulk d≤N) (hN:N≤mx):∃x:p.den,dx w [] RR (p.enc x) v∧Small N (p.enc x):=by
 obtain ⟨n,h⟩:=h
 obtain ⟨vs,⟨x,rfl⟩,h2,h3⟩:=Rr pP n t _ _ 8 _ h hl hb hN
 have hc:v.cells.toList = [v]:=by
  unfold oneCell at ho
  unfold Value.okWide at lN
  cases hu:P.underlying t with
  | none=>rw[hu]at ho; cases ho
  | some u =>
   rw[hu]at ho lN
   cases u <;> simp only at ho <;> try (first|cases ho) <;> (cases v <;> simp[Cell.okWide,Cell.ok,hu]at lN <;> rfl)
 rw[hc]at h2
 exact ⟨x.1,h2.head,h3 _ (by show p.enc x.1 ∈ [p.enc x.1]; simp)⟩
theorem Hv {ts:List TypeId} (h:ts.all (fun t=>P.readableRec t&&decide (t<P.types.size))=true):∀t∈ts,P.readableRec t=true∧t<P.types.size:=by
 intro t ht
 have:=List.all_eq_true.1 h t ht
 simpa using this
def aggCell (P:Program) (t:TypeId):Bool :=
 match P.underlying t with
 | some (.struct _)|some (.array _ _)=>true
 | _=>false
theorem GZ {N:Nat} (pP:Pv P tt) {t:TypeId} {v:Value} {d:DataW H} {ps:List MemPlace} {T:Ty} {base:Nat} (ho:aggCell P t=true) (hl:nq P tt 8 t=some T.leaves) (lN:Value.okWide P w .any base t v)
  (h:DataW.Trod enc P w 0 spare held t v d ps) (hb:Rows.uptoBulk d≤N) (hN:N≤mx):∃x:T.den,dx w [] RR (.agg (T.cells x)) v∧∀c∈T.cells x,Small N c:=by
 obtain ⟨n,h⟩:=h
 obtain ⟨vs,⟨x,rfl⟩,h2,h3⟩:=Rr pP n t _ _ 8 _ h hl hb hN
 obtain ⟨y,hy⟩:=Ur T x
 rw[←hy]at h2 h3
 have hc:∃cs,v = .agg cs:=by
  unfold aggCell at ho
  unfold Value.okWide at lN
  cases hu:P.underlying t with
  | none=>rw[hu]at ho; cases ho
  | some u =>
   rw[hu]at ho lN
   cases u <;> simp only at ho <;> try (first|cases ho) <;> (obtain ⟨cs,hc,_⟩:=lN; exact ⟨cs,hc⟩)
 obtain ⟨cs,rfl⟩:=hc
 exact ⟨y, .agg (by have:=h2.1; simpa [Value.cells]using this) fun j v d hv hd=>h2.2 j v d hv (by simpa [Value.cells]using hd),h3⟩
theorem Zz (hl:laidOutB P=true) {w':World} (L:Later w w'):∀ {ts:List TypeId} {vs:List Value} {ds:List (DataW H)} {ps:List MemPlace},(∀t∈ts,P.readableRec t=true∧t<P.types.size) →
  DataW.TrodAll enc P w 0 (fun _=>true) true ts vs ds ps→DataW.TrodAll enc P w' 0 (fun b=>decide (b<w.heap.size)) true ts vs ds ps
 | [],vs,ds,ps,_,h=>by obtain ⟨rfl,rfl,rfl⟩:=trodAll_nil h; exact h
 | t::ts,vs,ds,ps,hp,h=>by
  have je:=h.lt
  obtain ⟨v,vs1,d,ds1,p,q,rfl,rfl,rfl,h1,h2⟩:=trodAll_cons h
  obtain ⟨hr,EY⟩:=hp t (by simp)
  have hb:∀x∈p,x.block<w.heap.size:=fun x hx=>je x (by simp[hx])
  refine trodAll_cons_mk (WideElems.Trod_stays hl hr EY h1 (fun x hx => ?_) fun x hx=>by simpa using hb x hx) (Zz hl L (fun t ht=>hp t (by simp[ht])) h2)
  have:=L.2.2.2 _ (hb x hx)
  cases x with
  | cell b o=>simp only[World.sameAt,World.cell?]; simp only[MemPlace.block]at this; rw[this]
  | map b=>exact this
theorem kept_later {w':World} (L:Later w w') (may:MemPlace→Prop):w.keptBut w' may:=by
 refine ⟨L.1,L.2.1,fun i hi => ?_⟩
 rw[L.2.2.2 i hi]
 cases w.heap[i]? with
 | none=>rfl
 | some o=>cases o <;> simp
theorem Hw (hl:laidOutB P=true) {f:Func} {s:ChangeSpec} {w':World} {args:Array Value} {ds gs:List (DataW H)} {before:List MemPlace} {tb:TypeId} (hp:∀t∈f.params.toList,P.readableRec t=true∧t<P.types.size)
  (hv:s.vars = []) (hs:s.fn H (ds++gs) = { results := [.lit (.bool true)],args:=ds }) (hres:f.resultTypes = #[tb]) (hb:P.underlying tb=some .bool)
  (hW:DataW.Whole enc P f.params.toList s.vars false w args.toList ds gs before) (L:Later w w'):s.post enc P f false true false false w args (.bool true) w':=by
 have hW':=hW
 obtain ⟨p,q,hA,hV,hpq,hz,hn⟩:=hW'
 rw[hv]at hV
 obtain ⟨hg,hq⟩:=trodVars_none hV
 subst hg; subst hq
 refine ⟨ds, [],before, [],p, [],hW,?_,?_,?_,kept_later L _,fun h=>by cases h⟩
 ·rw[hs,hres]
  exact trodAll_cons_mk (shut_bool hb _) trodAll_mk0
 ·rw[hs]
  exact Zz hl L hp hA
 ·rw[hs,hv]
  rfl
end
end Go.aq
namespace Go.Proofs.YtidfokedcnhahaaGreatDoor
open Go.aq
def tt:dd := [
 ⟨.other,1,0, [.undef],none,false,false,false⟩,
 ⟨.func,1,8, [.fC],none,false,false,false⟩,
 TI.none,
 ⟨.int .i64,1,8, [.int .i64 0],some (.int .i64),false,false,false⟩,
 ⟨.bool,1,1, [.bool false],some .bool,false,false,false⟩,
 ⟨.int .u8,1,1, [.int .u8 0],some (.int .u8),false,false,false⟩,
 TI.none,
 TI.none,
 TI.none,
 ⟨.string,1,16, [.str []],some .str,false,false,false⟩,
 TI.none,
 TI.none,
 TI.none,
 TI.none,
 TI.none,
 TI.none,
 TI.none,
 TI.none,
 TI.none,
 TI.none,
 ⟨.iface,1,16, [.dJ],none,false,false,false⟩,
 ⟨.int .i32,1,4, [.int .i32 0],some (.int .i32),false,false,false⟩,
 ⟨.slice 57,1,24, [.cx],none,false,false,false⟩,
 ⟨.slice 59,1,24, [.cx],none,false,false,false⟩,
 TI.none,
 ⟨.struct [(0,3),(1,9),(2,3),(3,3),(4,22),(5,23)],6,88, [.int .i64 0, .str [], .int .i64 0, .int .i64 0, .cx, .cx],some .order,false,false,false⟩,
 TI.none,
 TI.none,
 ⟨.int .i64,1,8, [.int .i64 0],some (.int .i64),false,false,false⟩,
 ⟨.other,1,0, [.undef],none,false,false,false⟩,
 TI.none,
 TI.none,
 TI.none,
 TI.none,
 TI.none,
 TI.none,
 ⟨.slice 9,1,24, [.cx],none,false,false,false⟩,
 ⟨.other,1,0, [.undef],none,false,false,false⟩,
 TI.none,
 TI.none,
 TI.none,
 TI.none,
 ⟨.slice 5,1,24, [.cx],none,false,false,false⟩,
 TI.none,
 TI.none,
 TI.none,
 ⟨.struct [(0,3),(1,3)],2,16, [.int .i64 0, .int .i64 0],some .dcm,true,false,false⟩,
 ⟨.slice 49,1,24, [.cx],none,false,false,false⟩,
 TI.none,
 ⟨.struct [(0,3),(1,46),(3,9),(4,36),(5,47)],6,88, [.int .i64 0, .int .i64 0, .int .i64 0, .str [], .cx, .cx],some .json,false,false,false⟩,
 ⟨.other,1,0, [.undef],none,false,false,false⟩,
 TI.none,
 TI.none,
 TI.none,
 TI.none,
 TI.none,
 TI.none,
 ⟨.struct [(0,3),(1,3),(2,4)],3,24, [.int .i64 0, .int .i64 0, .bool false],some .stop,true,false,false⟩,
 TI.none,
 ⟨.struct [(0,3),(1,3),(2,4)],3,24, [.int .i64 0, .int .i64 0, .bool false],some .way,true,false,false⟩,
 TI.none,
 TI.none,
 TI.none,
 ⟨.struct [(0,3),(1,3),(2,9),(3,3),(4,3),(5,4),(6,3),(7,3),(8,4),(9,3)],10,88, [.int .i64 0, .int .i64 0, .str [], .int .i64 0, .int .i64 0, .bool false, .int .i64 0, .int .i64 0, .bool false, .int .i64 0],some .state,true,false,false⟩,
 TI.none,
 TI.none,
 TI.none,
 TI.none,
 ⟨.other,1,0, [.undef],none,false,false,false⟩,
 TI.none,
 TI.none,
 TI.none,
 TI.none,
 TI.none,
 TI.none,
 TI.none,
 TI.none,
 TI.none,
 ⟨.func,1,8, [.fC],none,false,false,false⟩,
 TI.none,
 ⟨.func,1,8, [.fC],none,false,false,false⟩,
 TI.none,
 TI.none,
 TI.none,
 ⟨.func,1,8, [.fC],none,false,false,false⟩,
 TI.none,
 TI.none,
 ⟨.int .u32,1,4, [.int .u32 0],some (.int .u32),false,false,false⟩,
 TI.none,
 ⟨.arr 8 5,8,8, [.int .u8 0, .int .u8 0, .int .u8 0, .int .u8 0, .int .u8 0, .int .u8 0, .int .u8 0, .int .u8 0],none,true,false,false⟩,
 ⟨.int .u64,1,8, [.int .u64 0],some (.int .u64),false,false,false⟩,
 ⟨.ptr 93,1,8, [.ir],none,false,false,false⟩,
 TI.none,
 ⟨.struct [(0,4)],1,1, [.bool false],none,false,false,false⟩,
 ⟨.other,1,0, [.undef],none,false,false,false⟩,
 TI.none,
 TI.none,
 TI.none,
 TI.none,
 ⟨.other,1,0, [.undef],none,false,false,false⟩,
 TI.none,
 ⟨.other,1,0, [.undef],none,false,false,false⟩,
 TI.none,
 ⟨.other,1,0, [.undef],none,false,false,false⟩,
 TI.none,
 TI.none,
 ⟨.slice 113,1,24, [.cx],none,false,false,false⟩,
 ⟨.other,1,0, [.undef],none,false,false,false⟩,
 TI.none,
 ⟨.ptr 111,1,8, [.ir],none,false,false,false⟩,
 TI.none,
 ⟨.struct [(0,106),(1,28)],2,32, [.cx, .int .i64 0],none,false,false,false⟩,
 TI.none,
 ⟨.struct [(0,3),(1,9),(2,46),(4,3)],5,48, [.int .i64 0, .str [], .int .i64 0, .int .i64 0, .int .i64 0],some .token,true,false,false⟩,
 TI.none,
 ⟨.func,1,8, [.fC],none,false,false,false⟩,
 ⟨.ptr 118,1,8, [.ir],none,false,false,false⟩,
 TI.none,
 ⟨.struct [(0,116),(1,42)],2,32, [.ir, .cx],none,false,false,true⟩,
 TI.none,
 TI.none,
 TI.none,
 TI.none,
 ⟨.slice 128,1,24, [.cx],none,false,false,false⟩,
 TI.none,
 ⟨.ptr 63,1,8, [.ir],none,false,false,false⟩,
 ⟨.func,1,8, [.fC],none,false,false,false⟩,
 TI.none,
 ⟨.struct [(0,9),(1,126),(2,115)],3,32, [.str [], .fC, .fC],none,false,false,false⟩,
 TI.none,
 ⟨.slice 3,1,24, [.cx],none,false,false,false⟩,
 TI.none,
 TI.none,
 TI.none,
 ⟨.func,1,8, [.fC],none,false,false,false⟩,
 ⟨.arr 10 4,10,10, [.bool false, .bool false, .bool false, .bool false, .bool false, .bool false, .bool false, .bool false, .bool false, .bool false],none,true,false,false⟩,
 ⟨.other,1,0, [.undef],none,false,false,false⟩,
 TI.none,
 ⟨.other,1,0, [.undef],none,false,false,false⟩,
 TI.none,
 ⟨.other,1,0, [.undef],none,false,false,false⟩,
 TI.none,
 TI.none,
 TI.none,
 TI.none,
 ⟨.func,1,8, [.fC],none,false,false,false⟩,
 ⟨.ptr 148,1,8, [.ir],none,false,false,false⟩,
 TI.none,
 ⟨.struct [(0,106),(1,3),(2,28)],3,40, [.cx, .int .i64 0, .int .i64 0],none,false,false,false⟩,
 TI.none,
 TI.none,
 ⟨.other,1,0, [.undef],none,false,false,false⟩,
 TI.none,
 TI.none,
 ⟨.map 9 3,1,8, [.pz],none,false,false,false⟩,
 TI.none,
 TI.none,
 TI.none,
 ⟨.iface,1,16, [.dJ],none,false,false,false⟩,
 ⟨.other,1,0, [.undef],none,false,false,false⟩,
 TI.none,
 ⟨.func,1,8, [.fC],none,false,false,false⟩,
 TI.none,
 TI.none,
 TI.none,
 TI.none,
 TI.none,
 TI.none,
 TI.none,
 ⟨.ptr 3,1,8, [.ir],none,false,false,false⟩,
 TI.none,
 ⟨.ptr 9,1,8, [.ir],none,false,false,false⟩,
 TI.none,
 ⟨.ptr 4,1,8, [.ir],none,false,false,false⟩,
 TI.none,
 TI.none,
 TI.none,
 TI.none,
 TI.none,
 TI.none,
 TI.none,
 TI.none,
 TI.none,
 TI.none,
 TI.none,
 ⟨.func,1,8, [.fC],none,false,false,false⟩,
 TI.none,
 ⟨.func,1,8, [.fC],none,false,false,false⟩,
 TI.none,
 ⟨.func,1,8, [.fC],none,false,false,false⟩,
 TI.none,
 TI.none,
 TI.none,
 TI.none,
 TI.none,
 ⟨.other,1,0, [.undef],none,false,false,false⟩,
 TI.none,
 TI.none,
 TI.none,
 TI.none,
 TI.none,
 TI.none,
 TI.none,
 TI.none,
 TI.none,
 TI.none,
 TI.none,
 ⟨.other,1,0, [.undef],none,false,false,false⟩,
 TI.none,
 TI.none,
 TI.none,
 ⟨.ptr 213,1,8, [.ir],none,false,false,false⟩,
 TI.none,
 ⟨.struct [(0,9)],1,16, [.str []],none,false,false,false⟩,
 TI.none,
 TI.none,
 ⟨.ptr 218,1,8, [.ir],none,false,false,false⟩,
 TI.none,
 ⟨.struct [(0,9)],1,16, [.str []],none,false,false,false⟩,
 ⟨.func,1,8, [.fC],none,false,false,false⟩,
 ⟨.map 9 4,1,8, [.pz],none,false,false,false⟩,
 TI.none,
 TI.none,
 TI.none,
 TI.none,
 TI.none,
 TI.none,
 TI.none,
 TI.none,
 TI.none,
 TI.none,
 TI.none,
 TI.none,
 ⟨.other,1,0, [.undef],none,false,false,false⟩,
 TI.none,
 TI.none,
 TI.none,
 TI.none,
 TI.none,
 TI.none,
 TI.none,
 TI.none,
 TI.none,
 TI.none,
 ⟨.int .u64,1,8, [.int .u64 0],some (.int .u64),false,false,false⟩,
 TI.none,
 TI.none,
 TI.none,
 TI.none,
 TI.none,
 ⟨.int .i64,1,8, [.int .i64 0],some (.int .i64),false,false,false⟩,
 TI.none,
 TI.none,
 TI.none,
 TI.none,
 TI.none,
 TI.none,
 TI.none,
 TI.none,
 TI.none,
 TI.none,
 ⟨.other,1,0, [.undef],none,false,false,false⟩,
 TI.none,
 TI.none,
 TI.none,
 TI.none,
 TI.none,
 TI.none,
 TI.none,
 TI.none,
 TI.none,
 TI.none,
 TI.none,
 TI.none,
 TI.none,
 TI.none,
 TI.none,
 TI.none,
 TI.none,
 TI.none,
 TI.none,
 TI.none,
 TI.none,
 TI.none,
 TI.none,
 TI.none,
 TI.none,
 TI.none,
 TI.none]
end Go.Proofs.YtidfokedcnhahaaGreatDoor
namespace Go.aq
open Go.RowKit
def U:Nat→List V→List V
 | 0,l=>l
 | n+1,l => .undef::U n l
def PU:Nat→List cY→List cY
 | 0,l=>l
 | n+1,l => .leaf .undef::PU n l
section
variable {R:Type} {P:Program} {tt:dd}
abbrev jU (R:Type) (ps:List cY) (hs:List aY):Type:=cY.cD ps→aY.cD hs→(V→aM→Option R)→Option R
abbrev Ed (R:Type) (ps:List cY) (hs:List aY):Type:=cY.cD ps→aY.cD hs→(Ex→St→Option R)→Option R
abbrev t8 {a b c d e f g h i:Type} (x:a×b×c×d×e×f×g×h×i):i:=x.2.2.2.2.2.2.2.2
def jT (P:Program) (g:Nat) (s:Spec R→Spec R):Prop:=∀o,Spec.Ok P g o→Spec.Ok P g (s o)
abbrev lC (R:Type):=Nat×Bool×Spec R
def dy:List (lC R)→Env R
 | [],_=>none
 | e::l,i=>bif Nat.beq i e.1 then some e.2 else dy l i
inductive cr (P:Program):List (lC R)→Prop
 | n:cr P []
 | p {g:Nat} {sp:Spec R} {l:List (lC R)} (h:Spec.Ok P g sp) (t:cr P l):cr P ((g,true,sp)::l)
 | f {g:Nat} {sp:Spec R} {l:List (lC R)} (h:Spec.Ok P g sp) (hs:pg.soft g=false) (t:cr P l):cr P ((g,false,sp)::l)
 | s {g:Nat} {sp:Spec R} {l:List (lC R)} (h:Spec.Ok P g sp) (hs:Pm sp) (t:cr P l):cr P ((g,false,sp)::l)
theorem cr.c {g:Nat} {s:Spec R→Spec R} {l:List (lC R)} (h:jT P g s) (t:cr P l):cr P ((g,true,s av)::l) := .p (h _ (fA _)) t
theorem cr.d {g:Nat} {s:Spec R→Spec R} {l:List (lC R)} (h:jT P g s) (hs:pg.soft g=false) (t:cr P l):cr P ((g,false,s av)::l) := .f (h _ (fA _)) hs t
theorem envL_ok {l:List (lC R)} (h:cr P l):EOk P (dy l):=by
 induction h with
 | n=>intro i b sp h; cases h
 | p h0 t ih =>
  intro i b sp h
  simp only[dy]at h
  cases hb:Nat.beq i _ with
  | true =>
   rw[hb,cond_true]at h
   cases h
   have:=Nat.eq_of_beq_eq_true hb
   subst this
   exact ⟨h0,fun h=>by cases h⟩
  | false =>
   rw[hb,cond_false]at h
   exact ih i b sp h
 | f h0 hs t ih =>
  intro i b sp h
  simp only[dy]at h
  cases hb:Nat.beq i _ with
  | true =>
   rw[hb,cond_true]at h
   cases h
   have:=Nat.eq_of_beq_eq_true hb
   subst this
   exact ⟨h0,fun _ h=>by rw[hs]at h; cases h⟩
  | false =>
   rw[hb,cond_false]at h
   exact ih i b sp h
 | s h0 hs t ih =>
  intro i b sp h
  simp only[dy]at h
  cases hb:Nat.beq i _ with
  | true =>
   rw[hb,cond_true]at h
   cases h
   have:=Nat.eq_of_beq_eq_true hb
   subst this
   exact ⟨h0,fun _ _=>hs⟩
  | false =>
   rw[hb,cond_false]at h
   exact ih i b sp h
def dD (tt:dd) (l:List (lC R)) (L:Nat→Option (Hint×dE R)) (uY:Bool) (fn:Func) (ps:List cY) (hs:List aY) (run:jU R ps hs):Prop :=
 ∀x y k,RO tt (dy l) L uY fn (bm fn) (cY.fp ps x) (aY.fp hs y) k=run x y k
theorem bj (T:AU P tt) (hm:P.follows .mixedOrders=true) {l:List (lC R)} (hE:cr P l) {L:Nat→Option (Hint×dE R)} {g:Nat} {fn:Func} {uY:Bool} {ps:List cY} {hs:List aY}
  {run:jU R ps hs} (hf:P.funcs[g]? = some fn) (hb:fn.body=some (bm fn)) (hn:(fn.name == "runtime.NumGoroutine")=false) (hr:fn.results.size=fn.resultTypes.size)
  (hl:∀a∈aN (bm fn),ji tt (dy l) L hs.length a) (h:dD tt l L uY fn ps hs run):jT P g (aC ps hs run) :=
 fun _ ho=>specBy_ok ho (Zx T hm (envL_ok hE) hf hb hn hr hs.length hl) h
def nK:Nat→Option (Hint×dE R):=fun _=>none
theorem bX {E:Env R} {l:List Code} {m:Nat}:∀a∈l,ji tt E nK m a:=fun _ _ _ _ h=>by cases h
theorem oF (T:AU P tt) (hm:P.follows .mixedOrders=true) {l:List (lC R)} (hE:cr P l) {g:Nat} {fn:Func} {code:Code} (uY:Bool) (hf:P.funcs[g]? = some fn) (hb:fn.body=some code)
  (hn:(fn.name == "runtime.NumGoroutine")=false) (hr:fn.results.size=fn.resultTypes.size):Spec.Ok P g (RO tt (dy l) (fun _=>none) uY fn code):=inline_ok T hm (envL_ok hE) uY hf hb hn hr
def AllT (Q:Nat→Prop):List Nat→Prop
 | []=>True
 | t::l=>Q t∧AllT Q l
theorem AllT.mem {Q:Nat→Prop}:∀ {l:List Nat} {t:Nat},AllT Q l→l.contains t=true→Q t
 | a::l,t,h,ht=>by
  rw[List.contains_cons,Bool.or_eq_true,beq_iff_eq]at ht
  rcases ht with rfl|ht
  ·exact h.1
  ·exact AllT.mem h.2 ht
def TD.off:TD→Bool
 | .other=>true
 | _=>false
theorem offT {l:List Nat} (h:(List.range tt.length).all (fun t=>l.contains t||((tt.at t).d.off && !(tt.at t).eq))=true) {t:Nat} (ht:l.contains t=false):(tt.at t).d = .other∧(tt.at t).eq=false:=by
 by_cases hl:t<tt.length
 ·have:=List.all_eq_true.1 h t (by simpa using hl)
  rw[ht,Bool.false_or,Bool.and_eq_true]at this
  refine ⟨?_,by simpa using this.2⟩
  cases hd:(tt.at t).d <;> rw[hd]at this <;> first|rfl|cases this.1
 ·have:tt.at t=TI.none:=by unfold dd.at; simp[List.getD,List.getElem?_eq_none (Nat.le_of_not_lt hl)]
  rw[this]
  exact ⟨rfl,rfl⟩
theorem undT {l:List Nat} (h:(List.range tt.length).all (fun t=>l.contains t||((tt.at t).d.off && !(tt.at t).eq))=true) (ha:AllT (fun t=>(tt.at t).d.Is P t) l) (t:Nat):(tt.at t).d.Is P t:=by
 cases ht:l.contains t with
 | true=>exact ha.mem ht
 | false =>
  rw[(offT h ht).1]
  trivial
theorem infT {l:List Nat} (h:(List.range tt.length).all (fun t=>l.contains t||((tt.at t).d.off && !(tt.at t).eq))=true) (ha:AllT (fun t=>MD P tt t) l) (t:Nat) (ok:tt.ok t=true):MD P tt t:=by
 cases ht:l.contains t with
 | true=>exact ha.mem ht
 | false =>
  unfold dd.ok at ok
  rw[(offT h ht).1]at ok
  cases ok
theorem eqT {l:List Nat} (h:(List.range tt.length).all (fun t=>l.contains t||((tt.at t).d.off && !(tt.at t).eq))=true) (ha:AllT (fun t=>(tt.at t).eq=true→Ps P tt t) l) (t:Nat) (hq:(tt.at t).eq=true):Ps P tt t:=by
 cases ht:l.contains t with
 | true=>exact ha.mem ht hq
 | false =>
  rw[(offT h ht).2]at hq
  cases hq
theorem MD.at {t:Nat} (i:TypeInfo) (h:(P.info? t,i.size,i.bytes,zeroOf i)=(some i,(tt.at t).size,(tt.at t).bytes,some ((tt.at t).size,(tt.at t).zero, !tt.isAgg t))):MD P tt t:=by
 simp only[Prod.mk.injEq]at h
 exact ⟨i,h.1,h.2.1,h.2.2.1,h.2.2.2⟩
end
end Go.aq
set_option maxRecDepth 100000
namespace Go.Proofs.YtidfokedcnhahaaGreatDoor
open Go Go.aq
def liveT:List Nat := [1,3,4,5,9,20,21,22,23,25,28,36,42,46,47,49,57,59,63,78,80,84,87,89,90,91,93,106,109,111,113,115,116,118,123,125,126,128,130,134,135,145,146,148,154,158,161,169,171,173,185,187,189,211,213,216,218,219,220,244,250]
theorem liveOk:(List.range tt.length).all (fun t=>liveT.contains t||((tt.at t).d.off && !(tt.at t).eq))=true:=by kernel_rfl
theorem TTund:∀t,(tt.at t).d.Is Tryz.prog t:=undT liveOk ⟨⟨_,_,_,rfl⟩,(by kernel_rfl:Tryz.prog.underlying 3=some (.int .i64)),(by kernel_rfl:Tryz.prog.underlying 4=some .bool),(by kernel_rfl:Tryz.prog.underlying 5=some (.int .u8)),(by kernel_rfl:Tryz.prog.underlying 9=some .string),⟨_,rfl⟩,(by kernel_rfl:Tryz.prog.underlying 21=some (.int .i32)),(by kernel_rfl:Tryz.prog.underlying 22=some (.slice 57)),(by kernel_rfl:Tryz.prog.underlying 23=some (.slice 59)),⟨Tryz.prog.fieldsOf 25,by kernel_rfl,by kernel_rfl⟩,(by kernel_rfl:Tryz.prog.underlying 28=some (.int .i64)),(by kernel_rfl:Tryz.prog.underlying 36=some (.slice 9)),(by kernel_rfl:Tryz.prog.underlying 42=some (.slice 5)),⟨Tryz.prog.fieldsOf 46,by kernel_rfl,by kernel_rfl⟩,(by kernel_rfl:Tryz.prog.underlying 47=some (.slice 49)),⟨Tryz.prog.fieldsOf 49,by kernel_rfl,by kernel_rfl⟩,⟨Tryz.prog.fieldsOf 57,by kernel_rfl,by kernel_rfl⟩,⟨Tryz.prog.fieldsOf 59,by kernel_rfl,by kernel_rfl⟩,⟨Tryz.prog.fieldsOf 63,by kernel_rfl,by kernel_rfl⟩,⟨_,_,_,rfl⟩,⟨_,_,_,rfl⟩,⟨_,_,_,rfl⟩,(by kernel_rfl:Tryz.prog.underlying 87=some (.int .u32)),(by kernel_rfl:Tryz.prog.underlying 89=some (.array 8 5)),(by kernel_rfl:Tryz.prog.underlying 90=some (.int .u64)),(by kernel_rfl:Tryz.prog.underlying 91=some (.pointer 93)),⟨Tryz.prog.fieldsOf 93,by kernel_rfl,by kernel_rfl⟩,(by kernel_rfl:Tryz.prog.underlying 106=some (.slice 113)),(by kernel_rfl:Tryz.prog.underlying 109=some (.pointer 111)),⟨Tryz.prog.fieldsOf 111,by kernel_rfl,by kernel_rfl⟩,⟨Tryz.prog.fieldsOf 113,by kernel_rfl,by kernel_rfl⟩,⟨_,_,_,rfl⟩,(by kernel_rfl:Tryz.prog.underlying 116=some (.pointer 118)),⟨Tryz.prog.fieldsOf 118,by kernel_rfl,by kernel_rfl⟩,(by kernel_rfl:Tryz.prog.underlying 123=some (.slice 128)),(by kernel_rfl:Tryz.prog.underlying 125=some (.pointer 63)),⟨_,_,_,rfl⟩,⟨Tryz.prog.fieldsOf 128,by kernel_rfl,by kernel_rfl⟩,(by kernel_rfl:Tryz.prog.underlying 130=some (.slice 3)),⟨_,_,_,rfl⟩,(by kernel_rfl:Tryz.prog.underlying 135=some (.array 10 4)),⟨_,_,_,rfl⟩,(by kernel_rfl:Tryz.prog.underlying 146=some (.pointer 148)),⟨Tryz.prog.fieldsOf 148,by kernel_rfl,by kernel_rfl⟩,(by kernel_rfl:Tryz.prog.underlying 154=some (.map 9 3)),⟨_,rfl⟩,⟨_,_,_,rfl⟩,(by kernel_rfl:Tryz.prog.underlying 169=some (.pointer 3)),(by kernel_rfl:Tryz.prog.underlying 171=some (.pointer 9)),(by kernel_rfl:Tryz.prog.underlying 173=some (.pointer 4)),⟨_,_,_,rfl⟩,⟨_,_,_,rfl⟩,⟨_,_,_,rfl⟩,(by kernel_rfl:Tryz.prog.underlying 211=some (.pointer 213)),⟨Tryz.prog.fieldsOf 213,by kernel_rfl,by kernel_rfl⟩,(by kernel_rfl:Tryz.prog.underlying 216=some (.pointer 218)),⟨Tryz.prog.fieldsOf 218,by kernel_rfl,by kernel_rfl⟩,⟨_,_,_,rfl⟩,(by kernel_rfl:Tryz.prog.underlying 220=some (.map 9 4)),(by kernel_rfl:Tryz.prog.underlying 244=some (.int .u64)),(by kernel_rfl:Tryz.prog.underlying 250=some (.int .i64)),trivial⟩
theorem TTinf:∀t,tt.ok t=true→MD Tryz.prog tt t:=infT liveOk ⟨.at Tryz.t1 (by kernel_rfl), .at Tryz.t3 (by kernel_rfl), .at Tryz.t4 (by kernel_rfl), .at Tryz.t5 (by kernel_rfl), .at Tryz.t9 (by kernel_rfl), .at Tryz.t20 (by kernel_rfl), .at Tryz.t21 (by kernel_rfl), .at Tryz.t22 (by kernel_rfl), .at Tryz.t23 (by kernel_rfl), .at Tryz.t25 (by kernel_rfl), .at Tryz.t28 (by kernel_rfl), .at Tryz.t36 (by kernel_rfl), .at Tryz.t42 (by kernel_rfl), .at Tryz.t46 (by kernel_rfl), .at Tryz.t47 (by kernel_rfl), .at Tryz.t49 (by kernel_rfl), .at Tryz.t57 (by kernel_rfl), .at Tryz.t59 (by kernel_rfl), .at Tryz.t63 (by kernel_rfl), .at Tryz.t78 (by kernel_rfl), .at Tryz.t80 (by kernel_rfl), .at Tryz.t84 (by kernel_rfl), .at Tryz.t87 (by kernel_rfl), .at Tryz.t89 (by kernel_rfl), .at Tryz.t90 (by kernel_rfl), .at Tryz.t91 (by kernel_rfl), .at Tryz.t93 (by kernel_rfl), .at Tryz.t106 (by kernel_rfl), .at Tryz.t109 (by kernel_rfl), .at Tryz.t111 (by kernel_rfl), .at Tryz.t113 (by kernel_rfl), .at Tryz.t115 (by kernel_rfl), .at Tryz.t116 (by kernel_rfl), .at Tryz.t118 (by kernel_rfl), .at Tryz.t123 (by kernel_rfl), .at Tryz.t125 (by kernel_rfl), .at Tryz.t126 (by kernel_rfl), .at Tryz.t128 (by kernel_rfl), .at Tryz.t130 (by kernel_rfl), .at Tryz.t134 (by kernel_rfl), .at Tryz.t135 (by kernel_rfl), .at Tryz.t145 (by kernel_rfl), .at Tryz.t146 (by kernel_rfl), .at Tryz.t148 (by kernel_rfl), .at Tryz.t154 (by kernel_rfl), .at Tryz.t158 (by kernel_rfl), .at Tryz.t161 (by kernel_rfl), .at Tryz.t169 (by kernel_rfl), .at Tryz.t171 (by kernel_rfl), .at Tryz.t173 (by kernel_rfl), .at Tryz.t185 (by kernel_rfl), .at Tryz.t187 (by kernel_rfl), .at Tryz.t189 (by kernel_rfl), .at Tryz.t211 (by kernel_rfl), .at Tryz.t213 (by kernel_rfl), .at Tryz.t216 (by kernel_rfl), .at Tryz.t218 (by kernel_rfl), .at Tryz.t219 (by kernel_rfl), .at Tryz.t220 (by kernel_rfl), .at Tryz.t244 (by kernel_rfl), .at Tryz.t250 (by kernel_rfl),trivial⟩
theorem TTeq:∀t,(tt.at t).eq=true→Ps Tryz.prog tt t:=eqT liveOk ⟨(nofun),(nofun),(nofun),(nofun),(nofun),(nofun),(nofun),(nofun),(nofun),(nofun),(nofun),(nofun),(nofun),fun _ => .of (by kernel_rfl) (by kernel_rfl) (by kernel_rfl) (by kernel_rfl),(nofun),(nofun),fun _ => .of (by kernel_rfl) (by kernel_rfl) (by kernel_rfl) (by kernel_rfl),fun _ => .of (by kernel_rfl) (by kernel_rfl) (by kernel_rfl) (by kernel_rfl),fun _ => .of (by kernel_rfl) (by kernel_rfl) (by kernel_rfl) (by kernel_rfl),(nofun),(nofun),(nofun),(nofun),fun _ => .ofArr (e:=5) (by kernel_rfl) (by kernel_rfl) (by kernel_rfl),(nofun),(nofun),(nofun),(nofun),(nofun),(nofun),fun _ => .of (by kernel_rfl) (by kernel_rfl) (by kernel_rfl) (by kernel_rfl),(nofun),(nofun),(nofun),(nofun),(nofun),(nofun),(nofun),(nofun),(nofun),fun _ => .ofArr (e:=4) (by kernel_rfl) (by kernel_rfl) (by kernel_rfl),(nofun),(nofun),(nofun),(nofun),(nofun),(nofun),(nofun),(nofun),(nofun),(nofun),(nofun),(nofun),(nofun),(nofun),(nofun),(nofun),(nofun),(nofun),(nofun),(nofun),trivial⟩
theorem TTeqs:∀t,∀(w:World) (h:aM) (c:jI) (cs ds:List V) (xs ys:Array Value) (b:Bool),eqOk (tt.at t) cs ds=true→cC w h c cs xs.toList→cC w h c ds ys.toList →
  lB cs ds=some b→Tryz.prog.eqGuardType Tryz.prog.depth t=false∧(Op.equalIn 10000 t (.agg xs) (.agg ys)).run Tryz.prog w = .ok b w :=
 fun t _ _ _ _ _ _ _ _ hk rx ry hb=>eqs_flat (TTeq t (eqOk_eq hk)) hk rx ry hb
theorem TT:AU Tryz.prog tt:=⟨TTund,fun t h=>(TTinf t h).spec,TTeqs,u8s_of (by kernel_rfl),blds_of (by kernel_rfl),fun t h=>(TTinf t h).one⟩
theorem mixed:Tryz.prog.follows .mixedOrders=true:=by kernel_rfl
end Go.Proofs.YtidfokedcnhahaaGreatDoor
set_option maxRecDepth 100000
namespace Go.Proofs
open Go.Shelf
def Tryz.lay196_ren:Go.Shelf.Ren:=⟨fun|196=>200|259=>223|n=>n,fun|9=>9|4=>4|3=>3|5=>5|12=>12|119=>238|0=>0|46=>90|139=>241|138=>240|53=>244|n=>n,fun|3=>1|4=>2|n=>n⟩
theorem Tryz.lay196:Go.Proofs.Lays.n196 Tryz.prog Tryz.lay196_ren := {
 mixed:=by kernel_rfl
 f196:=Tryz.func200.trans (congrArg some (by kernel_rfl))
 f259:=Tryz.func223.trans (congrArg some (by kernel_rfl))
 t0:=Tryz.underlying0
 a0:=Tryz.isAgg0
 z0:=Tryz.sizeOf0
 v0:=Tryz.zeroValue0
 t3:=Tryz.underlying3
 a3:=Tryz.isAgg3
 z3:=Tryz.sizeOf3
 v3:=Tryz.zeroValue3
 t4:=Tryz.underlying4
 a4:=Tryz.isAgg4
 z4:=Tryz.sizeOf4
 v4:=Tryz.zeroValue4
 t5:=Tryz.underlying5
 a5:=Tryz.isAgg5
 z5:=Tryz.sizeOf5
 v5:=Tryz.zeroValue5
 t9:=Tryz.underlying9
 a9:=Tryz.isAgg9
 z9:=Tryz.sizeOf9
 v9:=Tryz.zeroValue9
 t12:=Tryz.underlying12
 a12:=Tryz.isAgg12
 z12:=Tryz.sizeOf12
 v12:=Tryz.zeroValue12
 t46:=Tryz.underlying90
 a46:=Tryz.isAgg90
 z46:=Tryz.sizeOf90
 v46:=Tryz.zeroValue90
 t53:=Tryz.underlying244
 a53:=Tryz.isAgg244
 z53:=Tryz.sizeOf244
 v53:=Tryz.zeroValue244
 t119:=Tryz.underlying238
 a119:=Tryz.isAgg238
 z119:=Tryz.sizeOf238
 t138:=Tryz.underlying240
 a138:=Tryz.isAgg240
 z138:=Tryz.sizeOf240
 v138:=Tryz.zeroValue240
 t139:=Tryz.underlying241
 a139:=Tryz.isAgg241
 z139:=Tryz.sizeOf241
 v139:=Tryz.zeroValue241
 g3:=by kernel_rfl
 g4:=by kernel_rfl }
def Tryz.lay197_ren:Go.Shelf.Ren:=⟨fun|197=>184|260=>210|n=>n,fun|9=>9|21=>21|3=>3|4=>4|5=>5|105=>207|119=>238|0=>0|46=>90|139=>241|138=>240|n=>n,fun|3=>1|4=>2|n=>n⟩
theorem Tryz.lay197:Go.Proofs.Lays.n197 Tryz.prog Tryz.lay197_ren := {
 mixed:=by kernel_rfl
 f197:=Tryz.func184.trans (congrArg some (by kernel_rfl))
 f260:=Tryz.func210.trans (congrArg some (by kernel_rfl))
 t0:=Tryz.underlying0
 a0:=Tryz.isAgg0
 z0:=Tryz.sizeOf0
 v0:=Tryz.zeroValue0
 t3:=Tryz.underlying3
 a3:=Tryz.isAgg3
 z3:=Tryz.sizeOf3
 v3:=Tryz.zeroValue3
 t4:=Tryz.underlying4
 a4:=Tryz.isAgg4
 z4:=Tryz.sizeOf4
 v4:=Tryz.zeroValue4
 t5:=Tryz.underlying5
 a5:=Tryz.isAgg5
 z5:=Tryz.sizeOf5
 v5:=Tryz.zeroValue5
 t9:=Tryz.underlying9
 a9:=Tryz.isAgg9
 z9:=Tryz.sizeOf9
 v9:=Tryz.zeroValue9
 t21:=Tryz.underlying21
 a21:=Tryz.isAgg21
 z21:=Tryz.sizeOf21
 v21:=Tryz.zeroValue21
 t46:=Tryz.underlying90
 a46:=Tryz.isAgg90
 z46:=Tryz.sizeOf90
 v46:=Tryz.zeroValue90
 t105:=Tryz.underlying207
 a105:=Tryz.isAgg207
 z105:=Tryz.sizeOf207
 v105:=Tryz.zeroValue207
 t119:=Tryz.underlying238
 a119:=Tryz.isAgg238
 z119:=Tryz.sizeOf238
 t138:=Tryz.underlying240
 a138:=Tryz.isAgg240
 z138:=Tryz.sizeOf240
 v138:=Tryz.zeroValue240
 t139:=Tryz.underlying241
 a139:=Tryz.isAgg241
 z139:=Tryz.sizeOf241
 v139:=Tryz.zeroValue241
 g3:=by kernel_rfl
 g4:=by kernel_rfl }
def Tryz.lay171_ren:Go.Shelf.Ren:=⟨fun|171=>172|243=>204|246=>225|283=>243|284=>244|285=>245|286=>246|129=>255|317=>254|318=>256|319=>257|320=>258|337=>262|338=>263|n=>n,fun|3=>3|9=>9|2=>2|4=>4|171=>256|0=>0|53=>244|37=>42|5=>5|173=>259|212=>267|51=>87|20=>20|213=>268|46=>90|232=>275|233=>276|n=>n,fun|17=>5|18=>6|19=>7|n=>n⟩
theorem Tryz.lay171:Go.Proofs.LaysM.n171 Tryz.prog Tryz.lay171_ren := {
 mixed:=by kernel_rfl
 f129:=Tryz.func255.trans (congrArg some (by kernel_rfl))
 f171:=Tryz.func172.trans (congrArg some (by kernel_rfl))
 f243:=Tryz.func204.trans (congrArg some (by kernel_rfl))
 f246:=Tryz.func225.trans (congrArg some (by kernel_rfl))
 f283:=Tryz.func243.trans (congrArg some (by kernel_rfl))
 f284:=Tryz.func244.trans (congrArg some (by kernel_rfl))
 f285:=Tryz.func245.trans (congrArg some (by kernel_rfl))
 f286:=Tryz.func246.trans (congrArg some (by kernel_rfl))
 f317:=Tryz.func254.trans (congrArg some (by kernel_rfl))
 f318:=Tryz.func256.trans (congrArg some (by kernel_rfl))
 f319:=Tryz.func257.trans (congrArg some (by kernel_rfl))
 f320:=Tryz.func258.trans (congrArg some (by kernel_rfl))
 f337:=Tryz.func262.trans (congrArg some (by kernel_rfl))
 f338:=Tryz.func263.trans (congrArg some (by kernel_rfl))
 t0:=Tryz.underlying0
 a0:=Tryz.isAgg0
 z0:=Tryz.sizeOf0
 v0:=Tryz.zeroValue0
 t2:=Tryz.underlying2
 a2:=Tryz.isAgg2
 z2:=Tryz.sizeOf2
 v2:=Tryz.zeroValue2
 t3:=Tryz.underlying3
 a3:=Tryz.isAgg3
 z3:=Tryz.sizeOf3
 v3:=Tryz.zeroValue3
 t4:=Tryz.underlying4
 a4:=Tryz.isAgg4
 z4:=Tryz.sizeOf4
 v4:=Tryz.zeroValue4
 t5:=Tryz.underlying5
 a5:=Tryz.isAgg5
 z5:=Tryz.sizeOf5
 v5:=Tryz.zeroValue5
 t9:=Tryz.underlying9
 a9:=Tryz.isAgg9
 z9:=Tryz.sizeOf9
 v9:=Tryz.zeroValue9
 t20:=Tryz.underlying20
 a20:=Tryz.isAgg20
 z20:=Tryz.sizeOf20
 v20:=Tryz.zeroValue20
 t37:=Tryz.underlying42
 a37:=Tryz.isAgg42
 z37:=Tryz.sizeOf42
 v37:=Tryz.zeroValue42
 t46:=Tryz.underlying90
 a46:=Tryz.isAgg90
 z46:=Tryz.sizeOf90
 v46:=Tryz.zeroValue90
 t51:=Tryz.underlying87
 a51:=Tryz.isAgg87
 z51:=Tryz.sizeOf87
 v51:=Tryz.zeroValue87
 t53:=Tryz.underlying244
 a53:=Tryz.isAgg244
 z53:=Tryz.sizeOf244
 v53:=Tryz.zeroValue244
 t171:=Tryz.underlying256
 a171:=Tryz.isAgg256
 z171:=Tryz.sizeOf256
 v171:=Tryz.zeroValue256
 t173:=Tryz.underlying259
 a173:=Tryz.isAgg259
 z173:=Tryz.sizeOf259
 v173:=Tryz.zeroValue259
 t212:=Tryz.underlying267
 a212:=Tryz.isAgg267
 z212:=Tryz.sizeOf267
 v212:=Tryz.zeroValue267
 t213:=Tryz.underlying268
 a213:=Tryz.isAgg268
 z213:=Tryz.sizeOf268
 t232:=Tryz.underlying275
 a232:=Tryz.isAgg275
 z232:=Tryz.sizeOf275
 v232:=Tryz.zeroValue275
 t233:=Tryz.underlying276
 a233:=Tryz.isAgg276
 z233:=Tryz.sizeOf276
 v233:=Tryz.zeroValue276
 g17:=by kernel_rfl
 g18:=by kernel_rfl
 g19:=by kernel_rfl
 i0:=by kernel_rfl
 i2:=by kernel_rfl
 i3:=by kernel_rfl
 i4:=by kernel_rfl
 i5:=by kernel_rfl
 i9:=by kernel_rfl
 i20:=by kernel_rfl
 i37:=by kernel_rfl
 i46:=by kernel_rfl
 i51:=by kernel_rfl
 i53:=by kernel_rfl
 i171:=by kernel_rfl
 i173:=by kernel_rfl
 i212:=by kernel_rfl
 i232:=by kernel_rfl
 i233:=by kernel_rfl
 m17:=by kernel_rfl
 m18:=by kernel_rfl
 m19:=by kernel_rfl }
def Tryz.MG:Go.Shelf.Ren:=⟨fun|105=>173|212=>205|99=>206|165=>207|166=>124|170=>208|169=>84|263=>226|264=>227|206=>228|240=>171|241=>229|276=>203|277=>247|n=>n,fun|9=>9|3=>3|4=>4|20=>20|0=>0|46=>90|109=>225|5=>5|72=>118|76=>159|51=>87|146=>192|53=>244|148=>245|70=>116|37=>42|75=>158|127=>164|164=>223|80=>120|n=>n,fun|n=>n⟩
theorem Tryz.lay105:Go.Proofs.Lays.n105 Tryz.prog Tryz.MG := {
 mixed:=by kernel_rfl
 f99:=Tryz.func206.trans (congrArg some (by kernel_rfl))
 f105:=Tryz.func173.trans (congrArg some (by kernel_rfl))
 f165:=Tryz.func207.trans (congrArg some (by kernel_rfl))
 f166:=Tryz.func124.trans (congrArg some (by kernel_rfl))
 f169:=Tryz.func84.trans (congrArg some (by kernel_rfl))
 f170:=Tryz.func208.trans (congrArg some (by kernel_rfl))
 f206:=Tryz.func228.trans (congrArg some (by kernel_rfl))
 f212:=Tryz.func205.trans (congrArg some (by kernel_rfl))
 f240:=Tryz.func171.trans (congrArg some (by kernel_rfl))
 f241:=Tryz.func229.trans (congrArg some (by kernel_rfl))
 f263:=Tryz.func226.trans (congrArg some (by kernel_rfl))
 f264:=Tryz.func227.trans (congrArg some (by kernel_rfl))
 f276:=Tryz.func203.trans (congrArg some (by kernel_rfl))
 f277:=Tryz.func247.trans (congrArg some (by kernel_rfl))
 t0:=Tryz.underlying0
 a0:=Tryz.isAgg0
 z0:=Tryz.sizeOf0
 v0:=Tryz.zeroValue0
 t3:=Tryz.underlying3
 a3:=Tryz.isAgg3
 z3:=Tryz.sizeOf3
 v3:=Tryz.zeroValue3
 t4:=Tryz.underlying4
 a4:=Tryz.isAgg4
 z4:=Tryz.sizeOf4
 v4:=Tryz.zeroValue4
 t5:=Tryz.underlying5
 a5:=Tryz.isAgg5
 z5:=Tryz.sizeOf5
 v5:=Tryz.zeroValue5
 t9:=Tryz.underlying9
 a9:=Tryz.isAgg9
 z9:=Tryz.sizeOf9
 v9:=Tryz.zeroValue9
 t20:=Tryz.underlying20
 a20:=Tryz.isAgg20
 z20:=Tryz.sizeOf20
 v20:=Tryz.zeroValue20
 t37:=Tryz.underlying42
 a37:=Tryz.isAgg42
 z37:=Tryz.sizeOf42
 v37:=Tryz.zeroValue42
 t46:=Tryz.underlying90
 a46:=Tryz.isAgg90
 z46:=Tryz.sizeOf90
 v46:=Tryz.zeroValue90
 t51:=Tryz.underlying87
 a51:=Tryz.isAgg87
 z51:=Tryz.sizeOf87
 v51:=Tryz.zeroValue87
 t53:=Tryz.underlying244
 a53:=Tryz.isAgg244
 z53:=Tryz.sizeOf244
 v53:=Tryz.zeroValue244
 t70:=Tryz.underlying116
 a70:=Tryz.isAgg116
 z70:=Tryz.sizeOf116
 v70:=Tryz.zeroValue116
 t72:=Tryz.underlying118
 a72:=Tryz.isAgg118
 z72:=Tryz.sizeOf118
 v72:=Tryz.zeroValue118
 t75:=Tryz.underlying158
 a75:=Tryz.isAgg158
 z75:=Tryz.sizeOf158
 v75:=Tryz.zeroValue158
 t76:=Tryz.underlying159
 a76:=Tryz.isAgg159
 z76:=Tryz.sizeOf159
 v76:=Tryz.zeroValue159
 t109:=Tryz.underlying225
 a109:=Tryz.isAgg225
 z109:=Tryz.sizeOf225
 v109:=Tryz.zeroValue225
 t127:=Tryz.underlying164
 a127:=Tryz.isAgg164
 z127:=Tryz.sizeOf164
 v127:=Tryz.zeroValue164
 t146:=Tryz.underlying192
 a146:=Tryz.isAgg192
 z146:=Tryz.sizeOf192
 v146:=Tryz.zeroValue192
 t148:=Tryz.underlying245
 a148:=Tryz.isAgg245
 z148:=Tryz.sizeOf245
 v148:=Tryz.zeroValue245
 t164:=Tryz.underlying223
 a164:=Tryz.isAgg223
 z164:=Tryz.sizeOf223
 v164:=Tryz.zeroValue223 }
def Tryz.lay161_ren:Go.Shelf.Ren:=⟨fun|161=>105|231=>139|227=>140|233=>141|235=>142|228=>183|197=>184|151=>185|260=>210|152=>211|137=>159|119=>230|224=>231|225=>232|217=>198|266=>222|n=>n,fun|9=>9|4=>4|3=>3|5=>5|117=>179|116=>178|0=>0|124=>182|105=>207|21=>21|119=>238|46=>90|139=>241|138=>240|n=>n,fun|3=>1|4=>2|n=>n⟩
theorem Tryz.lay161:Go.Proofs.Lays.n161 Tryz.prog Tryz.lay161_ren := {
 mixed:=by kernel_rfl
 f119:=Tryz.func230.trans (congrArg some (by kernel_rfl))
 f137:=Tryz.func159.trans (congrArg some (by kernel_rfl))
 f151:=Tryz.func185.trans (congrArg some (by kernel_rfl))
 f152:=Tryz.func211.trans (congrArg some (by kernel_rfl))
 f161:=Tryz.func105.trans (congrArg some (by kernel_rfl))
 f197:=Tryz.func184.trans (congrArg some (by kernel_rfl))
 f217:=Tryz.func198.trans (congrArg some (by kernel_rfl))
 f224:=Tryz.func231.trans (congrArg some (by kernel_rfl))
 f225:=Tryz.func232.trans (congrArg some (by kernel_rfl))
 f227:=Tryz.func140.trans (congrArg some (by kernel_rfl))
 f228:=Tryz.func183.trans (congrArg some (by kernel_rfl))
 f231:=Tryz.func139.trans (congrArg some (by kernel_rfl))
 f233:=Tryz.func141.trans (congrArg some (by kernel_rfl))
 f235:=Tryz.func142.trans (congrArg some (by kernel_rfl))
 f260:=Tryz.func210.trans (congrArg some (by kernel_rfl))
 f266:=Tryz.func222.trans (congrArg some (by kernel_rfl))
 t0:=Tryz.underlying0
 a0:=Tryz.isAgg0
 z0:=Tryz.sizeOf0
 v0:=Tryz.zeroValue0
 t3:=Tryz.underlying3
 a3:=Tryz.isAgg3
 z3:=Tryz.sizeOf3
 v3:=Tryz.zeroValue3
 t4:=Tryz.underlying4
 a4:=Tryz.isAgg4
 z4:=Tryz.sizeOf4
 v4:=Tryz.zeroValue4
 t5:=Tryz.underlying5
 a5:=Tryz.isAgg5
 z5:=Tryz.sizeOf5
 v5:=Tryz.zeroValue5
 t9:=Tryz.underlying9
 a9:=Tryz.isAgg9
 z9:=Tryz.sizeOf9
 v9:=Tryz.zeroValue9
 t21:=Tryz.underlying21
 a21:=Tryz.isAgg21
 z21:=Tryz.sizeOf21
 v21:=Tryz.zeroValue21
 t46:=Tryz.underlying90
 a46:=Tryz.isAgg90
 z46:=Tryz.sizeOf90
 v46:=Tryz.zeroValue90
 t105:=Tryz.underlying207
 a105:=Tryz.isAgg207
 z105:=Tryz.sizeOf207
 v105:=Tryz.zeroValue207
 t116:=Tryz.underlying178
 a116:=Tryz.isAgg178
 z116:=Tryz.sizeOf178
 t117:=Tryz.underlying179
 a117:=Tryz.isAgg179
 z117:=Tryz.sizeOf179
 v117:=Tryz.zeroValue179
 t119:=Tryz.underlying238
 a119:=Tryz.isAgg238
 z119:=Tryz.sizeOf238
 t124:=Tryz.underlying182
 a124:=Tryz.isAgg182
 z124:=Tryz.sizeOf182
 v124:=Tryz.zeroValue182
 t138:=Tryz.underlying240
 a138:=Tryz.isAgg240
 z138:=Tryz.sizeOf240
 v138:=Tryz.zeroValue240
 t139:=Tryz.underlying241
 a139:=Tryz.isAgg241
 z139:=Tryz.sizeOf241
 v139:=Tryz.zeroValue241
 g3:=by kernel_rfl
 g4:=by kernel_rfl }
def Tryz.lay162_ren:Go.Shelf.Ren:=⟨fun|162=>193|232=>215|227=>140|234=>216|236=>217|228=>183|271=>235|151=>185|120=>248|197=>184|152=>211|260=>210|137=>159|119=>230|224=>231|225=>232|217=>198|266=>222|n=>n,fun|9=>9|4=>4|3=>3|5=>5|117=>179|116=>178|0=>0|124=>182|21=>21|105=>207|46=>90|119=>238|139=>241|138=>240|n=>n,fun|3=>1|4=>2|n=>n⟩
theorem Tryz.lay162:Go.Proofs.Lays.n162 Tryz.prog Tryz.lay162_ren := {
 mixed:=by kernel_rfl
 f119:=Tryz.func230.trans (congrArg some (by kernel_rfl))
 f120:=Tryz.func248.trans (congrArg some (by kernel_rfl))
 f137:=Tryz.func159.trans (congrArg some (by kernel_rfl))
 f151:=Tryz.func185.trans (congrArg some (by kernel_rfl))
 f152:=Tryz.func211.trans (congrArg some (by kernel_rfl))
 f162:=Tryz.func193.trans (congrArg some (by kernel_rfl))
 f197:=Tryz.func184.trans (congrArg some (by kernel_rfl))
 f217:=Tryz.func198.trans (congrArg some (by kernel_rfl))
 f224:=Tryz.func231.trans (congrArg some (by kernel_rfl))
 f225:=Tryz.func232.trans (congrArg some (by kernel_rfl))
 f227:=Tryz.func140.trans (congrArg some (by kernel_rfl))
 f228:=Tryz.func183.trans (congrArg some (by kernel_rfl))
 f232:=Tryz.func215.trans (congrArg some (by kernel_rfl))
 f234:=Tryz.func216.trans (congrArg some (by kernel_rfl))
 f236:=Tryz.func217.trans (congrArg some (by kernel_rfl))
 f260:=Tryz.func210.trans (congrArg some (by kernel_rfl))
 f266:=Tryz.func222.trans (congrArg some (by kernel_rfl))
 f271:=Tryz.func235.trans (congrArg some (by kernel_rfl))
 t0:=Tryz.underlying0
 a0:=Tryz.isAgg0
 z0:=Tryz.sizeOf0
 v0:=Tryz.zeroValue0
 t3:=Tryz.underlying3
 a3:=Tryz.isAgg3
 z3:=Tryz.sizeOf3
 v3:=Tryz.zeroValue3
 t4:=Tryz.underlying4
 a4:=Tryz.isAgg4
 z4:=Tryz.sizeOf4
 v4:=Tryz.zeroValue4
 t5:=Tryz.underlying5
 a5:=Tryz.isAgg5
 z5:=Tryz.sizeOf5
 v5:=Tryz.zeroValue5
 t9:=Tryz.underlying9
 a9:=Tryz.isAgg9
 z9:=Tryz.sizeOf9
 v9:=Tryz.zeroValue9
 t21:=Tryz.underlying21
 a21:=Tryz.isAgg21
 z21:=Tryz.sizeOf21
 v21:=Tryz.zeroValue21
 t46:=Tryz.underlying90
 a46:=Tryz.isAgg90
 z46:=Tryz.sizeOf90
 v46:=Tryz.zeroValue90
 t105:=Tryz.underlying207
 a105:=Tryz.isAgg207
 z105:=Tryz.sizeOf207
 v105:=Tryz.zeroValue207
 t116:=Tryz.underlying178
 a116:=Tryz.isAgg178
 z116:=Tryz.sizeOf178
 t117:=Tryz.underlying179
 a117:=Tryz.isAgg179
 z117:=Tryz.sizeOf179
 v117:=Tryz.zeroValue179
 t119:=Tryz.underlying238
 a119:=Tryz.isAgg238
 z119:=Tryz.sizeOf238
 t124:=Tryz.underlying182
 a124:=Tryz.isAgg182
 z124:=Tryz.sizeOf182
 v124:=Tryz.zeroValue182
 t138:=Tryz.underlying240
 a138:=Tryz.isAgg240
 z138:=Tryz.sizeOf240
 v138:=Tryz.zeroValue240
 t139:=Tryz.underlying241
 a139:=Tryz.isAgg241
 z139:=Tryz.sizeOf241
 v139:=Tryz.zeroValue241
 g3:=by kernel_rfl
 g4:=by kernel_rfl }
def Tryz.lay172_ren:Go.Shelf.Ren:=⟨fun|172=>194|244=>218|245=>219|247=>236|279=>237|280=>238|281=>239|282=>240|287=>249|316=>250|171=>172|205=>251|321=>259|322=>260|243=>204|246=>225|283=>243|284=>244|285=>245|286=>246|129=>255|317=>254|318=>256|319=>257|320=>258|337=>262|338=>263|n=>n,fun|9=>9|3=>3|75=>158|76=>159|4=>4|5=>5|167=>250|37=>42|0=>0|85=>251|2=>2|168=>253|53=>244|175=>261|46=>90|210=>264|127=>164|145=>273|143=>271|21=>21|171=>256|173=>259|212=>267|51=>87|20=>20|213=>268|232=>275|233=>276|80=>120|n=>n,fun|15=>3|16=>4|17=>5|18=>6|19=>7|n=>n⟩
theorem Tryz.lay172:Go.Proofs.LaysC.n172 Tryz.prog Tryz.lay172_ren := {
 mixed:=by kernel_rfl
 f129:=Tryz.func255.trans (congrArg some (by kernel_rfl))
 f171:=Tryz.func172.trans (congrArg some (by kernel_rfl))
 f172:=Tryz.func194.trans (congrArg some (by kernel_rfl))
 f205:=Tryz.func251.trans (congrArg some (by kernel_rfl))
 f243:=Tryz.func204.trans (congrArg some (by kernel_rfl))
 f244:=Tryz.func218.trans (congrArg some (by kernel_rfl))
 f245:=Tryz.func219.trans (congrArg some (by kernel_rfl))
 f246:=Tryz.func225.trans (congrArg some (by kernel_rfl))
 f247:=Tryz.func236.trans (congrArg some (by kernel_rfl))
 f279:=Tryz.func237.trans (congrArg some (by kernel_rfl))
 f280:=Tryz.func238.trans (congrArg some (by kernel_rfl))
 f281:=Tryz.func239.trans (congrArg some (by kernel_rfl))
 f282:=Tryz.func240.trans (congrArg some (by kernel_rfl))
 f283:=Tryz.func243.trans (congrArg some (by kernel_rfl))
 f284:=Tryz.func244.trans (congrArg some (by kernel_rfl))
 f285:=Tryz.func245.trans (congrArg some (by kernel_rfl))
 f286:=Tryz.func246.trans (congrArg some (by kernel_rfl))
 f287:=Tryz.func249.trans (congrArg some (by kernel_rfl))
 f316:=Tryz.func250.trans (congrArg some (by kernel_rfl))
 f317:=Tryz.func254.trans (congrArg some (by kernel_rfl))
 f318:=Tryz.func256.trans (congrArg some (by kernel_rfl))
 f319:=Tryz.func257.trans (congrArg some (by kernel_rfl))
 f320:=Tryz.func258.trans (congrArg some (by kernel_rfl))
 f321:=Tryz.func259.trans (congrArg some (by kernel_rfl))
 f322:=Tryz.func260.trans (congrArg some (by kernel_rfl))
 f337:=Tryz.func262.trans (congrArg some (by kernel_rfl))
 f338:=Tryz.func263.trans (congrArg some (by kernel_rfl))
 t0:=Tryz.underlying0
 a0:=Tryz.isAgg0
 z0:=Tryz.sizeOf0
 v0:=Tryz.zeroValue0
 t2:=Tryz.underlying2
 a2:=Tryz.isAgg2
 z2:=Tryz.sizeOf2
 v2:=Tryz.zeroValue2
 t3:=Tryz.underlying3
 a3:=Tryz.isAgg3
 z3:=Tryz.sizeOf3
 v3:=Tryz.zeroValue3
 t4:=Tryz.underlying4
 a4:=Tryz.isAgg4
 z4:=Tryz.sizeOf4
 v4:=Tryz.zeroValue4
 t5:=Tryz.underlying5
 a5:=Tryz.isAgg5
 z5:=Tryz.sizeOf5
 v5:=Tryz.zeroValue5
 t9:=Tryz.underlying9
 a9:=Tryz.isAgg9
 z9:=Tryz.sizeOf9
 v9:=Tryz.zeroValue9
 t20:=Tryz.underlying20
 a20:=Tryz.isAgg20
 z20:=Tryz.sizeOf20
 v20:=Tryz.zeroValue20
 t21:=Tryz.underlying21
 a21:=Tryz.isAgg21
 z21:=Tryz.sizeOf21
 v21:=Tryz.zeroValue21
 t37:=Tryz.underlying42
 a37:=Tryz.isAgg42
 z37:=Tryz.sizeOf42
 v37:=Tryz.zeroValue42
 t46:=Tryz.underlying90
 a46:=Tryz.isAgg90
 z46:=Tryz.sizeOf90
 v46:=Tryz.zeroValue90
 t51:=Tryz.underlying87
 a51:=Tryz.isAgg87
 z51:=Tryz.sizeOf87
 v51:=Tryz.zeroValue87
 t53:=Tryz.underlying244
 a53:=Tryz.isAgg244
 z53:=Tryz.sizeOf244
 v53:=Tryz.zeroValue244
 t75:=Tryz.underlying158
 a75:=Tryz.isAgg158
 z75:=Tryz.sizeOf158
 v75:=Tryz.zeroValue158
 t76:=Tryz.underlying159
 a76:=Tryz.isAgg159
 z76:=Tryz.sizeOf159
 v76:=Tryz.zeroValue159
 t85:=Tryz.underlying251
 a85:=Tryz.isAgg251
 z85:=Tryz.sizeOf251
 v85:=Tryz.zeroValue251
 t127:=Tryz.underlying164
 a127:=Tryz.isAgg164
 z127:=Tryz.sizeOf164
 v127:=Tryz.zeroValue164
 t143:=Tryz.underlying271
 a143:=Tryz.isAgg271
 z143:=Tryz.sizeOf271
 v143:=Tryz.zeroValue271
 t145:=Tryz.underlying273
 a145:=Tryz.isAgg273
 z145:=Tryz.sizeOf273
 v145:=Tryz.zeroValue273
 t167:=Tryz.underlying250
 a167:=Tryz.isAgg250
 z167:=Tryz.sizeOf250
 v167:=Tryz.zeroValue250
 t168:=Tryz.underlying253
 a168:=Tryz.isAgg253
 z168:=Tryz.sizeOf253
 v168:=Tryz.zeroValue253
 t171:=Tryz.underlying256
 a171:=Tryz.isAgg256
 z171:=Tryz.sizeOf256
 v171:=Tryz.zeroValue256
 t173:=Tryz.underlying259
 a173:=Tryz.isAgg259
 z173:=Tryz.sizeOf259
 v173:=Tryz.zeroValue259
 t175:=Tryz.underlying261
 a175:=Tryz.isAgg261
 z175:=Tryz.sizeOf261
 v175:=Tryz.zeroValue261
 t210:=Tryz.underlying264
 a210:=Tryz.isAgg264
 z210:=Tryz.sizeOf264
 v210:=Tryz.zeroValue264
 t212:=Tryz.underlying267
 a212:=Tryz.isAgg267
 z212:=Tryz.sizeOf267
 v212:=Tryz.zeroValue267
 t213:=Tryz.underlying268
 a213:=Tryz.isAgg268
 z213:=Tryz.sizeOf268
 t232:=Tryz.underlying275
 a232:=Tryz.isAgg275
 z232:=Tryz.sizeOf275
 v232:=Tryz.zeroValue275
 t233:=Tryz.underlying276
 a233:=Tryz.isAgg276
 z233:=Tryz.sizeOf276
 v233:=Tryz.zeroValue276
 g15:=by kernel_rfl
 g16:=by kernel_rfl
 g17:=by kernel_rfl
 g18:=by kernel_rfl
 g19:=by kernel_rfl
 t80:=Tryz.underlying120
 a80:=Tryz.isAgg120
 z80:=Tryz.sizeOf120
 v80:=Tryz.zeroValue120
 i0:=by kernel_rfl
 i2:=by kernel_rfl
 i3:=by kernel_rfl
 i4:=by kernel_rfl
 i5:=by kernel_rfl
 i9:=by kernel_rfl
 i20:=by kernel_rfl
 i21:=by kernel_rfl
 i37:=by kernel_rfl
 i46:=by kernel_rfl
 i51:=by kernel_rfl
 i53:=by kernel_rfl
 i75:=by kernel_rfl
 i76:=by kernel_rfl
 i80:=by kernel_rfl
 i85:=by kernel_rfl
 i127:=by kernel_rfl
 i143:=by kernel_rfl
 i145:=by kernel_rfl
 i167:=by kernel_rfl
 i168:=by kernel_rfl
 i171:=by kernel_rfl
 i173:=by kernel_rfl
 i175:=by kernel_rfl
 i210:=by kernel_rfl
 i212:=by kernel_rfl
 i232:=by kernel_rfl
 i233:=by kernel_rfl
 m15:=by kernel_rfl
 m16:=by kernel_rfl
 m17:=by kernel_rfl
 m18:=by kernel_rfl
 m19:=by kernel_rfl
 c0:=by kernel_rfl
 c2:=by kernel_rfl
 c3:=by kernel_rfl
 c4:=by kernel_rfl
 c5:=by kernel_rfl
 c9:=by kernel_rfl
 c20:=by kernel_rfl
 c21:=by kernel_rfl
 c37:=by kernel_rfl
 c46:=by kernel_rfl
 c51:=by kernel_rfl
 c53:=by kernel_rfl
 c75:=by kernel_rfl
 c76:=by kernel_rfl
 c80:=by kernel_rfl
 c85:=by kernel_rfl
 c127:=by kernel_rfl
 c143:=by kernel_rfl
 c145:=by kernel_rfl
 c167:=by kernel_rfl
 c168:=by kernel_rfl
 c171:=by kernel_rfl
 c173:=by kernel_rfl
 c175:=by kernel_rfl
 c210:=by kernel_rfl
 c212:=by kernel_rfl
 c213:=by kernel_rfl
 c232:=by kernel_rfl
 c233:=by kernel_rfl }
def Tryz.lay245_ren:Go.Shelf.Ren:=⟨fun|245=>219|279=>237|280=>238|281=>239|282=>240|316=>250|171=>172|205=>251|243=>204|246=>225|283=>243|284=>244|285=>245|286=>246|129=>255|317=>254|318=>256|319=>257|320=>258|337=>262|338=>263|n=>n,fun|9=>9|3=>3|75=>158|167=>250|4=>4|168=>253|210=>264|37=>42|0=>0|127=>164|145=>273|143=>271|2=>2|171=>256|53=>244|5=>5|173=>259|212=>267|51=>87|20=>20|213=>268|46=>90|232=>275|233=>276|80=>120|n=>n,fun|15=>3|16=>4|17=>5|18=>6|19=>7|n=>n⟩
theorem Tryz.lay245:Go.Proofs.LaysC.n245 Tryz.prog Tryz.lay245_ren := {
 mixed:=by kernel_rfl
 f129:=Tryz.func255.trans (congrArg some (by kernel_rfl))
 f171:=Tryz.func172.trans (congrArg some (by kernel_rfl))
 f205:=Tryz.func251.trans (congrArg some (by kernel_rfl))
 f243:=Tryz.func204.trans (congrArg some (by kernel_rfl))
 f245:=Tryz.func219.trans (congrArg some (by kernel_rfl))
 f246:=Tryz.func225.trans (congrArg some (by kernel_rfl))
 f279:=Tryz.func237.trans (congrArg some (by kernel_rfl))
 f280:=Tryz.func238.trans (congrArg some (by kernel_rfl))
 f281:=Tryz.func239.trans (congrArg some (by kernel_rfl))
 f282:=Tryz.func240.trans (congrArg some (by kernel_rfl))
 f283:=Tryz.func243.trans (congrArg some (by kernel_rfl))
 f284:=Tryz.func244.trans (congrArg some (by kernel_rfl))
 f285:=Tryz.func245.trans (congrArg some (by kernel_rfl))
 f286:=Tryz.func246.trans (congrArg some (by kernel_rfl))
 f316:=Tryz.func250.trans (congrArg some (by kernel_rfl))
 f317:=Tryz.func254.trans (congrArg some (by kernel_rfl))
 f318:=Tryz.func256.trans (congrArg some (by kernel_rfl))
 f319:=Tryz.func257.trans (congrArg some (by kernel_rfl))
 f320:=Tryz.func258.trans (congrArg some (by kernel_rfl))
 f337:=Tryz.func262.trans (congrArg some (by kernel_rfl))
 f338:=Tryz.func263.trans (congrArg some (by kernel_rfl))
 t0:=Tryz.underlying0
 a0:=Tryz.isAgg0
 z0:=Tryz.sizeOf0
 v0:=Tryz.zeroValue0
 t2:=Tryz.underlying2
 a2:=Tryz.isAgg2
 z2:=Tryz.sizeOf2
 v2:=Tryz.zeroValue2
 t3:=Tryz.underlying3
 a3:=Tryz.isAgg3
 z3:=Tryz.sizeOf3
 v3:=Tryz.zeroValue3
 t4:=Tryz.underlying4
 a4:=Tryz.isAgg4
 z4:=Tryz.sizeOf4
 v4:=Tryz.zeroValue4
 t5:=Tryz.underlying5
 a5:=Tryz.isAgg5
 z5:=Tryz.sizeOf5
 v5:=Tryz.zeroValue5
 t9:=Tryz.underlying9
 a9:=Tryz.isAgg9
 z9:=Tryz.sizeOf9
 v9:=Tryz.zeroValue9
 t20:=Tryz.underlying20
 a20:=Tryz.isAgg20
 z20:=Tryz.sizeOf20
 v20:=Tryz.zeroValue20
 t37:=Tryz.underlying42
 a37:=Tryz.isAgg42
 z37:=Tryz.sizeOf42
 v37:=Tryz.zeroValue42
 t46:=Tryz.underlying90
 a46:=Tryz.isAgg90
 z46:=Tryz.sizeOf90
 v46:=Tryz.zeroValue90
 t51:=Tryz.underlying87
 a51:=Tryz.isAgg87
 z51:=Tryz.sizeOf87
 v51:=Tryz.zeroValue87
 t53:=Tryz.underlying244
 a53:=Tryz.isAgg244
 z53:=Tryz.sizeOf244
 v53:=Tryz.zeroValue244
 t75:=Tryz.underlying158
 a75:=Tryz.isAgg158
 z75:=Tryz.sizeOf158
 v75:=Tryz.zeroValue158
 t127:=Tryz.underlying164
 a127:=Tryz.isAgg164
 z127:=Tryz.sizeOf164
 v127:=Tryz.zeroValue164
 t143:=Tryz.underlying271
 a143:=Tryz.isAgg271
 z143:=Tryz.sizeOf271
 v143:=Tryz.zeroValue271
 t145:=Tryz.underlying273
 a145:=Tryz.isAgg273
 z145:=Tryz.sizeOf273
 v145:=Tryz.zeroValue273
 t167:=Tryz.underlying250
 a167:=Tryz.isAgg250
 z167:=Tryz.sizeOf250
 v167:=Tryz.zeroValue250
 t168:=Tryz.underlying253
 a168:=Tryz.isAgg253
 z168:=Tryz.sizeOf253
 v168:=Tryz.zeroValue253
 t171:=Tryz.underlying256
 a171:=Tryz.isAgg256
 z171:=Tryz.sizeOf256
 v171:=Tryz.zeroValue256
 t173:=Tryz.underlying259
 a173:=Tryz.isAgg259
 z173:=Tryz.sizeOf259
 v173:=Tryz.zeroValue259
 t210:=Tryz.underlying264
 a210:=Tryz.isAgg264
 z210:=Tryz.sizeOf264
 v210:=Tryz.zeroValue264
 t212:=Tryz.underlying267
 a212:=Tryz.isAgg267
 z212:=Tryz.sizeOf267
 v212:=Tryz.zeroValue267
 t213:=Tryz.underlying268
 a213:=Tryz.isAgg268
 z213:=Tryz.sizeOf268
 t232:=Tryz.underlying275
 a232:=Tryz.isAgg275
 z232:=Tryz.sizeOf275
 v232:=Tryz.zeroValue275
 t233:=Tryz.underlying276
 a233:=Tryz.isAgg276
 z233:=Tryz.sizeOf276
 v233:=Tryz.zeroValue276
 g15:=by kernel_rfl
 g16:=by kernel_rfl
 g17:=by kernel_rfl
 g18:=by kernel_rfl
 g19:=by kernel_rfl
 t80:=Tryz.underlying120
 a80:=Tryz.isAgg120
 z80:=Tryz.sizeOf120
 v80:=Tryz.zeroValue120
 i0:=by kernel_rfl
 i2:=by kernel_rfl
 i3:=by kernel_rfl
 i4:=by kernel_rfl
 i5:=by kernel_rfl
 i9:=by kernel_rfl
 i20:=by kernel_rfl
 i37:=by kernel_rfl
 i46:=by kernel_rfl
 i51:=by kernel_rfl
 i53:=by kernel_rfl
 i75:=by kernel_rfl
 i80:=by kernel_rfl
 i127:=by kernel_rfl
 i143:=by kernel_rfl
 i145:=by kernel_rfl
 i167:=by kernel_rfl
 i168:=by kernel_rfl
 i171:=by kernel_rfl
 i173:=by kernel_rfl
 i210:=by kernel_rfl
 i212:=by kernel_rfl
 i232:=by kernel_rfl
 i233:=by kernel_rfl
 m15:=by kernel_rfl
 m16:=by kernel_rfl
 m17:=by kernel_rfl
 m18:=by kernel_rfl
 m19:=by kernel_rfl
 c0:=by kernel_rfl
 c2:=by kernel_rfl
 c3:=by kernel_rfl
 c4:=by kernel_rfl
 c5:=by kernel_rfl
 c9:=by kernel_rfl
 c20:=by kernel_rfl
 c37:=by kernel_rfl
 c46:=by kernel_rfl
 c51:=by kernel_rfl
 c53:=by kernel_rfl
 c75:=by kernel_rfl
 c80:=by kernel_rfl
 c127:=by kernel_rfl
 c143:=by kernel_rfl
 c145:=by kernel_rfl
 c167:=by kernel_rfl
 c168:=by kernel_rfl
 c171:=by kernel_rfl
 c173:=by kernel_rfl
 c210:=by kernel_rfl
 c212:=by kernel_rfl
 c213:=by kernel_rfl
 c232:=by kernel_rfl
 c233:=by kernel_rfl }
def Tryz.lay150_ren:Go.Shelf.Ren:=⟨fun|150=>253|153=>261|152=>211|226=>264|227=>140|228=>183|137=>159|119=>230|224=>231|225=>232|217=>198|266=>222|n=>n,fun|9=>9|4=>4|3=>3|5=>5|21=>21|117=>179|116=>178|0=>0|46=>90|124=>182|n=>n,fun|n=>n⟩
theorem Tryz.lay150:Go.Proofs.Lays.n150 Tryz.prog Tryz.lay150_ren := {
 mixed:=by kernel_rfl
 f119:=Tryz.func230.trans (congrArg some (by kernel_rfl))
 f137:=Tryz.func159.trans (congrArg some (by kernel_rfl))
 f150:=Tryz.func253.trans (congrArg some (by kernel_rfl))
 f152:=Tryz.func211.trans (congrArg some (by kernel_rfl))
 f153:=Tryz.func261.trans (congrArg some (by kernel_rfl))
 f217:=Tryz.func198.trans (congrArg some (by kernel_rfl))
 f224:=Tryz.func231.trans (congrArg some (by kernel_rfl))
 f225:=Tryz.func232.trans (congrArg some (by kernel_rfl))
 f226:=Tryz.func264.trans (congrArg some (by kernel_rfl))
 f227:=Tryz.func140.trans (congrArg some (by kernel_rfl))
 f228:=Tryz.func183.trans (congrArg some (by kernel_rfl))
 f266:=Tryz.func222.trans (congrArg some (by kernel_rfl))
 t0:=Tryz.underlying0
 a0:=Tryz.isAgg0
 z0:=Tryz.sizeOf0
 v0:=Tryz.zeroValue0
 t3:=Tryz.underlying3
 a3:=Tryz.isAgg3
 z3:=Tryz.sizeOf3
 v3:=Tryz.zeroValue3
 t4:=Tryz.underlying4
 a4:=Tryz.isAgg4
 z4:=Tryz.sizeOf4
 v4:=Tryz.zeroValue4
 t5:=Tryz.underlying5
 a5:=Tryz.isAgg5
 z5:=Tryz.sizeOf5
 v5:=Tryz.zeroValue5
 t9:=Tryz.underlying9
 a9:=Tryz.isAgg9
 z9:=Tryz.sizeOf9
 v9:=Tryz.zeroValue9
 t21:=Tryz.underlying21
 a21:=Tryz.isAgg21
 z21:=Tryz.sizeOf21
 v21:=Tryz.zeroValue21
 t46:=Tryz.underlying90
 a46:=Tryz.isAgg90
 z46:=Tryz.sizeOf90
 v46:=Tryz.zeroValue90
 t116:=Tryz.underlying178
 a116:=Tryz.isAgg178
 z116:=Tryz.sizeOf178
 t117:=Tryz.underlying179
 a117:=Tryz.isAgg179
 z117:=Tryz.sizeOf179
 v117:=Tryz.zeroValue179
 t124:=Tryz.underlying182
 a124:=Tryz.isAgg182
 z124:=Tryz.sizeOf182
 v124:=Tryz.zeroValue182 }
def Tryz.lay137_ren:Go.Shelf.Ren:=⟨fun|137=>159|217=>198|266=>222|n=>n,fun|9=>9|5=>5|3=>3|n=>n,fun|n=>n⟩
theorem Tryz.lay137:Go.Proofs.Lays.n137 Tryz.prog Tryz.lay137_ren := {
 mixed:=by kernel_rfl
 f137:=Tryz.func159.trans (congrArg some (by kernel_rfl))
 f217:=Tryz.func198.trans (congrArg some (by kernel_rfl))
 f266:=Tryz.func222.trans (congrArg some (by kernel_rfl))
 t3:=Tryz.underlying3
 a3:=Tryz.isAgg3
 z3:=Tryz.sizeOf3
 v3:=Tryz.zeroValue3
 t5:=Tryz.underlying5
 a5:=Tryz.isAgg5
 z5:=Tryz.sizeOf5
 v5:=Tryz.zeroValue5
 t9:=Tryz.underlying9
 a9:=Tryz.isAgg9
 z9:=Tryz.sizeOf9
 v9:=Tryz.zeroValue9 }
def Tryz.lay148_ren:Go.Shelf.Ren:=⟨fun|148=>78|222=>116|223=>117|269=>156|n=>n,fun|9=>9|3=>3|4=>4|5=>5|146=>192|51=>87|46=>90|n=>n,fun|n=>n⟩
theorem Tryz.lay148:Go.Proofs.Lays.n148 Tryz.prog Tryz.lay148_ren := {
 mixed:=by kernel_rfl
 f148:=Tryz.func78.trans (congrArg some (by kernel_rfl))
 f222:=Tryz.func116.trans (congrArg some (by kernel_rfl))
 f223:=Tryz.func117.trans (congrArg some (by kernel_rfl))
 f269:=Tryz.func156.trans (congrArg some (by kernel_rfl))
 t3:=Tryz.underlying3
 a3:=Tryz.isAgg3
 z3:=Tryz.sizeOf3
 v3:=Tryz.zeroValue3
 t4:=Tryz.underlying4
 a4:=Tryz.isAgg4
 z4:=Tryz.sizeOf4
 v4:=Tryz.zeroValue4
 t5:=Tryz.underlying5
 a5:=Tryz.isAgg5
 z5:=Tryz.sizeOf5
 v5:=Tryz.zeroValue5
 t9:=Tryz.underlying9
 a9:=Tryz.isAgg9
 z9:=Tryz.sizeOf9
 v9:=Tryz.zeroValue9
 t46:=Tryz.underlying90
 a46:=Tryz.isAgg90
 z46:=Tryz.sizeOf90
 v46:=Tryz.zeroValue90
 t51:=Tryz.underlying87
 a51:=Tryz.isAgg87
 z51:=Tryz.sizeOf87
 v51:=Tryz.zeroValue87
 t146:=Tryz.underlying192
 a146:=Tryz.isAgg192
 z146:=Tryz.sizeOf192
 v146:=Tryz.zeroValue192 }
def Tryz.Ti:Go.Shelf.Ren:=⟨fun|169=>84|n=>n,fun|70=>116|9=>9|0=>0|72=>118|37=>42|127=>164|3=>3|5=>5|n=>n,fun|n=>n⟩
theorem Tryz.lay169:Go.Proofs.Lays.n169 Tryz.prog Tryz.Ti := {
 mixed:=by kernel_rfl
 f169:=Tryz.func84.trans (congrArg some (by kernel_rfl))
 t0:=Tryz.underlying0
 a0:=Tryz.isAgg0
 z0:=Tryz.sizeOf0
 v0:=Tryz.zeroValue0
 t3:=Tryz.underlying3
 a3:=Tryz.isAgg3
 z3:=Tryz.sizeOf3
 v3:=Tryz.zeroValue3
 t9:=Tryz.underlying9
 a9:=Tryz.isAgg9
 z9:=Tryz.sizeOf9
 v9:=Tryz.zeroValue9
 t37:=Tryz.underlying42
 a37:=Tryz.isAgg42
 z37:=Tryz.sizeOf42
 v37:=Tryz.zeroValue42
 t70:=Tryz.underlying116
 a70:=Tryz.isAgg116
 z70:=Tryz.sizeOf116
 v70:=Tryz.zeroValue116
 t72:=Tryz.underlying118
 a72:=Tryz.isAgg118
 z72:=Tryz.sizeOf118
 v72:=Tryz.zeroValue118
 t127:=Tryz.underlying164
 a127:=Tryz.isAgg164
 z127:=Tryz.sizeOf164
 v127:=Tryz.zeroValue164 }
end Go.Proofs
end
