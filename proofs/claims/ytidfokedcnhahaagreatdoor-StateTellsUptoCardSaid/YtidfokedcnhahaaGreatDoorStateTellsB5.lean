/-
  StateTells, part 5 of 10.
-/
import Derived.OpenShut
import Derived.JoinedCond
import Derived.Test.YtidfokedcnhahaaGreatDoorProg
import Derived.Shelf.Strconv.AtoiAll
import Derived.Shelf.Strconv.Itoa3
import Derived.Shelf.Strconv.ToErrorRange
import Derived.Shelf.Strings.Builder1
import Derived.Shelf.Strings.IndexAnyAll
import Derived.Shelf.Strings.LastIndex
import Derived.Shelf.Strings.Repeat
import Derived.Shelf.Strings.Search1
import Derived.Shelf.Strings.SlTrimAscii
import Derived.Shelf.Strings.Trim
import Derived.Shelf.Unicode.DecodeAny
import Derived.Shelf.Unicode.ValidAny
import Derived.Test.YtidfokedcnhahaaGreatDoorStateTellsB4
set_option linter.unusedSimpArgs false
set_option linter.unusedVariables false
open Bool renaming and_eq_true->bF,false_or->sn,or_eq_true->je
open Go.Calls renaming mono->va
open Go.Op renaming equalIn->uY
open Go.Proofs.Tryz renaming func159->PN,func84->PM,isAgg0->zq,isAgg21->PB,isAgg244->Px,isAgg3->ve,isAgg4->zx,isAgg42->PF,isAgg5->tA,isAgg87->PJ,isAgg9->vi,isAgg90->zB,prog->ao,sizeOf0->zt,sizeOf21->PC,sizeOf244->Py,sizeOf3->vf,sizeOf4->zy,sizeOf42->PG,sizeOf5->tB,sizeOf87->PK,sizeOf9->vj,sizeOf90->zC,underlying0->zp,underlying21->PA,underlying244->Pw,underlying3->vd,underlying4->zw,underlying42->PE,underlying5->tz,underlying87->PI,underlying9->vh,underlying90->zA,zeroValue0->zu,zeroValue21->PD,zeroValue244->Pz,zeroValue3->vg,zeroValue4->zz,zeroValue42->PH,zeroValue5->tC,zeroValue87->PL,zeroValue9->vk,zeroValue90->zD
open Go.Shelf renaming Ren->vb
open Go.Value renaming okWide->Jj
open List renaming all_eq_true->gF,contains_cons->nR,getD->ca,range->jZ
open Nat renaming beq->kY,eq_of_beq_eq_true->zo,le_of_not_lt->FL
open Prod.mk renaming injEq->kA
noncomputable section
namespace Go.ak
open Go.RowKit Go.ChangeShapes Go.WideShapes Go.Proofs.YtidfokedcnhahaaGreatDoor
def Ej:V->aq->Option Unit:=fun v _=>match v with | .bool true=>some ()|_=>none
def Ks (w w':World):Prop:=w'.os=w.os/\w'.output=w.output/\w.heap.size<=w'.heap.size/\∀b,b<w.heap.size->w'.heap[b]? = w.heap[b]?
section
variable {H:Type} {enc:TypeId×Value->H} {P:Program} {tt:aZ} {w:World} {spare:Nat->Bool} {held:Bool}
theorem ar9 (c:bh) (b y:Nat):¬fJ ([]:aq) c b y:=fun ho=>by
 obtain ⟨i,f,_,g2,_⟩:=ho;simp[aq.at,aI.from_]at g2
theorem asa {g:Nat} {fn:Func} (hf:P.funcs[g]? = some fn) (hn:(fn.name == "runtime.NumGoroutine")=false) (hb:fn.body.isNone=false) {sp:Spec Unit} (gT:Spec.Ok P g sp) {vs:List V} {args:Array Value}
  (hs:dL.Du w) (hb0:∀b,dL.blocks b->b<w.heap.size) (ra:aQ w [] tS vs args.toList) (hk:sp vs [] Ej=some ()):Calls P g args w fun e w'=>e=.returned (.bool true)/\Ks w w':=by
 obtain ⟨nx,w1,h1,h2⟩:=gT vs [] Ej () hk w tS args (wf0 w hs hb0) ra;have mz:fn.name ≠ "runtime.NumGoroutine" :=by simpa using hn
 have bI:fn.body≠none:=fun e=>by rw[e]at hb; cases hb
 have h0:(callFunc g args).run P w=.ok (.enter g args) w:=by simp[callFunc,hf,mz,bI]
 rw[h0]at h1;cases h1;refine va h2 fun e w' ⟨d,he,v,h',c',_,x,rv,hv⟩ => ?_
 subst he;have BG:v=.bool true:=by
  unfold Ej at hv;split at hv
  ·rfl
  ·cases hv
 subst BG;cases rv;exact⟨rfl,x.os,x.output,x.size,fun b hb=>x.block b hb (ar9 _ b)⟩
def acs (P:Program) (t:TypeId):Bool:=
 match P.underlying t with
 | some .bool|some (.int _)|some .string|some (.slice _)=>true
 | _=>false
theorem SG {N:Nat} (fK:GZ P tt) {t:TypeId} {v:Value} {d:DataW H} {ps:List MemPlace} {p:bD} {base:Nat} (ho:acs P t=true) (hl:n8 P tt 8 t=some [p]) (lX:Jj P w .any base t v)
  (h:DataW.Trod enc P w 0 spare held t v d ps) (hb:Rows.uptoBulk d<=N) (hN:N<=mx):∃x:p.den,ay w [] tS (p.enc x) v/\Small N (p.enc x):=by
 obtain ⟨n,h⟩:=h;obtain ⟨vs,⟨x,rfl⟩,h2,h3⟩:=Kr fK n t _ _ 8 _ h hl hb hN;have hc:v.cells.toList=[v]:=by
  unfold acs at ho;unfold Jj at lX;cases hu:P.underlying t with
  | none=>rw[hu]at ho; cases ho
  | some u=>
   rw[hu]at ho lX;cases u<;>simp only at ho<;>(try cases ho)<;>(cases v<;>simp[Cell.okWide,Cell.ok,hu]at lX<;>rfl)
 rw[hc]at h2;exact⟨x.1,h2.head,h3 _ (by show p.enc x.1∈[p.enc x.1]; simp)⟩
theorem asb {ts:List TypeId} (h:ts.all (fun t=>P.readableRec t&&decide (t<P.types.size))=true):∀t∈ts,P.readableRec t=true/\t<P.types.size:=by
 intro t ht;have:=gF.1 h t ht;simpa using this
def acu (P:Program) (t:TypeId):Bool:=
 match P.underlying t with
 | some (.struct _)|some (.array _ _)=>true
 | _=>false
theorem acv {N:Nat} (fK:GZ P tt) {t:TypeId} {v:Value} {d:DataW H} {ps:List MemPlace} {T:Ty} {base:Nat} (ho:acu P t=true) (hl:n8 P tt 8 t=some T.leaves) (lX:Jj P w .any base t v)
  (h:DataW.Trod enc P w 0 spare held t v d ps) (hb:Rows.uptoBulk d<=N) (hN:N<=mx):∃x:T.den,ay w [] tS (.agg (T.cells x)) v/\∀c∈T.cells x,Small N c:=by
 obtain ⟨n,h⟩:=h;obtain ⟨vs,⟨x,rfl⟩,h2,h3⟩:=Kr fK n t _ _ 8 _ h hl hb hN;obtain ⟨y,hy⟩:=acm T x;rw[<-hy]at h2 h3;have hc:∃cs,v=.agg cs:=by
  unfold acu at ho;unfold Jj at lX;cases hu:P.underlying t with
  | none=>rw[hu]at ho; cases ho
  | some u=>
   rw[hu]at ho lX;cases u<;>simp only at ho<;>(try cases ho)<;>(obtain ⟨cs,hc,_⟩:=lX; exact⟨cs,hc⟩)
 obtain ⟨cs,rfl⟩:=hc;exact⟨y,.agg (by have:=h2.1; simpa [Value.cells]using this) fun j v d hv hd=>h2.2 j v d hv (by simpa [Value.cells]using hd),h3⟩
theorem acw (hl:laidOutB P=true) {w':World} (L:Ks w w'):∀ {ts:List TypeId} {vs:List Value} {ds:List (DataW H)} {ps:List MemPlace},(∀t∈ts,P.readableRec t=true/\t<P.types.size) ->
  DataW.TrodAll enc P w 0 (fun _=>true) true ts vs ds ps->DataW.TrodAll enc P w' 0 (fun b=>decide (b<w.heap.size)) true ts vs ds ps
 | [],vs,ds,ps,_,h=>by obtain ⟨rfl,rfl,rfl⟩:=trodAll_nil h; exact h
 | t::ts,vs,ds,ps,hp,h=>by
  have aX:=h.lt;obtain ⟨v,vs1,d,ds1,p,q,rfl,rfl,rfl,h1,h2⟩:=trodAll_cons h;obtain ⟨hr,iW⟩:=hp t (by simp);have hb:∀x∈p,x.block<w.heap.size:=fun x hx=>aX x (by simp[hx])
  refine trodAll_cons_mk (WideElems.Trod_stays hl hr iW h1 (fun x hx => ?_) fun x hx=>by simpa using hb x hx) (acw hl L (fun t ht=>hp t (by simp[ht])) h2);have:=L.2.2.2 _ (hb x hx);cases x with
  | cell b o=>simp only[World.sameAt,World.cell?]; simp only[MemPlace.block]at this; rw[this]
  | map b=>exact this
theorem asc {w':World} (L:Ks w w') (may:MemPlace->Prop):w.keptBut w' may:=by
 refine⟨L.1,L.2.1,fun i hi => ?_⟩;rw[L.2.2.2 i hi];cases w.heap[i]? with
 | none=>rfl
 | some o=>cases o<;>simp
theorem asd (hl:laidOutB P=true) {f:Func} {s:ChangeSpec} {w':World} {args:Array Value} {ds gs:List (DataW H)} {before:List MemPlace} {tb:TypeId} (hp:∀t∈f.params.toList,P.readableRec t=true/\t<P.types.size)
  (hv:s.vars=[]) (hs:s.fn H (ds++gs) = { results:=[.lit (.bool true)],args:=ds }) (ase:f.resultTypes = #[tb]) (hb:P.underlying tb=some .bool)
  (hW:DataW.Whole enc P f.params.toList s.vars false w args.toList ds gs before) (L:Ks w w'):s.post enc P f false true false false w args (.bool true) w':=by
 have SH:=hW;obtain ⟨p,q,hA,hV,hpq,hz,hn⟩:=SH;rw[hv]at hV;obtain ⟨hg,hq⟩:=trodVars_none hV;subst hg; subst hq;refine⟨ds,[],before,[],p,[],hW,?_,?_,?_,asc L _,fun h=>by cases h⟩
 ·rw[hs,ase];exact trodAll_cons_mk (shut_bool hb _) trodAll_mk0
 ·rw[hs];exact acw hl L hp hA
 ·rw[hs,hv];rfl
end
end Go.ak
namespace Go.Proofs.YtidfokedcnhahaaGreatDoor
open Go.ak
def tt:aZ:=[
 ⟨.other,1,0,[.undef],none,false,false,false⟩,
 ⟨.func,1,8,[.fy],none,false,false,false⟩,
 TI.none,
 ⟨.int .i64,1,8,[.int .i64 0],some (.int .i64),false,false,false⟩,
 ⟨.bool,1,1,[.bool false],some .bool,false,false,false⟩,
 ⟨.int .u8,1,1,[.int .u8 0],some (.int .u8),false,false,false⟩,
 TI.none,
 TI.none,
 TI.none,
 ⟨.string,1,16,[.str []],some .str,false,false,false⟩,
 TI.none,
 TI.none,
 TI.none,
 TI.none,
 TI.none,
 TI.none,
 TI.none,
 TI.none,
 TI.none,
 TI.none,
 ⟨.iface,1,16,[.eR],none,false,false,false⟩,
 ⟨.int .i32,1,4,[.int .i32 0],some (.int .i32),false,false,false⟩,
 ⟨.slice 57,1,24,[.bk],none,false,false,false⟩,
 ⟨.slice 59,1,24,[.bk],none,false,false,false⟩,
 TI.none,
 ⟨.struct [(0,3),(1,9),(2,3),(3,3),(4,22),(5,23)],6,88,[.int .i64 0,.str [],.int .i64 0,.int .i64 0,.bk,.bk],some .order,false,false,false⟩,
 TI.none,
 TI.none,
 ⟨.int .i64,1,8,[.int .i64 0],some (.int .i64),false,false,false⟩,
 ⟨.other,1,0,[.undef],none,false,false,false⟩,
 TI.none,
 TI.none,
 TI.none,
 TI.none,
 TI.none,
 TI.none,
 ⟨.slice 9,1,24,[.bk],none,false,false,false⟩,
 ⟨.other,1,0,[.undef],none,false,false,false⟩,
 TI.none,
 TI.none,
 TI.none,
 TI.none,
 ⟨.slice 5,1,24,[.bk],none,false,false,false⟩,
 TI.none,
 TI.none,
 TI.none,
 ⟨.struct [(0,3),(1,3)],2,16,[.int .i64 0,.int .i64 0],some .xD,true,false,false⟩,
 ⟨.slice 49,1,24,[.bk],none,false,false,false⟩,
 TI.none,
 ⟨.struct [(0,3),(1,46),(3,9),(4,36),(5,47)],6,88,[.int .i64 0,.int .i64 0,.int .i64 0,.str [],.bk,.bk],some .json,false,false,false⟩,
 ⟨.other,1,0,[.undef],none,false,false,false⟩,
 TI.none,
 TI.none,
 TI.none,
 TI.none,
 TI.none,
 TI.none,
 ⟨.struct [(0,3),(1,3),(2,4)],3,24,[.int .i64 0,.int .i64 0,.bool false],some .stop,true,false,false⟩,
 TI.none,
 ⟨.struct [(0,3),(1,3),(2,4)],3,24,[.int .i64 0,.int .i64 0,.bool false],some .oM,true,false,false⟩,
 TI.none,
 TI.none,
 TI.none,
 ⟨.struct [(0,3),(1,3),(2,9),(3,3),(4,3),(5,4),(6,3),(7,3),(8,4),(9,3)],10,88,[.int .i64 0,.int .i64 0,.str [],.int .i64 0,.int .i64 0,.bool false,.int .i64 0,.int .i64 0,.bool false,.int .i64 0],some .state,true,false,false⟩,
 TI.none,
 TI.none,
 TI.none,
 TI.none,
 ⟨.other,1,0,[.undef],none,false,false,false⟩,
 TI.none,
 TI.none,
 TI.none,
 TI.none,
 TI.none,
 TI.none,
 TI.none,
 TI.none,
 TI.none,
 ⟨.func,1,8,[.fy],none,false,false,false⟩,
 TI.none,
 ⟨.func,1,8,[.fy],none,false,false,false⟩,
 TI.none,
 TI.none,
 TI.none,
 ⟨.func,1,8,[.fy],none,false,false,false⟩,
 TI.none,
 TI.none,
 ⟨.int .u32,1,4,[.int .u32 0],some (.int .u32),false,false,false⟩,
 TI.none,
 ⟨.arr 8 5,8,8,[.int .u8 0,.int .u8 0,.int .u8 0,.int .u8 0,.int .u8 0,.int .u8 0,.int .u8 0,.int .u8 0],none,true,false,false⟩,
 ⟨.int .u64,1,8,[.int .u64 0],some (.int .u64),false,false,false⟩,
 ⟨.ptr 93,1,8,[.fp],none,false,false,false⟩,
 TI.none,
 ⟨.struct [(0,4)],1,1,[.bool false],none,false,false,false⟩,
 ⟨.other,1,0,[.undef],none,false,false,false⟩,
 TI.none,
 TI.none,
 TI.none,
 TI.none,
 ⟨.other,1,0,[.undef],none,false,false,false⟩,
 TI.none,
 ⟨.other,1,0,[.undef],none,false,false,false⟩,
 TI.none,
 ⟨.other,1,0,[.undef],none,false,false,false⟩,
 TI.none,
 TI.none,
 ⟨.slice 113,1,24,[.bk],none,false,false,false⟩,
 ⟨.other,1,0,[.undef],none,false,false,false⟩,
 TI.none,
 ⟨.ptr 111,1,8,[.fp],none,false,false,false⟩,
 TI.none,
 ⟨.struct [(0,106),(1,28)],2,32,[.bk,.int .i64 0],none,false,false,false⟩,
 TI.none,
 ⟨.struct [(0,3),(1,9),(2,46),(4,3)],5,48,[.int .i64 0,.str [],.int .i64 0,.int .i64 0,.int .i64 0],some .token,true,false,false⟩,
 TI.none,
 ⟨.func,1,8,[.fy],none,false,false,false⟩,
 ⟨.ptr 118,1,8,[.fp],none,false,false,false⟩,
 TI.none,
 ⟨.struct [(0,116),(1,42)],2,32,[.fp,.bk],none,false,false,true⟩,
 TI.none,
 TI.none,
 TI.none,
 TI.none,
 ⟨.slice 128,1,24,[.bk],none,false,false,false⟩,
 TI.none,
 ⟨.ptr 63,1,8,[.fp],none,false,false,false⟩,
 ⟨.func,1,8,[.fy],none,false,false,false⟩,
 TI.none,
 ⟨.struct [(0,9),(1,126),(2,115)],3,32,[.str [],.fy,.fy],none,false,false,false⟩,
 TI.none,
 ⟨.slice 3,1,24,[.bk],none,false,false,false⟩,
 TI.none,
 TI.none,
 TI.none,
 ⟨.func,1,8,[.fy],none,false,false,false⟩,
 ⟨.arr 10 4,10,10,[.bool false,.bool false,.bool false,.bool false,.bool false,.bool false,.bool false,.bool false,.bool false,.bool false],none,true,false,false⟩,
 ⟨.other,1,0,[.undef],none,false,false,false⟩,
 TI.none,
 ⟨.other,1,0,[.undef],none,false,false,false⟩,
 TI.none,
 ⟨.other,1,0,[.undef],none,false,false,false⟩,
 TI.none,
 TI.none,
 TI.none,
 TI.none,
 ⟨.func,1,8,[.fy],none,false,false,false⟩,
 ⟨.ptr 148,1,8,[.fp],none,false,false,false⟩,
 TI.none,
 ⟨.struct [(0,106),(1,3),(2,28)],3,40,[.bk,.int .i64 0,.int .i64 0],none,false,false,false⟩,
 TI.none,
 TI.none,
 ⟨.other,1,0,[.undef],none,false,false,false⟩,
 TI.none,
 TI.none,
 ⟨.map 9 3,1,8,[.kB],none,false,false,false⟩,
 TI.none,
 TI.none,
 TI.none,
 ⟨.iface,1,16,[.eR],none,false,false,false⟩,
 ⟨.other,1,0,[.undef],none,false,false,false⟩,
 TI.none,
 ⟨.func,1,8,[.fy],none,false,false,false⟩,
 TI.none,
 TI.none,
 TI.none,
 TI.none,
 TI.none,
 TI.none,
 TI.none,
 ⟨.ptr 3,1,8,[.fp],none,false,false,false⟩,
 TI.none,
 ⟨.ptr 9,1,8,[.fp],none,false,false,false⟩,
 TI.none,
 ⟨.ptr 4,1,8,[.fp],none,false,false,false⟩,
 TI.none,
 TI.none,
 TI.none,
 TI.none,
 TI.none,
 TI.none,
 TI.none,
 TI.none,
 TI.none,
 TI.none,
 TI.none,
 ⟨.func,1,8,[.fy],none,false,false,false⟩,
 TI.none,
 ⟨.func,1,8,[.fy],none,false,false,false⟩,
 TI.none,
 ⟨.func,1,8,[.fy],none,false,false,false⟩,
 TI.none,
 TI.none,
 TI.none,
 TI.none,
 TI.none,
 ⟨.other,1,0,[.undef],none,false,false,false⟩,
 TI.none,
 TI.none,
 TI.none,
 TI.none,
 TI.none,
 TI.none,
 TI.none,
 TI.none,
 TI.none,
 TI.none,
 TI.none,
 ⟨.other,1,0,[.undef],none,false,false,false⟩,
 TI.none,
 TI.none,
 TI.none,
 ⟨.ptr 213,1,8,[.fp],none,false,false,false⟩,
 TI.none,
 ⟨.struct [(0,9)],1,16,[.str []],none,false,false,false⟩,
 TI.none,
 TI.none,
 ⟨.ptr 218,1,8,[.fp],none,false,false,false⟩,
 TI.none,
 ⟨.struct [(0,9)],1,16,[.str []],none,false,false,false⟩,
 ⟨.func,1,8,[.fy],none,false,false,false⟩,
 ⟨.map 9 4,1,8,[.kB],none,false,false,false⟩,
 TI.none,
 TI.none,
 TI.none,
 TI.none,
 TI.none,
 TI.none,
 TI.none,
 TI.none,
 TI.none,
 TI.none,
 TI.none,
 TI.none,
 ⟨.other,1,0,[.undef],none,false,false,false⟩,
 TI.none,
 TI.none,
 TI.none,
 TI.none,
 TI.none,
 TI.none,
 TI.none,
 TI.none,
 TI.none,
 TI.none,
 ⟨.int .u64,1,8,[.int .u64 0],some (.int .u64),false,false,false⟩,
 TI.none,
 TI.none,
 TI.none,
 TI.none,
 TI.none,
 ⟨.int .i64,1,8,[.int .i64 0],some (.int .i64),false,false,false⟩,
 TI.none,
 TI.none,
 TI.none,
 TI.none,
 TI.none,
 TI.none,
 TI.none,
 TI.none,
 TI.none,
 TI.none,
 ⟨.other,1,0,[.undef],none,false,false,false⟩,
 TI.none,
 TI.none,
 TI.none,
 TI.none,
 TI.none,
 TI.none,
 TI.none,
 TI.none,
 TI.none,
 TI.none,
 TI.none,
 TI.none,
 TI.none,
 TI.none,
 TI.none,
 TI.none,
 TI.none,
 TI.none,
 TI.none,
 TI.none,
 TI.none,
 TI.none,
 TI.none,
 TI.none,
 TI.none,
 TI.none,
 TI.none]
end Go.Proofs.YtidfokedcnhahaaGreatDoor
namespace Go.ak
open Go.RowKit
def U:Nat->List V->List V
 | 0,l=>l
 | n+1,l=>.undef::U n l
def PU:Nat->List ax->List ax
 | 0,l=>l
 | n+1,l=>.leaf .undef::PU n l
section
variable {R:Type} {P:Program} {tt:aZ}
abbrev br (R:Type) (ps:List ax) (hs:List aH):Type:=ax.aA ps->aH.aA hs->(V->aq->Option R)->Option R
abbrev KT (R:Type):Type:=Ex->St->Option R
abbrev dC (R:Type) (ps:List ax) (hs:List aH):Type:=ax.aA ps->aH.aA hs->(Ex->St->Option R)->Option R
abbrev t8 {a b c d e f g h i:Type} (x:a×b×c×d×e×f×g×h×i):i:=x.2.2.2.2.2.2.2.2
def aN (P:Program) (g:Nat) (s:Spec R->Spec R):Prop:=∀o,Spec.Ok P g o->Spec.Ok P g (s o)
abbrev aY (R:Type):=Nat×Bool×Spec R
def kg:List (aY R)->Env R
 | [],_=>none
 | e::l,i=>bif kY i e.1 then some e.2 else kg l i
inductive kH (P:Program):List (aY R)->Prop
 | n:kH P []
 | p {g:Nat} {sp:Spec R} {l:List (aY R)} (h:Spec.Ok P g sp) (t:kH P l):kH P ((g,true,sp)::l)
 | f {g:Nat} {sp:Spec R} {l:List (aY R)} (h:Spec.Ok P g sp) (hs:dL.soft g=false) (t:kH P l):kH P ((g,false,sp)::l)
 | s {g:Nat} {sp:Spec R} {l:List (aY R)} (h:Spec.Ok P g sp) (hs:GM sp) (t:kH P l):kH P ((g,false,sp)::l)
theorem kH.c {g:Nat} {s:Spec R->Spec R} {l:List (aY R)} (h:aN P g s) (t:kH P l):kH P ((g,true,s dy)::l):=.p (h _ (iB _)) t
theorem kH.d {g:Nat} {s:Spec R->Spec R} {l:List (aY R)} (h:aN P g s) (hs:dL.soft g=false) (t:kH P l):kH P ((g,false,s dy)::l):=.f (h _ (iB _)) hs t
theorem acx {l:List (aY R)} (h:kH P l):nf P (kg l):=by
 induction h with
 | n=>intro i b sp h; cases h
 | p h0 t ih=>
  intro i b sp h;simp only[kg]at h;cases hb:kY i _ with
  | true=>
   rw[hb,cond_true]at h;cases h;have:=zo hb;subst this;exact⟨h0,fun h=>by cases h⟩
  | false=>
   rw[hb,cond_false]at h;exact ih i b sp h
 | f h0 hs t ih=>
  intro i b sp h;simp only[kg]at h;cases hb:kY i _ with
  | true=>
   rw[hb,cond_true]at h;cases h;have:=zo hb;subst this;exact⟨h0,fun _ h=>by rw[hs]at h; cases h⟩
  | false=>
   rw[hb,cond_false]at h;exact ih i b sp h
 | s h0 hs t ih=>
  intro i b sp h;simp only[kg]at h;cases hb:kY i _ with
  | true=>
   rw[hb,cond_true]at h;cases h;have:=zo hb;subst this;exact⟨h0,fun _ _=>hs⟩
  | false=>
   rw[hb,cond_false]at h;exact ih i b sp h
def aP (tt:aZ) (l:List (aY R)) (L:Nat->Option (Hint×bX R)) (eQ:Bool) (fn:Func) (ps:List ax) (hs:List aH) (run:br R ps hs):Prop:=
 ∀x y k,nV tt (kg l) L eQ fn (lW fn) (ax.bE ps x) (aH.bE hs y) k=run x y k
theorem asf (T:cF P tt) (hm:P.follows .mixedOrders=true) {l:List (aY R)} (hE:kH P l) {L:Nat->Option (Hint×bX R)} {g:Nat} {fn:Func} {eQ:Bool} {ps:List ax} {hs:List aH}
  {run:br R ps hs} (hf:P.funcs[g]? = some fn) (hb:fn.body=some (lW fn)) (hn:(fn.name == "runtime.NumGoroutine")=false) (hr:fn.results.size=fn.resultTypes.size)
  (hl:∀a∈ke (lW fn),sN tt (kg l) L hs.length a) (h:aP tt l L eQ fn ps hs run):aN P g (aL ps hs run):=
 fun _ ho=>arT ho (ab7 T hm (acx hE) hf hb hn hr hs.length hl) h
def bm:Nat->Option (Hint×bX R):=fun _=>none
theorem bp {E:Env R} {l:List Code} {m:Nat}:∀a∈l,sN tt E bm m a:=fun _ _ _ _ h=>by cases h
theorem tT (T:cF P tt) (hm:P.follows .mixedOrders=true) {l:List (aY R)} (hE:kH P l) {g:Nat} {fn:Func} {code:Code} (eQ:Bool) (hf:P.funcs[g]? = some fn) (hb:fn.body=some code)
  (hn:(fn.name == "runtime.NumGoroutine")=false) (hr:fn.results.size=fn.resultTypes.size):Spec.Ok P g (nV tt (kg l) (fun _=>none) eQ fn code):=ar3 T hm (acx hE) eQ hf hb hn hr
def B8 (Q:Nat->Prop):List Nat->Prop
 | []=>True
 | t::l=>Q t/\B8 Q l
theorem B8.mem {Q:Nat->Prop}:∀ {l:List Nat} {t:Nat},B8 Q l->l.contains t=true->Q t
 | a::l,t,h,ht=>by
  rw[nR,je,beq_iff_eq]at ht;rcases ht with rfl|ht
  ·exact h.1
  ·exact B8.mem h.2 ht
def TD.off:TD->Bool
 | .other=>true
 | _=>false
theorem SI {l:List Nat} (h:(jZ tt.length).all (fun t=>l.contains t||((tt.at t).d.off&&!(tt.at t).eq))=true) {t:Nat} (ht:l.contains t=false):(tt.at t).d=.other/\(tt.at t).eq=false:=by
 by_cases hl:t<tt.length
 ·have:=gF.1 h t (by simpa using hl);rw[ht,sn,bF]at this;refine⟨?_,by simpa using this.2⟩;cases hd:(tt.at t).d<;>rw[hd]at this<;>first|rfl|cases this.1
 ·have:tt.at t=TI.none:=by unfold aZ.at; simp[ca,List.getElem?_eq_none (FL hl)]
  rw[this];exact⟨rfl,rfl⟩
theorem asg {l:List Nat} (h:(jZ tt.length).all (fun t=>l.contains t||((tt.at t).d.off&&!(tt.at t).eq))=true) (ha:B8 (fun t=>(tt.at t).d.Is P t) l) (t:Nat):(tt.at t).d.Is P t:=by
 cases ht:l.contains t with
 | true=>exact ha.mem ht
 | false=>
  rw[(SI h ht).1];trivial
theorem ash {l:List Nat} (h:(jZ tt.length).all (fun t=>l.contains t||((tt.at t).d.off&&!(tt.at t).eq))=true) (ha:B8 (fun t=>ym P tt t) l) (t:Nat) (ok:tt.ok t=true):ym P tt t:=by
 cases ht:l.contains t with
 | true=>exact ha.mem ht
 | false=>
  unfold aZ.ok at ok;rw[(SI h ht).1]at ok;cases ok
theorem eqT {l:List Nat} (h:(jZ tt.length).all (fun t=>l.contains t||((tt.at t).d.off&&!(tt.at t).eq))=true) (ha:B8 (fun t=>(tt.at t).eq=true->Av P tt t) l) (t:Nat) (hq:(tt.at t).eq=true):Av P tt t:=by
 cases ht:l.contains t with
 | true=>exact ha.mem ht hq
 | false=>
  rw[(SI h ht).2]at hq;cases hq
theorem ym.at {t:Nat} (i:TypeInfo) (h:(P.info? t,i.size,i.bytes,zeroOf i)=(some i,(tt.at t).size,(tt.at t).bytes,some ((tt.at t).size,(tt.at t).zero, !tt.isAgg t))):ym P tt t:=by
 simp only[kA]at h;exact⟨i,h.1,h.2.1,h.2.2.1,h.2.2.2⟩
end
theorem aR {R:Type} {P:Program} {tt:aZ} {l:List (aY R)} {L:Nat->Option (Hint×bX R)} {g:Nat} {fn:Func} {eQ:Bool} {ps:List ax} {hs:List aH} {run:br R ps hs} (h:aP tt l L eQ fn ps hs run)
  (T:cF P tt) (hm:P.follows .mixedOrders=true) (hE:kH P l) (hf:P.funcs[g]? = some fn) (hq:(fn.body,fn.name == "runtime.NumGoroutine",fn.results.size)=(some (lW fn),false,fn.resultTypes.size))
  (hl:∀a∈ke (lW fn),sN tt (kg l) L hs.length a):aN P g (aL ps hs run):=by
 simp only[kA]at hq;exact asf T hm hE hf hq.1 hq.2.1 hq.2.2 hl h
def dn {R:Type} (tt:aZ) (l:List (aY R)) (L:Nat->Option (Hint×bX R)) (m:Nat) (fn:Func) (i:Nat) (hint:Hint) {D:Type} (enc:D->St) (s:KT R->(D->Option R)->D->Option R):Prop:=
 ∀K rc d,roundOf tt (kg l) L m ((ke (lW fn)).getD i .skip) hint (enc d) rc K=s K (fun d=>rc (enc d)) d
abbrev aO {R:Type} (g:Nat) (s:Spec R->Spec R):aY R:=(g,true,s dy)
abbrev dp {R:Type} (g:Nat) (s:Spec R->Spec R):aY R:=(g,false,s dy)
abbrev aF:bD:=.int .i64
abbrev bG:ax:=.leaf (.int .i64)
abbrev dU:ax:=.leaf .str
def af (n:Int):V:=.int .i64 n
theorem dD {R:Type} {tt:aZ} {D S:Type} {l:List (aY R)} {L:Nat->Option (Hint×bX R)} {m i:Nat} {fn:Func} {hint:Hint} {ps:List ax} {hs:List aH} (enc:D->St)
  (s:KT R->(D->Option R)->D->Option R) (ap:KT R->D->S->Option R) (Lp:Nat->S) (fuel:ax.aA ps->aH.aA hs->Nat) (Eh:ax.aA ps->aH.aA hs->D)
  (hB:dn tt l L m fn i hint enc s)
  (h0:∀K d,ap K d (Lp 0)=none) (hA:∀K n d,ap K d (Lp (n+1))=s K (fun d=>ap K d (Lp n)) d)
  (SD:∀x y,(⟨ax.bE ps x,aH.bE hs y⟩:St)=enc (Eh x y)) (other:bX R) (ho:As tt (kg l) L m ((ke (lW fn)).getD i .skip) hint other) :
  As tt (kg l) L m ((ke (lW fn)).getD i .skip) hint (cY ps hs (fun x y K=>ap K (Eh x y) (Lp (fuel x y))) other):=
 ar2 (A:=fun K n d=>ap K d (Lp n)) ho (ack enc s _ h0 hB hA) fuel Eh SD (fun _ _ _=>rfl)
inductive dE {R:Type} (tt:aZ) (E:Env R) (L:Nat->Option (Hint×bX R)) (m:Nat) (l:List Code):Nat->Prop
 | z:dE tt E L m l 0
 | s {i:Nat} (t:dE tt E L m l i) (h:sN tt E L m (l.getD i .skip)):dE tt E L m l (i+1)
theorem dE.get {R:Type} {tt:aZ} {E:Env R} {L:Nat->Option (Hint×bX R)} {m:Nat} {l:List Code} {n:Nat} (h:dE tt E L m l n):∀i,i<n->sN tt E L m (l.getD i .skip):=by
 induction h with
 | z=>intro i h; omega
 | s t h ih=>
  intro j hj;rename_i i;by_cases e:j=i
  ·subst e; exact h
  ·exact ih j (by omega)
theorem dE.all {R:Type} {tt:aZ} {E:Env R} {L:Nat->Option (Hint×bX R)} {m:Nat} {l:List Code} {n:Nat} (hn:l.length=n) (h:dE tt E L m l n):∀a∈l,sN tt E L m a:=arV n hn h.get
abbrev yp:ax:=.agg [.int .i64,.int .i64,.int .i64,.str,.sl .str,.sl .json]
def dq (x:bD.aA [.int .i64,.int .i64,.int .i64,.str,.sl .str,.sl .json]):Json:=⟨x.1,⟨x.2.1,x.2.2.1⟩,x.2.2.2.1,x.2.2.2.2.1,x.2.2.2.2.2.1⟩
def lE (x:Json):V:=.agg [.int .i64 x.kind,.int .i64 x.num.aj,.int .i64 x.num.exp,.str x.text,.sl .str x.names .no,.sl .json x.items .no]
def acy (x:Token):V:=.agg [.int .i64 x.kind,.str x.text,.int .i64 x.num.aj,.int .i64 x.num.exp,.int .i64 x.at_]
abbrev G0:ax:=.agg [.int .i64,.int .i64,.str,.int .i64,.int .i64,.bool,.int .i64,.int .i64,.bool,.int .i64]
def iC (x:bD.aA [.int .i64,.int .i64,.str,.int .i64,.int .i64,.bool,.int .i64,.int .i64,.bool,.int .i64]):State:=⟨x.1,x.2.1,x.2.2.1,x.2.2.2.1,x.2.2.2.2.1,x.2.2.2.2.2.1,x.2.2.2.2.2.2.1,x.2.2.2.2.2.2.2.1,x.2.2.2.2.2.2.2.2.1,x.2.2.2.2.2.2.2.2.2.1⟩
def acz (x:State):V:=.agg [.int .i64 x.header,.int .i64 x.bC,.str x.bW,.int .i64 x.order,.int .i64 x.update,.bool x.live,.int .i64 x.node,.int .i64 x.seq,.bool x.cB,.int .i64 x.accepted]
end Go.ak
set_option maxRecDepth 100000
namespace Go.Proofs.YtidfokedcnhahaaGreatDoor
open Go Go.ak
def asi:List Nat:=[1,3,4,5,9,20,21,22,23,25,28,36,42,46,47,49,57,59,63,78,80,84,87,89,90,91,93,106,109,111,113,115,116,118,123,125,126,128,130,134,135,145,146,148,154,158,161,169,171,173,185,187,189,211,213,216,218,219,220,244,250]
theorem SJ:(jZ tt.length).all (fun t=>asi.contains t||((tt.at t).d.off&&!(tt.at t).eq))=true:=by kernel_rfl
theorem asj:∀t,(tt.at t).d.Is ao t:=asg SJ ⟨⟨_,_,_,rfl⟩,(by kernel_rfl:ao.underlying 3=some (.int .i64)),(by kernel_rfl:ao.underlying 4=some .bool),(by kernel_rfl:ao.underlying 5=some (.int .u8)),(by kernel_rfl:ao.underlying 9=some .string),⟨_,rfl⟩,(by kernel_rfl:ao.underlying 21=some (.int .i32)),(by kernel_rfl:ao.underlying 22=some (.slice 57)),(by kernel_rfl:ao.underlying 23=some (.slice 59)),⟨ao.fieldsOf 25,by kernel_rfl,by kernel_rfl⟩,(by kernel_rfl:ao.underlying 28=some (.int .i64)),(by kernel_rfl:ao.underlying 36=some (.slice 9)),(by kernel_rfl:ao.underlying 42=some (.slice 5)),⟨ao.fieldsOf 46,by kernel_rfl,by kernel_rfl⟩,(by kernel_rfl:ao.underlying 47=some (.slice 49)),⟨ao.fieldsOf 49,by kernel_rfl,by kernel_rfl⟩,⟨ao.fieldsOf 57,by kernel_rfl,by kernel_rfl⟩,⟨ao.fieldsOf 59,by kernel_rfl,by kernel_rfl⟩,⟨ao.fieldsOf 63,by kernel_rfl,by kernel_rfl⟩,⟨_,_,_,rfl⟩,⟨_,_,_,rfl⟩,⟨_,_,_,rfl⟩,(by kernel_rfl:ao.underlying 87=some (.int .u32)),(by kernel_rfl:ao.underlying 89=some (.array 8 5)),(by kernel_rfl:ao.underlying 90=some (.int .u64)),(by kernel_rfl:ao.underlying 91=some (.pointer 93)),⟨ao.fieldsOf 93,by kernel_rfl,by kernel_rfl⟩,(by kernel_rfl:ao.underlying 106=some (.slice 113)),(by kernel_rfl:ao.underlying 109=some (.pointer 111)),⟨ao.fieldsOf 111,by kernel_rfl,by kernel_rfl⟩,⟨ao.fieldsOf 113,by kernel_rfl,by kernel_rfl⟩,⟨_,_,_,rfl⟩,(by kernel_rfl:ao.underlying 116=some (.pointer 118)),⟨ao.fieldsOf 118,by kernel_rfl,by kernel_rfl⟩,(by kernel_rfl:ao.underlying 123=some (.slice 128)),(by kernel_rfl:ao.underlying 125=some (.pointer 63)),⟨_,_,_,rfl⟩,⟨ao.fieldsOf 128,by kernel_rfl,by kernel_rfl⟩,(by kernel_rfl:ao.underlying 130=some (.slice 3)),⟨_,_,_,rfl⟩,(by kernel_rfl:ao.underlying 135=some (.array 10 4)),⟨_,_,_,rfl⟩,(by kernel_rfl:ao.underlying 146=some (.pointer 148)),⟨ao.fieldsOf 148,by kernel_rfl,by kernel_rfl⟩,(by kernel_rfl:ao.underlying 154=some (.map 9 3)),⟨_,rfl⟩,⟨_,_,_,rfl⟩,(by kernel_rfl:ao.underlying 169=some (.pointer 3)),(by kernel_rfl:ao.underlying 171=some (.pointer 9)),(by kernel_rfl:ao.underlying 173=some (.pointer 4)),⟨_,_,_,rfl⟩,⟨_,_,_,rfl⟩,⟨_,_,_,rfl⟩,(by kernel_rfl:ao.underlying 211=some (.pointer 213)),⟨ao.fieldsOf 213,by kernel_rfl,by kernel_rfl⟩,(by kernel_rfl:ao.underlying 216=some (.pointer 218)),⟨ao.fieldsOf 218,by kernel_rfl,by kernel_rfl⟩,⟨_,_,_,rfl⟩,(by kernel_rfl:ao.underlying 220=some (.map 9 4)),(by kernel_rfl:ao.underlying 244=some (.int .u64)),(by kernel_rfl:ao.underlying 250=some (.int .i64)),trivial⟩
theorem acA:∀t,tt.ok t=true->ym ao tt t:=ash SJ ⟨.at Tryz.t1 (by kernel_rfl),.at Tryz.t3 (by kernel_rfl),.at Tryz.t4 (by kernel_rfl),.at Tryz.t5 (by kernel_rfl),.at Tryz.t9 (by kernel_rfl),.at Tryz.t20 (by kernel_rfl),.at Tryz.t21 (by kernel_rfl),.at Tryz.t22 (by kernel_rfl),.at Tryz.t23 (by kernel_rfl),.at Tryz.t25 (by kernel_rfl),.at Tryz.t28 (by kernel_rfl),.at Tryz.t36 (by kernel_rfl),.at Tryz.t42 (by kernel_rfl),.at Tryz.t46 (by kernel_rfl),.at Tryz.t47 (by kernel_rfl),.at Tryz.t49 (by kernel_rfl),.at Tryz.t57 (by kernel_rfl),.at Tryz.t59 (by kernel_rfl),.at Tryz.t63 (by kernel_rfl),.at Tryz.t78 (by kernel_rfl),.at Tryz.t80 (by kernel_rfl),.at Tryz.t84 (by kernel_rfl),.at Tryz.t87 (by kernel_rfl),.at Tryz.t89 (by kernel_rfl),.at Tryz.t90 (by kernel_rfl),.at Tryz.t91 (by kernel_rfl),.at Tryz.t93 (by kernel_rfl),.at Tryz.t106 (by kernel_rfl),.at Tryz.t109 (by kernel_rfl),.at Tryz.t111 (by kernel_rfl),.at Tryz.t113 (by kernel_rfl),.at Tryz.t115 (by kernel_rfl),.at Tryz.t116 (by kernel_rfl),.at Tryz.t118 (by kernel_rfl),.at Tryz.t123 (by kernel_rfl),.at Tryz.t125 (by kernel_rfl),.at Tryz.t126 (by kernel_rfl),.at Tryz.t128 (by kernel_rfl),.at Tryz.t130 (by kernel_rfl),.at Tryz.t134 (by kernel_rfl),.at Tryz.t135 (by kernel_rfl),.at Tryz.t145 (by kernel_rfl),.at Tryz.t146 (by kernel_rfl),.at Tryz.t148 (by kernel_rfl),.at Tryz.t154 (by kernel_rfl),.at Tryz.t158 (by kernel_rfl),.at Tryz.t161 (by kernel_rfl),.at Tryz.t169 (by kernel_rfl),.at Tryz.t171 (by kernel_rfl),.at Tryz.t173 (by kernel_rfl),.at Tryz.t185 (by kernel_rfl),.at Tryz.t187 (by kernel_rfl),.at Tryz.t189 (by kernel_rfl),.at Tryz.t211 (by kernel_rfl),.at Tryz.t213 (by kernel_rfl),.at Tryz.t216 (by kernel_rfl),.at Tryz.t218 (by kernel_rfl),.at Tryz.t219 (by kernel_rfl),.at Tryz.t220 (by kernel_rfl),.at Tryz.t244 (by kernel_rfl),.at Tryz.t250 (by kernel_rfl),trivial⟩
theorem asl:∀t,(tt.at t).eq=true->Av ao tt t:=eqT SJ ⟨(nofun),(nofun),(nofun),(nofun),(nofun),(nofun),(nofun),(nofun),(nofun),(nofun),(nofun),(nofun),(nofun),fun _=>.of (by kernel_rfl) (by kernel_rfl) (by kernel_rfl) (by kernel_rfl),(nofun),(nofun),fun _=>.of (by kernel_rfl) (by kernel_rfl) (by kernel_rfl) (by kernel_rfl),fun _=>.of (by kernel_rfl) (by kernel_rfl) (by kernel_rfl) (by kernel_rfl),fun _=>.of (by kernel_rfl) (by kernel_rfl) (by kernel_rfl) (by kernel_rfl),(nofun),(nofun),(nofun),(nofun),fun _=>.acj (e:=5) (by kernel_rfl) (by kernel_rfl) (by kernel_rfl),(nofun),(nofun),(nofun),(nofun),(nofun),(nofun),fun _=>.of (by kernel_rfl) (by kernel_rfl) (by kernel_rfl) (by kernel_rfl),(nofun),(nofun),(nofun),(nofun),(nofun),(nofun),(nofun),(nofun),(nofun),fun _=>.acj (e:=4) (by kernel_rfl) (by kernel_rfl) (by kernel_rfl),(nofun),(nofun),(nofun),(nofun),(nofun),(nofun),(nofun),(nofun),(nofun),(nofun),(nofun),(nofun),(nofun),(nofun),(nofun),(nofun),(nofun),(nofun),(nofun),(nofun),trivial⟩
theorem asm:∀t,∀(w:World) (h:aq) (c:bh) (cs ds:List V) (xs ys:Array Value) (b:Bool),xI (tt.at t) cs ds=true->aQ w h c cs xs.toList->aQ w h c ds ys.toList ->
  kD cs ds=some b->ao.eqGuardType ao.depth t=false/\(uY 10000 t (.agg xs) (.agg ys)).run ao w=.ok b w:=
 fun t _ _ _ _ _ _ _ _ hk rx ry hb=>ar1 (asl t (ar0 hk)) hk rx ry hb
theorem TT:cF ao tt:=⟨asj,fun t h=>(acA t h).spec,asm,arX (by kernel_rfl),arY (by kernel_rfl),fun t h=>(acA t h).one⟩
theorem mixed:ao.follows .mixedOrders=true:=by kernel_rfl
end Go.Proofs.YtidfokedcnhahaaGreatDoor
set_option maxRecDepth 100000
namespace Go.Proofs
open Go.Shelf
theorem bc {a:Option Func} {f g:Func} (h:a=some f) (e:f=g):a=some g:=h.trans (congrArg some e)
def Tryz.asn:vb:=⟨fun|196=>200|259=>223|n=>n,fun|9=>9|4=>4|3=>3|5=>5|12=>12|119=>238|0=>0|46=>90|139=>241|138=>240|53=>244|n=>n,fun|3=>1|4=>2|n=>n⟩
theorem Tryz.acB:Go.Proofs.Lays.n196 ao Tryz.asn:=⟨by kernel_rfl,bc Tryz.func200 (by kernel_rfl),bc Tryz.func223 (by kernel_rfl),zp,zq,zt,
 zu,vd,ve,vf,vg,zw,zx,zy,zz,tz,tA,
 tB,tC,vh,vi,vj,vk,Tryz.underlying12,Tryz.isAgg12,Tryz.sizeOf12,Tryz.zeroValue12,zA,
 zB,zC,zD,Pw,Px,Py,Pz,Tryz.underlying238,Tryz.isAgg238,Tryz.sizeOf238,
 Tryz.underlying240,Tryz.isAgg240,Tryz.sizeOf240,Tryz.zeroValue240,Tryz.underlying241,Tryz.isAgg241,Tryz.sizeOf241,Tryz.zeroValue241,by kernel_rfl,by kernel_rfl⟩
def Tryz.aso:vb:=⟨fun|197=>184|260=>210|n=>n,fun|9=>9|21=>21|3=>3|4=>4|5=>5|105=>207|119=>238|0=>0|46=>90|139=>241|138=>240|n=>n,fun|3=>1|4=>2|n=>n⟩
theorem Tryz.asp:Go.Proofs.Lays.n197 ao Tryz.aso:=⟨by kernel_rfl,bc Tryz.func184 (by kernel_rfl),bc Tryz.func210 (by kernel_rfl),zp,zq,zt,
 zu,vd,ve,vf,vg,zw,zx,zy,zz,tz,tA,
 tB,tC,vh,vi,vj,vk,PA,PB,PC,PD,zA,
 zB,zC,zD,Tryz.underlying207,Tryz.isAgg207,Tryz.sizeOf207,Tryz.zeroValue207,Tryz.underlying238,Tryz.isAgg238,Tryz.sizeOf238,
 Tryz.underlying240,Tryz.isAgg240,Tryz.sizeOf240,Tryz.zeroValue240,Tryz.underlying241,Tryz.isAgg241,Tryz.sizeOf241,Tryz.zeroValue241,by kernel_rfl,by kernel_rfl⟩
def Tryz.asq:vb:=⟨fun|171=>172|243=>204|246=>225|283=>243|284=>244|285=>245|286=>246|129=>255|317=>254|318=>256|319=>257|320=>258|337=>262|338=>263|n=>n,fun|3=>3|9=>9|2=>2|4=>4|171=>256|0=>0|53=>244|37=>42|5=>5|173=>259|212=>267|51=>87|20=>20|213=>268|46=>90|232=>275|233=>276|n=>n,fun|17=>5|18=>6|19=>7|n=>n⟩
theorem Tryz.asr:Go.Proofs.LaysM.n171 ao Tryz.asq:=⟨⟨by kernel_rfl,bc Tryz.func255 (by kernel_rfl),bc Tryz.func172 (by kernel_rfl),bc Tryz.func204 (by kernel_rfl),
 bc Tryz.func225 (by kernel_rfl),bc Tryz.func243 (by kernel_rfl),bc Tryz.func244 (by kernel_rfl),
 bc Tryz.func245 (by kernel_rfl),bc Tryz.func246 (by kernel_rfl),bc Tryz.func254 (by kernel_rfl),
 bc Tryz.func256 (by kernel_rfl),bc Tryz.func257 (by kernel_rfl),bc Tryz.func258 (by kernel_rfl),
 bc Tryz.func262 (by kernel_rfl),bc Tryz.func263 (by kernel_rfl),zp,zq,zt,zu,
 Tryz.underlying2,Tryz.isAgg2,Tryz.sizeOf2,Tryz.zeroValue2,vd,ve,vf,vg,zw,zx,zy,
 zz,tz,tA,tB,tC,vh,vi,vj,vk,Tryz.underlying20,Tryz.isAgg20,
 Tryz.sizeOf20,Tryz.zeroValue20,PE,PF,PG,PH,zA,zB,zC,zD,
 PI,PJ,PK,PL,Pw,Px,Py,Pz,Tryz.underlying256,Tryz.isAgg256,
 Tryz.sizeOf256,Tryz.zeroValue256,Tryz.underlying259,Tryz.isAgg259,Tryz.sizeOf259,Tryz.zeroValue259,Tryz.underlying267,Tryz.isAgg267,Tryz.sizeOf267,Tryz.zeroValue267,
 Tryz.underlying268,Tryz.isAgg268,Tryz.sizeOf268,Tryz.underlying275,Tryz.isAgg275,Tryz.sizeOf275,Tryz.zeroValue275,Tryz.underlying276,Tryz.isAgg276,Tryz.sizeOf276,
 Tryz.zeroValue276,by kernel_rfl,by kernel_rfl,by kernel_rfl⟩,by kernel_rfl,by kernel_rfl,by kernel_rfl,by kernel_rfl,by kernel_rfl,by kernel_rfl,by kernel_rfl,
 by kernel_rfl,by kernel_rfl,by kernel_rfl,by kernel_rfl,by kernel_rfl,by kernel_rfl,by kernel_rfl,by kernel_rfl,by kernel_rfl,by kernel_rfl,by kernel_rfl,
 by kernel_rfl⟩
def Tryz.Kt:vb:=⟨fun|105=>173|212=>205|99=>206|165=>207|166=>124|170=>208|169=>84|263=>226|264=>227|206=>228|240=>171|241=>229|276=>203|277=>247|n=>n,fun|9=>9|3=>3|4=>4|20=>20|0=>0|46=>90|109=>225|5=>5|72=>118|76=>159|51=>87|146=>192|53=>244|148=>245|70=>116|37=>42|75=>158|127=>164|164=>223|80=>120|n=>n,fun|n=>n⟩
theorem Tryz.acC:Go.Proofs.Lays.n105 ao Tryz.Kt:=⟨by kernel_rfl,bc Tryz.func206 (by kernel_rfl),bc Tryz.func173 (by kernel_rfl),bc Tryz.func207 (by kernel_rfl),
 bc Tryz.func124 (by kernel_rfl),bc PM (by kernel_rfl),bc Tryz.func208 (by kernel_rfl),
 bc Tryz.func228 (by kernel_rfl),bc Tryz.func205 (by kernel_rfl),bc Tryz.func171 (by kernel_rfl),
 bc Tryz.func229 (by kernel_rfl),bc Tryz.func226 (by kernel_rfl),bc Tryz.func227 (by kernel_rfl),
 bc Tryz.func203 (by kernel_rfl),bc Tryz.func247 (by kernel_rfl),zp,zq,zt,zu,
 vd,ve,vf,vg,zw,zx,zy,zz,tz,tA,tB,
 tC,vh,vi,vj,vk,Tryz.underlying20,Tryz.isAgg20,Tryz.sizeOf20,Tryz.zeroValue20,PE,
 PF,PG,PH,zA,zB,zC,zD,PI,PJ,PK,
 PL,Pw,Px,Py,Pz,Tryz.underlying116,Tryz.isAgg116,Tryz.sizeOf116,Tryz.zeroValue116,Tryz.underlying118,
 Tryz.isAgg118,Tryz.sizeOf118,Tryz.zeroValue118,Tryz.underlying158,Tryz.isAgg158,Tryz.sizeOf158,Tryz.zeroValue158,Tryz.underlying159,Tryz.isAgg159,Tryz.sizeOf159,
 Tryz.zeroValue159,Tryz.underlying225,Tryz.isAgg225,Tryz.sizeOf225,Tryz.zeroValue225,Tryz.underlying164,Tryz.isAgg164,Tryz.sizeOf164,Tryz.zeroValue164,Tryz.underlying192,
 Tryz.isAgg192,Tryz.sizeOf192,Tryz.zeroValue192,Tryz.underlying245,Tryz.isAgg245,Tryz.sizeOf245,Tryz.zeroValue245,Tryz.underlying223,Tryz.isAgg223,Tryz.sizeOf223,
 Tryz.zeroValue223⟩
def Tryz.ass:vb:=⟨fun|161=>105|231=>139|227=>140|233=>141|235=>142|228=>183|197=>184|151=>185|260=>210|152=>211|137=>159|119=>230|224=>231|225=>232|217=>198|266=>222|n=>n,fun|9=>9|4=>4|3=>3|5=>5|117=>179|116=>178|0=>0|124=>182|105=>207|21=>21|119=>238|46=>90|139=>241|138=>240|n=>n,fun|3=>1|4=>2|n=>n⟩
theorem Tryz.SK:Go.Proofs.Lays.n161 ao Tryz.ass:=⟨by kernel_rfl,bc Tryz.func230 (by kernel_rfl),bc PN (by kernel_rfl),bc Tryz.func185 (by kernel_rfl),
 bc Tryz.func211 (by kernel_rfl),bc Tryz.func105 (by kernel_rfl),bc Tryz.func184 (by kernel_rfl),
 bc Tryz.func198 (by kernel_rfl),bc Tryz.func231 (by kernel_rfl),bc Tryz.func232 (by kernel_rfl),
 bc Tryz.func140 (by kernel_rfl),bc Tryz.func183 (by kernel_rfl),bc Tryz.func139 (by kernel_rfl),
 bc Tryz.func141 (by kernel_rfl),bc Tryz.func142 (by kernel_rfl),bc Tryz.func210 (by kernel_rfl),
 bc Tryz.func222 (by kernel_rfl),zp,zq,zt,zu,vd,ve,vf,
 vg,zw,zx,zy,zz,tz,tA,tB,tC,vh,vi,
 vj,vk,PA,PB,PC,PD,zA,zB,zC,zD,
 Tryz.underlying207,Tryz.isAgg207,Tryz.sizeOf207,Tryz.zeroValue207,Tryz.underlying178,Tryz.isAgg178,Tryz.sizeOf178,Tryz.underlying179,Tryz.isAgg179,Tryz.sizeOf179,
 Tryz.zeroValue179,Tryz.underlying238,Tryz.isAgg238,Tryz.sizeOf238,Tryz.underlying182,Tryz.isAgg182,Tryz.sizeOf182,Tryz.zeroValue182,Tryz.underlying240,
 Tryz.isAgg240,Tryz.sizeOf240,Tryz.zeroValue240,Tryz.underlying241,Tryz.isAgg241,Tryz.sizeOf241,Tryz.zeroValue241,by kernel_rfl,by kernel_rfl⟩
def Tryz.ast:vb:=⟨fun|162=>193|232=>215|227=>140|234=>216|236=>217|228=>183|271=>235|151=>185|120=>248|197=>184|152=>211|260=>210|137=>159|119=>230|224=>231|225=>232|217=>198|266=>222|n=>n,fun|9=>9|4=>4|3=>3|5=>5|117=>179|116=>178|0=>0|124=>182|21=>21|105=>207|46=>90|119=>238|139=>241|138=>240|n=>n,fun|3=>1|4=>2|n=>n⟩
theorem Tryz.SL:Go.Proofs.Lays.n162 ao Tryz.ast:=⟨by kernel_rfl,bc Tryz.func230 (by kernel_rfl),bc Tryz.func248 (by kernel_rfl),bc PN (by kernel_rfl),
 bc Tryz.func185 (by kernel_rfl),bc Tryz.func211 (by kernel_rfl),bc Tryz.func193 (by kernel_rfl),
 bc Tryz.func184 (by kernel_rfl),bc Tryz.func198 (by kernel_rfl),bc Tryz.func231 (by kernel_rfl),
 bc Tryz.func232 (by kernel_rfl),bc Tryz.func140 (by kernel_rfl),bc Tryz.func183 (by kernel_rfl),
 bc Tryz.func215 (by kernel_rfl),bc Tryz.func216 (by kernel_rfl),bc Tryz.func217 (by kernel_rfl),
 bc Tryz.func210 (by kernel_rfl),bc Tryz.func222 (by kernel_rfl),bc Tryz.func235 (by kernel_rfl),
 zp,zq,zt,zu,vd,ve,vf,vg,zw,zx,zy,
 zz,tz,tA,tB,tC,vh,vi,vj,vk,PA,PB,
 PC,PD,zA,zB,zC,zD,Tryz.underlying207,Tryz.isAgg207,Tryz.sizeOf207,Tryz.zeroValue207,
 Tryz.underlying178,Tryz.isAgg178,Tryz.sizeOf178,Tryz.underlying179,Tryz.isAgg179,Tryz.sizeOf179,Tryz.zeroValue179,Tryz.underlying238,Tryz.isAgg238,Tryz.sizeOf238,
 Tryz.underlying182,Tryz.isAgg182,Tryz.sizeOf182,Tryz.zeroValue182,Tryz.underlying240,Tryz.isAgg240,Tryz.sizeOf240,Tryz.zeroValue240,Tryz.underlying241,
 Tryz.isAgg241,Tryz.sizeOf241,Tryz.zeroValue241,by kernel_rfl,by kernel_rfl⟩
def Tryz.asu:vb:=⟨fun|172=>194|244=>218|245=>219|247=>236|279=>237|280=>238|281=>239|282=>240|287=>249|316=>250|171=>172|205=>251|321=>259|322=>260|243=>204|246=>225|283=>243|284=>244|285=>245|286=>246|129=>255|317=>254|318=>256|319=>257|320=>258|337=>262|338=>263|n=>n,fun|9=>9|3=>3|75=>158|76=>159|4=>4|5=>5|167=>250|37=>42|0=>0|85=>251|2=>2|168=>253|53=>244|175=>261|46=>90|210=>264|127=>164|145=>273|143=>271|21=>21|171=>256|173=>259|212=>267|51=>87|20=>20|213=>268|232=>275|233=>276|80=>120|n=>n,fun|15=>3|16=>4|17=>5|18=>6|19=>7|n=>n⟩
theorem Tryz.SM:Go.Proofs.LaysC.n172 ao Tryz.asu:=⟨⟨⟨by kernel_rfl,bc Tryz.func255 (by kernel_rfl),bc Tryz.func172 (by kernel_rfl),bc Tryz.func194 (by kernel_rfl),
 bc Tryz.func251 (by kernel_rfl),bc Tryz.func204 (by kernel_rfl),bc Tryz.func218 (by kernel_rfl),
 bc Tryz.func219 (by kernel_rfl),bc Tryz.func225 (by kernel_rfl),bc Tryz.func236 (by kernel_rfl),
 bc Tryz.func237 (by kernel_rfl),bc Tryz.func238 (by kernel_rfl),bc Tryz.func239 (by kernel_rfl),
 bc Tryz.func240 (by kernel_rfl),bc Tryz.func243 (by kernel_rfl),bc Tryz.func244 (by kernel_rfl),
 bc Tryz.func245 (by kernel_rfl),bc Tryz.func246 (by kernel_rfl),bc Tryz.func249 (by kernel_rfl),
 bc Tryz.func250 (by kernel_rfl),bc Tryz.func254 (by kernel_rfl),bc Tryz.func256 (by kernel_rfl),
 bc Tryz.func257 (by kernel_rfl),bc Tryz.func258 (by kernel_rfl),bc Tryz.func259 (by kernel_rfl),
 bc Tryz.func260 (by kernel_rfl),bc Tryz.func262 (by kernel_rfl),bc Tryz.func263 (by kernel_rfl),
 zp,zq,zt,zu,Tryz.underlying2,Tryz.isAgg2,Tryz.sizeOf2,Tryz.zeroValue2,vd,ve,vf,
 vg,zw,zx,zy,zz,tz,tA,tB,tC,vh,vi,
 vj,vk,Tryz.underlying20,Tryz.isAgg20,Tryz.sizeOf20,Tryz.zeroValue20,PA,PB,PC,PD,
 PE,PF,PG,PH,zA,zB,zC,zD,PI,PJ,
 PK,PL,Pw,Px,Py,Pz,Tryz.underlying158,Tryz.isAgg158,Tryz.sizeOf158,Tryz.zeroValue158,
 Tryz.underlying159,Tryz.isAgg159,Tryz.sizeOf159,Tryz.zeroValue159,Tryz.underlying251,Tryz.isAgg251,Tryz.sizeOf251,Tryz.zeroValue251,Tryz.underlying164,
 Tryz.isAgg164,Tryz.sizeOf164,Tryz.zeroValue164,Tryz.underlying271,Tryz.isAgg271,Tryz.sizeOf271,Tryz.zeroValue271,Tryz.underlying273,Tryz.isAgg273,Tryz.sizeOf273,
 Tryz.zeroValue273,Tryz.underlying250,Tryz.isAgg250,Tryz.sizeOf250,Tryz.zeroValue250,Tryz.underlying253,Tryz.isAgg253,Tryz.sizeOf253,Tryz.zeroValue253,Tryz.underlying256,
 Tryz.isAgg256,Tryz.sizeOf256,Tryz.zeroValue256,Tryz.underlying259,Tryz.isAgg259,Tryz.sizeOf259,Tryz.zeroValue259,Tryz.underlying261,Tryz.isAgg261,Tryz.sizeOf261,
 Tryz.zeroValue261,Tryz.underlying264,Tryz.isAgg264,Tryz.sizeOf264,Tryz.zeroValue264,Tryz.underlying267,Tryz.isAgg267,Tryz.sizeOf267,Tryz.zeroValue267,Tryz.underlying268,
 Tryz.isAgg268,Tryz.sizeOf268,Tryz.underlying275,Tryz.isAgg275,Tryz.sizeOf275,Tryz.zeroValue275,Tryz.underlying276,Tryz.isAgg276,Tryz.sizeOf276,Tryz.zeroValue276,
 by kernel_rfl,by kernel_rfl,by kernel_rfl,by kernel_rfl,by kernel_rfl⟩,Tryz.underlying120,Tryz.isAgg120,Tryz.sizeOf120,Tryz.zeroValue120,by kernel_rfl,
 by kernel_rfl,by kernel_rfl,by kernel_rfl,by kernel_rfl,by kernel_rfl,by kernel_rfl,by kernel_rfl,by kernel_rfl,by kernel_rfl,by kernel_rfl,by kernel_rfl,
 by kernel_rfl,by kernel_rfl,by kernel_rfl,by kernel_rfl,by kernel_rfl,by kernel_rfl,by kernel_rfl,by kernel_rfl,by kernel_rfl,by kernel_rfl,by kernel_rfl,
 by kernel_rfl,by kernel_rfl,by kernel_rfl,by kernel_rfl,by kernel_rfl,by kernel_rfl,by kernel_rfl,by kernel_rfl,by kernel_rfl,by kernel_rfl⟩,by kernel_rfl,
 by kernel_rfl,by kernel_rfl,by kernel_rfl,by kernel_rfl,by kernel_rfl,by kernel_rfl,by kernel_rfl,by kernel_rfl,by kernel_rfl,by kernel_rfl,by kernel_rfl,
 by kernel_rfl,by kernel_rfl,by kernel_rfl,by kernel_rfl,by kernel_rfl,by kernel_rfl,by kernel_rfl,by kernel_rfl,by kernel_rfl,by kernel_rfl,by kernel_rfl,
 by kernel_rfl,by kernel_rfl,by kernel_rfl,by kernel_rfl,by kernel_rfl,by kernel_rfl⟩
def Tryz.asv:vb:=⟨fun|245=>219|279=>237|280=>238|281=>239|282=>240|316=>250|171=>172|205=>251|243=>204|246=>225|283=>243|284=>244|285=>245|286=>246|129=>255|317=>254|318=>256|319=>257|320=>258|337=>262|338=>263|n=>n,fun|9=>9|3=>3|75=>158|167=>250|4=>4|168=>253|210=>264|37=>42|0=>0|127=>164|145=>273|143=>271|2=>2|171=>256|53=>244|5=>5|173=>259|212=>267|51=>87|20=>20|213=>268|46=>90|232=>275|233=>276|80=>120|n=>n,fun|15=>3|16=>4|17=>5|18=>6|19=>7|n=>n⟩
theorem Tryz.acD:Go.Proofs.LaysC.n245 ao Tryz.asv:=⟨⟨⟨by kernel_rfl,bc Tryz.func255 (by kernel_rfl),bc Tryz.func172 (by kernel_rfl),bc Tryz.func251 (by kernel_rfl),
 bc Tryz.func204 (by kernel_rfl),bc Tryz.func219 (by kernel_rfl),bc Tryz.func225 (by kernel_rfl),
 bc Tryz.func237 (by kernel_rfl),bc Tryz.func238 (by kernel_rfl),bc Tryz.func239 (by kernel_rfl),
 bc Tryz.func240 (by kernel_rfl),bc Tryz.func243 (by kernel_rfl),bc Tryz.func244 (by kernel_rfl),
 bc Tryz.func245 (by kernel_rfl),bc Tryz.func246 (by kernel_rfl),bc Tryz.func250 (by kernel_rfl),
 bc Tryz.func254 (by kernel_rfl),bc Tryz.func256 (by kernel_rfl),bc Tryz.func257 (by kernel_rfl),
 bc Tryz.func258 (by kernel_rfl),bc Tryz.func262 (by kernel_rfl),bc Tryz.func263 (by kernel_rfl),
 zp,zq,zt,zu,Tryz.underlying2,Tryz.isAgg2,Tryz.sizeOf2,Tryz.zeroValue2,vd,ve,vf,
 vg,zw,zx,zy,zz,tz,tA,tB,tC,vh,vi,
 vj,vk,Tryz.underlying20,Tryz.isAgg20,Tryz.sizeOf20,Tryz.zeroValue20,PE,PF,PG,PH,
 zA,zB,zC,zD,PI,PJ,PK,PL,Pw,Px,
 Py,Pz,Tryz.underlying158,Tryz.isAgg158,Tryz.sizeOf158,Tryz.zeroValue158,Tryz.underlying164,Tryz.isAgg164,Tryz.sizeOf164,Tryz.zeroValue164,
 Tryz.underlying271,Tryz.isAgg271,Tryz.sizeOf271,Tryz.zeroValue271,Tryz.underlying273,Tryz.isAgg273,Tryz.sizeOf273,Tryz.zeroValue273,Tryz.underlying250,
 Tryz.isAgg250,Tryz.sizeOf250,Tryz.zeroValue250,Tryz.underlying253,Tryz.isAgg253,Tryz.sizeOf253,Tryz.zeroValue253,Tryz.underlying256,Tryz.isAgg256,Tryz.sizeOf256,
 Tryz.zeroValue256,Tryz.underlying259,Tryz.isAgg259,Tryz.sizeOf259,Tryz.zeroValue259,Tryz.underlying264,Tryz.isAgg264,Tryz.sizeOf264,Tryz.zeroValue264,Tryz.underlying267,
 Tryz.isAgg267,Tryz.sizeOf267,Tryz.zeroValue267,Tryz.underlying268,Tryz.isAgg268,Tryz.sizeOf268,Tryz.underlying275,Tryz.isAgg275,Tryz.sizeOf275,Tryz.zeroValue275,
 Tryz.underlying276,Tryz.isAgg276,Tryz.sizeOf276,Tryz.zeroValue276,by kernel_rfl,by kernel_rfl,by kernel_rfl,by kernel_rfl,by kernel_rfl⟩,Tryz.underlying120,
 Tryz.isAgg120,Tryz.sizeOf120,Tryz.zeroValue120,by kernel_rfl,by kernel_rfl,by kernel_rfl,by kernel_rfl,by kernel_rfl,by kernel_rfl,by kernel_rfl,by kernel_rfl,
 by kernel_rfl,by kernel_rfl,by kernel_rfl,by kernel_rfl,by kernel_rfl,by kernel_rfl,by kernel_rfl,by kernel_rfl,by kernel_rfl,by kernel_rfl,by kernel_rfl,
 by kernel_rfl,by kernel_rfl,by kernel_rfl,by kernel_rfl,by kernel_rfl,by kernel_rfl,by kernel_rfl,by kernel_rfl,by kernel_rfl,by kernel_rfl⟩,by kernel_rfl,
 by kernel_rfl,by kernel_rfl,by kernel_rfl,by kernel_rfl,by kernel_rfl,by kernel_rfl,by kernel_rfl,by kernel_rfl,by kernel_rfl,by kernel_rfl,by kernel_rfl,
 by kernel_rfl,by kernel_rfl,by kernel_rfl,by kernel_rfl,by kernel_rfl,by kernel_rfl,by kernel_rfl,by kernel_rfl,by kernel_rfl,by kernel_rfl,by kernel_rfl,
 by kernel_rfl,by kernel_rfl⟩
def Tryz.asw:vb:=⟨fun|150=>253|153=>261|152=>211|226=>264|227=>140|228=>183|137=>159|119=>230|224=>231|225=>232|217=>198|266=>222|n=>n,fun|9=>9|4=>4|3=>3|5=>5|21=>21|117=>179|116=>178|0=>0|46=>90|124=>182|n=>n,fun|n=>n⟩
theorem Tryz.asx:Go.Proofs.Lays.n150 ao Tryz.asw:=⟨by kernel_rfl,bc Tryz.func230 (by kernel_rfl),bc PN (by kernel_rfl),bc Tryz.func253 (by kernel_rfl),
 bc Tryz.func211 (by kernel_rfl),bc Tryz.func261 (by kernel_rfl),bc Tryz.func198 (by kernel_rfl),
 bc Tryz.func231 (by kernel_rfl),bc Tryz.func232 (by kernel_rfl),bc Tryz.func264 (by kernel_rfl),
 bc Tryz.func140 (by kernel_rfl),bc Tryz.func183 (by kernel_rfl),bc Tryz.func222 (by kernel_rfl),
 zp,zq,zt,zu,vd,ve,vf,vg,zw,zx,zy,
 zz,tz,tA,tB,tC,vh,vi,vj,vk,PA,PB,
 PC,PD,zA,zB,zC,zD,Tryz.underlying178,Tryz.isAgg178,Tryz.sizeOf178,Tryz.underlying179,
 Tryz.isAgg179,Tryz.sizeOf179,Tryz.zeroValue179,Tryz.underlying182,Tryz.isAgg182,Tryz.sizeOf182,Tryz.zeroValue182⟩
def Tryz.asy:vb:=⟨fun|137=>159|217=>198|266=>222|n=>n,fun|9=>9|5=>5|3=>3|n=>n,fun|n=>n⟩
theorem Tryz.asz:Go.Proofs.Lays.n137 ao Tryz.asy:=⟨by kernel_rfl,bc PN (by kernel_rfl),bc Tryz.func198 (by kernel_rfl),bc Tryz.func222 (by kernel_rfl),
 vd,ve,vf,vg,tz,tA,tB,tC,vh,vi,vj,
 vk⟩
def Tryz.asA:vb:=⟨fun|148=>78|222=>116|223=>117|269=>156|n=>n,fun|9=>9|3=>3|4=>4|5=>5|146=>192|51=>87|46=>90|n=>n,fun|n=>n⟩
theorem Tryz.asB:Go.Proofs.Lays.n148 ao Tryz.asA:=⟨by kernel_rfl,bc Tryz.func78 (by kernel_rfl),bc Tryz.func116 (by kernel_rfl),bc Tryz.func117 (by kernel_rfl),
 bc Tryz.func156 (by kernel_rfl),vd,ve,vf,vg,zw,zx,zy,
 zz,tz,tA,tB,tC,vh,vi,vj,vk,zA,zB,
 zC,zD,PI,PJ,PK,PL,Tryz.underlying192,Tryz.isAgg192,Tryz.sizeOf192,Tryz.zeroValue192⟩
def Tryz.SN:vb:=⟨fun|169=>84|n=>n,fun|70=>116|9=>9|0=>0|72=>118|37=>42|127=>164|3=>3|5=>5|n=>n,fun|n=>n⟩
theorem Tryz.asC:Go.Proofs.Lays.n169 ao Tryz.SN:=⟨by kernel_rfl,bc PM (by kernel_rfl),zp,zq,zt,zu,vd,ve,
 vf,vg,vh,vi,vj,vk,PE,PF,PG,PH,Tryz.underlying116,
 Tryz.isAgg116,Tryz.sizeOf116,Tryz.zeroValue116,Tryz.underlying118,Tryz.isAgg118,Tryz.sizeOf118,Tryz.zeroValue118,Tryz.underlying164,Tryz.isAgg164,Tryz.sizeOf164,
 Tryz.zeroValue164⟩
end Go.Proofs
end
