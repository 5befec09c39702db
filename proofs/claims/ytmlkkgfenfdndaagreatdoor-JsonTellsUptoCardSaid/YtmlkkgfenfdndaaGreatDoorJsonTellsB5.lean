/-
  JsonTells, part 5 of 10.
-/
import Derived.OpenShut
import Derived.JoinedCond
import Derived.Test.YtmlkkgfenfdndaaGreatDoorProg
import Derived.Shelf.Strconv.AtoiAll
import Derived.Shelf.Strconv.Itoa3
import Derived.Shelf.Strconv.ToErrorRange
import Derived.Shelf.Strings.Builder1
import Derived.Shelf.Strings.IndexAnyAll
import Derived.Shelf.Strings.LastIndex
import Derived.Shelf.Strings.Repeat
import Derived.Shelf.Strings.Search1
import Derived.Shelf.Strings.SlTrimAscii
import Derived.Shelf.Strings.Trim
import Derived.Shelf.Unicode.DecodeAny
import Derived.Shelf.Unicode.ValidAny
import Derived.Test.YtmlkkgfenfdndaaGreatDoorJsonTellsB4
set_option linter.unusedSimpArgs false
set_option linter.unnecessarySimpa false
set_option linter.unusedVariables false
set_option linter.unusedSectionVars false
noncomputable section
namespace Go.bb
open Go.RowKit Go.ChangeShapes Go.WideShapes Go.Proofs.YtmlkkgfenfdndaaGreatDoor
def kOk:V→aR→Option Unit:=fun v _=>match v with | .bool true=>some ()|_=>none
def Later (w w':World):Prop:=w'.os=w.os∧w'.output=w.output∧w.heap.size≤w'.heap.size∧∀b,b<w.heap.size→w'.heap[b]? = w.heap[b]?
section
variable {H:Type} {enc:TypeId×Value→H} {P:Program} {tt:dR} {w:World} {spare:Nat→Bool} {held:Bool}
theorem none_owned (c:km) (b y:Nat):¬xD ([]:aR) c b y:=fun ho=>by
 obtain ⟨i,f,_,g2,_⟩:=ho;simp[aR.at,bZ.from_]at g2
theorem calls_true {g:Nat} {fn:Func} (hf:P.funcs[g]? = some fn) (hn:(fn.name == "runtime.NumGoroutine")=false) (hb:fn.body.isNone=false) {sp:Spec Unit} (Sp:Spec.Ok P g sp) {vs:List V} {args:Array Value}
  (hs:pX.says w) (hb0:∀b,pX.blocks b→b<w.heap.size) (ra:cN w [] V2 vs args.toList) (hk:sp vs [] kOk=some ()):Calls P g args w fun e w'=>e = .returned (.bool true)∧Later w w':=by
 obtain ⟨nx,w1,h1,h2⟩:=Sp vs [] kOk () hk w V2 args (wf0 w hs hb0) ra;have hn':fn.name ≠ "runtime.NumGoroutine" :=by simpa using hn
 have qq:fn.body≠none:=fun e=>by rw[e]at hb; cases hb
 have h0:(callFunc g args).run P w = .ok (.enter g args) w:=by simp[callFunc,hf,hn',qq]
 rw[h0]at h1;cases h1;refine Calls.mono h2 fun e w' ⟨d,he,v,h',c',_,x,rv,hv⟩ => ?_
 subst he;have hv':v = .bool true:=by
  unfold kOk at hv;split at hv
  ·rfl
  ·cases hv
 subst hv';cases rv;exact ⟨rfl,x.os,x.output,x.size,fun b hb=>x.block b hb (none_owned _ b)⟩
def oneCell (P:Program) (t:TypeId):Bool :=
 match P.underlying t with
 | some .bool|some (.int _)|some .string|some (.slice _)=>true
 | _=>false
theorem params_ok {ts:List TypeId} (h:ts.all (fun t=>P.readableRec t&&decide (t<P.types.size))=true):∀t∈ts,P.readableRec t=true∧t<P.types.size:=by
 intro t ht;have:=List.all_eq_true.1 h t ht;simpa using this
def aggCell (P:Program) (t:TypeId):Bool :=
 match P.underlying t with
 | some (.struct _)|some (.array _ _)=>true
 | _=>false
theorem Ym (hl:laidOutB P=true) {w':World} (L:Later w w'):∀ {ts:List TypeId} {vs:List Value} {ds:List (DataW H)} {ps:List MemPlace},(∀t∈ts,P.readableRec t=true∧t<P.types.size) →
  DataW.TrodAll enc P w 0 (fun _=>true) true ts vs ds ps→DataW.TrodAll enc P w' 0 (fun b=>decide (b<w.heap.size)) true ts vs ds ps
 | [],vs,ds,ps,_,h=>by obtain ⟨rfl,rfl,rfl⟩:=trodAll_nil h; exact h
 | t::ts,vs,ds,ps,hp,h=>by
  have jJ:=h.lt;obtain ⟨v,vs1,d,ds1,p,q,rfl,rfl,rfl,h1,h2⟩:=trodAll_cons h;obtain ⟨hr,Ir⟩:=hp t (by simp);have hb:∀x∈p,x.block<w.heap.size:=fun x hx=>jJ x (by simp[hx])
  refine trodAll_cons_mk (WideElems.Trod_stays hl hr Ir h1 (fun x hx => ?_) fun x hx=>by simpa using hb x hx) (Ym hl L (fun t ht=>hp t (by simp[ht])) h2);have:=L.2.2.2 _ (hb x hx);cases x with
  | cell b o=>simp only[World.sameAt,World.cell?]; simp only[MemPlace.block]at this; rw[this]
  | map b=>exact this
theorem kept_later {w':World} (L:Later w w') (may:MemPlace→Prop):w.keptBut w' may:=by
 refine ⟨L.1,L.2.1,fun i hi => ?_⟩;rw[L.2.2.2 i hi];cases w.heap[i]? with
 | none=>rfl
 | some o=>cases o <;> simp
theorem post_true (hl:laidOutB P=true) {f:Func} {s:ChangeSpec} {w':World} {args:Array Value} {ds gs:List (DataW H)} {before:List MemPlace} {tb:TypeId} (hp:∀t∈f.params.toList,P.readableRec t=true∧t<P.types.size)
  (hv:s.vars = []) (hs:s.fn H (ds++gs) = { results := [.lit (.bool true)],args:=ds }) (hres:f.resultTypes = #[tb]) (hb:P.underlying tb=some .bool)
  (hW:DataW.Whole enc P f.params.toList s.vars false w args.toList ds gs before) (L:Later w w'):s.post enc P f false true false false w args (.bool true) w':=by
 have hW':=hW;obtain ⟨p,q,hA,hV,hpq,hz,hn⟩:=hW';rw[hv]at hV;obtain ⟨hg,hq⟩:=trodVars_none hV;subst hg; subst hq;refine ⟨ds, [],before, [],p, [],hW,?_,?_,?_,kept_later L _,fun h=>by cases h⟩
 ·rw[hs,hres];exact trodAll_cons_mk (shut_bool hb _) trodAll_mk0
 ·rw[hs];exact Ym hl L hp hA
 ·rw[hs,hv];rfl
end
end Go.bb
namespace Go.Proofs.YtmlkkgfenfdndaaGreatDoor
open Go.bb
def tt:dR := [
 ⟨.other,1,0, [.undef],none,false,false,false⟩,
 ⟨.func,1,8, [.jS],none,false,false,false⟩,
 TI.none,
 ⟨.int .i64,1,8, [.int .i64 0],some (.int .i64),false,false,false⟩,
 ⟨.bool,1,1, [.bool false],some .bool,false,false,false⟩,
 ⟨.int .u8,1,1, [.int .u8 0],some (.int .u8),false,false,false⟩,
 TI.none,
 TI.none,
 TI.none,
 ⟨.string,1,16, [.str []],some .str,false,false,false⟩,
 TI.none,
 TI.none,
 TI.none,
 TI.none,
 TI.none,
 TI.none,
 TI.none,
 TI.none,
 TI.none,
 TI.none,
 TI.none,
 ⟨.int .i32,1,4, [.int .i32 0],some (.int .i32),false,false,false⟩,
 ⟨.slice 3,1,24, [.cG],none,false,false,false⟩,
 ⟨.slice 25,1,24, [.cG],none,false,false,false⟩,
 TI.none,
 ⟨.struct [(0,3),(1,3),(2,3),(3,22),(4,23)],5,72, [.int .i64 0, .int .i64 0, .int .i64 0, .cG, .cG],some .raw,false,false,false⟩,
 TI.none,
 ⟨.struct [(0,3),(1,3)],2,16, [.int .i64 0, .int .i64 0],some .dcm,true,false,false⟩,
 ⟨.slice 9,1,24, [.cG],none,false,false,false⟩,
 ⟨.slice 31,1,24, [.cG],none,false,false,false⟩,
 TI.none,
 ⟨.struct [(0,3),(1,27),(3,9),(4,28),(5,29)],6,88, [.int .i64 0, .int .i64 0, .int .i64 0, .str [], .cG, .cG],some .json,false,false,false⟩,
 TI.none,
 TI.none,
 TI.none,
 ⟨.int .i64,1,8, [.int .i64 0],some (.int .i64),false,false,false⟩,
 ⟨.other,1,0, [.undef],none,false,false,false⟩,
 TI.none,
 ⟨.other,1,0, [.undef],none,false,false,false⟩,
 TI.none,
 ⟨.func,1,8, [.jS],none,false,false,false⟩,
 ⟨.slice 5,1,24, [.cG],none,false,false,false⟩,
 TI.none,
 TI.none,
 ⟨.slice 48,1,24, [.cG],none,false,false,false⟩,
 TI.none,
 TI.none,
 TI.none,
 ⟨.struct [(0,3),(1,3),(2,3),(3,22)],4,48, [.int .i64 0, .int .i64 0, .int .i64 0, .cG],some .raw3,false,false,false⟩,
 ⟨.slice 53,1,24, [.cG],none,false,false,false⟩,
 ⟨.other,1,0, [.undef],none,false,false,false⟩,
 TI.none,
 TI.none,
 ⟨.struct [(0,3),(1,9),(2,27),(4,3)],5,48, [.int .i64 0, .str [], .int .i64 0, .int .i64 0, .int .i64 0],some .token,true,false,false⟩,
 ⟨.other,1,0, [.undef],none,false,false,false⟩,
 TI.none,
 TI.none,
 TI.none,
 TI.none,
 TI.none,
 TI.none,
 TI.none,
 ⟨.func,1,8, [.jS],none,false,false,false⟩,
 TI.none,
 TI.none,
 TI.none,
 TI.none,
 TI.none,
 TI.none,
 TI.none,
 TI.none,
 ⟨.ptr 73,1,8, [.j4],none,false,false,false⟩,
 TI.none,
 ⟨.struct [(0,71),(1,41)],2,32, [.j4, .cG],none,false,false,true⟩,
 TI.none,
 TI.none,
 ⟨.int .u32,1,4, [.int .u32 0],some (.int .u32),false,false,false⟩,
 TI.none,
 ⟨.arr 8 5,8,8, [.int .u8 0, .int .u8 0, .int .u8 0, .int .u8 0, .int .u8 0, .int .u8 0, .int .u8 0, .int .u8 0],none,false,false,false⟩,
 ⟨.int .u64,1,8, [.int .u64 0],some (.int .u64),false,false,false⟩,
 TI.none,
 ⟨.ptr 83,1,8, [.j4],none,false,false,false⟩,
 TI.none,
 ⟨.struct [(0,49),(1,35)],2,32, [.cG, .int .i64 0],none,false,false,false⟩,
 TI.none,
 TI.none,
 TI.none,
 TI.none,
 TI.none,
 TI.none,
 ⟨.other,1,0, [.undef],none,false,false,false⟩,
 TI.none,
 TI.none,
 TI.none,
 ⟨.iface,1,16, [.eg],none,false,false,false⟩,
 TI.none,
 TI.none,
 ⟨.other,1,0, [.undef],none,false,false,false⟩,
 TI.none,
 TI.none,
 TI.none,
 ⟨.ptr 103,1,8, [.j4],none,false,false,false⟩,
 TI.none,
 ⟨.struct [(0,49),(1,3),(2,35)],3,40, [.cG, .int .i64 0, .int .i64 0],none,false,false,false⟩,
 ⟨.slice 21,1,24, [.cG],none,false,false,false⟩,
 ⟨.func,1,8, [.jS],none,false,false,false⟩,
 TI.none,
 TI.none,
 TI.none,
 ⟨.map 9 3,1,8, [.qj],none,false,false,false⟩,
 TI.none,
 TI.none,
 TI.none,
 ⟨.other,1,0, [.undef],none,false,false,false⟩,
 TI.none,
 ⟨.other,1,0, [.undef],none,false,false,false⟩,
 TI.none,
 TI.none,
 TI.none,
 TI.none,
 TI.none,
 TI.none,
 TI.none,
 TI.none,
 TI.none,
 TI.none,
 TI.none,
 TI.none,
 TI.none,
 TI.none,
 TI.none,
 TI.none,
 TI.none,
 TI.none,
 TI.none,
 TI.none,
 TI.none,
 TI.none,
 TI.none,
 TI.none,
 ⟨.ptr 142,1,8, [.j4],none,false,false,false⟩,
 TI.none,
 ⟨.struct [(0,9)],1,16, [.str []],none,false,false,false⟩,
 TI.none,
 ⟨.other,1,0, [.undef],none,false,false,false⟩,
 TI.none,
 TI.none,
 ⟨.ptr 149,1,8, [.j4],none,false,false,false⟩,
 TI.none,
 ⟨.struct [(0,9)],1,16, [.str []],none,false,false,false⟩,
 ⟨.func,1,8, [.jS],none,false,false,false⟩,
 TI.none,
 TI.none,
 TI.none,
 TI.none,
 TI.none,
 TI.none,
 TI.none,
 TI.none,
 ⟨.map 9 4,1,8, [.qj],none,false,false,false⟩,
 TI.none,
 TI.none,
 TI.none,
 TI.none,
 TI.none,
 ⟨.int .u64,1,8, [.int .u64 0],some (.int .u64),false,false,false⟩,
 TI.none,
 TI.none,
 TI.none,
 ⟨.other,1,0, [.undef],none,false,false,false⟩,
 TI.none,
 TI.none,
 TI.none,
 TI.none,
 ⟨.other,1,0, [.undef],none,false,false,false⟩,
 TI.none,
 TI.none,
 TI.none,
 TI.none,
 TI.none,
 TI.none,
 TI.none,
 TI.none,
 TI.none,
 ⟨.int .i64,1,8, [.int .i64 0],some (.int .i64),false,false,false⟩,
 TI.none,
 TI.none,
 TI.none,
 TI.none,
 TI.none,
 TI.none,
 TI.none,
 TI.none,
 TI.none,
 TI.none,
 TI.none,
 TI.none,
 ⟨.other,1,0, [.undef],none,false,false,false⟩,
 TI.none,
 TI.none,
 TI.none,
 TI.none,
 TI.none,
 TI.none,
 TI.none,
 TI.none,
 TI.none,
 TI.none,
 TI.none,
 TI.none,
 TI.none,
 TI.none,
 TI.none,
 TI.none,
 TI.none,
 TI.none,
 TI.none,
 TI.none,
 TI.none,
 TI.none,
 TI.none]
end Go.Proofs.YtmlkkgfenfdndaaGreatDoor
namespace Go.bb
open Go.RowKit
def U:Nat→List V→List V
 | 0,l=>l
 | n+1,l => .undef::U n l
def PU:Nat→List dh→List dh
 | 0,l=>l
 | n+1,l => .leaf .undef::PU n l
section
variable {R:Type} {P:Program} {tt:dR}
abbrev oC (R:Type) (ps:List dh) (hs:List aY):Type:=dh.bD ps→aY.bD hs→(V→aR→Option R)→Option R
abbrev sI (R:Type) (ps:List dh) (hs:List aY):Type:=dh.bD ps→aY.bD hs→(Ex→St→Option R)→Option R
abbrev t8 {a b c d e f g h i:Type} (x:a×b×c×d×e×f×g×h×i):i:=x.2.2.2.2.2.2.2.2
def od (P:Program) (g:Nat) (s:Spec R→Spec R):Prop:=∀o,Spec.Ok P g o→Spec.Ok P g (s o)
abbrev sS (R:Type):=Nat×Bool×Spec R
def cz:List (sS R)→Env R
 | [],_=>none
 | e::l,i=>bif Nat.beq i e.1 then some e.2 else cz l i
inductive dy (P:Program):List (sS R)→Prop
 | n:dy P []
 | p {g:Nat} {sp:Spec R} {l:List (sS R)} (h:Spec.Ok P g sp) (t:dy P l):dy P ((g,true,sp)::l)
 | f {g:Nat} {sp:Spec R} {l:List (sS R)} (h:Spec.Ok P g sp) (hs:pX.soft g=false) (t:dy P l):dy P ((g,false,sp)::l)
 | s {g:Nat} {sp:Spec R} {l:List (sS R)} (h:Spec.Ok P g sp) (hs:N8 sp) (t:dy P l):dy P ((g,false,sp)::l)
theorem dy.c {g:Nat} {s:Spec R→Spec R} {l:List (sS R)} (h:od P g s) (t:dy P l):dy P ((g,true,s aC)::l) := .p (h _ (fo _)) t
theorem dy.d {g:Nat} {s:Spec R→Spec R} {l:List (sS R)} (h:od P g s) (hs:pX.soft g=false) (t:dy P l):dy P ((g,false,s aC)::l) := .f (h _ (fo _)) hs t
theorem envL_ok {l:List (sS R)} (h:dy P l):EOk P (cz l):=by
 induction h with
 | n=>intro i b sp h; cases h
 | p h0 t ih =>
  intro i b sp h;simp only[cz]at h;cases hb:Nat.beq i _ with
  | true =>
   rw[hb,cond_true]at h;cases h;have:=Nat.eq_of_beq_eq_true hb;subst this;exact ⟨h0,fun h=>by cases h⟩
  | false =>
   rw[hb,cond_false]at h;exact ih i b sp h
 | f h0 hs t ih =>
  intro i b sp h;simp only[cz]at h;cases hb:Nat.beq i _ with
  | true =>
   rw[hb,cond_true]at h;cases h;have:=Nat.eq_of_beq_eq_true hb;subst this;exact ⟨h0,fun _ h=>by rw[hs]at h; cases h⟩
  | false =>
   rw[hb,cond_false]at h;exact ih i b sp h
 | s h0 hs t ih =>
  intro i b sp h;simp only[cz]at h;cases hb:Nat.beq i _ with
  | true =>
   rw[hb,cond_true]at h;cases h;have:=Nat.eq_of_beq_eq_true hb;subst this;exact ⟨h0,fun _ _=>hs⟩
  | false =>
   rw[hb,cond_false]at h;exact ih i b sp h
def fC (tt:dR) (l:List (sS R)) (L:Nat→Option (Hint×cF R)) (AF:Bool) (fn:Func) (ps:List dh) (hs:List aY) (run:oC R ps hs):Prop :=
 ∀x y k,funK tt (cz l) L AF fn (aQ fn) (dh.dV ps x) (aY.dV hs y) k=run x y k
theorem bS (T:B1 P tt) (hm:P.follows .mixedOrders=true) {l:List (sS R)} (hE:dy P l) {L:Nat→Option (Hint×cF R)} {g:Nat} {fn:Func} {AF:Bool} {ps:List dh} {hs:List aY}
  {run:oC R ps hs} (hf:P.funcs[g]? = some fn) (hb:fn.body=some (aQ fn)) (hn:(fn.name == "runtime.NumGoroutine")=false) (hr:fn.results.size=fn.resultTypes.size)
  (hl:∀a∈aA (aQ fn),gE tt (cz l) L hs.length a) (h:fC tt l L AF fn ps hs run):od P g (aG ps hs run) :=
 fun _ ho=>specBy_ok ho (funK_sound T hm (envL_ok hE) hf hb hn hr hs.length hl) h
def AL:Nat→Option (Hint×cF R):=fun _=>none
theorem dM {E:Env R} {l:List Code} {m:Nat}:∀a∈l,gE tt E AL m a:=fun _ _ _ _ h=>by cases h
def AllT (Q:Nat→Prop):List Nat→Prop
 | []=>True
 | t::l=>Q t∧AllT Q l
theorem AllT.mem {Q:Nat→Prop}:∀ {l:List Nat} {t:Nat},AllT Q l→l.contains t=true→Q t
 | a::l,t,h,ht=>by
  rw[List.contains_cons,Bool.or_eq_true,beq_iff_eq]at ht;rcases ht with rfl|ht
  ·exact h.1
  ·exact AllT.mem h.2 ht
def TD.off:TD→Bool
 | .other=>true
 | _=>false
theorem offT {l:List Nat} (h:(List.range tt.length).all (fun t=>l.contains t||((tt.at t).d.off && !(tt.at t).eq))=true) {t:Nat} (ht:l.contains t=false):(tt.at t).d = .other∧(tt.at t).eq=false:=by
 by_cases hl:t<tt.length
 ·have:=List.all_eq_true.1 h t (by simpa using hl);rw[ht,Bool.false_or,Bool.and_eq_true]at this;refine ⟨?_,by simpa using this.2⟩;cases hd:(tt.at t).d <;> rw[hd]at this <;> first|rfl|cases this.1
 ·have:tt.at t=TI.none:=by unfold dR.at; simp[List.getD,List.getElem?_eq_none (Nat.le_of_not_lt hl)]
  rw[this];exact ⟨rfl,rfl⟩
theorem undT {l:List Nat} (h:(List.range tt.length).all (fun t=>l.contains t||((tt.at t).d.off && !(tt.at t).eq))=true) (ha:AllT (fun t=>(tt.at t).d.Is P t) l) (t:Nat):(tt.at t).d.Is P t:=by
 cases ht:l.contains t with
 | true=>exact ha.mem ht
 | false =>
  rw[(offT h ht).1];trivial
theorem infT {l:List Nat} (h:(List.range tt.length).all (fun t=>l.contains t||((tt.at t).d.off && !(tt.at t).eq))=true) (ha:AllT (fun t=>LN P tt t) l) (t:Nat) (ok:tt.ok t=true):LN P tt t:=by
 cases ht:l.contains t with
 | true=>exact ha.mem ht
 | false =>
  unfold dR.ok at ok;rw[(offT h ht).1]at ok;cases ok
theorem eqT {l:List Nat} (h:(List.range tt.length).all (fun t=>l.contains t||((tt.at t).d.off && !(tt.at t).eq))=true) (ha:AllT (fun t=>(tt.at t).eq=true→Uj P tt t) l) (t:Nat) (hq:(tt.at t).eq=true):Uj P tt t:=by
 cases ht:l.contains t with
 | true=>exact ha.mem ht hq
 | false =>
  rw[(offT h ht).2]at hq;cases hq
theorem LN.at {t:Nat} (i:TypeInfo) (h:(P.info? t,i.size,i.bytes,zeroOf i)=(some i,(tt.at t).size,(tt.at t).bytes,some ((tt.at t).size,(tt.at t).zero, !tt.isAgg t))):LN P tt t:=by
 simp only[Prod.mk.injEq]at h;exact ⟨i,h.1,h.2.1,h.2.2.1,h.2.2.2⟩
end
end Go.bb
set_option maxRecDepth 100000
namespace Go.Proofs.YtmlkkgfenfdndaaGreatDoor
open Go Go.bb
def liveT:List Nat := [1,3,4,5,9,21,22,23,25,27,28,29,31,35,40,41,44,48,49,53,62,71,73,76,78,79,81,83,94,101,103,104,105,109,140,142,147,149,150,159,165,184]
theorem liveOk:(List.range tt.length).all (fun t=>liveT.contains t||((tt.at t).d.off && !(tt.at t).eq))=true:=by kernel_rfl
theorem TTund:∀t,(tt.at t).d.Is Tryz.prog t:=undT liveOk ⟨⟨_,_,_,rfl⟩,(by kernel_rfl:Tryz.prog.underlying 3=some (.int .i64)),(by kernel_rfl:Tryz.prog.underlying 4=some .bool),(by kernel_rfl:Tryz.prog.underlying 5=some (.int .u8)),(by kernel_rfl:Tryz.prog.underlying 9=some .string),(by kernel_rfl:Tryz.prog.underlying 21=some (.int .i32)),(by kernel_rfl:Tryz.prog.underlying 22=some (.slice 3)),(by kernel_rfl:Tryz.prog.underlying 23=some (.slice 25)),⟨Tryz.prog.fieldsOf 25,by kernel_rfl,by kernel_rfl⟩,⟨Tryz.prog.fieldsOf 27,by kernel_rfl,by kernel_rfl⟩,(by kernel_rfl:Tryz.prog.underlying 28=some (.slice 9)),(by kernel_rfl:Tryz.prog.underlying 29=some (.slice 31)),⟨Tryz.prog.fieldsOf 31,by kernel_rfl,by kernel_rfl⟩,(by kernel_rfl:Tryz.prog.underlying 35=some (.int .i64)),⟨_,_,_,rfl⟩,(by kernel_rfl:Tryz.prog.underlying 41=some (.slice 5)),(by kernel_rfl:Tryz.prog.underlying 44=some (.slice 48)),⟨Tryz.prog.fieldsOf 48,by kernel_rfl,by kernel_rfl⟩,(by kernel_rfl:Tryz.prog.underlying 49=some (.slice 53)),⟨Tryz.prog.fieldsOf 53,by kernel_rfl,by kernel_rfl⟩,⟨_,_,_,rfl⟩,(by kernel_rfl:Tryz.prog.underlying 71=some (.pointer 73)),⟨Tryz.prog.fieldsOf 73,by kernel_rfl,by kernel_rfl⟩,(by kernel_rfl:Tryz.prog.underlying 76=some (.int .u32)),(by kernel_rfl:Tryz.prog.underlying 78=some (.array 8 5)),(by kernel_rfl:Tryz.prog.underlying 79=some (.int .u64)),(by kernel_rfl:Tryz.prog.underlying 81=some (.pointer 83)),⟨Tryz.prog.fieldsOf 83,by kernel_rfl,by kernel_rfl⟩,⟨_,rfl⟩,(by kernel_rfl:Tryz.prog.underlying 101=some (.pointer 103)),⟨Tryz.prog.fieldsOf 103,by kernel_rfl,by kernel_rfl⟩,(by kernel_rfl:Tryz.prog.underlying 104=some (.slice 21)),⟨_,_,_,rfl⟩,(by kernel_rfl:Tryz.prog.underlying 109=some (.map 9 3)),(by kernel_rfl:Tryz.prog.underlying 140=some (.pointer 142)),⟨Tryz.prog.fieldsOf 142,by kernel_rfl,by kernel_rfl⟩,(by kernel_rfl:Tryz.prog.underlying 147=some (.pointer 149)),⟨Tryz.prog.fieldsOf 149,by kernel_rfl,by kernel_rfl⟩,⟨_,_,_,rfl⟩,(by kernel_rfl:Tryz.prog.underlying 159=some (.map 9 4)),(by kernel_rfl:Tryz.prog.underlying 165=some (.int .u64)),(by kernel_rfl:Tryz.prog.underlying 184=some (.int .i64)),trivial⟩
theorem TTinf:∀t,tt.ok t=true→LN Tryz.prog tt t:=infT liveOk ⟨.at Tryz.t1 (by kernel_rfl), .at Tryz.t3 (by kernel_rfl), .at Tryz.t4 (by kernel_rfl), .at Tryz.t5 (by kernel_rfl), .at Tryz.t9 (by kernel_rfl), .at Tryz.t21 (by kernel_rfl), .at Tryz.t22 (by kernel_rfl), .at Tryz.t23 (by kernel_rfl), .at Tryz.t25 (by kernel_rfl), .at Tryz.t27 (by kernel_rfl), .at Tryz.t28 (by kernel_rfl), .at Tryz.t29 (by kernel_rfl), .at Tryz.t31 (by kernel_rfl), .at Tryz.t35 (by kernel_rfl), .at Tryz.t40 (by kernel_rfl), .at Tryz.t41 (by kernel_rfl), .at Tryz.t44 (by kernel_rfl), .at Tryz.t48 (by kernel_rfl), .at Tryz.t49 (by kernel_rfl), .at Tryz.t53 (by kernel_rfl), .at Tryz.t62 (by kernel_rfl), .at Tryz.t71 (by kernel_rfl), .at Tryz.t73 (by kernel_rfl), .at Tryz.t76 (by kernel_rfl), .at Tryz.t78 (by kernel_rfl), .at Tryz.t79 (by kernel_rfl), .at Tryz.t81 (by kernel_rfl), .at Tryz.t83 (by kernel_rfl), .at Tryz.t94 (by kernel_rfl), .at Tryz.t101 (by kernel_rfl), .at Tryz.t103 (by kernel_rfl), .at Tryz.t104 (by kernel_rfl), .at Tryz.t105 (by kernel_rfl), .at Tryz.t109 (by kernel_rfl), .at Tryz.t140 (by kernel_rfl), .at Tryz.t142 (by kernel_rfl), .at Tryz.t147 (by kernel_rfl), .at Tryz.t149 (by kernel_rfl), .at Tryz.t150 (by kernel_rfl), .at Tryz.t159 (by kernel_rfl), .at Tryz.t165 (by kernel_rfl), .at Tryz.t184 (by kernel_rfl),trivial⟩
theorem TTeq:∀t,(tt.at t).eq=true→Uj Tryz.prog tt t:=eqT liveOk ⟨(nofun),(nofun),(nofun),(nofun),(nofun),(nofun),(nofun),(nofun),(nofun),fun _ => .of (by kernel_rfl) (by kernel_rfl) (by kernel_rfl) (by kernel_rfl),(nofun),(nofun),(nofun),(nofun),(nofun),(nofun),(nofun),(nofun),(nofun),fun _ => .of (by kernel_rfl) (by kernel_rfl) (by kernel_rfl) (by kernel_rfl),(nofun),(nofun),(nofun),(nofun),(nofun),(nofun),(nofun),(nofun),(nofun),(nofun),(nofun),(nofun),(nofun),(nofun),(nofun),(nofun),(nofun),(nofun),(nofun),(nofun),(nofun),(nofun),trivial⟩
theorem TTeqs:∀t,∀(w:World) (h:aR) (c:km) (cs ds:List V) (xs ys:Array Value) (b:Bool),eqOk (tt.at t) cs ds=true→cN w h c cs xs.toList→cN w h c ds ys.toList →
  mF cs ds=some b→Tryz.prog.eqGuardType Tryz.prog.depth t=false∧(Op.equalIn 10000 t (.agg xs) (.agg ys)).run Tryz.prog w = .ok b w :=
 fun t _ _ _ _ _ _ _ _ hk rx ry hb=>eqs_flat (TTeq t (eqOk_eq hk)) hk rx ry hb
theorem TT:B1 Tryz.prog tt:=⟨TTund,fun t h=>(TTinf t h).spec,TTeqs,u8s_of (by kernel_rfl),blds_of (by kernel_rfl),fun t h=>(TTinf t h).one⟩
theorem mixed:Tryz.prog.follows .mixedOrders=true:=by kernel_rfl
end Go.Proofs.YtmlkkgfenfdndaaGreatDoor
set_option maxRecDepth 100000
namespace Go.Proofs
open Go.Shelf
def Tryz.lay196_ren:Go.Shelf.Ren:=⟨fun|196=>72|259=>111|n=>n,fun|9=>9|4=>4|3=>3|5=>5|12=>12|119=>152|0=>0|46=>79|139=>155|138=>154|53=>165|n=>n,fun|3=>1|4=>2|n=>n⟩
theorem Tryz.lay196:Go.Proofs.Lays.n196 Tryz.prog Tryz.lay196_ren := {
 mixed:=by kernel_rfl
 f196:=Tryz.func72.trans (congrArg some (by kernel_rfl))
 f259:=Tryz.func111.trans (congrArg some (by kernel_rfl))
 t0:=Tryz.underlying0
 a0:=Tryz.isAgg0
 z0:=Tryz.sizeOf0
 v0:=Tryz.zeroValue0
 t3:=Tryz.underlying3
 a3:=Tryz.isAgg3
 z3:=Tryz.sizeOf3
 v3:=Tryz.zeroValue3
 t4:=Tryz.underlying4
 a4:=Tryz.isAgg4
 z4:=Tryz.sizeOf4
 v4:=Tryz.zeroValue4
 t5:=Tryz.underlying5
 a5:=Tryz.isAgg5
 z5:=Tryz.sizeOf5
 v5:=Tryz.zeroValue5
 t9:=Tryz.underlying9
 a9:=Tryz.isAgg9
 z9:=Tryz.sizeOf9
 v9:=Tryz.zeroValue9
 t12:=Tryz.underlying12
 a12:=Tryz.isAgg12
 z12:=Tryz.sizeOf12
 v12:=Tryz.zeroValue12
 t46:=Tryz.underlying79
 a46:=Tryz.isAgg79
 z46:=Tryz.sizeOf79
 v46:=Tryz.zeroValue79
 t53:=Tryz.underlying165
 a53:=Tryz.isAgg165
 z53:=Tryz.sizeOf165
 v53:=Tryz.zeroValue165
 t119:=Tryz.underlying152
 a119:=Tryz.isAgg152
 z119:=Tryz.sizeOf152
 t138:=Tryz.underlying154
 a138:=Tryz.isAgg154
 z138:=Tryz.sizeOf154
 v138:=Tryz.zeroValue154
 t139:=Tryz.underlying155
 a139:=Tryz.isAgg155
 z139:=Tryz.sizeOf155
 v139:=Tryz.zeroValue155
 g3:=by kernel_rfl
 g4:=by kernel_rfl }
def Tryz.lay197_ren:Go.Shelf.Ren:=⟨fun|197=>130|260=>148|n=>n,fun|9=>9|21=>21|3=>3|4=>4|5=>5|105=>169|119=>152|0=>0|46=>79|139=>155|138=>154|n=>n,fun|3=>1|4=>2|n=>n⟩
theorem Tryz.lay197:Go.Proofs.Lays.n197 Tryz.prog Tryz.lay197_ren := {
 mixed:=by kernel_rfl
 f197:=Tryz.func130.trans (congrArg some (by kernel_rfl))
 f260:=Tryz.func148.trans (congrArg some (by kernel_rfl))
 t0:=Tryz.underlying0
 a0:=Tryz.isAgg0
 z0:=Tryz.sizeOf0
 v0:=Tryz.zeroValue0
 t3:=Tryz.underlying3
 a3:=Tryz.isAgg3
 z3:=Tryz.sizeOf3
 v3:=Tryz.zeroValue3
 t4:=Tryz.underlying4
 a4:=Tryz.isAgg4
 z4:=Tryz.sizeOf4
 v4:=Tryz.zeroValue4
 t5:=Tryz.underlying5
 a5:=Tryz.isAgg5
 z5:=Tryz.sizeOf5
 v5:=Tryz.zeroValue5
 t9:=Tryz.underlying9
 a9:=Tryz.isAgg9
 z9:=Tryz.sizeOf9
 v9:=Tryz.zeroValue9
 t21:=Tryz.underlying21
 a21:=Tryz.isAgg21
 z21:=Tryz.sizeOf21
 v21:=Tryz.zeroValue21
 t46:=Tryz.underlying79
 a46:=Tryz.isAgg79
 z46:=Tryz.sizeOf79
 v46:=Tryz.zeroValue79
 t105:=Tryz.underlying169
 a105:=Tryz.isAgg169
 z105:=Tryz.sizeOf169
 v105:=Tryz.zeroValue169
 t119:=Tryz.underlying152
 a119:=Tryz.isAgg152
 z119:=Tryz.sizeOf152
 t138:=Tryz.underlying154
 a138:=Tryz.isAgg154
 z138:=Tryz.sizeOf154
 v138:=Tryz.zeroValue154
 t139:=Tryz.underlying155
 a139:=Tryz.isAgg155
 z139:=Tryz.sizeOf155
 v139:=Tryz.zeroValue155
 g3:=by kernel_rfl
 g4:=by kernel_rfl }
def Tryz.lay171_ren:Go.Shelf.Ren:=⟨fun|171=>66|243=>92|246=>124|283=>143|284=>144|285=>145|286=>146|129=>161|317=>160|318=>162|319=>163|320=>164|337=>174|338=>175|n=>n,fun|3=>3|9=>9|2=>2|4=>4|171=>177|0=>0|53=>165|37=>41|5=>5|173=>180|212=>192|51=>76|20=>20|213=>193|46=>79|232=>207|233=>208|n=>n,fun|17=>3|18=>6|19=>7|n=>n⟩
theorem Tryz.lay171:Go.Proofs.LaysM.n171 Tryz.prog Tryz.lay171_ren := {
 mixed:=by kernel_rfl
 f129:=Tryz.func161.trans (congrArg some (by kernel_rfl))
 f171:=Tryz.func66.trans (congrArg some (by kernel_rfl))
 f243:=Tryz.func92.trans (congrArg some (by kernel_rfl))
 f246:=Tryz.func124.trans (congrArg some (by kernel_rfl))
 f283:=Tryz.func143.trans (congrArg some (by kernel_rfl))
 f284:=Tryz.func144.trans (congrArg some (by kernel_rfl))
 f285:=Tryz.func145.trans (congrArg some (by kernel_rfl))
 f286:=Tryz.func146.trans (congrArg some (by kernel_rfl))
 f317:=Tryz.func160.trans (congrArg some (by kernel_rfl))
 f318:=Tryz.func162.trans (congrArg some (by kernel_rfl))
 f319:=Tryz.func163.trans (congrArg some (by kernel_rfl))
 f320:=Tryz.func164.trans (congrArg some (by kernel_rfl))
 f337:=Tryz.func174.trans (congrArg some (by kernel_rfl))
 f338:=Tryz.func175.trans (congrArg some (by kernel_rfl))
 t0:=Tryz.underlying0
 a0:=Tryz.isAgg0
 z0:=Tryz.sizeOf0
 v0:=Tryz.zeroValue0
 t2:=Tryz.underlying2
 a2:=Tryz.isAgg2
 z2:=Tryz.sizeOf2
 v2:=Tryz.zeroValue2
 t3:=Tryz.underlying3
 a3:=Tryz.isAgg3
 z3:=Tryz.sizeOf3
 v3:=Tryz.zeroValue3
 t4:=Tryz.underlying4
 a4:=Tryz.isAgg4
 z4:=Tryz.sizeOf4
 v4:=Tryz.zeroValue4
 t5:=Tryz.underlying5
 a5:=Tryz.isAgg5
 z5:=Tryz.sizeOf5
 v5:=Tryz.zeroValue5
 t9:=Tryz.underlying9
 a9:=Tryz.isAgg9
 z9:=Tryz.sizeOf9
 v9:=Tryz.zeroValue9
 t20:=Tryz.underlying20
 a20:=Tryz.isAgg20
 z20:=Tryz.sizeOf20
 v20:=Tryz.zeroValue20
 t37:=Tryz.underlying41
 a37:=Tryz.isAgg41
 z37:=Tryz.sizeOf41
 v37:=Tryz.zeroValue41
 t46:=Tryz.underlying79
 a46:=Tryz.isAgg79
 z46:=Tryz.sizeOf79
 v46:=Tryz.zeroValue79
 t51:=Tryz.underlying76
 a51:=Tryz.isAgg76
 z51:=Tryz.sizeOf76
 v51:=Tryz.zeroValue76
 t53:=Tryz.underlying165
 a53:=Tryz.isAgg165
 z53:=Tryz.sizeOf165
 v53:=Tryz.zeroValue165
 t171:=Tryz.underlying177
 a171:=Tryz.isAgg177
 z171:=Tryz.sizeOf177
 v171:=Tryz.zeroValue177
 t173:=Tryz.underlying180
 a173:=Tryz.isAgg180
 z173:=Tryz.sizeOf180
 v173:=Tryz.zeroValue180
 t212:=Tryz.underlying192
 a212:=Tryz.isAgg192
 z212:=Tryz.sizeOf192
 v212:=Tryz.zeroValue192
 t213:=Tryz.underlying193
 a213:=Tryz.isAgg193
 z213:=Tryz.sizeOf193
 t232:=Tryz.underlying207
 a232:=Tryz.isAgg207
 z232:=Tryz.sizeOf207
 v232:=Tryz.zeroValue207
 t233:=Tryz.underlying208
 a233:=Tryz.isAgg208
 z233:=Tryz.sizeOf208
 v233:=Tryz.zeroValue208
 g17:=by kernel_rfl
 g18:=by kernel_rfl
 g19:=by kernel_rfl
 i0:=by kernel_rfl
 i2:=by kernel_rfl
 i3:=by kernel_rfl
 i4:=by kernel_rfl
 i5:=by kernel_rfl
 i9:=by kernel_rfl
 i20:=by kernel_rfl
 i37:=by kernel_rfl
 i46:=by kernel_rfl
 i51:=by kernel_rfl
 i53:=by kernel_rfl
 i171:=by kernel_rfl
 i173:=by kernel_rfl
 i212:=by kernel_rfl
 i232:=by kernel_rfl
 i233:=by kernel_rfl
 m17:=by kernel_rfl
 m18:=by kernel_rfl
 m19:=by kernel_rfl }
def Tryz.LP:Go.Shelf.Ren:=⟨fun|105=>67|212=>93|99=>94|165=>95|166=>52|170=>96|169=>39|263=>125|264=>126|206=>127|240=>73|241=>128|276=>112|277=>147|n=>n,fun|9=>9|3=>3|4=>4|20=>20|0=>0|46=>79|109=>128|5=>5|72=>73|76=>97|51=>76|146=>123|53=>165|148=>166|70=>71|37=>41|75=>94|127=>106|164=>156|80=>75|n=>n,fun|n=>n⟩
theorem Tryz.lay105:Go.Proofs.Lays.n105 Tryz.prog Tryz.LP := {
 mixed:=by kernel_rfl
 f99:=Tryz.func94.trans (congrArg some (by kernel_rfl))
 f105:=Tryz.func67.trans (congrArg some (by kernel_rfl))
 f165:=Tryz.func95.trans (congrArg some (by kernel_rfl))
 f166:=Tryz.func52.trans (congrArg some (by kernel_rfl))
 f169:=Tryz.func39.trans (congrArg some (by kernel_rfl))
 f170:=Tryz.func96.trans (congrArg some (by kernel_rfl))
 f206:=Tryz.func127.trans (congrArg some (by kernel_rfl))
 f212:=Tryz.func93.trans (congrArg some (by kernel_rfl))
 f240:=Tryz.func73.trans (congrArg some (by kernel_rfl))
 f241:=Tryz.func128.trans (congrArg some (by kernel_rfl))
 f263:=Tryz.func125.trans (congrArg some (by kernel_rfl))
 f264:=Tryz.func126.trans (congrArg some (by kernel_rfl))
 f276:=Tryz.func112.trans (congrArg some (by kernel_rfl))
 f277:=Tryz.func147.trans (congrArg some (by kernel_rfl))
 t0:=Tryz.underlying0
 a0:=Tryz.isAgg0
 z0:=Tryz.sizeOf0
 v0:=Tryz.zeroValue0
 t3:=Tryz.underlying3
 a3:=Tryz.isAgg3
 z3:=Tryz.sizeOf3
 v3:=Tryz.zeroValue3
 t4:=Tryz.underlying4
 a4:=Tryz.isAgg4
 z4:=Tryz.sizeOf4
 v4:=Tryz.zeroValue4
 t5:=Tryz.underlying5
 a5:=Tryz.isAgg5
 z5:=Tryz.sizeOf5
 v5:=Tryz.zeroValue5
 t9:=Tryz.underlying9
 a9:=Tryz.isAgg9
 z9:=Tryz.sizeOf9
 v9:=Tryz.zeroValue9
 t20:=Tryz.underlying20
 a20:=Tryz.isAgg20
 z20:=Tryz.sizeOf20
 v20:=Tryz.zeroValue20
 t37:=Tryz.underlying41
 a37:=Tryz.isAgg41
 z37:=Tryz.sizeOf41
 v37:=Tryz.zeroValue41
 t46:=Tryz.underlying79
 a46:=Tryz.isAgg79
 z46:=Tryz.sizeOf79
 v46:=Tryz.zeroValue79
 t51:=Tryz.underlying76
 a51:=Tryz.isAgg76
 z51:=Tryz.sizeOf76
 v51:=Tryz.zeroValue76
 t53:=Tryz.underlying165
 a53:=Tryz.isAgg165
 z53:=Tryz.sizeOf165
 v53:=Tryz.zeroValue165
 t70:=Tryz.underlying71
 a70:=Tryz.isAgg71
 z70:=Tryz.sizeOf71
 v70:=Tryz.zeroValue71
 t72:=Tryz.underlying73
 a72:=Tryz.isAgg73
 z72:=Tryz.sizeOf73
 v72:=Tryz.zeroValue73
 t75:=Tryz.underlying94
 a75:=Tryz.isAgg94
 z75:=Tryz.sizeOf94
 v75:=Tryz.zeroValue94
 t76:=Tryz.underlying97
 a76:=Tryz.isAgg97
 z76:=Tryz.sizeOf97
 v76:=Tryz.zeroValue97
 t109:=Tryz.underlying128
 a109:=Tryz.isAgg128
 z109:=Tryz.sizeOf128
 v109:=Tryz.zeroValue128
 t127:=Tryz.underlying106
 a127:=Tryz.isAgg106
 z127:=Tryz.sizeOf106
 v127:=Tryz.zeroValue106
 t146:=Tryz.underlying123
 a146:=Tryz.isAgg123
 z146:=Tryz.sizeOf123
 v146:=Tryz.zeroValue123
 t148:=Tryz.underlying166
 a148:=Tryz.isAgg166
 z148:=Tryz.sizeOf166
 v148:=Tryz.zeroValue166
 t164:=Tryz.underlying156
 a164:=Tryz.isAgg156
 z164:=Tryz.sizeOf156
 v164:=Tryz.zeroValue156 }
def Tryz.lay161_ren:Go.Shelf.Ren:=⟨fun|161=>68|231=>97|227=>98|233=>99|235=>100|228=>129|197=>130|151=>131|260=>148|152=>149|137=>71|119=>165|224=>166|225=>167|217=>110|266=>139|n=>n,fun|9=>9|4=>4|3=>3|5=>5|117=>136|116=>135|0=>0|124=>139|105=>169|21=>21|119=>152|46=>79|139=>155|138=>154|n=>n,fun|3=>1|4=>2|n=>n⟩
theorem Tryz.lay161:Go.Proofs.Lays.n161 Tryz.prog Tryz.lay161_ren := {
 mixed:=by kernel_rfl
 f119:=Tryz.func165.trans (congrArg some (by kernel_rfl))
 f137:=Tryz.func71.trans (congrArg some (by kernel_rfl))
 f151:=Tryz.func131.trans (congrArg some (by kernel_rfl))
 f152:=Tryz.func149.trans (congrArg some (by kernel_rfl))
 f161:=Tryz.func68.trans (congrArg some (by kernel_rfl))
 f197:=Tryz.func130.trans (congrArg some (by kernel_rfl))
 f217:=Tryz.func110.trans (congrArg some (by kernel_rfl))
 f224:=Tryz.func166.trans (congrArg some (by kernel_rfl))
 f225:=Tryz.func167.trans (congrArg some (by kernel_rfl))
 f227:=Tryz.func98.trans (congrArg some (by kernel_rfl))
 f228:=Tryz.func129.trans (congrArg some (by kernel_rfl))
 f231:=Tryz.func97.trans (congrArg some (by kernel_rfl))
 f233:=Tryz.func99.trans (congrArg some (by kernel_rfl))
 f235:=Tryz.func100.trans (congrArg some (by kernel_rfl))
 f260:=Tryz.func148.trans (congrArg some (by kernel_rfl))
 f266:=Tryz.func139.trans (congrArg some (by kernel_rfl))
 t0:=Tryz.underlying0
 a0:=Tryz.isAgg0
 z0:=Tryz.sizeOf0
 v0:=Tryz.zeroValue0
 t3:=Tryz.underlying3
 a3:=Tryz.isAgg3
 z3:=Tryz.sizeOf3
 v3:=Tryz.zeroValue3
 t4:=Tryz.underlying4
 a4:=Tryz.isAgg4
 z4:=Tryz.sizeOf4
 v4:=Tryz.zeroValue4
 t5:=Tryz.underlying5
 a5:=Tryz.isAgg5
 z5:=Tryz.sizeOf5
 v5:=Tryz.zeroValue5
 t9:=Tryz.underlying9
 a9:=Tryz.isAgg9
 z9:=Tryz.sizeOf9
 v9:=Tryz.zeroValue9
 t21:=Tryz.underlying21
 a21:=Tryz.isAgg21
 z21:=Tryz.sizeOf21
 v21:=Tryz.zeroValue21
 t46:=Tryz.underlying79
 a46:=Tryz.isAgg79
 z46:=Tryz.sizeOf79
 v46:=Tryz.zeroValue79
 t105:=Tryz.underlying169
 a105:=Tryz.isAgg169
 z105:=Tryz.sizeOf169
 v105:=Tryz.zeroValue169
 t116:=Tryz.underlying135
 a116:=Tryz.isAgg135
 z116:=Tryz.sizeOf135
 t117:=Tryz.underlying136
 a117:=Tryz.isAgg136
 z117:=Tryz.sizeOf136
 v117:=Tryz.zeroValue136
 t119:=Tryz.underlying152
 a119:=Tryz.isAgg152
 z119:=Tryz.sizeOf152
 t124:=Tryz.underlying139
 a124:=Tryz.isAgg139
 z124:=Tryz.sizeOf139
 v124:=Tryz.zeroValue139
 t138:=Tryz.underlying154
 a138:=Tryz.isAgg154
 z138:=Tryz.sizeOf154
 v138:=Tryz.zeroValue154
 t139:=Tryz.underlying155
 a139:=Tryz.isAgg155
 z139:=Tryz.sizeOf155
 v139:=Tryz.zeroValue155
 g3:=by kernel_rfl
 g4:=by kernel_rfl }
def Tryz.lay162_ren:Go.Shelf.Ren:=⟨fun|162=>104|232=>132|227=>98|234=>133|236=>134|228=>129|271=>150|151=>131|120=>168|197=>130|152=>149|260=>148|137=>71|119=>165|224=>166|225=>167|217=>110|266=>139|n=>n,fun|9=>9|4=>4|3=>3|5=>5|117=>136|116=>135|0=>0|124=>139|21=>21|105=>169|46=>79|119=>152|139=>155|138=>154|n=>n,fun|3=>1|4=>2|n=>n⟩
theorem Tryz.lay162:Go.Proofs.Lays.n162 Tryz.prog Tryz.lay162_ren := {
 mixed:=by kernel_rfl
 f119:=Tryz.func165.trans (congrArg some (by kernel_rfl))
 f120:=Tryz.func168.trans (congrArg some (by kernel_rfl))
 f137:=Tryz.func71.trans (congrArg some (by kernel_rfl))
 f151:=Tryz.func131.trans (congrArg some (by kernel_rfl))
 f152:=Tryz.func149.trans (congrArg some (by kernel_rfl))
 f162:=Tryz.func104.trans (congrArg some (by kernel_rfl))
 f197:=Tryz.func130.trans (congrArg some (by kernel_rfl))
 f217:=Tryz.func110.trans (congrArg some (by kernel_rfl))
 f224:=Tryz.func166.trans (congrArg some (by kernel_rfl))
 f225:=Tryz.func167.trans (congrArg some (by kernel_rfl))
 f227:=Tryz.func98.trans (congrArg some (by kernel_rfl))
 f228:=Tryz.func129.trans (congrArg some (by kernel_rfl))
 f232:=Tryz.func132.trans (congrArg some (by kernel_rfl))
 f234:=Tryz.func133.trans (congrArg some (by kernel_rfl))
 f236:=Tryz.func134.trans (congrArg some (by kernel_rfl))
 f260:=Tryz.func148.trans (congrArg some (by kernel_rfl))
 f266:=Tryz.func139.trans (congrArg some (by kernel_rfl))
 f271:=Tryz.func150.trans (congrArg some (by kernel_rfl))
 t0:=Tryz.underlying0
 a0:=Tryz.isAgg0
 z0:=Tryz.sizeOf0
 v0:=Tryz.zeroValue0
 t3:=Tryz.underlying3
 a3:=Tryz.isAgg3
 z3:=Tryz.sizeOf3
 v3:=Tryz.zeroValue3
 t4:=Tryz.underlying4
 a4:=Tryz.isAgg4
 z4:=Tryz.sizeOf4
 v4:=Tryz.zeroValue4
 t5:=Tryz.underlying5
 a5:=Tryz.isAgg5
 z5:=Tryz.sizeOf5
 v5:=Tryz.zeroValue5
 t9:=Tryz.underlying9
 a9:=Tryz.isAgg9
 z9:=Tryz.sizeOf9
 v9:=Tryz.zeroValue9
 t21:=Tryz.underlying21
 a21:=Tryz.isAgg21
 z21:=Tryz.sizeOf21
 v21:=Tryz.zeroValue21
 t46:=Tryz.underlying79
 a46:=Tryz.isAgg79
 z46:=Tryz.sizeOf79
 v46:=Tryz.zeroValue79
 t105:=Tryz.underlying169
 a105:=Tryz.isAgg169
 z105:=Tryz.sizeOf169
 v105:=Tryz.zeroValue169
 t116:=Tryz.underlying135
 a116:=Tryz.isAgg135
 z116:=Tryz.sizeOf135
 t117:=Tryz.underlying136
 a117:=Tryz.isAgg136
 z117:=Tryz.sizeOf136
 v117:=Tryz.zeroValue136
 t119:=Tryz.underlying152
 a119:=Tryz.isAgg152
 z119:=Tryz.sizeOf152
 t124:=Tryz.underlying139
 a124:=Tryz.isAgg139
 z124:=Tryz.sizeOf139
 v124:=Tryz.zeroValue139
 t138:=Tryz.underlying154
 a138:=Tryz.isAgg154
 z138:=Tryz.sizeOf154
 v138:=Tryz.zeroValue154
 t139:=Tryz.underlying155
 a139:=Tryz.isAgg155
 z139:=Tryz.sizeOf155
 v139:=Tryz.zeroValue155
 g3:=by kernel_rfl
 g4:=by kernel_rfl }
def Tryz.lay172_ren:Go.Shelf.Ren:=⟨fun|172=>105|244=>135|245=>136|247=>151|279=>152|280=>153|281=>154|282=>155|287=>169|316=>170|171=>66|205=>171|321=>176|322=>177|243=>92|246=>124|283=>143|284=>144|285=>145|286=>146|129=>161|317=>160|318=>162|319=>163|320=>164|337=>174|338=>175|n=>n,fun|9=>9|3=>3|75=>94|76=>97|4=>4|5=>5|167=>184|37=>41|0=>0|85=>185|2=>2|168=>187|53=>165|175=>197|46=>79|210=>200|127=>106|145=>206|143=>204|21=>21|171=>177|173=>180|212=>192|51=>76|20=>20|213=>193|232=>207|233=>208|80=>75|n=>n,fun|15=>4|16=>5|17=>3|18=>6|19=>7|n=>n⟩
theorem Tryz.lay172:Go.Proofs.LaysC.n172 Tryz.prog Tryz.lay172_ren := {
 mixed:=by kernel_rfl
 f129:=Tryz.func161.trans (congrArg some (by kernel_rfl))
 f171:=Tryz.func66.trans (congrArg some (by kernel_rfl))
 f172:=Tryz.func105.trans (congrArg some (by kernel_rfl))
 f205:=Tryz.func171.trans (congrArg some (by kernel_rfl))
 f243:=Tryz.func92.trans (congrArg some (by kernel_rfl))
 f244:=Tryz.func135.trans (congrArg some (by kernel_rfl))
 f245:=Tryz.func136.trans (congrArg some (by kernel_rfl))
 f246:=Tryz.func124.trans (congrArg some (by kernel_rfl))
 f247:=Tryz.func151.trans (congrArg some (by kernel_rfl))
 f279:=Tryz.func152.trans (congrArg some (by kernel_rfl))
 f280:=Tryz.func153.trans (congrArg some (by kernel_rfl))
 f281:=Tryz.func154.trans (congrArg some (by kernel_rfl))
 f282:=Tryz.func155.trans (congrArg some (by kernel_rfl))
 f283:=Tryz.func143.trans (congrArg some (by kernel_rfl))
 f284:=Tryz.func144.trans (congrArg some (by kernel_rfl))
 f285:=Tryz.func145.trans (congrArg some (by kernel_rfl))
 f286:=Tryz.func146.trans (congrArg some (by kernel_rfl))
 f287:=Tryz.func169.trans (congrArg some (by kernel_rfl))
 f316:=Tryz.func170.trans (congrArg some (by kernel_rfl))
 f317:=Tryz.func160.trans (congrArg some (by kernel_rfl))
 f318:=Tryz.func162.trans (congrArg some (by kernel_rfl))
 f319:=Tryz.func163.trans (congrArg some (by kernel_rfl))
 f320:=Tryz.func164.trans (congrArg some (by kernel_rfl))
 f321:=Tryz.func176.trans (congrArg some (by kernel_rfl))
 f322:=Tryz.func177.trans (congrArg some (by kernel_rfl))
 f337:=Tryz.func174.trans (congrArg some (by kernel_rfl))
 f338:=Tryz.func175.trans (congrArg some (by kernel_rfl))
 t0:=Tryz.underlying0
 a0:=Tryz.isAgg0
 z0:=Tryz.sizeOf0
 v0:=Tryz.zeroValue0
 t2:=Tryz.underlying2
 a2:=Tryz.isAgg2
 z2:=Tryz.sizeOf2
 v2:=Tryz.zeroValue2
 t3:=Tryz.underlying3
 a3:=Tryz.isAgg3
 z3:=Tryz.sizeOf3
 v3:=Tryz.zeroValue3
 t4:=Tryz.underlying4
 a4:=Tryz.isAgg4
 z4:=Tryz.sizeOf4
 v4:=Tryz.zeroValue4
 t5:=Tryz.underlying5
 a5:=Tryz.isAgg5
 z5:=Tryz.sizeOf5
 v5:=Tryz.zeroValue5
 t9:=Tryz.underlying9
 a9:=Tryz.isAgg9
 z9:=Tryz.sizeOf9
 v9:=Tryz.zeroValue9
 t20:=Tryz.underlying20
 a20:=Tryz.isAgg20
 z20:=Tryz.sizeOf20
 v20:=Tryz.zeroValue20
 t21:=Tryz.underlying21
 a21:=Tryz.isAgg21
 z21:=Tryz.sizeOf21
 v21:=Tryz.zeroValue21
 t37:=Tryz.underlying41
 a37:=Tryz.isAgg41
 z37:=Tryz.sizeOf41
 v37:=Tryz.zeroValue41
 t46:=Tryz.underlying79
 a46:=Tryz.isAgg79
 z46:=Tryz.sizeOf79
 v46:=Tryz.zeroValue79
 t51:=Tryz.underlying76
 a51:=Tryz.isAgg76
 z51:=Tryz.sizeOf76
 v51:=Tryz.zeroValue76
 t53:=Tryz.underlying165
 a53:=Tryz.isAgg165
 z53:=Tryz.sizeOf165
 v53:=Tryz.zeroValue165
 t75:=Tryz.underlying94
 a75:=Tryz.isAgg94
 z75:=Tryz.sizeOf94
 v75:=Tryz.zeroValue94
 t76:=Tryz.underlying97
 a76:=Tryz.isAgg97
 z76:=Tryz.sizeOf97
 v76:=Tryz.zeroValue97
 t85:=Tryz.underlying185
 a85:=Tryz.isAgg185
 z85:=Tryz.sizeOf185
 v85:=Tryz.zeroValue185
 t127:=Tryz.underlying106
 a127:=Tryz.isAgg106
 z127:=Tryz.sizeOf106
 v127:=Tryz.zeroValue106
 t143:=Tryz.underlying204
 a143:=Tryz.isAgg204
 z143:=Tryz.sizeOf204
 v143:=Tryz.zeroValue204
 t145:=Tryz.underlying206
 a145:=Tryz.isAgg206
 z145:=Tryz.sizeOf206
 v145:=Tryz.zeroValue206
 t167:=Tryz.underlying184
 a167:=Tryz.isAgg184
 z167:=Tryz.sizeOf184
 v167:=Tryz.zeroValue184
 t168:=Tryz.underlying187
 a168:=Tryz.isAgg187
 z168:=Tryz.sizeOf187
 v168:=Tryz.zeroValue187
 t171:=Tryz.underlying177
 a171:=Tryz.isAgg177
 z171:=Tryz.sizeOf177
 v171:=Tryz.zeroValue177
 t173:=Tryz.underlying180
 a173:=Tryz.isAgg180
 z173:=Tryz.sizeOf180
 v173:=Tryz.zeroValue180
 t175:=Tryz.underlying197
 a175:=Tryz.isAgg197
 z175:=Tryz.sizeOf197
 v175:=Tryz.zeroValue197
 t210:=Tryz.underlying200
 a210:=Tryz.isAgg200
 z210:=Tryz.sizeOf200
 v210:=Tryz.zeroValue200
 t212:=Tryz.underlying192
 a212:=Tryz.isAgg192
 z212:=Tryz.sizeOf192
 v212:=Tryz.zeroValue192
 t213:=Tryz.underlying193
 a213:=Tryz.isAgg193
 z213:=Tryz.sizeOf193
 t232:=Tryz.underlying207
 a232:=Tryz.isAgg207
 z232:=Tryz.sizeOf207
 v232:=Tryz.zeroValue207
 t233:=Tryz.underlying208
 a233:=Tryz.isAgg208
 z233:=Tryz.sizeOf208
 v233:=Tryz.zeroValue208
 g15:=by kernel_rfl
 g16:=by kernel_rfl
 g17:=by kernel_rfl
 g18:=by kernel_rfl
 g19:=by kernel_rfl
 t80:=Tryz.underlying75
 a80:=Tryz.isAgg75
 z80:=Tryz.sizeOf75
 v80:=Tryz.zeroValue75
 i0:=by kernel_rfl
 i2:=by kernel_rfl
 i3:=by kernel_rfl
 i4:=by kernel_rfl
 i5:=by kernel_rfl
 i9:=by kernel_rfl
 i20:=by kernel_rfl
 i21:=by kernel_rfl
 i37:=by kernel_rfl
 i46:=by kernel_rfl
 i51:=by kernel_rfl
 i53:=by kernel_rfl
 i75:=by kernel_rfl
 i76:=by kernel_rfl
 i80:=by kernel_rfl
 i85:=by kernel_rfl
 i127:=by kernel_rfl
 i143:=by kernel_rfl
 i145:=by kernel_rfl
 i167:=by kernel_rfl
 i168:=by kernel_rfl
 i171:=by kernel_rfl
 i173:=by kernel_rfl
 i175:=by kernel_rfl
 i210:=by kernel_rfl
 i212:=by kernel_rfl
 i232:=by kernel_rfl
 i233:=by kernel_rfl
 m15:=by kernel_rfl
 m16:=by kernel_rfl
 m17:=by kernel_rfl
 m18:=by kernel_rfl
 m19:=by kernel_rfl
 c0:=by kernel_rfl
 c2:=by kernel_rfl
 c3:=by kernel_rfl
 c4:=by kernel_rfl
 c5:=by kernel_rfl
 c9:=by kernel_rfl
 c20:=by kernel_rfl
 c21:=by kernel_rfl
 c37:=by kernel_rfl
 c46:=by kernel_rfl
 c51:=by kernel_rfl
 c53:=by kernel_rfl
 c75:=by kernel_rfl
 c76:=by kernel_rfl
 c80:=by kernel_rfl
 c85:=by kernel_rfl
 c127:=by kernel_rfl
 c143:=by kernel_rfl
 c145:=by kernel_rfl
 c167:=by kernel_rfl
 c168:=by kernel_rfl
 c171:=by kernel_rfl
 c173:=by kernel_rfl
 c175:=by kernel_rfl
 c210:=by kernel_rfl
 c212:=by kernel_rfl
 c213:=by kernel_rfl
 c232:=by kernel_rfl
 c233:=by kernel_rfl }
def Tryz.lay245_ren:Go.Shelf.Ren:=⟨fun|245=>136|279=>152|280=>153|281=>154|282=>155|316=>170|171=>66|205=>171|243=>92|246=>124|283=>143|284=>144|285=>145|286=>146|129=>161|317=>160|318=>162|319=>163|320=>164|337=>174|338=>175|n=>n,fun|9=>9|3=>3|75=>94|167=>184|4=>4|168=>187|210=>200|37=>41|0=>0|127=>106|145=>206|143=>204|2=>2|171=>177|53=>165|5=>5|173=>180|212=>192|51=>76|20=>20|213=>193|46=>79|232=>207|233=>208|80=>75|n=>n,fun|15=>4|16=>5|17=>3|18=>6|19=>7|n=>n⟩
theorem Tryz.lay245:Go.Proofs.LaysC.n245 Tryz.prog Tryz.lay245_ren := {
 mixed:=by kernel_rfl
 f129:=Tryz.func161.trans (congrArg some (by kernel_rfl))
 f171:=Tryz.func66.trans (congrArg some (by kernel_rfl))
 f205:=Tryz.func171.trans (congrArg some (by kernel_rfl))
 f243:=Tryz.func92.trans (congrArg some (by kernel_rfl))
 f245:=Tryz.func136.trans (congrArg some (by kernel_rfl))
 f246:=Tryz.func124.trans (congrArg some (by kernel_rfl))
 f279:=Tryz.func152.trans (congrArg some (by kernel_rfl))
 f280:=Tryz.func153.trans (congrArg some (by kernel_rfl))
 f281:=Tryz.func154.trans (congrArg some (by kernel_rfl))
 f282:=Tryz.func155.trans (congrArg some (by kernel_rfl))
 f283:=Tryz.func143.trans (congrArg some (by kernel_rfl))
 f284:=Tryz.func144.trans (congrArg some (by kernel_rfl))
 f285:=Tryz.func145.trans (congrArg some (by kernel_rfl))
 f286:=Tryz.func146.trans (congrArg some (by kernel_rfl))
 f316:=Tryz.func170.trans (congrArg some (by kernel_rfl))
 f317:=Tryz.func160.trans (congrArg some (by kernel_rfl))
 f318:=Tryz.func162.trans (congrArg some (by kernel_rfl))
 f319:=Tryz.func163.trans (congrArg some (by kernel_rfl))
 f320:=Tryz.func164.trans (congrArg some (by kernel_rfl))
 f337:=Tryz.func174.trans (congrArg some (by kernel_rfl))
 f338:=Tryz.func175.trans (congrArg some (by kernel_rfl))
 t0:=Tryz.underlying0
 a0:=Tryz.isAgg0
 z0:=Tryz.sizeOf0
 v0:=Tryz.zeroValue0
 t2:=Tryz.underlying2
 a2:=Tryz.isAgg2
 z2:=Tryz.sizeOf2
 v2:=Tryz.zeroValue2
 t3:=Tryz.underlying3
 a3:=Tryz.isAgg3
 z3:=Tryz.sizeOf3
 v3:=Tryz.zeroValue3
 t4:=Tryz.underlying4
 a4:=Tryz.isAgg4
 z4:=Tryz.sizeOf4
 v4:=Tryz.zeroValue4
 t5:=Tryz.underlying5
 a5:=Tryz.isAgg5
 z5:=Tryz.sizeOf5
 v5:=Tryz.zeroValue5
 t9:=Tryz.underlying9
 a9:=Tryz.isAgg9
 z9:=Tryz.sizeOf9
 v9:=Tryz.zeroValue9
 t20:=Tryz.underlying20
 a20:=Tryz.isAgg20
 z20:=Tryz.sizeOf20
 v20:=Tryz.zeroValue20
 t37:=Tryz.underlying41
 a37:=Tryz.isAgg41
 z37:=Tryz.sizeOf41
 v37:=Tryz.zeroValue41
 t46:=Tryz.underlying79
 a46:=Tryz.isAgg79
 z46:=Tryz.sizeOf79
 v46:=Tryz.zeroValue79
 t51:=Tryz.underlying76
 a51:=Tryz.isAgg76
 z51:=Tryz.sizeOf76
 v51:=Tryz.zeroValue76
 t53:=Tryz.underlying165
 a53:=Tryz.isAgg165
 z53:=Tryz.sizeOf165
 v53:=Tryz.zeroValue165
 t75:=Tryz.underlying94
 a75:=Tryz.isAgg94
 z75:=Tryz.sizeOf94
 v75:=Tryz.zeroValue94
 t127:=Tryz.underlying106
 a127:=Tryz.isAgg106
 z127:=Tryz.sizeOf106
 v127:=Tryz.zeroValue106
 t143:=Tryz.underlying204
 a143:=Tryz.isAgg204
 z143:=Tryz.sizeOf204
 v143:=Tryz.zeroValue204
 t145:=Tryz.underlying206
 a145:=Tryz.isAgg206
 z145:=Tryz.sizeOf206
 v145:=Tryz.zeroValue206
 t167:=Tryz.underlying184
 a167:=Tryz.isAgg184
 z167:=Tryz.sizeOf184
 v167:=Tryz.zeroValue184
 t168:=Tryz.underlying187
 a168:=Tryz.isAgg187
 z168:=Tryz.sizeOf187
 v168:=Tryz.zeroValue187
 t171:=Tryz.underlying177
 a171:=Tryz.isAgg177
 z171:=Tryz.sizeOf177
 v171:=Tryz.zeroValue177
 t173:=Tryz.underlying180
 a173:=Tryz.isAgg180
 z173:=Tryz.sizeOf180
 v173:=Tryz.zeroValue180
 t210:=Tryz.underlying200
 a210:=Tryz.isAgg200
 z210:=Tryz.sizeOf200
 v210:=Tryz.zeroValue200
 t212:=Tryz.underlying192
 a212:=Tryz.isAgg192
 z212:=Tryz.sizeOf192
 v212:=Tryz.zeroValue192
 t213:=Tryz.underlying193
 a213:=Tryz.isAgg193
 z213:=Tryz.sizeOf193
 t232:=Tryz.underlying207
 a232:=Tryz.isAgg207
 z232:=Tryz.sizeOf207
 v232:=Tryz.zeroValue207
 t233:=Tryz.underlying208
 a233:=Tryz.isAgg208
 z233:=Tryz.sizeOf208
 v233:=Tryz.zeroValue208
 g15:=by kernel_rfl
 g16:=by kernel_rfl
 g17:=by kernel_rfl
 g18:=by kernel_rfl
 g19:=by kernel_rfl
 t80:=Tryz.underlying75
 a80:=Tryz.isAgg75
 z80:=Tryz.sizeOf75
 v80:=Tryz.zeroValue75
 i0:=by kernel_rfl
 i2:=by kernel_rfl
 i3:=by kernel_rfl
 i4:=by kernel_rfl
 i5:=by kernel_rfl
 i9:=by kernel_rfl
 i20:=by kernel_rfl
 i37:=by kernel_rfl
 i46:=by kernel_rfl
 i51:=by kernel_rfl
 i53:=by kernel_rfl
 i75:=by kernel_rfl
 i80:=by kernel_rfl
 i127:=by kernel_rfl
 i143:=by kernel_rfl
 i145:=by kernel_rfl
 i167:=by kernel_rfl
 i168:=by kernel_rfl
 i171:=by kernel_rfl
 i173:=by kernel_rfl
 i210:=by kernel_rfl
 i212:=by kernel_rfl
 i232:=by kernel_rfl
 i233:=by kernel_rfl
 m15:=by kernel_rfl
 m16:=by kernel_rfl
 m17:=by kernel_rfl
 m18:=by kernel_rfl
 m19:=by kernel_rfl
 c0:=by kernel_rfl
 c2:=by kernel_rfl
 c3:=by kernel_rfl
 c4:=by kernel_rfl
 c5:=by kernel_rfl
 c9:=by kernel_rfl
 c20:=by kernel_rfl
 c37:=by kernel_rfl
 c46:=by kernel_rfl
 c51:=by kernel_rfl
 c53:=by kernel_rfl
 c75:=by kernel_rfl
 c80:=by kernel_rfl
 c127:=by kernel_rfl
 c143:=by kernel_rfl
 c145:=by kernel_rfl
 c167:=by kernel_rfl
 c168:=by kernel_rfl
 c171:=by kernel_rfl
 c173:=by kernel_rfl
 c210:=by kernel_rfl
 c212:=by kernel_rfl
 c213:=by kernel_rfl
 c232:=by kernel_rfl
 c233:=by kernel_rfl }
def Tryz.lay150_ren:Go.Shelf.Ren:=⟨fun|150=>173|153=>178|152=>149|226=>179|227=>98|228=>129|137=>71|119=>165|224=>166|225=>167|217=>110|266=>139|n=>n,fun|9=>9|4=>4|3=>3|5=>5|21=>21|117=>136|116=>135|0=>0|46=>79|124=>139|n=>n,fun|n=>n⟩
theorem Tryz.lay150:Go.Proofs.Lays.n150 Tryz.prog Tryz.lay150_ren := {
 mixed:=by kernel_rfl
 f119:=Tryz.func165.trans (congrArg some (by kernel_rfl))
 f137:=Tryz.func71.trans (congrArg some (by kernel_rfl))
 f150:=Tryz.func173.trans (congrArg some (by kernel_rfl))
 f152:=Tryz.func149.trans (congrArg some (by kernel_rfl))
 f153:=Tryz.func178.trans (congrArg some (by kernel_rfl))
 f217:=Tryz.func110.trans (congrArg some (by kernel_rfl))
 f224:=Tryz.func166.trans (congrArg some (by kernel_rfl))
 f225:=Tryz.func167.trans (congrArg some (by kernel_rfl))
 f226:=Tryz.func179.trans (congrArg some (by kernel_rfl))
 f227:=Tryz.func98.trans (congrArg some (by kernel_rfl))
 f228:=Tryz.func129.trans (congrArg some (by kernel_rfl))
 f266:=Tryz.func139.trans (congrArg some (by kernel_rfl))
 t0:=Tryz.underlying0
 a0:=Tryz.isAgg0
 z0:=Tryz.sizeOf0
 v0:=Tryz.zeroValue0
 t3:=Tryz.underlying3
 a3:=Tryz.isAgg3
 z3:=Tryz.sizeOf3
 v3:=Tryz.zeroValue3
 t4:=Tryz.underlying4
 a4:=Tryz.isAgg4
 z4:=Tryz.sizeOf4
 v4:=Tryz.zeroValue4
 t5:=Tryz.underlying5
 a5:=Tryz.isAgg5
 z5:=Tryz.sizeOf5
 v5:=Tryz.zeroValue5
 t9:=Tryz.underlying9
 a9:=Tryz.isAgg9
 z9:=Tryz.sizeOf9
 v9:=Tryz.zeroValue9
 t21:=Tryz.underlying21
 a21:=Tryz.isAgg21
 z21:=Tryz.sizeOf21
 v21:=Tryz.zeroValue21
 t46:=Tryz.underlying79
 a46:=Tryz.isAgg79
 z46:=Tryz.sizeOf79
 v46:=Tryz.zeroValue79
 t116:=Tryz.underlying135
 a116:=Tryz.isAgg135
 z116:=Tryz.sizeOf135
 t117:=Tryz.underlying136
 a117:=Tryz.isAgg136
 z117:=Tryz.sizeOf136
 v117:=Tryz.zeroValue136
 t124:=Tryz.underlying139
 a124:=Tryz.isAgg139
 z124:=Tryz.sizeOf139
 v124:=Tryz.zeroValue139 }
def Tryz.lay137_ren:Go.Shelf.Ren:=⟨fun|137=>71|217=>110|266=>139|n=>n,fun|9=>9|5=>5|3=>3|n=>n,fun|n=>n⟩
theorem Tryz.lay137:Go.Proofs.Lays.n137 Tryz.prog Tryz.lay137_ren := {
 mixed:=by kernel_rfl
 f137:=Tryz.func71.trans (congrArg some (by kernel_rfl))
 f217:=Tryz.func110.trans (congrArg some (by kernel_rfl))
 f266:=Tryz.func139.trans (congrArg some (by kernel_rfl))
 t3:=Tryz.underlying3
 a3:=Tryz.isAgg3
 z3:=Tryz.sizeOf3
 v3:=Tryz.zeroValue3
 t5:=Tryz.underlying5
 a5:=Tryz.isAgg5
 z5:=Tryz.sizeOf5
 v5:=Tryz.zeroValue5
 t9:=Tryz.underlying9
 a9:=Tryz.isAgg9
 z9:=Tryz.sizeOf9
 v9:=Tryz.zeroValue9 }
def Tryz.Rm:Go.Shelf.Ren:=⟨fun|169=>39|n=>n,fun|70=>71|9=>9|0=>0|72=>73|37=>41|127=>106|3=>3|5=>5|n=>n,fun|n=>n⟩
theorem Tryz.lay169:Go.Proofs.Lays.n169 Tryz.prog Tryz.Rm := {
 mixed:=by kernel_rfl
 f169:=Tryz.func39.trans (congrArg some (by kernel_rfl))
 t0:=Tryz.underlying0
 a0:=Tryz.isAgg0
 z0:=Tryz.sizeOf0
 v0:=Tryz.zeroValue0
 t3:=Tryz.underlying3
 a3:=Tryz.isAgg3
 z3:=Tryz.sizeOf3
 v3:=Tryz.zeroValue3
 t9:=Tryz.underlying9
 a9:=Tryz.isAgg9
 z9:=Tryz.sizeOf9
 v9:=Tryz.zeroValue9
 t37:=Tryz.underlying41
 a37:=Tryz.isAgg41
 z37:=Tryz.sizeOf41
 v37:=Tryz.zeroValue41
 t70:=Tryz.underlying71
 a70:=Tryz.isAgg71
 z70:=Tryz.sizeOf71
 v70:=Tryz.zeroValue71
 t72:=Tryz.underlying73
 a72:=Tryz.isAgg73
 z72:=Tryz.sizeOf73
 v72:=Tryz.zeroValue73
 t127:=Tryz.underlying106
 a127:=Tryz.isAgg106
 z127:=Tryz.sizeOf106
 v127:=Tryz.zeroValue106 }
end Go.Proofs
end
