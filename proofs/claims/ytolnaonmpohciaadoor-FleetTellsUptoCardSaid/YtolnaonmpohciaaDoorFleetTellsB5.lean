/-
  FleetTells: for every input whose bulk is at most 1048576 the law returns true, and each argument reads behind the call as it read before; part 5 of 9 of the proof: an interpreter of the model's code over typed data, proved sound; the functions that the law reaches, printed as Lean functions and tied; the plain law. Own texts laid one behind the other.
-/
import Derived.OpenShut
import Derived.JoinedCond
import Derived.Test.YtolnaonmpohciaaDoorProg
import Derived.Shelf.Strings.Search1
import Derived.Shelf.Strings.SlTrimAscii
import Derived.Shelf.Unicode.DecodeAny
import Derived.Test.YtolnaonmpohciaaDoorFleetTellsB4
set_option linter.unusedSimpArgs false
set_option linter.unnecessarySimpa false
set_option linter.unusedVariables false
set_option linter.unusedSectionVars false
noncomputable section
namespace Go.ad
open Go.RowKit Go.ChangeShapes Go.WideShapes Go.Proofs.YtolnaonmpohciaaDoor

def kOk:V→ai→Option Unit:=fun v _=>match v with | .bool true=>some ()|_=>none

def Uf (w w':World):Prop:=w'.os=w.os∧w'.output=w.output∧w.heap.size≤w'.heap.size∧∀b,b<w.heap.size→w'.heap[b]? = w.heap[b]?

section
variable {H:Type} {enc:TypeId×Value→H} {P:Program} {tt:ca} {w:World} {spare:Nat→Bool} {held:Bool}

theorem S6 (c:eT) (b y:Nat):¬oF ([]:ai) c b y:=fun ho=>by
 obtain ⟨i,f,_,g2,_⟩:=ho
 simp[ai.at,aP.from_]at g2

theorem S7 {g:Nat} {fn:Func} (hf:P.funcs[g]? = some fn) (hn:(fn.name == "runtime.NumGoroutine")=false) (hb:fn.body.isNone=false) {sp:Spec Unit} (PE:Spec.Ok P g sp) {vs:List V} {args:Array Value}
  (hs:mZ.UB w) (hb0:∀b,mZ.blocks b→b<w.heap.size) (ra:bl w [] Mr vs args.toList) (hk:sp vs [] kOk=some ()):Calls P g args w fun e w'=>e = .returned (.bool true)∧Uf w w':=by
 obtain ⟨nx,w1,h1,h2⟩:=PE vs [] kOk () hk w Mr args (wf0 w hs hb0) ra
 have Wg:fn.name ≠ "runtime.NumGoroutine" :=by simpa using hn
 have k9:fn.body≠none:=fun e=>by rw[e]at hb; cases hb
 have h0:(callFunc g args).run P w = .ok (.enter g args) w:=by simp[callFunc,hf,Wg,k9]
 rw[h0]at h1
 cases h1
 refine Calls.mono h2 fun e w' ⟨d,he,v,h',c',_,x,rv,hv⟩ => ?_
 subst he
 have hv':v = .bool true:=by
  unfold kOk at hv
  split at hv
  ·rfl
  ·cases hv
 subst hv'
 cases rv
 exact ⟨rfl,x.os,x.output,x.size,fun b hb=>x.block b hb (S6 _ b)⟩

def Ug (P:Program) (t:TypeId):Bool :=
 match P.underlying t with
 | some .bool|some (.int _)|some .string|some (.slice _)=>true
 | _=>false

theorem Lk {N:Nat} (vM:D0 P tt) {t:TypeId} {v:Value} {d:DataW H} {ps:List MemPlace} {p:cV} {base:Nat} (ho:Ug P t=true) (hl:gU P tt 8 t=some [p]) (Ag:Value.okWide P w .any base t v)
  (h:DataW.Trod enc P w 0 spare held t v d ps) (hb:Rows.uptoBulk d≤N) (hN:N≤mx):∃x:p.den,cd w [] Mr (p.enc x) v∧Small N (p.enc x):=by
 obtain ⟨n,h⟩:=h
 obtain ⟨vs,⟨x,rfl⟩,h2,h3⟩:=Fe vM n t _ _ 8 _ h hl hb hN
 have hc:v.cells.toList = [v]:=by
  unfold Ug at ho
  unfold Value.okWide at Ag
  cases hu:P.underlying t with
  | none=>rw[hu]at ho; cases ho
  | some u =>
   rw[hu]at ho Ag
   cases u <;> simp only at ho <;> try (first|cases ho) <;> (cases v <;> simp[Cell.okWide,Cell.ok,hu]at Ag <;> rfl)
 rw[hc]at h2
 exact ⟨x.1,h2.head,h3 _ (by show p.enc x.1 ∈ [p.enc x.1]; simp)⟩

theorem VF {ts:List TypeId} (h:ts.all (fun t=>P.readableRec t&&decide (t<P.types.size))=true):∀t∈ts,P.readableRec t=true∧t<P.types.size:=by
 intro t ht
 have:=List.all_eq_true.1 h t ht
 simpa using this

def Uh (P:Program) (t:TypeId):Bool :=
 match P.underlying t with
 | some (.struct _)|some (.array _ _)=>true
 | _=>false

theorem Ll {N:Nat} (vM:D0 P tt) {t:TypeId} {v:Value} {d:DataW H} {ps:List MemPlace} {T:Ty} {base:Nat} (ho:Uh P t=true) (hl:gU P tt 8 t=some T.leaves) (Ag:Value.okWide P w .any base t v)
  (h:DataW.Trod enc P w 0 spare held t v d ps) (hb:Rows.uptoBulk d≤N) (hN:N≤mx):∃x:T.den,cd w [] Mr (.agg (T.cells x)) v∧∀c∈T.cells x,Small N c:=by
 obtain ⟨n,h⟩:=h
 obtain ⟨vs,⟨x,rfl⟩,h2,h3⟩:=Fe vM n t _ _ 8 _ h hl hb hN
 obtain ⟨y,hy⟩:=HA T x
 rw[←hy]at h2 h3
 have hc:∃cs,v = .agg cs:=by
  unfold Uh at ho
  unfold Value.okWide at Ag
  cases hu:P.underlying t with
  | none=>rw[hu]at ho; cases ho
  | some u =>
   rw[hu]at ho Ag
   cases u <;> simp only at ho <;> try (first|cases ho) <;> (obtain ⟨cs,hc,_⟩:=Ag; exact ⟨cs,hc⟩)
 obtain ⟨cs,rfl⟩:=hc
 exact ⟨y, .agg (by have:=h2.1; simpa [Value.cells]using this) fun j v d hv hd=>h2.2 j v d hv (by simpa [Value.cells]using hd),h3⟩

theorem Ms (hl:laidOutB P=true) {w':World} (L:Uf w w'):∀ {ts:List TypeId} {vs:List Value} {ds:List (DataW H)} {ps:List MemPlace},(∀t∈ts,P.readableRec t=true∧t<P.types.size) →
  DataW.TrodAll enc P w 0 (fun _=>true) true ts vs ds ps→DataW.TrodAll enc P w' 0 (fun b=>decide (b<w.heap.size)) true ts vs ds ps
 | [],vs,ds,ps,_,h=>by obtain ⟨rfl,rfl,rfl⟩:=trodAll_nil h; exact h
 | t::ts,vs,ds,ps,hp,h=>by
  have dH:=h.lt
  obtain ⟨v,vs1,d,ds1,p,q,rfl,rfl,rfl,h1,h2⟩:=trodAll_cons h
  obtain ⟨hr,uV⟩:=hp t (by simp)
  have hb:∀x∈p,x.block<w.heap.size:=fun x hx=>dH x (by simp[hx])
  refine trodAll_cons_mk (WideElems.Trod_stays hl hr uV h1 (fun x hx => ?_) fun x hx=>by simpa using hb x hx) (Ms hl L (fun t ht=>hp t (by simp[ht])) h2)
  have:=L.2.2.2 _ (hb x hx)
  cases x with
  | cell b o=>simp only[World.sameAt,World.cell?]; simp only[MemPlace.block]at this; rw[this]
  | map b=>exact this

theorem S8 {w':World} (L:Uf w w') (may:MemPlace→Prop):w.keptBut w' may:=by
 refine ⟨L.1,L.2.1,fun i hi => ?_⟩
 rw[L.2.2.2 i hi]
 cases w.heap[i]? with
 | none=>rfl
 | some o=>cases o <;> simp

theorem VG (hl:laidOutB P=true) {f:Func} {s:ChangeSpec} {w':World} {args:Array Value} {ds gs:List (DataW H)} {before:List MemPlace} {tb:TypeId} (hp:∀t∈f.params.toList,P.readableRec t=true∧t<P.types.size)
  (hv:s.vars = []) (hs:s.fn H (ds++gs) = { results := [.lit (.bool true)],args:=ds }) (hres:f.resultTypes = #[tb]) (hb:P.underlying tb=some .bool)
  (hW:DataW.Whole enc P f.params.toList s.vars false w args.toList ds gs before) (L:Uf w w'):s.post enc P f false true false false w args (.bool true) w':=by
 have hW':=hW
 obtain ⟨p,q,hA,hV,hpq,hz,hn⟩:=hW'
 rw[hv]at hV
 obtain ⟨hg,hq⟩:=trodVars_none hV
 subst hg; subst hq
 refine ⟨ds, [],before, [],p, [],hW,?_,?_,?_,S8 L _,fun h=>by cases h⟩
 ·rw[hs,hres]
  exact trodAll_cons_mk (shut_bool hb _) trodAll_mk0
 ·rw[hs]
  exact Ms hl L hp hA
 ·rw[hs,hv]
  rfl
end
end Go.ad

namespace Go.Proofs.YtolnaonmpohciaaDoor
open Go.ad

def tt:ca := [
 ⟨.other,1,0, [.undef],none,false,false,false⟩,
 TI.none,
 TI.none,
 ⟨.int .i64,1,8, [.int .i64 0],some (.int .i64),false,false,false⟩,
 ⟨.bool,1,1, [.bool false],some .bool,false,false,false⟩,
 ⟨.int .u8,1,1, [.int .u8 0],some (.int .u8),false,false,false⟩,
 TI.none,
 TI.none,
 TI.none,
 ⟨.string,1,16, [.str []],some .str,false,false,false⟩,
 TI.none,
 TI.none,
 TI.none,
 TI.none,
 TI.none,
 TI.none,
 TI.none,
 TI.none,
 TI.none,
 TI.none,
 ⟨.iface,1,16, [.dd],none,false,false,false⟩,
 TI.none,
 ⟨.slice 3,1,24, [.aI],none,false,false,false⟩,
 ⟨.slice 57,1,24, [.aI],none,false,false,false⟩,
 ⟨.slice 59,1,24, [.aI],none,false,false,false⟩,
 TI.none,
 ⟨.struct [(0,3),(1,9),(2,3),(3,3),(4,23),(5,24)],6,88, [.int .i64 0, .str [], .int .i64 0, .int .i64 0, .aI, .aI],some .order,false,false,false⟩,
 TI.none,
 ⟨.struct [(0,9),(1,3),(2,3),(3,3),(4,3),(5,3),(6,22),(7,3),(8,4),(9,3),(10,4),(11,26)],17,200, [.str [], .int .i64 0, .int .i64 0, .int .i64 0, .int .i64 0, .int .i64 0, .aI, .int .i64 0, .bool false, .int .i64 0, .bool false, .int .i64 0, .str [], .int .i64 0, .int .i64 0, .aI, .aI],some .C8,false,false,false⟩,
 TI.none,
 ⟨.struct [(0,3),(1,3),(2,9),(3,3),(4,3),(5,4),(6,3),(7,3),(8,4),(9,3)],10,88, [.int .i64 0, .int .i64 0, .str [], .int .i64 0, .int .i64 0, .bool false, .int .i64 0, .int .i64 0, .bool false, .int .i64 0],some .state,true,false,false⟩,
 ⟨.slice 60,1,24, [.aI],none,false,false,false⟩,
 TI.none,
 ⟨.struct [(0,3),(1,3),(2,3),(3,3),(4,3),(5,3),(6,22)],7,72, [.int .i64 0, .int .i64 0, .int .i64 0, .int .i64 0, .int .i64 0, .int .i64 0, .aI],some .C9,false,false,false⟩,
 TI.none,
 ⟨.slice 62,1,24, [.aI],none,false,false,false⟩,
 TI.none,
 ⟨.struct [(0,3),(1,35)],2,32, [.int .i64 0, .aI],some .layout,false,false,false⟩,
 TI.none,
 TI.none,
 TI.none,
 ⟨.slice 28,1,24, [.aI],none,false,false,false⟩,
 ⟨.other,1,0, [.undef],none,false,false,false⟩,
 TI.none,
 TI.none,
 TI.none,
 ⟨.other,1,0, [.undef],none,false,false,false⟩,
 TI.none,
 TI.none,
 ⟨.slice 30,1,24, [.aI],none,false,false,false⟩,
 ⟨.other,1,0, [.undef],none,false,false,false⟩,
 TI.none,
 TI.none,
 TI.none,
 TI.none,
 TI.none,
 TI.none,
 ⟨.struct [(0,3),(1,3),(2,4)],3,24, [.int .i64 0, .int .i64 0, .bool false],some .stop,true,false,false⟩,
 TI.none,
 ⟨.struct [(0,3),(1,3),(2,4)],3,24, [.int .i64 0, .int .i64 0, .bool false],some .dt,true,false,false⟩,
 ⟨.arr 3 3,3,24, [.int .i64 0, .int .i64 0, .int .i64 0],some .u7,true,false,false⟩,
 TI.none,
 ⟨.struct [(0,3),(1,3),(2,3)],3,24, [.int .i64 0, .int .i64 0, .int .i64 0],some .fk,true,false,false⟩,
 ⟨.other,1,0, [.undef],none,false,false,false⟩,
 TI.none,
 ⟨.ptr 69,1,8, [.gk],none,false,false,false⟩,
 TI.none,
 TI.none,
 TI.none,
 ⟨.struct [(0,28)],17,200, [.str [], .int .i64 0, .int .i64 0, .int .i64 0, .int .i64 0, .int .i64 0, .aI, .int .i64 0, .bool false, .int .i64 0, .bool false, .int .i64 0, .str [], .int .i64 0, .int .i64 0, .aI, .aI],some .C8,false,false,false⟩,
 TI.none,
 TI.none,
 ⟨.arr 7 3,7,56, [.int .i64 0, .int .i64 0, .int .i64 0, .int .i64 0, .int .i64 0, .int .i64 0, .int .i64 0],none,true,false,false⟩,
 ⟨.func,1,8, [.fB],none,false,false,false⟩,
 TI.none,
 ⟨.other,1,0, [.undef],none,false,false,false⟩,
 TI.none,
 TI.none,
 TI.none,
 TI.none,
 TI.none,
 TI.none,
 TI.none,
 TI.none,
 TI.none,
 TI.none,
 TI.none,
 TI.none,
 TI.none,
 TI.none,
 TI.none,
 TI.none,
 ⟨.func,1,8, [.fB],none,false,false,false⟩,
 TI.none,
 TI.none,
 TI.none,
 TI.none,
 TI.none,
 TI.none,
 TI.none,
 TI.none,
 TI.none,
 TI.none,
 TI.none,
 TI.none,
 TI.none,
 TI.none,
 TI.none,
 TI.none,
 TI.none,
 TI.none,
 TI.none,
 TI.none,
 TI.none,
 TI.none,
 TI.none,
 TI.none,
 TI.none,
 TI.none,
 TI.none,
 TI.none,
 TI.none,
 TI.none,
 TI.none,
 TI.none,
 TI.none,
 TI.none,
 TI.none,
 TI.none,
 TI.none,
 TI.none,
 TI.none,
 TI.none,
 TI.none,
 TI.none,
 TI.none]

end Go.Proofs.YtolnaonmpohciaaDoor

namespace Go.ad
open Go.RowKit

def U:Nat→List V→List V
 | 0,l=>l
 | n+1,l => .undef::U n l
def PU:Nat→List cu→List cu
 | 0,l=>l
 | n+1,l => .leaf .undef::PU n l

section
variable {R:Type} {P:Program} {tt:ca}

abbrev mY (R:Type) (ps:List cu) (hs:List aw):Type:=cu.aQ ps→aw.aQ hs→(V→ai→Option R)→Option R
abbrev nD (R:Type) (ps:List cu) (hs:List aw):Type:=cu.aQ ps→aw.aQ hs→(Ex→St→Option R)→Option R
abbrev t8 {a b c d e f g h i:Type} (x:a×b×c×d×e×f×g×h×i):i:=x.2.2.2.2.2.2.2.2
def mW (P:Program) (g:Nat) (s:Spec R→Spec R):Prop:=∀o,Spec.Ok P g o→Spec.Ok P g (s o)
abbrev xm (R:Type):=Nat×Bool×Spec R
def bQ:List (xm R)→Env R
 | [],_=>none
 | e::l,i=>bif Nat.beq i e.1 then some e.2 else bQ l i
inductive dG (P:Program):List (xm R)→Prop
 | n:dG P []
 | p {g:Nat} {sp:Spec R} {l:List (xm R)} (h:Spec.Ok P g sp) (t:dG P l):dG P ((g,true,sp)::l)
 | f {g:Nat} {sp:Spec R} {l:List (xm R)} (h:Spec.Ok P g sp) (hs:mZ.soft g=false) (t:dG P l):dG P ((g,false,sp)::l)
 | s {g:Nat} {sp:Spec R} {l:List (xm R)} (h:Spec.Ok P g sp) (hs:Hx sp) (t:dG P l):dG P ((g,false,sp)::l)
theorem dG.c {g:Nat} {s:Spec R→Spec R} {l:List (xm R)} (h:mW P g s) (t:dG P l):dG P ((g,true,s aL)::l) := .p (h _ (Af _)) t
theorem dG.d {g:Nat} {s:Spec R→Spec R} {l:List (xm R)} (h:mW P g s) (hs:mZ.soft g=false) (t:dG P l):dG P ((g,false,s aL)::l) := .f (h _ (Af _)) hs t
theorem Z7 {l:List (xm R)} (h:dG P l):R3 P (bQ l):=by
 induction h with
 | n=>intro i b sp h; cases h
 | p h0 t ih =>
  intro i b sp h
  simp only[bQ]at h
  cases hb:Nat.beq i _ with
  | true =>
   rw[hb,cond_true]at h
   cases h
   have:=Nat.eq_of_beq_eq_true hb
   subst this
   exact ⟨h0,fun h=>by cases h⟩
  | false =>
   rw[hb,cond_false]at h
   exact ih i b sp h
 | f h0 hs t ih =>
  intro i b sp h
  simp only[bQ]at h
  cases hb:Nat.beq i _ with
  | true =>
   rw[hb,cond_true]at h
   cases h
   have:=Nat.eq_of_beq_eq_true hb
   subst this
   exact ⟨h0,fun _ h=>by rw[hs]at h; cases h⟩
  | false =>
   rw[hb,cond_false]at h
   exact ih i b sp h
 | s h0 hs t ih =>
  intro i b sp h
  simp only[bQ]at h
  cases hb:Nat.beq i _ with
  | true =>
   rw[hb,cond_true]at h
   cases h
   have:=Nat.eq_of_beq_eq_true hb
   subst this
   exact ⟨h0,fun _ _=>hs⟩
  | false =>
   rw[hb,cond_false]at h
   exact ih i b sp h

def dT (tt:ca) (l:List (xm R)) (L:Nat→Option (Hint×bO R)) (pP:Bool) (fn:Func) (ps:List cu) (hs:List aw) (run:mY R ps hs):Prop :=
 ∀x y k,funK tt (bQ l) L pP fn (ar fn) (cu.nB ps x) (aw.nB hs y) k=run x y k
theorem bL (T:tq P tt) (hm:P.follows .mixedOrders=true) {l:List (xm R)} (hE:dG P l) {L:Nat→Option (Hint×bO R)} {g:Nat} {fn:Func} {pP:Bool} {ps:List cu} {hs:List aw}
  {run:mY R ps hs} (hf:P.funcs[g]? = some fn) (hb:fn.body=some (ar fn)) (hn:(fn.name == "runtime.NumGoroutine")=false) (hr:fn.results.size=fn.resultTypes.size)
  (hl:∀a∈ah (ar fn),dY tt (bQ l) L hs.length a) (h:dT tt l L pP fn ps hs run):mW P g (bx ps hs run) :=
 fun _ ho=>VA ho (S3 T hm (Z7 hE) hf hb hn hr hs.length hl) h

def xo:Nat→Option (Hint×bO R):=fun _=>none
theorem de {E:Env R} {l:List Code} {m:Nat}:∀a∈l,dY tt E xo m a:=fun _ _ _ _ h=>by cases h
def S9 (Q:Nat→Prop):List Nat→Prop
 | []=>True
 | t::l=>Q t∧S9 Q l
theorem S9.mem {Q:Nat→Prop}:∀ {l:List Nat} {t:Nat},S9 Q l→l.contains t=true→Q t
 | a::l,t,h,ht=>by
  rw[List.contains_cons,Bool.or_eq_true,beq_iff_eq]at ht
  rcases ht with rfl|ht
  ·exact h.1
  ·exact S9.mem h.2 ht
def TD.off:TD→Bool
 | .other=>true
 | _=>false
theorem offT {l:List Nat} (h:(List.range tt.length).all (fun t=>l.contains t||((tt.at t).d.off && !(tt.at t).eq))=true) {t:Nat} (ht:l.contains t=false):(tt.at t).d = .other∧(tt.at t).eq=false:=by
 by_cases hl:t<tt.length
 ·have:=List.all_eq_true.1 h t (by simpa using hl)
  rw[ht,Bool.false_or,Bool.and_eq_true]at this
  refine ⟨?_,by simpa using this.2⟩
  cases hd:(tt.at t).d <;> rw[hd]at this <;> first|rfl|cases this.1
 ·have:tt.at t=TI.none:=by unfold ca.at; simp[List.getD,List.getElem?_eq_none (Nat.le_of_not_lt hl)]
  rw[this]
  exact ⟨rfl,rfl⟩
theorem undT {l:List Nat} (h:(List.range tt.length).all (fun t=>l.contains t||((tt.at t).d.off && !(tt.at t).eq))=true) (ha:S9 (fun t=>(tt.at t).d.Is P t) l) (t:Nat):(tt.at t).d.Is P t:=by
 cases ht:l.contains t with
 | true=>exact ha.mem ht
 | false =>
  rw[(offT h ht).1]
  trivial
theorem infT {l:List Nat} (h:(List.range tt.length).all (fun t=>l.contains t||((tt.at t).d.off && !(tt.at t).eq))=true) (ha:S9 (fun t=>BG P tt t) l) (t:Nat) (ok:tt.ok t=true):BG P tt t:=by
 cases ht:l.contains t with
 | true=>exact ha.mem ht
 | false =>
  unfold ca.ok at ok
  rw[(offT h ht).1]at ok
  cases ok
theorem eqT {l:List Nat} (h:(List.range tt.length).all (fun t=>l.contains t||((tt.at t).d.off && !(tt.at t).eq))=true) (ha:S9 (fun t=>(tt.at t).eq=true→DY P tt t) l) (t:Nat) (hq:(tt.at t).eq=true):DY P tt t:=by
 cases ht:l.contains t with
 | true=>exact ha.mem ht hq
 | false =>
  rw[(offT h ht).2]at hq
  cases hq
theorem BG.at {t:Nat} (i:TypeInfo) (h:(P.info? t,i.size,i.bytes,zeroOf i)=(some i,(tt.at t).size,(tt.at t).bytes,some ((tt.at t).size,(tt.at t).zero, !tt.isAgg t))):BG P tt t:=by
 simp only[Prod.mk.injEq]at h
 exact ⟨i,h.1,h.2.1,h.2.2.1,h.2.2.2⟩
end
end Go.ad

set_option maxRecDepth 100000
namespace Go.Proofs.YtolnaonmpohciaaDoor
open Go Go.ad

def liveT:List Nat := [3,4,5,9,20,22,23,24,26,28,30,31,33,35,37,41,49,57,59,60,62,65,69,72,73,92]
theorem Ta:(List.range tt.length).all (fun t=>liveT.contains t||((tt.at t).d.off && !(tt.at t).eq))=true:=by kernel_rfl
theorem TTund:∀t,(tt.at t).d.Is Tryd.prog t:=undT Ta ⟨(by kernel_rfl:Tryd.prog.underlying 3=some (.int .i64)),(by kernel_rfl:Tryd.prog.underlying 4=some .bool),(by kernel_rfl:Tryd.prog.underlying 5=some (.int .u8)),(by kernel_rfl:Tryd.prog.underlying 9=some .string),⟨_,rfl⟩,(by kernel_rfl:Tryd.prog.underlying 22=some (.slice 3)),(by kernel_rfl:Tryd.prog.underlying 23=some (.slice 57)),(by kernel_rfl:Tryd.prog.underlying 24=some (.slice 59)),⟨Tryd.prog.fieldsOf 26,by kernel_rfl,by kernel_rfl⟩,⟨Tryd.prog.fieldsOf 28,by kernel_rfl,by kernel_rfl⟩,⟨Tryd.prog.fieldsOf 30,by kernel_rfl,by kernel_rfl⟩,(by kernel_rfl:Tryd.prog.underlying 31=some (.slice 60)),⟨Tryd.prog.fieldsOf 33,by kernel_rfl,by kernel_rfl⟩,(by kernel_rfl:Tryd.prog.underlying 35=some (.slice 62)),⟨Tryd.prog.fieldsOf 37,by kernel_rfl,by kernel_rfl⟩,(by kernel_rfl:Tryd.prog.underlying 41=some (.slice 28)),(by kernel_rfl:Tryd.prog.underlying 49=some (.slice 30)),⟨Tryd.prog.fieldsOf 57,by kernel_rfl,by kernel_rfl⟩,⟨Tryd.prog.fieldsOf 59,by kernel_rfl,by kernel_rfl⟩,(by kernel_rfl:Tryd.prog.underlying 60=some (.array 3 3)),⟨Tryd.prog.fieldsOf 62,by kernel_rfl,by kernel_rfl⟩,(by kernel_rfl:Tryd.prog.underlying 65=some (.pointer 69)),⟨Tryd.prog.fieldsOf 69,by kernel_rfl,by kernel_rfl⟩,(by kernel_rfl:Tryd.prog.underlying 72=some (.array 7 3)),⟨_,_,_,rfl⟩,⟨_,_,_,rfl⟩,trivial⟩
theorem TTinf:∀t,tt.ok t=true→BG Tryd.prog tt t:=infT Ta ⟨.at Tryd.t3 (by kernel_rfl), .at Tryd.t4 (by kernel_rfl), .at Tryd.t5 (by kernel_rfl), .at Tryd.t9 (by kernel_rfl), .at Tryd.t20 (by kernel_rfl), .at Tryd.t22 (by kernel_rfl), .at Tryd.t23 (by kernel_rfl), .at Tryd.t24 (by kernel_rfl), .at Tryd.t26 (by kernel_rfl), .at Tryd.t28 (by kernel_rfl), .at Tryd.t30 (by kernel_rfl), .at Tryd.t31 (by kernel_rfl), .at Tryd.t33 (by kernel_rfl), .at Tryd.t35 (by kernel_rfl), .at Tryd.t37 (by kernel_rfl), .at Tryd.t41 (by kernel_rfl), .at Tryd.t49 (by kernel_rfl), .at Tryd.t57 (by kernel_rfl), .at Tryd.t59 (by kernel_rfl), .at Tryd.t60 (by kernel_rfl), .at Tryd.t62 (by kernel_rfl), .at Tryd.t65 (by kernel_rfl), .at Tryd.t69 (by kernel_rfl), .at Tryd.t72 (by kernel_rfl), .at Tryd.t73 (by kernel_rfl), .at Tryd.t92 (by kernel_rfl),trivial⟩
theorem TTeq:∀t,(tt.at t).eq=true→DY Tryd.prog tt t:=eqT Ta ⟨(nofun),(nofun),(nofun),(nofun),(nofun),(nofun),(nofun),(nofun),(nofun),(nofun),fun _ => .of (by kernel_rfl) (by kernel_rfl) (by kernel_rfl) (by kernel_rfl),(nofun),(nofun),(nofun),(nofun),(nofun),(nofun),fun _ => .of (by kernel_rfl) (by kernel_rfl) (by kernel_rfl) (by kernel_rfl),fun _ => .of (by kernel_rfl) (by kernel_rfl) (by kernel_rfl) (by kernel_rfl),fun _ => .ofArr (e:=3) (by kernel_rfl) (by kernel_rfl) (by kernel_rfl),fun _ => .of (by kernel_rfl) (by kernel_rfl) (by kernel_rfl) (by kernel_rfl),(nofun),(nofun),fun _ => .ofArr (e:=3) (by kernel_rfl) (by kernel_rfl) (by kernel_rfl),(nofun),(nofun),trivial⟩
theorem TTeqs:∀t,∀(w:World) (h:ai) (c:eT) (cs ds:List V) (xs ys:Array Value) (b:Bool),Pp (tt.at t) cs ds=true→bl w h c cs xs.toList→bl w h c ds ys.toList →
  fC cs ds=some b→Tryd.prog.eqGuardType Tryd.prog.depth t=false∧(Op.equalIn 10000 t (.agg xs) (.agg ys)).run Tryd.prog w = .ok b w :=
 fun t _ _ _ _ _ _ _ _ hk rx ry hb=>X6 (TTeq t (Z6 hk)) hk rx ry hb
theorem TT:tq Tryd.prog tt:=⟨TTund,fun t h=>(TTinf t h).spec,TTeqs,u8s_of (by kernel_rfl),Z5 (by kernel_rfl),fun t h=>(TTinf t h).one⟩
theorem mixed:Tryd.prog.follows .mixedOrders=true:=by kernel_rfl
end Go.Proofs.YtolnaonmpohciaaDoor

set_option maxRecDepth 100000
namespace Go.Proofs
open Go.Shelf
def Tryd.Mt:Go.Shelf.Ren:=⟨fun|197=>75|260=>79|n=>n,fun|9=>9|21=>21|3=>3|4=>4|5=>5|105=>104|119=>110|0=>0|46=>111|139=>114|138=>113|n=>n,fun|3=>0|4=>1|n=>n⟩
theorem Tryd.lay197:Go.Proofs.Lays.n197 Tryd.prog Tryd.Mt := {
 mixed:=by kernel_rfl
 f197:=Tryd.func75.trans (congrArg some (by kernel_rfl))
 f260:=Tryd.func79.trans (congrArg some (by kernel_rfl))
 t0:=Tryd.underlying0
 a0:=Tryd.isAgg0
 z0:=Tryd.sizeOf0
 v0:=Tryd.zeroValue0
 t3:=Tryd.underlying3
 a3:=Tryd.isAgg3
 z3:=Tryd.sizeOf3
 v3:=Tryd.zeroValue3
 t4:=Tryd.underlying4
 a4:=Tryd.isAgg4
 z4:=Tryd.sizeOf4
 v4:=Tryd.zeroValue4
 t5:=Tryd.underlying5
 a5:=Tryd.isAgg5
 z5:=Tryd.sizeOf5
 v5:=Tryd.zeroValue5
 t9:=Tryd.underlying9
 a9:=Tryd.isAgg9
 z9:=Tryd.sizeOf9
 v9:=Tryd.zeroValue9
 t21:=Tryd.underlying21
 a21:=Tryd.isAgg21
 z21:=Tryd.sizeOf21
 v21:=Tryd.zeroValue21
 t46:=Tryd.underlying111
 a46:=Tryd.isAgg111
 z46:=Tryd.sizeOf111
 v46:=Tryd.zeroValue111
 t105:=Tryd.underlying104
 a105:=Tryd.isAgg104
 z105:=Tryd.sizeOf104
 v105:=Tryd.zeroValue104
 t119:=Tryd.underlying110
 a119:=Tryd.isAgg110
 z119:=Tryd.sizeOf110
 t138:=Tryd.underlying113
 a138:=Tryd.isAgg113
 z138:=Tryd.sizeOf113
 v138:=Tryd.zeroValue113
 t139:=Tryd.underlying114
 a139:=Tryd.isAgg114
 z139:=Tryd.sizeOf114
 v139:=Tryd.zeroValue114
 g3:=by kernel_rfl
 g4:=by kernel_rfl }

def Tryd.Tb:Go.Shelf.Ren:=⟨fun|161=>64|231=>69|227=>70|233=>71|235=>72|228=>74|197=>75|151=>76|260=>79|152=>80|137=>82|119=>83|224=>84|225=>85|217=>86|266=>87|n=>n,fun|9=>9|4=>4|3=>3|5=>5|117=>98|116=>97|0=>0|124=>101|105=>104|21=>21|119=>110|46=>111|139=>114|138=>113|n=>n,fun|3=>0|4=>1|n=>n⟩
theorem Tryd.Tc:Go.Proofs.Lays.n161 Tryd.prog Tryd.Tb := {
 mixed:=by kernel_rfl
 f119:=Tryd.func83.trans (congrArg some (by kernel_rfl))
 f137:=Tryd.func82.trans (congrArg some (by kernel_rfl))
 f151:=Tryd.func76.trans (congrArg some (by kernel_rfl))
 f152:=Tryd.func80.trans (congrArg some (by kernel_rfl))
 f161:=Tryd.func64.trans (congrArg some (by kernel_rfl))
 f197:=Tryd.func75.trans (congrArg some (by kernel_rfl))
 f217:=Tryd.func86.trans (congrArg some (by kernel_rfl))
 f224:=Tryd.func84.trans (congrArg some (by kernel_rfl))
 f225:=Tryd.func85.trans (congrArg some (by kernel_rfl))
 f227:=Tryd.func70.trans (congrArg some (by kernel_rfl))
 f228:=Tryd.func74.trans (congrArg some (by kernel_rfl))
 f231:=Tryd.func69.trans (congrArg some (by kernel_rfl))
 f233:=Tryd.func71.trans (congrArg some (by kernel_rfl))
 f235:=Tryd.func72.trans (congrArg some (by kernel_rfl))
 f260:=Tryd.func79.trans (congrArg some (by kernel_rfl))
 f266:=Tryd.func87.trans (congrArg some (by kernel_rfl))
 t0:=Tryd.underlying0
 a0:=Tryd.isAgg0
 z0:=Tryd.sizeOf0
 v0:=Tryd.zeroValue0
 t3:=Tryd.underlying3
 a3:=Tryd.isAgg3
 z3:=Tryd.sizeOf3
 v3:=Tryd.zeroValue3
 t4:=Tryd.underlying4
 a4:=Tryd.isAgg4
 z4:=Tryd.sizeOf4
 v4:=Tryd.zeroValue4
 t5:=Tryd.underlying5
 a5:=Tryd.isAgg5
 z5:=Tryd.sizeOf5
 v5:=Tryd.zeroValue5
 t9:=Tryd.underlying9
 a9:=Tryd.isAgg9
 z9:=Tryd.sizeOf9
 v9:=Tryd.zeroValue9
 t21:=Tryd.underlying21
 a21:=Tryd.isAgg21
 z21:=Tryd.sizeOf21
 v21:=Tryd.zeroValue21
 t46:=Tryd.underlying111
 a46:=Tryd.isAgg111
 z46:=Tryd.sizeOf111
 v46:=Tryd.zeroValue111
 t105:=Tryd.underlying104
 a105:=Tryd.isAgg104
 z105:=Tryd.sizeOf104
 v105:=Tryd.zeroValue104
 t116:=Tryd.underlying97
 a116:=Tryd.isAgg97
 z116:=Tryd.sizeOf97
 t117:=Tryd.underlying98
 a117:=Tryd.isAgg98
 z117:=Tryd.sizeOf98
 v117:=Tryd.zeroValue98
 t119:=Tryd.underlying110
 a119:=Tryd.isAgg110
 z119:=Tryd.sizeOf110
 t124:=Tryd.underlying101
 a124:=Tryd.isAgg101
 z124:=Tryd.sizeOf101
 v124:=Tryd.zeroValue101
 t138:=Tryd.underlying113
 a138:=Tryd.isAgg113
 z138:=Tryd.sizeOf113
 v138:=Tryd.zeroValue113
 t139:=Tryd.underlying114
 a139:=Tryd.isAgg114
 z139:=Tryd.sizeOf114
 v139:=Tryd.zeroValue114
 g3:=by kernel_rfl
 g4:=by kernel_rfl }

end Go.Proofs
end
