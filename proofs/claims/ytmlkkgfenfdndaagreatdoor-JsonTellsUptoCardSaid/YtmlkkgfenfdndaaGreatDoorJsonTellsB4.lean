/-
  JsonTells, part 4 of 10.
-/
import Derived.Test.YtmlkkgfenfdndaaGreatDoorRows
import Derived.ChangeSlices
import Derived.WideKeyArgs
import Derived.JoinedCond
import Derived.Test.YtmlkkgfenfdndaaGreatDoorJsonTellsB3
set_option linter.unusedSimpArgs false
set_option linter.unnecessarySimpa false
set_option linter.unusedVariables false
set_option linter.unusedSectionVars false
noncomputable section
namespace Go.bb
open Go.RowKit Go.Proofs.YtmlkkgfenfdndaaGreatDoor
def Ty.leaves:Ty→List fv
 | .int k => [.int k] | .bool => [.bool] | .str => [.str]
 | .dcm => [.int .i64, .int .i64]
 | .json => [.int .i64, .int .i64, .int .i64, .str, .sl .str, .sl .json]
 | .raw => [.int .i64, .int .i64, .int .i64, .sl (.int .i64), .sl .raw]
 | .raw3 => [.int .i64, .int .i64, .int .i64, .sl (.int .i64)]
 | .fld => [.str, .int .i64, .int .i64, .int .i64, .bool]
 | .mail => [.str, .str, .bool]
 | .token => [.int .i64, .str, .int .i64, .int .i64, .int .i64]
 | .stop => [.int .i64, .int .i64, .bool]
 | .way => [.int .i64, .int .i64, .bool]
 | .order => [.int .i64, .str, .int .i64, .int .i64, .sl .stop, .sl .way]
 | .TX => [.int .i64, .int .i64, .int .i64]
 | .layout => [.int .i64, .sl .TX]
 | .topic => [.str, .str, .str]
 | .state => [.int .i64, .int .i64, .str, .int .i64, .int .i64, .bool, .int .i64, .int .i64, .bool, .int .i64]
 | .ctl => [.str, .int .i64, .int .i64, .int .i64, .int .i64, .int .i64, .sl (.int .i64), .int .i64, .bool, .int .i64, .bool, .int .i64, .str, .int .i64, .int .i64, .sl .stop, .sl .way]
 | .op17 => [.int .i64, .int .i64, .int .i64, .int .u8, .str]
 | .Vp => [.int .i64, .int .i64, .int .i64, .int .i64, .int .i64, .int .i64, .sl (.int .i64)]
 | .ev16 => [.int .i64, .int .i64, .int .i64, .int .i64, .int .i64, .int .i64, .int .i64, .sl (.int .i64), .str]
 | .ev18 => [.int .i64, .int .i64, .sl (.int .i64)]
 | .arr3 => [.int .i64, .int .i64, .int .i64]
 | .Z3 => [.int .i64, .int .i64]
 | .dec2 => [.int .i64, .int .i64, .int .i64, .int .i64]
 | .post => [.str, .int .i64]
 | .job => [.int .i64, .int .i64, .int .i64, .int .i64]
 | .record => [.int .i64, .sl (.int .i64), .str]
theorem Ss (T:Ty) (x:fv.bD T.leaves):∃y:T.den,T.cells y=fv.dV T.leaves x:=by
 cases T
 ·exact ⟨(x.1:Int),rfl⟩
 ·exact ⟨(x.1:Bool),rfl⟩
 ·exact ⟨(x.1:af),rfl⟩
 ·exact ⟨(⟨x.1,x.2.1⟩:cC),rfl⟩
 ·exact ⟨(⟨x.1,⟨x.2.1,x.2.2.1⟩,x.2.2.2.1,x.2.2.2.2.1,x.2.2.2.2.2.1⟩:Json),rfl⟩
 ·exact ⟨(⟨x.1,x.2.1,x.2.2.1,x.2.2.2.1,x.2.2.2.2.1⟩:Raw),rfl⟩
 ·exact ⟨(⟨x.1,x.2.1,x.2.2.1,x.2.2.2.1⟩:R1),rfl⟩
 ·exact ⟨(⟨x.1,x.2.1,x.2.2.1,x.2.2.2.1,x.2.2.2.2.1⟩:Fld),rfl⟩
 ·exact ⟨(⟨x.1,x.2.1,x.2.2.1⟩:ZW),rfl⟩
 ·exact ⟨(⟨x.1,x.2.1,⟨x.2.2.1,x.2.2.2.1⟩,x.2.2.2.2.1⟩:Token),rfl⟩
 ·exact ⟨(⟨x.1,x.2.1,x.2.2.1⟩:Stop),rfl⟩
 ·exact ⟨(⟨x.1,x.2.1,x.2.2.1⟩:Way),rfl⟩
 ·exact ⟨(⟨x.1,x.2.1,x.2.2.1,x.2.2.2.1,x.2.2.2.2.1,x.2.2.2.2.2.1⟩:Order),rfl⟩
 ·exact ⟨(⟨x.1,x.2.1,x.2.2.1⟩:Edge),rfl⟩
 ·exact ⟨(⟨x.1,x.2.1⟩:Jr),rfl⟩
 ·exact ⟨(⟨x.1,x.2.1,x.2.2.1⟩:Qb),rfl⟩
 ·exact ⟨(⟨x.1,x.2.1,x.2.2.1,x.2.2.2.1,x.2.2.2.2.1,x.2.2.2.2.2.1,x.2.2.2.2.2.2.1,x.2.2.2.2.2.2.2.1,x.2.2.2.2.2.2.2.2.1,x.2.2.2.2.2.2.2.2.2.1⟩:State),rfl⟩
 ·exact ⟨(⟨x.1,x.2.1,x.2.2.1,x.2.2.2.1,x.2.2.2.2.1,x.2.2.2.2.2.1,x.2.2.2.2.2.2.1,x.2.2.2.2.2.2.2.1,x.2.2.2.2.2.2.2.2.1,x.2.2.2.2.2.2.2.2.2.1,x.2.2.2.2.2.2.2.2.2.2.1,⟨x.2.2.2.2.2.2.2.2.2.2.2.1,x.2.2.2.2.2.2.2.2.2.2.2.2.1,x.2.2.2.2.2.2.2.2.2.2.2.2.2.1,x.2.2.2.2.2.2.2.2.2.2.2.2.2.2.1,x.2.2.2.2.2.2.2.2.2.2.2.2.2.2.2.1,x.2.2.2.2.2.2.2.2.2.2.2.2.2.2.2.2.1⟩⟩:Ctl),rfl⟩
 ·exact ⟨(⟨x.1,x.2.1,x.2.2.1,x.2.2.2.1,x.2.2.2.2.1⟩:ZX),rfl⟩
 ·exact ⟨(⟨x.1,x.2.1,x.2.2.1,x.2.2.2.1,x.2.2.2.2.1,x.2.2.2.2.2.1,x.2.2.2.2.2.2.1⟩:MZ),rfl⟩
 ·exact ⟨(⟨x.1,⟨x.2.1,x.2.2.1,x.2.2.2.1,x.2.2.2.2.1,x.2.2.2.2.2.1,x.2.2.2.2.2.2.1,x.2.2.2.2.2.2.2.1⟩,x.2.2.2.2.2.2.2.2.1⟩:ZY),rfl⟩
 ·exact ⟨(⟨x.1,x.2.1,x.2.2.1⟩:ZZ),rfl⟩
 ·exact ⟨(⟨x.1,x.2.1,x.2.2.1⟩:Z0),rfl⟩
 ·exact ⟨(⟨x.1,x.2.1⟩:VW),rfl⟩
 ·exact ⟨(⟨⟨x.1,x.2.1⟩,⟨x.2.2.1,x.2.2.2.1⟩⟩:Z1),rfl⟩
 ·exact ⟨(⟨x.1,x.2.1⟩:Z2),rfl⟩
 ·exact ⟨(⟨x.1,x.2.1,x.2.2.1,x.2.2.2.1⟩:Job),rfl⟩
 ·exact ⟨(⟨x.1,x.2.1,x.2.2.1⟩:Js),rfl⟩
def IS (ls:List fv) (vs:List V):Prop:=∃x,vs=fv.dV ls x
theorem IS.nil:IS [] []:=⟨(),rfl⟩
theorem IS.one (p:fv) (x:p.den):IS [p] [p.enc x]:=⟨(x,()),rfl⟩
theorem IS.append:∀ {a b:List fv} {x y:List V},IS a x→IS b y→IS (a++b) (x++y)
 | [],_,_,_,⟨_,rfl⟩,h=>h
 | p::ps,b,_,y,⟨x,rfl⟩,h=>by
  obtain ⟨z,hz⟩:=IS.append (a:=ps) ⟨x.2,rfl⟩ h;refine ⟨(x.1,z),?_⟩;show p.enc x.1::(fv.dV ps x.2++y)=p.enc x.1::fv.dV (ps++b) z;rw[hz]
theorem IS.len:∀ {a:List fv} {x:List V},IS a x→x.length=a.length
 | [],_,⟨_,rfl⟩=>rfl
 | p::ps,_,⟨x,rfl⟩=>by
  show (p.enc x.1::fv.dV ps x.2).length=_;simp[IS.len (a:=ps) ⟨x.2,rfl⟩]
inductive Small (N:Nat):V→Prop where
 | int {k:IntKind} {n:Int} (h:k.has n):Small N (.int k n)
 | bool (b:Bool):Small N (.bool b)
 | str {s:af} (h:s.length≤N):Small N (.str s)
 | sl {T:Ty} {l:List T.den} (h:l.length≤N) (he:∀x∈l,∀v∈T.cells x,Small N v):Small N (.sl T l .no)
theorem Small.le {N M:Nat} (hm:N≤M) {v:V} (h:Small N v):Small M v:=by
 induction h with
 | int h=>exact .int h
 | bool b=>exact .bool b
 | str h=>exact .str (Nat.le_trans h hm)
 | sl h _ ih=>exact .sl (Nat.le_trans h hm) ih
theorem Small.jg {N:Nat} {k:IntKind} {n:Int} (h:Small N (.int k n)):k.has n:=by cases h; assumption
theorem Small.kF {N:Nat} {s:af} (h:Small N (.str s)):s.length≤N:=by cases h; assumption
def Od (P:Program) (f:TypeId→Option (List fv)):List Field→Nat→Nat→Option (List fv)
 | [],j,tot=>if j=tot then some []else none
 | fd::fs,j,tot =>
  if fd.offset=j then
   match f fd.type with
   | some a=>if a.length=P.cellsOf fd.type then (match Od P f fs (j+a.length) tot with|some b=>some (a++b)|none=>none)else none
   | none=>none
  else none
def D1 (f:Option (List fv)) (sz:Nat):Nat→Nat→Nat→Option (List fv)
 | 0,j,tot=>if j=tot then some []else none
 | n+1,j,tot =>
  match f with
  | some a=>if a.length=sz then (match D1 (some a) sz n (j+a.length) tot with|some b=>some (a++b)|none=>none)else none
  | none=>none
def nO (P:Program) (tt:dR):Nat→TypeId→Option (List fv)
 | 0,_=>none
 | n+1,t =>
  match P.underlying t with
  | some .bool=>some [.bool]
  | some (.int k)=>some [.int k]
  | some .string=>some [.str]
  | some (.slice e)=>(match (tt.at e).ty with|some T=>if P.cellsOf e=T.sz then some [.sl T]else none|none=>none)
  | some (.struct fs)=>Od P (nO P tt n) fs.toList 0 (P.cellsOf t)
  | some (.array m e)=>D1 (nO P tt n e) (P.cellsOf e) m 0 (P.cellsOf t)
  | _=>none
def Oe (P:Program) (tt:dR):Prop:=∀t T,(tt.at t).ty=some T→nO P tt 8 t=some T.leaves
def leavesAt (P:Program) (tt:dR) (t:Nat):Bool :=
 match (tt.at t).ty with
 | some T=>decide (nO P tt 8 t=some T.leaves)
 | none=>true
theorem leaves_ok {P:Program} {tt:dR} (h:(List.range tt.length).all (leavesAt P tt)=true):Oe P tt:=by
 intro t T hT;by_cases ht:t<tt.length
 ·have:=List.all_eq_true.1 h t (by simpa using ht);unfold leavesAt at this;rw[hT]at this;exact of_decide_eq_true this
 ·have:tt.at t=TI.none:=by unfold dR.at; simp[List.getD,List.getElem?_eq_none (Nat.le_of_not_lt ht)]
  rw[this]at hT;cases hT
def V2:km:=⟨fun _=>none,fun _=>0,⟨fun _ _=>False⟩⟩
theorem free0 (b x:Nat):PE [] V2 b x:=⟨fun ⟨_,_,h,_⟩=>(by cases h),fun h=>h⟩
theorem wf0 (w:World) (hs:pX.says w) (hb:∀b,pX.blocks b→b<w.heap.size):WF w [] V2:=⟨fun _ _ _ h=>h,fun _ _ h=>h.elim,fun i h=>(by simp at h),fun i j b _ _ h=>(by cases h),⟨hs,fun b h=>⟨hb b h,fun _ ⟨_,_,g,_⟩=>(by cases g)⟩⟩⟩
section
variable {H:Type} {enc:TypeId×Value→H} {P:Program} {tt:dR} {w:World} {spare:Nat→Bool} {held:Bool}
theorem bulk_part {d:DataW H} {l:List (DataW H)} (h:d∈l):Rows.uptoBulk d≤Rows.uptoBulkAll l:=by
 induction l with
 | nil=>cases h
 | cons x r ih =>
  simp only[Rows.uptoBulkAll];cases List.mem_cons.1 h with
  | inl e=>subst e; omega
  | inr e=>have:=ih e; omega
theorem Su (d:DataW H):1≤Rows.uptoBulk d:=by
 cases d with
 | lit l=>cases l <;> simp[Rows.uptoBulk]
 | _=>simp[Rows.uptoBulk]
theorem bulk_len (l:List (DataW H)):l.length≤Rows.uptoBulkAll l:=by
 induction l with
 | nil=>simp[Rows.uptoBulkAll]
 | cons x r ih=>have:=Su x; simp only[Rows.uptoBulkAll,List.length_cons]; omega
theorem Sv {α β:Type} {f:α→Option β}:∀ {l:List α} {r:List β},l.mapM f=some r→r.length=l.length∧∀(i:Nat) (x:α),l[i]? = some x→∃y,r[i]? = some y∧f x=some y
 | [],r,h=>by simp at h; subst h; exact ⟨rfl,fun i x hx=>by simp at hx⟩
 | a::l,r,h=>by
  simp only[List.mapM_cons,Option.pure_def,Option.bind_eq_bind,Option.bind_eq_some_iff]at h;obtain ⟨b,hb,bs,hbs,e⟩:=h;cases e;obtain ⟨h1,h2⟩:=Sv hbs;refine ⟨by simp[h1],fun i x hx => ?_⟩;cases i with
  | zero=>simp at hx; subst hx; exact ⟨b,rfl,hb⟩
  | succ i=>simp at hx; exact h2 i x hx
theorem list_of {α:Type} (Q:Nat→α→Prop):∀k,(∀i,i<k→∃x,Q i x)→∃l:List α,l.length=k∧∀i x,l[i]? = some x→Q i x
 | 0,_=>⟨[],rfl,fun i x h=>by simp at h⟩
 | k+1,h=>by
  obtain ⟨l,h1,h2⟩:=list_of Q k fun i hi=>h i (by omega)
  obtain ⟨y,hy⟩:=h k (by omega);refine ⟨l ++ [y],by simp[h1],fun i x hx => ?_⟩;by_cases hi:i<l.length
  ·rw[List.getElem?_append_left hi]at hx; exact h2 i x hx
  ·rw[List.getElem?_append_right (by omega)]at hx;have:i=k:=by
    have:=(List.getElem?_eq_some_iff.1 hx).1;simp at this; omega
   subst this;rw[h1]at hx;simp at hx; subst hx; exact hy
def Reads (w:World) (N:Nat) (ls:List fv) (cs:List Value):Prop:=∃vs,IS ls vs∧cN w [] V2 vs cs∧∀v∈vs,Small N v
theorem Reads.append {N:Nat} {a b:List fv} {x y:List Value} (h:Reads w N a x) (k:Reads w N b y):Reads w N (a++b) (x++y):=by
 obtain ⟨u,h1,h2,h3⟩:=h;obtain ⟨v,k1,k2,k3⟩:=k;exact ⟨u++v,h1.append k1,h2.append k2,fun z hz=>(List.mem_append.1 hz).elim (h3 z) (k3 z)⟩
theorem Reads.nil {N:Nat}:Reads w N [] []:=⟨[], .nil, .nil,fun v hv=>by cases hv⟩
theorem Reads.one {N:Nat} {p:fv} {x:p.den} {d:Value} (h:dQ w [] V2 (p.enc x) d) (s:Small N (p.enc x)):Reads w N [p] [d] :=
 ⟨[p.enc x], .one p x, .cons h .nil,fun v hv=>by simp at hv; subst hv; exact s⟩
theorem Rl {base:Nat} {a:Addr} {n:Nat} {cs:List Value} (h:w.cells? base a n=some cs):cs.length=n∧∀j,j<n→∃v,cs[j]? = some v∧w.cell? (a.add j)=some v:=by
 unfold World.cells? at h;split at h
 ·obtain ⟨h1,h2⟩:=Sv h;exact ⟨by simpa using h1,fun j hj=>h2 j j (by simp[hj])⟩
 ·cases h
theorem spot_none {a:Addr} {v:Value} (h:w.cell? a=some v):a.spot=none:=by
 unfold World.cell? at h;split at h
 ·split at h
  ·cases h
  ·rename_i hs; cases hq:a.spot <;> simp_all
 ·cases h
theorem addr_add {a:Addr} (h:a.spot=none) (x y:Nat):(⟨a.block,a.off+x+y,none⟩:Addr)=(a.add x).add y:=by
 obtain ⟨b,o,s⟩:=a;cases h;simp only[Addr.add];by_cases hx:x=0 <;> by_cases hy:y=0 <;> simp[hx,hy]
end
end Go.bb
end
