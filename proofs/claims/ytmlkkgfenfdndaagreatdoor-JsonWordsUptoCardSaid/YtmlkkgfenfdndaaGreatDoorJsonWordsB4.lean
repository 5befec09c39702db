/-
  JsonWords, part 4 of 9.
-/
import Derived.Test.YtmlkkgfenfdndaaGreatDoorRows
import Derived.ChangeSlices
import Derived.WideKeyArgs
import Derived.JoinedCond
import Derived.Test.YtmlkkgfenfdndaaGreatDoorJsonWordsB3
set_option linter.unusedSimpArgs false
set_option linter.unnecessarySimpa false
set_option linter.unusedVariables false
set_option linter.unusedSectionVars false
noncomputable section
namespace Go.aG
open Go.RowKit Go.Proofs.YtmlkkgfenfdndaaGreatDoor
def Ty.leaves:Ty→List fT
 | .int k => [.int k] | .bool => [.bool] | .str => [.str]
 | .dcm => [.int .i64, .int .i64]
 | .json => [.int .i64, .int .i64, .int .i64, .str, .sl .str, .sl .json]
 | .raw => [.int .i64, .int .i64, .int .i64, .sl (.int .i64), .sl .raw]
 | .Xf => [.int .i64, .int .i64, .int .i64, .sl (.int .i64)]
 | .fld => [.str, .int .i64, .int .i64, .int .i64, .bool]
 | .YQ => [.str, .str, .bool]
 | .token => [.int .i64, .str, .int .i64, .int .i64, .int .i64]
 | .stop => [.int .i64, .int .i64, .bool]
 | .way => [.int .i64, .int .i64, .bool]
 | .order => [.int .i64, .str, .int .i64, .int .i64, .sl .stop, .sl .way]
 | .Qm => [.int .i64, .int .i64, .int .i64]
 | .layout => [.int .i64, .sl .Qm]
 | .topic => [.str, .str, .str]
 | .state => [.int .i64, .int .i64, .str, .int .i64, .int .i64, .bool, .int .i64, .int .i64, .bool, .int .i64]
 | .ctl => [.str, .int .i64, .int .i64, .int .i64, .int .i64, .int .i64, .sl (.int .i64), .int .i64, .bool, .int .i64, .bool, .int .i64, .str, .int .i64, .int .i64, .sl .stop, .sl .way]
 | .YR => [.int .i64, .int .i64, .int .i64, .int .u8, .str]
 | .Rp => [.int .i64, .int .i64, .int .i64, .int .i64, .int .i64, .int .i64, .sl (.int .i64)]
 | .YS => [.int .i64, .int .i64, .int .i64, .int .i64, .int .i64, .int .i64, .int .i64, .sl (.int .i64), .str]
 | .YT => [.int .i64, .int .i64, .sl (.int .i64)]
 | .YU => [.int .i64, .int .i64, .int .i64]
 | .VD => [.int .i64, .int .i64]
 | .YV => [.int .i64, .int .i64, .int .i64, .int .i64]
 | .post => [.str, .int .i64]
 | .job => [.int .i64, .int .i64, .int .i64, .int .i64]
 | .record => [.int .i64, .sl (.int .i64), .str]
theorem XY (T:Ty) (x:fT.au T.leaves):∃y:T.den,T.cells y=fT.eD T.leaves x:=by
 cases T
 ·exact ⟨(x.1:Int),rfl⟩
 ·exact ⟨(x.1:Bool),rfl⟩
 ·exact ⟨(x.1:ah),rfl⟩
 ·exact ⟨(⟨x.1,x.2.1⟩:dH),rfl⟩
 ·exact ⟨(⟨x.1,⟨x.2.1,x.2.2.1⟩,x.2.2.2.1,x.2.2.2.2.1,x.2.2.2.2.2.1⟩:Json),rfl⟩
 ·exact ⟨(⟨x.1,x.2.1,x.2.2.1,x.2.2.2.1,x.2.2.2.2.1⟩:Raw),rfl⟩
 ·exact ⟨(⟨x.1,x.2.1,x.2.2.1,x.2.2.2.1⟩:OJ),rfl⟩
 ·exact ⟨(⟨x.1,x.2.1,x.2.2.1,x.2.2.2.1,x.2.2.2.2.1⟩:Fld),rfl⟩
 ·exact ⟨(⟨x.1,x.2.1,x.2.2.1⟩:Vw),rfl⟩
 ·exact ⟨(⟨x.1,x.2.1,⟨x.2.2.1,x.2.2.2.1⟩,x.2.2.2.2.1⟩:Token),rfl⟩
 ·exact ⟨(⟨x.1,x.2.1,x.2.2.1⟩:Stop),rfl⟩
 ·exact ⟨(⟨x.1,x.2.1,x.2.2.1⟩:Way),rfl⟩
 ·exact ⟨(⟨x.1,x.2.1,x.2.2.1,x.2.2.2.1,x.2.2.2.2.1,x.2.2.2.2.2.1⟩:Order),rfl⟩
 ·exact ⟨(⟨x.1,x.2.1,x.2.2.1⟩:Edge),rfl⟩
 ·exact ⟨(⟨x.1,x.2.1⟩:GY),rfl⟩
 ·exact ⟨(⟨x.1,x.2.1,x.2.2.1⟩:Na),rfl⟩
 ·exact ⟨(⟨x.1,x.2.1,x.2.2.1,x.2.2.2.1,x.2.2.2.2.1,x.2.2.2.2.2.1,x.2.2.2.2.2.2.1,x.2.2.2.2.2.2.2.1,x.2.2.2.2.2.2.2.2.1,x.2.2.2.2.2.2.2.2.2.1⟩:State),rfl⟩
 ·exact ⟨(⟨x.1,x.2.1,x.2.2.1,x.2.2.2.1,x.2.2.2.2.1,x.2.2.2.2.2.1,x.2.2.2.2.2.2.1,x.2.2.2.2.2.2.2.1,x.2.2.2.2.2.2.2.2.1,x.2.2.2.2.2.2.2.2.2.1,x.2.2.2.2.2.2.2.2.2.2.1,⟨x.2.2.2.2.2.2.2.2.2.2.2.1,x.2.2.2.2.2.2.2.2.2.2.2.2.1,x.2.2.2.2.2.2.2.2.2.2.2.2.2.1,x.2.2.2.2.2.2.2.2.2.2.2.2.2.2.1,x.2.2.2.2.2.2.2.2.2.2.2.2.2.2.2.1,x.2.2.2.2.2.2.2.2.2.2.2.2.2.2.2.2.1⟩⟩:Ctl),rfl⟩
 ·exact ⟨(⟨x.1,x.2.1,x.2.2.1,x.2.2.2.1,x.2.2.2.2.1⟩:Vx),rfl⟩
 ·exact ⟨(⟨x.1,x.2.1,x.2.2.1,x.2.2.2.1,x.2.2.2.2.1,x.2.2.2.2.2.1,x.2.2.2.2.2.2.1⟩:JP),rfl⟩
 ·exact ⟨(⟨x.1,⟨x.2.1,x.2.2.1,x.2.2.2.1,x.2.2.2.2.1,x.2.2.2.2.2.1,x.2.2.2.2.2.2.1,x.2.2.2.2.2.2.2.1⟩,x.2.2.2.2.2.2.2.2.1⟩:Vy),rfl⟩
 ·exact ⟨(⟨x.1,x.2.1,x.2.2.1⟩:Vz),rfl⟩
 ·exact ⟨(⟨x.1,x.2.1,x.2.2.1⟩:VA),rfl⟩
 ·exact ⟨(⟨x.1,x.2.1⟩:RZ),rfl⟩
 ·exact ⟨(⟨⟨x.1,x.2.1⟩,⟨x.2.2.1,x.2.2.2.1⟩⟩:VB),rfl⟩
 ·exact ⟨(⟨x.1,x.2.1⟩:VC),rfl⟩
 ·exact ⟨(⟨x.1,x.2.1,x.2.2.1,x.2.2.2.1⟩:Job),rfl⟩
 ·exact ⟨(⟨x.1,x.2.1,x.2.2.1⟩:GZ),rfl⟩
def GL (ls:List fT) (vs:List V):Prop:=∃x,vs=fT.eD ls x
theorem GL.nil:GL [] []:=⟨(),rfl⟩
theorem GL.one (p:fT) (x:p.den):GL [p] [p.enc x]:=⟨(x,()),rfl⟩
theorem GL.append:∀ {a b:List fT} {x y:List V},GL a x→GL b y→GL (a++b) (x++y)
 | [],_,_,_,⟨_,rfl⟩,h=>h
 | p::ps,b,_,y,⟨x,rfl⟩,h=>by
  obtain ⟨z,hz⟩:=GL.append (a:=ps) ⟨x.2,rfl⟩ h
  refine ⟨(x.1,z),?_⟩
  show p.enc x.1::(fT.eD ps x.2++y)=p.enc x.1::fT.eD (ps++b) z
  rw[hz]
theorem GL.len:∀ {a:List fT} {x:List V},GL a x→x.length=a.length
 | [],_,⟨_,rfl⟩=>rfl
 | p::ps,_,⟨x,rfl⟩=>by
  show (p.enc x.1::fT.eD ps x.2).length=_
  simp[GL.len (a:=ps) ⟨x.2,rfl⟩]
inductive Small (N:Nat):V→Prop where
 | int {k:IntKind} {n:Int} (h:k.has n):Small N (.int k n)
 | bool (b:Bool):Small N (.bool b)
 | str {s:ah} (h:s.length≤N):Small N (.str s)
 | sl {T:Ty} {l:List T.den} (h:l.length≤N) (he:∀x∈l,∀v∈T.cells x,Small N v):Small N (.sl T l .no)
theorem Small.le {N M:Nat} (hm:N≤M) {v:V} (h:Small N v):Small M v:=by
 induction h with
 | int h=>exact .int h
 | bool b=>exact .bool b
 | str h=>exact .str (Nat.le_trans h hm)
 | sl h _ ih=>exact .sl (Nat.le_trans h hm) ih
theorem Small.j4 {N:Nat} {k:IntKind} {n:Int} (h:Small N (.int k n)):k.has n:=by cases h; assumption
theorem Small.lZ {N:Nat} {s:ah} (h:Small N (.str s)):s.length≤N:=by cases h; assumption
def Lg (P:Program) (f:TypeId→Option (List fT)):List Field→Nat→Nat→Option (List fT)
 | [],j,tot=>if j=tot then some []else none
 | fd::fs,j,tot =>
  if fd.offset=j then
   match f fd.type with
   | some a=>if a.length=P.cellsOf fd.type then (match Lg P f fs (j+a.length) tot with|some b=>some (a++b)|none=>none)else none
   | none=>none
  else none
def CB (f:Option (List fT)) (sz:Nat):Nat→Nat→Nat→Option (List fT)
 | 0,j,tot=>if j=tot then some []else none
 | n+1,j,tot =>
  match f with
  | some a=>if a.length=sz then (match CB (some a) sz n (j+a.length) tot with|some b=>some (a++b)|none=>none)else none
  | none=>none
def qj (P:Program) (tt:eF):Nat→TypeId→Option (List fT)
 | 0,_=>none
 | n+1,t =>
  match P.underlying t with
  | some .bool=>some [.bool]
  | some (.int k)=>some [.int k]
  | some .string=>some [.str]
  | some (.slice e)=>(match (tt.at e).ty with|some T=>if P.cellsOf e=T.sz then some [.sl T]else none|none=>none)
  | some (.struct fs)=>Lg P (qj P tt n) fs.toList 0 (P.cellsOf t)
  | some (.array m e)=>CB (qj P tt n e) (P.cellsOf e) m 0 (P.cellsOf t)
  | _=>none
def Pa (P:Program) (tt:eF):Prop:=∀t T,(tt.at t).ty=some T→qj P tt 8 t=some T.leaves
def ZO (P:Program) (tt:eF) (t:Nat):Bool :=
 match (tt.at t).ty with
 | some T=>decide (qj P tt 8 t=some T.leaves)
 | none=>true
theorem leaves_ok {P:Program} {tt:eF} (h:(List.range tt.length).all (ZO P tt)=true):Pa P tt:=by
 intro t T hT
 by_cases ht:t<tt.length
 ·have:=List.all_eq_true.1 h t (by simpa using ht)
  unfold ZO at this
  rw[hT]at this
  exact of_decide_eq_true this
 ·have:tt.at t=TI.none:=by unfold eF.at; simp[List.getD,List.getElem?_eq_none (Nat.le_of_not_lt ht)]
  rw[this]at hT
  cases hT
def Uh:lj:=⟨fun _=>none,fun _=>0,⟨fun _ _=>False⟩⟩
theorem free0 (b x:Nat):Mt [] Uh b x:=⟨fun ⟨_,_,h,_⟩=>(by cases h),fun h=>h⟩
theorem wf0 (w:World) (hs:qT.says w) (hb:∀b,qT.blocks b→b<w.heap.size):WF w [] Uh:=⟨fun _ _ _ h=>h,fun _ _ h=>h.elim,fun i h=>(by simp at h),fun i j b _ _ h=>(by cases h),⟨hs,fun b h=>⟨hb b h,fun _ ⟨_,_,g,_⟩=>(by cases g)⟩⟩⟩
section
variable {H:Type} {enc:TypeId × Value→H} {P:Program} {tt:eF} {w:World} {spare:Nat→Bool} {held:Bool}
theorem bulk_part {d:DataW H} {l:List (DataW H)} (h:d∈l):Rows.uptoBulk d≤Rows.uptoBulkAll l:=by
 induction l with
 | nil=>cases h
 | cons x r ih =>
  simp only[Rows.uptoBulkAll]
  cases List.mem_cons.1 h with
  | inl e=>subst e; omega
  | inr e=>have:=ih e; omega
theorem Pb (d:DataW H):1≤Rows.uptoBulk d:=by
 cases d with
 | lit l=>cases l <;> simp[Rows.uptoBulk]
 | _=>simp[Rows.uptoBulk]
theorem bulk_len (l:List (DataW H)):l.length≤Rows.uptoBulkAll l:=by
 induction l with
 | nil=>simp[Rows.uptoBulkAll]
 | cons x r ih=>have:=Pb x; simp only[Rows.uptoBulkAll,List.length_cons]; omega
theorem Pc {α β:Type} {f:α→Option β}:∀ {l:List α} {r:List β},l.mapM f=some r→r.length=l.length∧∀(i:Nat) (x:α),l[i]? = some x→∃y,r[i]? = some y∧f x=some y
 | [],r,h=>by simp at h; subst h; exact ⟨rfl,fun i x hx=>by simp at hx⟩
 | a::l,r,h=>by
  simp only[List.mapM_cons,Option.pure_def,Option.bind_eq_bind,Option.bind_eq_some_iff]at h
  obtain ⟨b,hb,bs,hbs,e⟩:=h
  cases e
  obtain ⟨h1,h2⟩:=Pc hbs
  refine ⟨by simp[h1],fun i x hx => ?_⟩
  cases i with
  | zero=>simp at hx; subst hx; exact ⟨b,rfl,hb⟩
  | succ i=>simp at hx; exact h2 i x hx
theorem list_of {α:Type} (Q:Nat→α→Prop):∀k,(∀i,i<k→∃x,Q i x)→∃l:List α,l.length=k∧∀i x,l[i]? = some x→Q i x
 | 0,_=>⟨[],rfl,fun i x h=>by simp at h⟩
 | k+1,h=>by
  obtain ⟨l,h1,h2⟩:=list_of Q k fun i hi=>h i (by omega)
  obtain ⟨y,hy⟩:=h k (by omega)
  refine ⟨l ++ [y],by simp[h1],fun i x hx => ?_⟩
  by_cases hi:i<l.length
  ·rw[List.getElem?_append_left hi]at hx; exact h2 i x hx
  ·rw[List.getElem?_append_right (by omega)]at hx
   have:i=k:=by
    have:=(List.getElem?_eq_some_iff.1 hx).1
    simp at this; omega
   subst this
   rw[h1]at hx
   simp at hx; subst hx; exact hy
def Reads (w:World) (N:Nat) (ls:List fT) (cs:List Value):Prop:=∃vs,GL ls vs∧cT w [] Uh vs cs∧∀v∈vs,Small N v
theorem Reads.append {N:Nat} {a b:List fT} {x y:List Value} (h:Reads w N a x) (k:Reads w N b y):Reads w N (a++b) (x++y):=by
 obtain ⟨u,h1,h2,h3⟩:=h
 obtain ⟨v,k1,k2,k3⟩:=k
 exact ⟨u++v,h1.append k1,h2.append k2,fun z hz=>(List.mem_append.1 hz).elim (h3 z) (k3 z)⟩
theorem Reads.nil {N:Nat}:Reads w N [] []:=⟨[], .nil, .nil,fun v hv=>by cases hv⟩
theorem Reads.one {N:Nat} {p:fT} {x:p.den} {d:Value} (h:eG w [] Uh (p.enc x) d) (s:Small N (p.enc x)):Reads w N [p] [d] :=
 ⟨[p.enc x], .one p x, .cons h .nil,fun v hv=>by simp at hv; subst hv; exact s⟩
theorem Od {base:Nat} {a:Addr} {n:Nat} {cs:List Value} (h:w.cells? base a n=some cs):cs.length=n∧∀j,j<n→∃v,cs[j]? = some v∧w.cell? (a.add j)=some v:=by
 unfold World.cells? at h
 split at h
 ·obtain ⟨h1,h2⟩:=Pc h
  exact ⟨by simpa using h1,fun j hj=>h2 j j (by simp[hj])⟩
 ·cases h
theorem spot_none {a:Addr} {v:Value} (h:w.cell? a=some v):a.spot=none:=by
 unfold World.cell? at h
 split at h
 ·split at h
  ·cases h
  ·rename_i hs; cases hq:a.spot <;> simp_all
 ·cases h
theorem addr_add {a:Addr} (h:a.spot=none) (x y:Nat):(⟨a.block,a.off+x+y,none⟩:Addr)=(a.add x).add y:=by
 obtain ⟨b,o,s⟩:=a
 cases h
 simp only[Addr.add]
 by_cases hx:x=0 <;> by_cases hy:y=0 <;> simp[hx,hy]
end
end Go.aG
end
