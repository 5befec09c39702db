/-
  FleetTells: for every input whose bulk is at most 1048576 the law returns true, and each argument reads behind the call as it read before; part 4 of 9 of the proof: an interpreter of the model's code over typed data, proved sound; the functions that the law reaches, printed as Lean functions and tied; the plain law. Own texts laid one behind the other.
-/
import Derived.Test.YtolnaonmpohciaaDoorRows
import Derived.ChangeSlices
import Derived.WideKeyArgs
import Derived.JoinedCond
import Derived.Test.YtolnaonmpohciaaDoorFleetTellsB3
set_option linter.unusedSimpArgs false
set_option linter.unnecessarySimpa false
set_option linter.unusedVariables false
set_option linter.unusedSectionVars false
noncomputable section
namespace Go.ad
open Go.RowKit Go.Proofs.YtolnaonmpohciaaDoor

def Ty.leaves:Ty→List cV
 | .int k => [.int k] | .bool => [.bool] | .str => [.str]
 | .dcm => [.int .i64, .int .i64]
 | .json => [.int .i64, .int .i64, .int .i64, .str, .sl .str, .sl .json]
 | .raw => [.int .i64, .int .i64, .int .i64, .sl (.int .i64), .sl .raw]
 | .Qp => [.int .i64, .int .i64, .int .i64, .sl (.int .i64)]
 | .fld => [.str, .int .i64, .int .i64, .int .i64, .bool]
 | .Pa => [.str, .str, .bool]
 | .token => [.int .i64, .str, .int .i64, .int .i64, .int .i64]
 | .stop => [.int .i64, .int .i64, .bool]
 | .dt => [.int .i64, .int .i64, .bool]
 | .order => [.int .i64, .str, .int .i64, .int .i64, .sl .stop, .sl .dt]
 | .fk => [.int .i64, .int .i64, .int .i64]
 | .layout => [.int .i64, .sl .fk]
 | .topic => [.str, .str, .str]
 | .state => [.int .i64, .int .i64, .str, .int .i64, .int .i64, .bool, .int .i64, .int .i64, .bool, .int .i64]
 | .C8 => [.str, .int .i64, .int .i64, .int .i64, .int .i64, .int .i64, .sl (.int .i64), .int .i64, .bool, .int .i64, .bool, .int .i64, .str, .int .i64, .int .i64, .sl .stop, .sl .dt]
 | .Qq => [.int .i64, .int .i64, .int .i64, .int .u8, .str]
 | .C9 => [.int .i64, .int .i64, .int .i64, .int .i64, .int .i64, .int .i64, .sl (.int .i64)]
 | .Qr => [.int .i64, .int .i64, .int .i64, .int .i64, .int .i64, .int .i64, .int .i64, .sl (.int .i64), .str]
 | .Qs => [.int .i64, .int .i64, .sl (.int .i64)]
 | .u7 => [.int .i64, .int .i64, .int .i64]
 | .NF => [.int .i64, .int .i64]
 | .Qt => [.int .i64, .int .i64, .int .i64, .int .i64]
 | .post => [.str, .int .i64]
 | .job => [.int .i64, .int .i64, .int .i64, .int .i64]
 | .record => [.int .i64, .sl (.int .i64), .str]

theorem HA (T:Ty) (x:cV.aQ T.leaves):∃y:T.den,T.cells y=cV.nB T.leaves x:=by
 cases T
 ·exact ⟨(x.1:Int),rfl⟩
 ·exact ⟨(x.1:Bool),rfl⟩
 ·exact ⟨(x.1:aA),rfl⟩
 ·exact ⟨(⟨x.1,x.2.1⟩:Bi),rfl⟩
 ·exact ⟨(⟨x.1,⟨x.2.1,x.2.2.1⟩,x.2.2.2.1,x.2.2.2.2.1,x.2.2.2.2.2.1⟩:Json),rfl⟩
 ·exact ⟨(⟨x.1,x.2.1,x.2.2.1,x.2.2.2.1,x.2.2.2.2.1⟩:Raw),rfl⟩
 ·exact ⟨(⟨x.1,x.2.1,x.2.2.1,x.2.2.2.1⟩:Nx),rfl⟩
 ·exact ⟨(⟨x.1,x.2.1,x.2.2.1,x.2.2.2.1,x.2.2.2.2.1⟩:Y7),rfl⟩
 ·exact ⟨(⟨x.1,x.2.1,x.2.2.1⟩:Ny),rfl⟩
 ·exact ⟨(⟨x.1,x.2.1,⟨x.2.2.1,x.2.2.2.1⟩,x.2.2.2.2.1⟩:Token),rfl⟩
 ·exact ⟨(⟨x.1,x.2.1,x.2.2.1⟩:Stop),rfl⟩
 ·exact ⟨(⟨x.1,x.2.1,x.2.2.1⟩:Way),rfl⟩
 ·exact ⟨(⟨x.1,x.2.1,x.2.2.1,x.2.2.2.1,x.2.2.2.2.1,x.2.2.2.2.2.1⟩:Order),rfl⟩
 ·exact ⟨(⟨x.1,x.2.1,x.2.2.1⟩:Edge),rfl⟩
 ·exact ⟨(⟨x.1,x.2.1⟩:cf),rfl⟩
 ·exact ⟨(⟨x.1,x.2.1,x.2.2.1⟩:FG),rfl⟩
 ·exact ⟨(⟨x.1,x.2.1,x.2.2.1,x.2.2.2.1,x.2.2.2.2.1,x.2.2.2.2.2.1,x.2.2.2.2.2.2.1,x.2.2.2.2.2.2.2.1,x.2.2.2.2.2.2.2.2.1,x.2.2.2.2.2.2.2.2.2.1⟩:State),rfl⟩
 ·exact ⟨(⟨x.1,x.2.1,x.2.2.1,x.2.2.2.1,x.2.2.2.2.1,x.2.2.2.2.2.1,x.2.2.2.2.2.2.1,x.2.2.2.2.2.2.2.1,x.2.2.2.2.2.2.2.2.1,x.2.2.2.2.2.2.2.2.2.1,x.2.2.2.2.2.2.2.2.2.2.1,⟨x.2.2.2.2.2.2.2.2.2.2.2.1,x.2.2.2.2.2.2.2.2.2.2.2.2.1,x.2.2.2.2.2.2.2.2.2.2.2.2.2.1,x.2.2.2.2.2.2.2.2.2.2.2.2.2.2.1,x.2.2.2.2.2.2.2.2.2.2.2.2.2.2.2.1,x.2.2.2.2.2.2.2.2.2.2.2.2.2.2.2.2.1⟩⟩:bN),rfl⟩
 ·exact ⟨(⟨x.1,x.2.1,x.2.2.1,x.2.2.2.1,x.2.2.2.2.1⟩:Nz),rfl⟩
 ·exact ⟨(⟨x.1,x.2.1,x.2.2.1,x.2.2.2.1,x.2.2.2.2.1,x.2.2.2.2.2.1,x.2.2.2.2.2.2.1⟩:kh),rfl⟩
 ·exact ⟨(⟨x.1,⟨x.2.1,x.2.2.1,x.2.2.2.1,x.2.2.2.2.1,x.2.2.2.2.2.1,x.2.2.2.2.2.2.1,x.2.2.2.2.2.2.2.1⟩,x.2.2.2.2.2.2.2.2.1⟩:NA),rfl⟩
 ·exact ⟨(⟨x.1,x.2.1,x.2.2.1⟩:NB),rfl⟩
 ·exact ⟨(⟨x.1,x.2.1,x.2.2.1⟩:oD),rfl⟩
 ·exact ⟨(⟨x.1,x.2.1⟩:Kt),rfl⟩
 ·exact ⟨(⟨⟨x.1,x.2.1⟩,⟨x.2.2.1,x.2.2.2.1⟩⟩:NC),rfl⟩
 ·exact ⟨(⟨x.1,x.2.1⟩:ND),rfl⟩
 ·exact ⟨(⟨x.1,x.2.1,x.2.2.1,x.2.2.2.1⟩:Y8),rfl⟩
 ·exact ⟨(⟨x.1,x.2.1,x.2.2.1⟩:yt),rfl⟩

def xO (ls:List cV) (vs:List V):Prop:=∃x,vs=cV.nB ls x

theorem xO.nil:xO [] []:=⟨(),rfl⟩
theorem xO.one (p:cV) (x:p.den):xO [p] [p.enc x]:=⟨(x,()),rfl⟩
theorem xO.append:∀ {a b:List cV} {x y:List V},xO a x→xO b y→xO (a++b) (x++y)
 | [],_,_,_,⟨_,rfl⟩,h=>h
 | p::ps,b,_,y,⟨x,rfl⟩,h=>by
  obtain ⟨z,hz⟩:=xO.append (a:=ps) ⟨x.2,rfl⟩ h
  refine ⟨(x.1,z),?_⟩
  show p.enc x.1::(cV.nB ps x.2++y)=p.enc x.1::cV.nB (ps++b) z
  rw[hz]
theorem xO.len:∀ {a:List cV} {x:List V},xO a x→x.length=a.length
 | [],_,⟨_,rfl⟩=>rfl
 | p::ps,_,⟨x,rfl⟩=>by
  show (p.enc x.1::cV.nB ps x.2).length=_
  simp[xO.len (a:=ps) ⟨x.2,rfl⟩]

inductive Small (N:Nat):V→Prop where
 | int {k:IntKind} {n:Int} (h:k.has n):Small N (.int k n)
 | bool (b:Bool):Small N (.bool b)
 | str {s:aA} (h:s.length≤N):Small N (.str s)
 | sl {T:Ty} {l:List T.den} (h:l.length≤N) (he:∀x∈l,∀v∈T.cells x,Small N v):Small N (.sl T l .no)

theorem Small.gd {N:Nat} {k:IntKind} {n:Int} (h:Small N (.int k n)):k.has n:=by cases h; assumption
theorem Small.mG {N:Nat} {s:aA} (h:Small N (.str s)):s.length≤N:=by cases h; assumption
theorem Small.Bt {N:Nat} {T:Ty} {l:List T.den} (h:Small N (.sl T l .no)):l.length≤N∧∀x∈l,∀v∈T.cells x,Small N v:=by
 cases h with
 | sl h he=>exact ⟨h,he⟩

def DZ (P:Program) (f:TypeId→Option (List cV)):List Field→Nat→Nat→Option (List cV)
 | [],j,tot=>if j=tot then some []else none
 | fd::fs,j,tot =>
  if fd.offset=j then
   match f fd.type with
   | some a=>if a.length=P.cellsOf fd.type then (match DZ P f fs (j+a.length) tot with|some b=>some (a++b)|none=>none)else none
   | none=>none
  else none

def ub (f:Option (List cV)) (sz:Nat):Nat→Nat→Nat→Option (List cV)
 | 0,j,tot=>if j=tot then some []else none
 | n+1,j,tot =>
  match f with
  | some a=>if a.length=sz then (match ub (some a) sz n (j+a.length) tot with|some b=>some (a++b)|none=>none)else none
  | none=>none

def gU (P:Program) (tt:ca):Nat→TypeId→Option (List cV)
 | 0,_=>none
 | n+1,t =>
  match P.underlying t with
  | some .bool=>some [.bool]
  | some (.int k)=>some [.int k]
  | some .string=>some [.str]
  | some (.slice e)=>(match (tt.at e).ty with|some T=>if P.cellsOf e=T.sz then some [.sl T]else none|none=>none)
  | some (.struct fs)=>DZ P (gU P tt n) fs.toList 0 (P.cellsOf t)
  | some (.array m e)=>ub (gU P tt n e) (P.cellsOf e) m 0 (P.cellsOf t)
  | _=>none

def D0 (P:Program) (tt:ca):Prop:=∀t T,(tt.at t).ty=some T→gU P tt 8 t=some T.leaves

def Rp (P:Program) (tt:ca) (t:Nat):Bool :=
 match (tt.at t).ty with
 | some T=>decide (gU P tt 8 t=some T.leaves)
 | none=>true
theorem VD {P:Program} {tt:ca} (h:(List.range tt.length).all (Rp P tt)=true):D0 P tt:=by
 intro t T hT
 by_cases ht:t<tt.length
 ·have:=List.all_eq_true.1 h t (by simpa using ht)
  unfold Rp at this
  rw[hT]at this
  exact of_decide_eq_true this
 ·have:tt.at t=TI.none:=by unfold ca.at; simp[List.getD,List.getElem?_eq_none (Nat.le_of_not_lt ht)]
  rw[this]at hT
  cases hT

def Mr:eT:=⟨fun _=>none,fun _=>0,⟨fun _ _=>False⟩⟩
theorem free0 (b x:Nat):Fi [] Mr b x:=⟨fun ⟨_,_,h,_⟩=>(by cases h),fun h=>h⟩
theorem wf0 (w:World) (hs:mZ.UB w) (hb:∀b,mZ.blocks b→b<w.heap.size):WF w [] Mr:=⟨fun _ _ _ h=>h,fun _ _ h=>h.elim,fun i h=>(by simp at h),fun i j b _ _ h=>(by cases h),⟨hs,fun b h=>⟨hb b h,fun _ ⟨_,_,g,_⟩=>(by cases g)⟩⟩⟩

section
variable {H:Type} {enc:TypeId×Value→H} {P:Program} {tt:ca} {w:World} {spare:Nat→Bool} {held:Bool}

theorem OR {d:DataW H} {l:List (DataW H)} (h:d∈l):Rows.uptoBulk d≤Rows.uptoBulkAll l:=by
 induction l with
 | nil=>cases h
 | cons x r ih =>
  simp only[Rows.uptoBulkAll]
  cases List.mem_cons.1 h with
  | inl e=>subst e; omega
  | inr e=>have:=ih e; omega
theorem X7 (d:DataW H):1≤Rows.uptoBulk d:=by
 cases d with
 | lit l=>cases l <;> simp[Rows.uptoBulk]
 | _=>simp[Rows.uptoBulk]
theorem X8 (l:List (DataW H)):l.length≤Rows.uptoBulkAll l:=by
 induction l with
 | nil=>simp[Rows.uptoBulkAll]
 | cons x r ih=>have:=X7 x; simp only[Rows.uptoBulkAll,List.length_cons]; omega

theorem HB {α β:Type} {f:α→Option β}:∀ {l:List α} {r:List β},l.mapM f=some r→r.length=l.length∧∀(i:Nat) (x:α),l[i]? = some x→∃y,r[i]? = some y∧f x=some y
 | [],r,h=>by simp at h; subst h; exact ⟨rfl,fun i x hx=>by simp at hx⟩
 | a::l,r,h=>by
  simp only[List.mapM_cons,Option.pure_def,Option.bind_eq_bind,Option.bind_eq_some_iff]at h
  obtain ⟨b,hb,bs,hbs,e⟩:=h
  cases e
  obtain ⟨h1,h2⟩:=HB hbs
  refine ⟨by simp[h1],fun i x hx => ?_⟩
  cases i with
  | zero=>simp at hx; subst hx; exact ⟨b,rfl,hb⟩
  | succ i=>simp at hx; exact h2 i x hx

theorem Ue {α:Type} (Q:Nat→α→Prop):∀k,(∀i,i<k→∃x,Q i x)→∃l:List α,l.length=k∧∀i x,l[i]? = some x→Q i x
 | 0,_=>⟨[],rfl,fun i x h=>by simp at h⟩
 | k+1,h=>by
  obtain ⟨l,h1,h2⟩:=Ue Q k fun i hi=>h i (by omega)
  obtain ⟨y,hy⟩:=h k (by omega)
  refine ⟨l ++ [y],by simp[h1],fun i x hx => ?_⟩
  by_cases hi:i<l.length
  ·rw[List.getElem?_append_left hi]at hx; exact h2 i x hx
  ·rw[List.getElem?_append_right (by omega)]at hx
   have:i=k:=by
    have:=(List.getElem?_eq_some_iff.1 hx).1
    simp at this; omega
   subst this
   rw[h1]at hx
   simp at hx; subst hx; exact hy

def Reads (w:World) (N:Nat) (ls:List cV) (cs:List Value):Prop:=∃vs,xO ls vs∧bl w [] Mr vs cs∧∀v∈vs,Small N v

theorem Reads.append {N:Nat} {a b:List cV} {x y:List Value} (h:Reads w N a x) (k:Reads w N b y):Reads w N (a++b) (x++y):=by
 obtain ⟨u,h1,h2,h3⟩:=h
 obtain ⟨v,k1,k2,k3⟩:=k
 exact ⟨u++v,h1.append k1,h2.append k2,fun z hz=>(List.mem_append.1 hz).elim (h3 z) (k3 z)⟩
theorem Reads.nil {N:Nat}:Reads w N [] []:=⟨[], .nil, .nil,fun v hv=>by cases hv⟩
theorem Reads.one {N:Nat} {p:cV} {x:p.den} {d:Value} (h:cd w [] Mr (p.enc x) d) (s:Small N (p.enc x)):Reads w N [p] [d] :=
 ⟨[p.enc x], .one p x, .cons h .nil,fun v hv=>by simp at hv; subst hv; exact s⟩

theorem GP {base:Nat} {a:Addr} {n:Nat} {cs:List Value} (h:w.cells? base a n=some cs):cs.length=n∧∀j,j<n→∃v,cs[j]? = some v∧w.cell? (a.add j)=some v:=by
 unfold World.cells? at h
 split at h
 ·obtain ⟨h1,h2⟩:=HB h
  exact ⟨by simpa using h1,fun j hj=>h2 j j (by simp[hj])⟩
 ·cases h

theorem VE {a:Addr} {v:Value} (h:w.cell? a=some v):a.spot=none:=by
 unfold World.cell? at h
 split at h
 ·split at h
  ·cases h
  ·rename_i hs; cases hq:a.spot <;> simp_all
 ·cases h

theorem X9 {a:Addr} (h:a.spot=none) (x y:Nat):(⟨a.block,a.off+x+y,none⟩:Addr)=(a.add x).add y:=by
 obtain ⟨b,o,s⟩:=a
 cases h
 simp only[Addr.add]
 by_cases hx:x=0 <;> by_cases hy:y=0 <;> simp[hx,hy]

theorem J5 {N n m:Nat} (ih:∀(t:TypeId) (cs:List Value) (x:DataW H×List MemPlace) (ls:List cV),DataW.trod enc P w 0 spare held n t cs=some x→gU P tt m t=some ls→Rows.uptoBulk x.1≤N→Reads w N ls cs) (cs:List Value) :
  ∀(fs:List Field) (j:Nat) (xs:List (DataW H×List MemPlace)) (ls:List cV),(fs.mapM fun f=>DataW.trod enc P w 0 spare held n f.type ((cs.drop f.offset).take (P.cellsOf f.type)))=some xs →
   DZ P (gU P tt m) fs j cs.length=some ls→Rows.uptoBulkAll (xs.map (·.1))≤N→Reads w N ls (cs.drop j)
 | [],j,xs,ls,_,hl,_=>by
  unfold DZ at hl
  split at hl
  ·rename_i hj
   cases hl
   rw[List.drop_eq_nil_of_le (by omega)]
   exact .nil
  ·cases hl
 | f::fs,j,xs,ls,hx,hl,hb=>by
  simp only[List.mapM_cons,Option.pure_def,Option.bind_eq_bind,Option.bind_eq_some_iff]at hx
  obtain ⟨y,hy,ys,hys,e⟩:=hx
  cases e
  simp only[List.map_cons,Rows.uptoBulkAll]at hb
  unfold DZ at hl
  split at hl
  ·rename_i ho
   split at hl
   ·rename_i a ha
    split at hl
    ·rename_i k8
     split at hl
     ·rename_i b k9
      cases hl
      rw[ho]at hy
      have r1:=ih _ _ _ _ hy ha (by omega)
      have r2:=J5 ih cs fs (j+a.length) ys b hys k9 (by omega)
      have e:cs.drop j=(cs.drop j).take (P.cellsOf f.type)++cs.drop (j+a.length):=by
       rw[←k8,←List.drop_drop]
       exact (List.take_append_drop a.length (cs.drop j)).symm
      rw[e]
      exact r1.append r2
     ·cases hl
    ·cases hl
   ·cases hl
  ·cases hl

theorem Rq {N n m:Nat} {e:TypeId} (ih:∀(t:TypeId) (cs:List Value) (x:DataW H×List MemPlace) (ls:List cV),DataW.trod enc P w 0 spare held n t cs=some x→gU P tt m t=some ls→Rows.uptoBulk x.1≤N→Reads w N ls cs) (cs:List Value) {a:List cV} (ha:gU P tt m e=some a) :
  ∀(k i:Nat) (ls:List cV),(∀q,q<k→∃x,DataW.trod enc P w 0 spare held n e ((cs.drop ((i+q)*P.cellsOf e)).take (P.cellsOf e))=some x∧Rows.uptoBulk x.1≤N) →
   ub (some a) (P.cellsOf e) k (i*P.cellsOf e) cs.length=some ls→Reads w N ls (cs.drop (i*P.cellsOf e))
 | 0,i,ls,_,hl=>by
  unfold ub at hl
  split at hl
  ·rename_i hj
   cases hl
   rw[List.drop_eq_nil_of_le (by omega)]
   exact .nil
  ·cases hl
 | k+1,i,ls,hx,hl=>by
  unfold ub at hl
  simp only at hl
  split at hl
  ·rename_i k8
   split at hl
   ·rename_i b k9
    cases hl
    obtain ⟨x,h1,h2⟩:=hx 0 (by omega)
    have r1:=ih _ _ _ _ h1 ha h2
    rw[k8]at k9
    have e1:i*P.cellsOf e+P.cellsOf e=(i+1)*P.cellsOf e:=by rw[Nat.add_mul]; omega
    rw[e1]at k9
    have r2:=Rq ih cs ha k (i+1) b (fun q hq=>by
     have:=hx (q+1) (by omega)
     rw[show i+(q+1)=i+1+q by omega]at this
     exact this) k9
    have e:cs.drop (i*P.cellsOf e)=(cs.drop (i*P.cellsOf e)).take (P.cellsOf e)++cs.drop ((i+1)*P.cellsOf e):=by
     rw[←e1,←List.drop_drop]
     exact (List.take_append_drop _ _).symm
    rw[e]
    exact r1.append r2
   ·cases hl
  ·cases hl

theorem Fe (vM:D0 P tt) {N:Nat}:∀(n:Nat) (t:TypeId) (cs:List Value) (x:DataW H×List MemPlace) (m:Nat) (ls:List cV),DataW.trod enc P w 0 spare held n t cs=some x→gU P tt m t=some ls →
  Rows.uptoBulk x.1≤N→N≤mx→Reads w N ls cs
 | 0,_,_,_,_,_,h,_,_,_=>by simp[DataW.trod]at h
 | n+1,t,cs,x,0,ls,_,hl,_,_=>by simp[gU]at hl
 | n+1,t,cs,x,m+1,ls,h,hl,hb,hN=>by
  have ih:∀(t:TypeId) (cs:List Value) (x:DataW H×List MemPlace) (ls:List cV),DataW.trod enc P w 0 spare held n t cs=some x→gU P tt m t=some ls→Rows.uptoBulk x.1≤N→Reads w N ls cs :=
   fun t cs x ls h1 h2 h3=>Fe vM n t cs x m ls h1 h2 h3 hN
  have ih8:∀(t:TypeId) (cs:List Value) (x:DataW H×List MemPlace) (ls:List cV),DataW.trod enc P w 0 spare held n t cs=some x→gU P tt 8 t=some ls→Rows.uptoBulk x.1≤N→Reads w N ls cs :=
   fun t cs x ls h1 h2 h3=>Fe vM n t cs x 8 ls h1 h2 h3 hN
  unfold gU at hl
  unfold DataW.trod at h
  cases hu:P.underlying t with
  | none=>rw[hu]at hl; cases hl
  | some u =>
   rw[hu]at hl h
   cases u <;> simp only at hl <;> try (first|cases hl)
   case some.bool.refl =>
    rcases cs with _|⟨c,_|⟨c2,r⟩⟩
    ·simp at h
    ·cases c <;> simp at h
     exact .one (p := .bool) (.bool _) (.bool _)
    ·simp at h
   case some.int.refl k =>
    rcases cs with _|⟨c,_|⟨c2,r⟩⟩
    ·simp at h
    ·cases c <;> simp at h
     rename_i k' z
     obtain ⟨⟨rfl,hw⟩,_⟩:=h
     have hk:IntKind.has k' z:=by
      simp only[Lit.wf,Bool.and_eq_true,decide_eq_true_eq]at hw
      exact hw
     exact .one (p := .int k') (x:=z) (.int hk) (.int hk)
    ·simp at h
   case some.string.refl =>
    rcases cs with _|⟨c,_|⟨c2,r⟩⟩
    ·simp at h
    ·cases c <;> simp at h
     rename_i s
     obtain ⟨hs,rfl⟩:=h
     have k9:s.data.toList.length≤N:=by simp only[Rows.uptoBulk]at hb; omega
     have k8:s.size≤mx:=by
      have e:s.data.toList.length=s.size:=by rw[Array.length_toList]; rfl
      omega
     exact .one (p := .str) (x:=s.data.toList) (.str k8) (.str k9)
    ·simp at h
   case some.slice e =>
    split at hl <;> try (first|cases hl)
    rename_i T hT
    split at hl <;> try (first|cases hl)
    rename_i k8
    rcases cs with _|⟨c,_|⟨c2,r⟩⟩
    ·simp at h
    ·cases c <;> try (simp at h; done)
     rename_i A len cap
     cases A with
     | none =>
      have h0:len=0∧cap=0:=by
       split at h <;> simp_all
      obtain ⟨rfl,rfl⟩:=h0
      refine .one (p := .sl T) (x := []) ?_ (.sl (Nat.zero_le _) fun x hx=>by cases hx)
      exact cd.sl (T:=T) (l := []) (t := .no) (A:=none) (cap:=0) (fun _ _=>undef) (Nat.le_refl _) (Nat.zero_le _) (fun i j hi=>by simp at hi) (fun i j x v hx=>by simp at hx) (by simp) (by simp)
     | some a =>
      simp only[Nat.zero_le,true_and]at h
      split at h <;> try (first|cases h)
      rename_i hc
      simp only[Option.bind_eq_some_iff,Option.map_eq_some_iff]at h
      obtain ⟨elems,he,rest,hr,rfl⟩:=h
      obtain ⟨g1,g2⟩:=HB he
      simp only[List.length_range]at g1
      simp only[Rows.uptoBulk]at hb
      have hlen:len≤N:=by
       have:=X8 (elems.map (·.1))
       simp only[List.length_map]at this
       omega
      have key:∀i,i<len→∃y:T.den,∃ds:List Value,w.cells? 0 (a.add (i*P.cellsOf e)) (P.cellsOf e)=some ds∧bl w [] Mr (T.cells y) ds∧∀v∈T.cells y,Small N v:=by
       intro i hi
       obtain ⟨z,hz,hz2⟩:=g2 i i (by simp[hi])
       simp only[Option.bind_eq_some_iff]at hz2
       obtain ⟨ds,hd1,hd2⟩:=hz2
       have hmem:z.1∈elems.map (·.1):=List.mem_map.2 ⟨z,List.mem_of_getElem? hz,rfl⟩
       obtain ⟨vs,⟨q,rfl⟩,k2,k3⟩:=ih8 _ _ _ _ hd2 (vM e T hT) (by have:=OR hmem; omega)
       obtain ⟨y,hy⟩:=HA T q
       rw[←hy]at k2 k3
       exact ⟨y,ds,hd1,k2,k3⟩
      obtain ⟨l,hl1,R2⟩:=Ue _ len key
      refine .one (p := .sl T) (x:=l) ?_ (.sl (by omega) fun y hy v hv => ?_)
      ·have hv:(Value.slice (some a) len cap) = .slice (some a) l.length cap:=by rw[hl1]
       rw[hv]
       refine cd.sl (fun i j=>(w.cell? ((a.add (i*T.sz)).add j)).getD undef) (by omega) (Nat.le_trans hc.2 (Nat.le_of_ble_eq_true rfl)) (fun i j hi hj => ?_) (fun i j y v hy hv => ?_) (by simp) (by simp)
       ·obtain ⟨y,hy⟩:∃y,l[i]? = some y:=⟨l[i],by simp[hi]⟩
        obtain ⟨ds,d1,d2,_⟩:=R2 i y hy
        rw[k8]at d1
        obtain ⟨c1,c2⟩:=GP d1
        obtain ⟨v,v1,v2⟩:=c2 j hj
        have ea:a=⟨a.block,a.off,none⟩:=by
         have hs0:a.spot=none:=by
          obtain ⟨y0,hy0⟩:∃y,l[0]? = some y:=⟨l[0],by simp⟩
          obtain ⟨ds0,d01,_,_⟩:=R2 0 y0 hy0
          rw[k8]at d01
          obtain ⟨_,c02⟩:=GP d01
          obtain ⟨v0,_,v02⟩:=c02 0 (Ty.Bu T)
          simp only[Nat.zero_mul,Addr.add,if_true]at v02
          exact VE v02
         cases a; simp_all
        refine ⟨a.block,a.off,by rw[←ea],?_,free0 _ _⟩
        have e2:=X9 (a:=a) (by rw[ea]) (i*T.sz) j
        rw[e2,v2]; rfl
       ·have hi:i<l.length:=(List.getElem?_eq_some_iff.1 hy).1
        obtain ⟨ds,d1,d2,_⟩:=R2 i y hy
        rw[k8]at d1
        obtain ⟨c1,c2⟩:=GP d1
        have hj:j<T.sz:=by rw[←T.dX y]; exact (List.getElem?_eq_some_iff.1 hv).1
        obtain ⟨u,v1,v2⟩:=c2 j hj
        rw[v2]
        exact d2.2 j v u hv v1
      ·obtain ⟨i,hi⟩:=List.mem_iff_getElem?.1 hy
       obtain ⟨_,_,_,k⟩:=R2 i y hi
       exact k v hv
    ·simp at h
   case some.struct fs =>
    simp only at h
    split at h
    ·rename_i tW
     simp only[Option.map_eq_some_iff]at h
     obtain ⟨xs,hx,rfl⟩:=h
     simp only[Rows.uptoBulk]at hb
     rw[←tW]at hl
     have:=J5 ih cs fs.toList 0 xs ls hx hl (by omega)
     simpa using this
    ·cases h
   case some.array k e =>
    simp only at h
    split at h
    ·rename_i tW
     simp only[Option.map_eq_some_iff]at h
     obtain ⟨xs,hx,rfl⟩:=h
     simp only[Rows.uptoBulk]at hb
     rw[←tW]at hl
     obtain ⟨g1,g2⟩:=HB hx
     cases ha:gU P tt m e with
     | none =>
      rw[ha]at hl
      cases k with
      | zero =>
       unfold ub at hl
       split at hl
       ·rename_i hj
        cases hl
        have:cs = []:=List.eq_nil_of_length_eq_zero hj.symm
        subst this
        exact .nil
       ·cases hl
      | succ k=>simp[ub]at hl
     | some a =>
      rw[ha]at hl
      have:=Rq ih cs ha k 0 ls (fun q hq=>by
       obtain ⟨y,hy,hy2⟩:=g2 q q (by simp[hq])
       refine ⟨y,by rw[Nat.zero_add]; exact hy2,?_⟩
       have hmem:y.1∈xs.map (·.1):=List.mem_map.2 ⟨y,List.mem_of_getElem? hy,rfl⟩
       have:=OR hmem
       omega) (by simpa using hl)
      simpa using this
    ·cases h
end
end Go.ad
end
