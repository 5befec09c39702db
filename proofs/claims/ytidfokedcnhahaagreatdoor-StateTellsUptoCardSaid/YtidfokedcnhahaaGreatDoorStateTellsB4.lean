/-
  StateTells, part 4 of 10.
-/
import Derived.Test.YtidfokedcnhahaaGreatDoorRows
import Derived.ChangeSlices
import Derived.WideKeyArgs
import Derived.JoinedCond
import Derived.Test.YtidfokedcnhahaaGreatDoorStateTellsB3
set_option linter.unusedSimpArgs false
set_option linter.unusedVariables false
open Array renaming length_toList->gP
open Bool renaming and_eq_true->bF
open Go.DataW renaming trod->Bi
open Go.IntKind renaming has->mV
open List renaming all_eq_true->gF,drop_drop->py,drop_eq_nil_of_le->gQ,eq_nil_of_length_eq_zero->gH,getD->ca,length_cons->bj,length_map->oH,mapM_cons->Po,map_cons->kz,mem_append->fU,mem_cons->eJ,mem_map->Dj,range->jZ,take_append_drop->Dk
open Nat renaming add_mul->qC,le_of_ble_eq_true->FV,le_of_not_lt->FL,le_refl->cD,le_trans->pw,zero_add->mq,zero_le->nQ
open Option renaming bind_eq_some_iff->ZW,map_eq_some_iff->ZX
noncomputable section
namespace Go.ak
open Go.RowKit Go.Proofs.YtidfokedcnhahaaGreatDoor
def Ty.leaves:Ty->List bD
 | .int k=>[.int k] | .bool=>[.bool] | .str=>[.str]
 | .xD=>[.int .i64,.int .i64]
 | .json=>[.int .i64,.int .i64,.int .i64,.str,.sl .str,.sl .json]
 | .raw=>[.int .i64,.int .i64,.int .i64,.sl (.int .i64),.sl .raw]
 | .zG=>[.int .i64,.int .i64,.int .i64,.sl (.int .i64)]
 | .zH=>[.str,.int .i64,.int .i64,.int .i64,.bool]
 | .xE=>[.str,.str,.bool]
 | .token=>[.int .i64,.str,.int .i64,.int .i64,.int .i64]
 | .stop=>[.int .i64,.int .i64,.bool]
 | .oM=>[.int .i64,.int .i64,.bool]
 | .order=>[.int .i64,.str,.int .i64,.int .i64,.sl .stop,.sl .oM]
 | .pB=>[.int .i64,.int .i64,.int .i64]
 | .layout=>[.int .i64,.sl .pB]
 | .topic=>[.str,.str,.str]
 | .state=>[.int .i64,.int .i64,.str,.int .i64,.int .i64,.bool,.int .i64,.int .i64,.bool,.int .i64]
 | .zI=>[.str,.int .i64,.int .i64,.int .i64,.int .i64,.int .i64,.sl (.int .i64),.int .i64,.bool,.int .i64,.bool,.int .i64,.str,.int .i64,.int .i64,.sl .stop,.sl .oM]
 | .zJ=>[.int .i64,.int .i64,.int .i64,.int .u8,.str]
 | .zK=>[.int .i64,.int .i64,.int .i64,.int .i64,.int .i64,.int .i64,.sl (.int .i64)]
 | .zM=>[.int .i64,.int .i64,.int .i64,.int .i64,.int .i64,.int .i64,.int .i64,.sl (.int .i64),.str]
 | .zN=>[.int .i64,.int .i64,.sl (.int .i64)]
 | .zO=>[.int .i64,.int .i64,.int .i64]
 | .vF=>[.int .i64,.int .i64]
 | .zP=>[.int .i64,.int .i64,.int .i64,.int .i64]
 | .post=>[.str,.int .i64]
 | .zQ=>[.int .i64,.int .i64,.int .i64,.int .i64]
 | .record=>[.int .i64,.sl (.int .i64),.str]
theorem acm (T:Ty) (x:bD.aA T.leaves):∃y:T.den,T.cells y=bD.bE T.leaves x:=by
 cases T
 ·exact⟨(x.1:Int),rfl⟩
 ·exact⟨(x.1:Bool),rfl⟩
 ·exact⟨(x.1:ad),rfl⟩
 ·exact⟨(⟨x.1,x.2.1⟩:au),rfl⟩
 ·exact⟨(⟨x.1,⟨x.2.1,x.2.2.1⟩,x.2.2.2.1,x.2.2.2.2.1,x.2.2.2.2.2.1⟩:Json),rfl⟩
 ·exact⟨(⟨x.1,x.2.1,x.2.2.1,x.2.2.2.1,x.2.2.2.2.1⟩:Raw),rfl⟩
 ·exact⟨(⟨x.1,x.2.1,x.2.2.1,x.2.2.2.1⟩:vn),rfl⟩
 ·exact⟨(⟨x.1,x.2.1,x.2.2.1,x.2.2.2.1,x.2.2.2.2.1⟩:vo),rfl⟩
 ·exact⟨(⟨x.1,x.2.1,x.2.2.1⟩:vp),rfl⟩
 ·exact⟨(⟨x.1,x.2.1,⟨x.2.2.1,x.2.2.2.1⟩,x.2.2.2.2.1⟩:Token),rfl⟩
 ·exact⟨(⟨x.1,x.2.1,x.2.2.1⟩:Stop),rfl⟩
 ·exact⟨(⟨x.1,x.2.1,x.2.2.1⟩:Way),rfl⟩
 ·exact⟨(⟨x.1,x.2.1,x.2.2.1,x.2.2.2.1,x.2.2.2.2.1,x.2.2.2.2.2.1⟩:Order),rfl⟩
 ·exact⟨(⟨x.1,x.2.1,x.2.2.1⟩:Edge),rfl⟩
 ·exact⟨(⟨x.1,x.2.1⟩:vq),rfl⟩
 ·exact⟨(⟨x.1,x.2.1,x.2.2.1⟩:vu),rfl⟩
 ·exact⟨(⟨x.1,x.2.1,x.2.2.1,x.2.2.2.1,x.2.2.2.2.1,x.2.2.2.2.2.1,x.2.2.2.2.2.2.1,x.2.2.2.2.2.2.2.1,x.2.2.2.2.2.2.2.2.1,x.2.2.2.2.2.2.2.2.2.1⟩:State),rfl⟩
 ·exact⟨(⟨x.1,x.2.1,x.2.2.1,x.2.2.2.1,x.2.2.2.2.1,x.2.2.2.2.2.1,x.2.2.2.2.2.2.1,x.2.2.2.2.2.2.2.1,x.2.2.2.2.2.2.2.2.1,x.2.2.2.2.2.2.2.2.2.1,x.2.2.2.2.2.2.2.2.2.2.1,⟨x.2.2.2.2.2.2.2.2.2.2.2.1,x.2.2.2.2.2.2.2.2.2.2.2.2.1,x.2.2.2.2.2.2.2.2.2.2.2.2.2.1,x.2.2.2.2.2.2.2.2.2.2.2.2.2.2.1,x.2.2.2.2.2.2.2.2.2.2.2.2.2.2.2.1,x.2.2.2.2.2.2.2.2.2.2.2.2.2.2.2.2.1⟩⟩:vv),rfl⟩
 ·exact⟨(⟨x.1,x.2.1,x.2.2.1,x.2.2.2.1,x.2.2.2.2.1⟩:vw),rfl⟩
 ·exact⟨(⟨x.1,x.2.1,x.2.2.1,x.2.2.2.1,x.2.2.2.2.1,x.2.2.2.2.2.1,x.2.2.2.2.2.2.1⟩:sr),rfl⟩
 ·exact⟨(⟨x.1,⟨x.2.1,x.2.2.1,x.2.2.2.1,x.2.2.2.2.1,x.2.2.2.2.2.1,x.2.2.2.2.2.2.1,x.2.2.2.2.2.2.2.1⟩,x.2.2.2.2.2.2.2.2.1⟩:vy),rfl⟩
 ·exact⟨(⟨x.1,x.2.1,x.2.2.1⟩:vz),rfl⟩
 ·exact⟨(⟨x.1,x.2.1,x.2.2.1⟩:vA),rfl⟩
 ·exact⟨(⟨x.1,x.2.1⟩:ss),rfl⟩
 ·exact⟨(⟨⟨x.1,x.2.1⟩,⟨x.2.2.1,x.2.2.2.1⟩⟩:vB),rfl⟩
 ·exact⟨(⟨x.1,x.2.1⟩:vC),rfl⟩
 ·exact⟨(⟨x.1,x.2.1,x.2.2.1,x.2.2.2.1⟩:vD),rfl⟩
 ·exact⟨(⟨x.1,x.2.1,x.2.2.1⟩:vE),rfl⟩
def pV (ls:List bD) (vs:List V):Prop:=∃x,vs=bD.bE ls x
theorem pV.nil:pV [] []:=⟨(),rfl⟩
theorem pV.one (p:bD) (x:p.den):pV [p] [p.enc x]:=⟨(x,()),rfl⟩
theorem pV.append:∀ {a b:List bD} {x y:List V},pV a x->pV b y->pV (a++b) (x++y)
 | [],_,_,_,⟨_,rfl⟩,h=>h
 | p::ps,b,_,y,⟨x,rfl⟩,h=>by
  obtain ⟨z,hz⟩:=pV.append (a:=ps) ⟨x.2,rfl⟩ h;refine⟨(x.1,z),?_⟩;show p.enc x.1::(bD.bE ps x.2++y)=p.enc x.1::bD.bE (ps++b) z;rw[hz]
theorem pV.len:∀ {a:List bD} {x:List V},pV a x->x.length=a.length
 | [],_,⟨_,rfl⟩=>rfl
 | p::ps,_,⟨x,rfl⟩=>by
  show(p.enc x.1::bD.bE ps x.2).length=_;simp[pV.len (a:=ps) ⟨x.2,rfl⟩]
inductive Small (N:Nat):V->Prop where
 | int {k:IntKind} {n:Int} (h:k.has n):Small N (.int k n)
 | bool (b:Bool):Small N (.bool b)
 | str {s:ad} (h:s.length<=N):Small N (.str s)
 | sl {T:Ty} {l:List T.den} (h:l.length<=N) (he:∀x∈l,∀v∈T.cells x,Small N v):Small N (.sl T l .no)
theorem Small.fi {N:Nat} {k:IntKind} {n:Int} (h:Small N (.int k n)):k.has n:=by cases h; assumption
theorem Small.gJ {N:Nat} {s:ad} (h:Small N (.str s)):s.length<=N:=by cases h; assumption
theorem Small.vP {N:Nat} {T:Ty} {l:List T.den} (h:Small N (.sl T l .no)):l.length<=N/\∀x∈l,∀v∈T.cells x,Small N v:=by
 cases h with
 | sl h he=>exact⟨h,he⟩
def GY (P:Program) (f:TypeId->Option (List bD)):List Field->Nat->Nat->Option (List bD)
 | [],j,tot=>if j=tot then some []else none
 | fd::fs,j,tot=>
  if fd.offset=j then
   match f fd.type with
   | some a=>if a.length=P.cellsOf fd.type then(match GY P f fs (j+a.length) tot with|some b=>some (a++b)|none=>none)else none
   | none=>none
  else none
def B6 (f:Option (List bD)) (sz:Nat):Nat->Nat->Nat->Option (List bD)
 | 0,j,tot=>if j=tot then some []else none
 | n+1,j,tot=>
  match f with
  | some a=>if a.length=sz then(match B6 (some a) sz n (j+a.length) tot with|some b=>some (a++b)|none=>none)else none
  | none=>none
def n8 (P:Program) (tt:aZ):Nat->TypeId->Option (List bD)
 | 0,_=>none
 | n+1,t=>
  match P.underlying t with
  | some .bool=>some [.bool]
  | some (.int k)=>some [.int k]
  | some .string=>some [.str]
  | some (.slice e)=>(match (tt.at e).ty with|some T=>if P.cellsOf e=T.sz then some [.sl T]else none|none=>none)
  | some (.struct fs)=>GY P (n8 P tt n) fs.toList 0 (P.cellsOf t)
  | some (.array m e)=>B6 (n8 P tt n e) (P.cellsOf e) m 0 (P.cellsOf t)
  | _=>none
def GZ (P:Program) (tt:aZ):Prop:=∀t T,(tt.at t).ty=some T->n8 P tt 8 t=some T.leaves
def acn (P:Program) (tt:aZ) (t:Nat):Bool:=
 match (tt.at t).ty with
 | some T=>decide (n8 P tt 8 t=some T.leaves)
 | none=>true
theorem ar4 {P:Program} {tt:aZ} (h:(jZ tt.length).all (acn P tt)=true):GZ P tt:=by
 intro t T hT;by_cases ht:t<tt.length
 ·have:=gF.1 h t (by simpa using ht);unfold acn at this;rw[hT]at this;exact of_decide_eq_true this
 ·have:tt.at t=TI.none:=by unfold aZ.at; simp[ca,List.getElem?_eq_none (FL ht)]
  rw[this]at hT;cases hT
def tS:bh:=⟨fun _=>none,fun _=>0,⟨fun _ _=>False⟩⟩
theorem ar5 (b x:Nat):nW [] tS b x:=⟨fun⟨_,_,h,_⟩=>(by cases h),fun h=>h⟩
theorem wf0 (w:World) (hs:dL.Du w) (hb:∀b,dL.blocks b->b<w.heap.size):WF w [] tS:=⟨fun _ _ _ h=>h,fun _ _ h=>h.elim,fun i h=>(by simp at h),fun i j b _ _ h=>(by cases h),⟨hs,fun b h=>⟨hb b h,fun _ ⟨_,_,g,_⟩=>(by cases g)⟩⟩⟩
section
variable {H:Type} {enc:TypeId×Value->H} {P:Program} {tt:aZ} {w:World} {spare:Nat->Bool} {held:Bool}
theorem aco {d:DataW H} {l:List (DataW H)} (h:d∈l):Rows.uptoBulk d<=Rows.uptoBulkAll l:=by
 induction l with
 | nil=>cases h
 | cons x r ih=>
  simp only[Rows.uptoBulkAll];cases eJ.1 h with
  | inl e=>subst e; omega
  | inr e=>have:=ih e; omega
theorem ar6 (d:DataW H):1<=Rows.uptoBulk d:=by
 cases d with
 | lit l=>cases l<;>simp[Rows.uptoBulk]
 | _=>simp[Rows.uptoBulk]
theorem ar7 (l:List (DataW H)):l.length<=Rows.uptoBulkAll l:=by
 induction l with
 | nil=>simp[Rows.uptoBulkAll]
 | cons x r ih=>have:=ar6 x; simp only[Rows.uptoBulkAll,bj]; omega
theorem Kq {α β:Type} {f:α->Option β}:∀ {l:List α} {r:List β},l.mapM f=some r->r.length=l.length/\∀(i:Nat) (x:α),l[i]? = some x->∃y,r[i]? = some y/\f x=some y
 | [],r,h=>by simp at h; subst h; exact⟨rfl,fun i x hx=>by simp at hx⟩
 | a::l,r,h=>by
  simp only[Po,Option.pure_def,Option.bind_eq_bind,ZW]at h;obtain ⟨b,hb,bs,Q7,e⟩:=h;cases e;obtain ⟨h1,h2⟩:=Kq Q7;refine⟨by simp[h1],fun i x hx => ?_⟩;cases i with
  | zero=>simp at hx; subst hx; exact⟨b,rfl,hb⟩
  | succ i=>simp at hx; exact h2 i x hx
theorem acp {α:Type} (Q:Nat->α->Prop):∀k,(∀i,i<k->∃x,Q i x)->∃l:List α,l.length=k/\∀i x,l[i]? = some x->Q i x
 | 0,_=>⟨[],rfl,fun i x h=>by simp at h⟩
 | k+1,h=>by
  obtain ⟨l,h1,h2⟩:=acp Q k fun i hi=>h i (by omega)
  obtain ⟨y,hy⟩:=h k (by omega);refine⟨l++[y],by simp[h1],fun i x hx => ?_⟩;by_cases hi:i<l.length
  ·rw[List.getElem?_append_left hi]at hx; exact h2 i x hx
  ·rw[List.getElem?_append_right (by omega)]at hx;have:i=k:=by
    have:=(List.getElem?_eq_some_iff.1 hx).1;simp at this; omega
   subst this;rw[h1]at hx;simp at hx; subst hx; exact hy
def Reads (w:World) (N:Nat) (ls:List bD) (cs:List Value):Prop:=∃vs,pV ls vs/\aQ w [] tS vs cs/\∀v∈vs,Small N v
theorem Reads.append {N:Nat} {a b:List bD} {x y:List Value} (h:Reads w N a x) (k:Reads w N b y):Reads w N (a++b) (x++y):=by
 obtain ⟨u,h1,h2,h3⟩:=h;obtain ⟨v,k1,k2,k3⟩:=k;exact⟨u++v,h1.append k1,h2.append k2,fun z hz=>(fU.1 hz).elim (h3 z) (k3 z)⟩
theorem Reads.nil {N:Nat}:Reads w N [] []:=⟨[],.nil,.nil,fun v hv=>by cases hv⟩
theorem Reads.one {N:Nat} {p:bD} {x:p.den} {d:Value} (h:ay w [] tS (p.enc x) d) (s:Small N (p.enc x)):Reads w N [p] [d]:=
 ⟨[p.enc x],.one p x,.cons h .nil,fun v hv=>by simp at hv; subst hv; exact s⟩
theorem SE {base:Nat} {a:Addr} {n:Nat} {cs:List Value} (h:w.cells? base a n=some cs):cs.length=n/\∀j,j<n->∃v,cs[j]? = some v/\w.cell? (a.add j)=some v:=by
 unfold World.cells? at h;split at h
 ·obtain ⟨h1,h2⟩:=Kq h;exact⟨by simpa using h1,fun j hj=>h2 j j (by simp[hj])⟩
 ·cases h
theorem ar8 {a:Addr} {v:Value} (h:w.cell? a=some v):a.spot=none:=by
 unfold World.cell? at h;split at h
 ·split at h
  ·cases h
  ·rename_i hs; cases hq:a.spot<;>simp_all
 ·cases h
theorem addr_add {a:Addr} (h:a.spot=none) (x y:Nat):(⟨a.block,a.off+x+y,none⟩:Addr)=(a.add x).add y:=by
 obtain ⟨b,o,s⟩:=a;cases h;simp only[Addr.add];by_cases hx:x=0<;>by_cases hy:y=0<;>simp[hx,hy]
theorem acq {N n m:Nat} (ih:∀(t:TypeId) (cs:List Value) (x:DataW H×List MemPlace) (ls:List bD),Bi enc P w 0 spare held n t cs=some x->n8 P tt m t=some ls->Rows.uptoBulk x.1<=N->Reads w N ls cs) (cs:List Value) :
  ∀(fs:List Field) (j:Nat) (xs:List (DataW H×List MemPlace)) (ls:List bD),(fs.mapM fun f=>Bi enc P w 0 spare held n f.type ((cs.drop f.offset).take (P.cellsOf f.type)))=some xs ->
   GY P (n8 P tt m) fs j cs.length=some ls->Rows.uptoBulkAll (xs.map (·.1))<=N->Reads w N ls (cs.drop j)
 | [],j,xs,ls,_,hl,_=>by
  unfold GY at hl;split at hl
  ·rename_i hj;cases hl;rw[gQ (by omega)];exact .nil
  ·cases hl
 | f::fs,j,xs,ls,hx,hl,hb=>by
  simp only[Po,Option.pure_def,Option.bind_eq_bind,ZW]at hx;obtain ⟨y,hy,ys,hys,e⟩:=hx;cases e;simp only[kz,Rows.uptoBulkAll]at hb;unfold GY at hl;split at hl
  ·rename_i ho;split at hl
   ·rename_i a ha;split at hl
    ·rename_i bL;split at hl
     ·rename_i b bI;cases hl;rw[ho]at hy;have r1:=ih _ _ _ _ hy ha (by omega);have r2:=acq ih cs fs (j+a.length) ys b hys bI (by omega);have e:cs.drop j=(cs.drop j).take (P.cellsOf f.type)++cs.drop (j+a.length):=by
       rw[<-bL,<-py];exact(Dk a.length (cs.drop j)).symm
      rw[e];exact r1.append r2
     ·cases hl
    ·cases hl
   ·cases hl
  ·cases hl
theorem acr {N n m:Nat} {e:TypeId} (ih:∀(t:TypeId) (cs:List Value) (x:DataW H×List MemPlace) (ls:List bD),Bi enc P w 0 spare held n t cs=some x->n8 P tt m t=some ls->Rows.uptoBulk x.1<=N->Reads w N ls cs) (cs:List Value) {a:List bD} (ha:n8 P tt m e=some a) :
  ∀(k i:Nat) (ls:List bD),(∀q,q<k->∃x,Bi enc P w 0 spare held n e ((cs.drop ((i+q)*P.cellsOf e)).take (P.cellsOf e))=some x/\Rows.uptoBulk x.1<=N) ->
   B6 (some a) (P.cellsOf e) k (i*P.cellsOf e) cs.length=some ls->Reads w N ls (cs.drop (i*P.cellsOf e))
 | 0,i,ls,_,hl=>by
  unfold B6 at hl;split at hl
  ·rename_i hj;cases hl;rw[gQ (by omega)];exact .nil
  ·cases hl
 | k+1,i,ls,hx,hl=>by
  unfold B6 at hl;simp only at hl;split at hl
  ·rename_i bL;split at hl
   ·rename_i b bI;cases hl;obtain ⟨x,h1,h2⟩:=hx 0 (by omega);have r1:=ih _ _ _ _ h1 ha h2;rw[bL]at bI;have e1:i*P.cellsOf e+P.cellsOf e=(i+1)*P.cellsOf e:=by rw[qC]; omega
    rw[e1]at bI;have r2:=acr ih cs ha k (i+1) b (fun q hq=>by
     have:=hx (q+1) (by omega);rw[show i+(q+1)=i+1+q by omega]at this;exact this) bI
    have e:cs.drop (i*P.cellsOf e)=(cs.drop (i*P.cellsOf e)).take (P.cellsOf e)++cs.drop ((i+1)*P.cellsOf e):=by
     rw[<-e1,<-py];exact(Dk _ _).symm
    rw[e];exact r1.append r2
   ·cases hl
  ·cases hl
theorem Kr (fK:GZ P tt) {N:Nat}:∀(n:Nat) (t:TypeId) (cs:List Value) (x:DataW H×List MemPlace) (m:Nat) (ls:List bD),Bi enc P w 0 spare held n t cs=some x->n8 P tt m t=some ls ->
  Rows.uptoBulk x.1<=N->N<=mx->Reads w N ls cs
 | 0,_,_,_,_,_,h,_,_,_=>by simp[Bi]at h
 | n+1,t,cs,x,0,ls,_,hl,_,_=>by simp[n8]at hl
 | n+1,t,cs,x,m+1,ls,h,hl,hb,hN=>by
  have ih:∀(t:TypeId) (cs:List Value) (x:DataW H×List MemPlace) (ls:List bD),Bi enc P w 0 spare held n t cs=some x->n8 P tt m t=some ls->Rows.uptoBulk x.1<=N->Reads w N ls cs:=
   fun t cs x ls h1 h2 h3=>Kr fK n t cs x m ls h1 h2 h3 hN
  have ih8:∀(t:TypeId) (cs:List Value) (x:DataW H×List MemPlace) (ls:List bD),Bi enc P w 0 spare held n t cs=some x->n8 P tt 8 t=some ls->Rows.uptoBulk x.1<=N->Reads w N ls cs:=
   fun t cs x ls h1 h2 h3=>Kr fK n t cs x 8 ls h1 h2 h3 hN
  unfold n8 at hl;unfold Bi at h;cases hu:P.underlying t with
  | none=>rw[hu]at hl; cases hl
  | some u=>
   rw[hu]at hl h;cases u<;>simp only at hl<;>(try cases hl)
   case some.bool.refl=>
    rcases cs with _|⟨c,_|⟨c2,r⟩⟩
    ·simp at h
    ·cases c<;>simp at h;exact .one (p:=.bool) (.bool _) (.bool _)
    ·simp at h
   case some.int.refl k=>
    rcases cs with _|⟨c,_|⟨c2,r⟩⟩
    ·simp at h
    ·cases c<;>simp at h;rename_i k' z;obtain ⟨⟨rfl,hw⟩,_⟩:=h;have hk:mV k' z:=by
      simp only[Lit.wf,bF,decide_eq_true_eq]at hw;exact hw
     exact .one (p:=.int k') (x:=z) (.int hk) (.int hk)
    ·simp at h
   case some.string.refl=>
    rcases cs with _|⟨c,_|⟨c2,r⟩⟩
    ·simp at h
    ·cases c<;>simp at h;rename_i s;obtain ⟨hs,rfl⟩:=h;have bI:s.data.toList.length<=N:=by simp only[Rows.uptoBulk]at hb; omega
     have bL:s.size<=mx:=by
      have e:s.data.toList.length=s.size:=by rw[gP]; rfl
      omega
     exact .one (p:=.str) (x:=s.data.toList) (.str bL) (.str bI)
    ·simp at h
   case some.slice e=>
    split at hl<;>(try cases hl);rename_i T hT;split at hl<;>(try cases hl);rename_i bL;rcases cs with _|⟨c,_|⟨c2,r⟩⟩
    ·simp at h
    ·cases c<;>try (simp at h; done)
     rename_i A len cap;cases A with
     | none=>
      have h0:len=0/\cap=0:=by
       split at h<;>simp_all
      obtain ⟨rfl,rfl⟩:=h0;refine .one (p:=.sl T) (x:=[]) ?_ (.sl (nQ _) fun x hx=>by cases hx);exact ay.sl (T:=T) (l:=[]) (t:=.no) (A:=none) (cap:=0) (fun _ _=>undef) (cD _) (nQ _) (fun i j hi=>by simp at hi) (fun i j x v hx=>by simp at hx) (by simp) (by simp)
     | some a=>
      simp only[nQ,true_and]at h;split at h<;>(try cases h);rename_i hc;simp only[ZW,ZX]at h;obtain ⟨elems,he,rest,hr,rfl⟩:=h;obtain ⟨g1,g2⟩:=Kq he;simp only[List.length_range]at g1;simp only[Rows.uptoBulk]at hb;have hlen:len<=N:=by
       have:=ar7 (elems.map (·.1));simp only[oH]at this;omega
      have key:∀i,i<len->∃y:T.den,∃ds:List Value,w.cells? 0 (a.add (i*P.cellsOf e)) (P.cellsOf e)=some ds/\aQ w [] tS (T.cells y) ds/\∀v∈T.cells y,Small N v:=by
       intro i hi;obtain ⟨z,hz,hz2⟩:=g2 i i (by simp[hi]);simp only[ZW]at hz2;obtain ⟨ds,Ei,JC⟩:=hz2;have SF:z.1∈elems.map (·.1):=Dj.2 ⟨z,List.mem_of_getElem? hz,rfl⟩;obtain ⟨vs,⟨q,rfl⟩,k2,k3⟩:=ih8 _ _ _ _ JC (fK e T hT) (by have:=aco SF; omega);obtain ⟨y,hy⟩:=acm T q;rw[<-hy]at k2 k3;exact⟨y,ds,Ei,k2,k3⟩
      obtain ⟨l,Ag,jB⟩:=acp _ len key;refine .one (p:=.sl T) (x:=l) ?_ (.sl (by omega) fun y hy v hv => ?_)
      ·have hv:(Value.slice (some a) len cap)=.slice (some a) l.length cap:=by rw[Ag]
       rw[hv];refine ay.sl (fun i j=>(w.cell? ((a.add (i*T.sz)).add j)).getD undef) (by omega) (pw hc.2 (FV rfl)) (fun i j hi hj => ?_) (fun i j y v hy hv => ?_) (by simp) (by simp)
       ·obtain ⟨y,hy⟩:∃y,l[i]? = some y:=⟨l[i],by simp[hi]⟩;obtain ⟨ds,d1,d2,_⟩:=jB i y hy;rw[bL]at d1;obtain ⟨c1,c2⟩:=SE d1;obtain ⟨v,v1,v2⟩:=c2 j hj;have ea:a=⟨a.block,a.off,none⟩:=by
         have B7:a.spot=none:=by
          obtain ⟨y0,Ef⟩:∃y,l[0]? = some y:=⟨l[0],by simp⟩;obtain ⟨ds0,d01,_,_⟩:=jB 0 y0 Ef;rw[bL]at d01;obtain ⟨_,c02⟩:=SE d01;obtain ⟨v0,_,v02⟩:=c02 0 (Ty.xR T);simp only[Nat.zero_mul,Addr.add,if_true]at v02;exact ar8 v02
         cases a; simp_all
        refine⟨a.block,a.off,by rw[<-ea],?_,ar5 _ _⟩;have e2:=addr_add (a:=a) (by rw[ea]) (i*T.sz) j;rw[e2,v2]; rfl
       ·have hi:i<l.length:=(List.getElem?_eq_some_iff.1 hy).1;obtain ⟨ds,d1,d2,_⟩:=jB i y hy;rw[bL]at d1;obtain ⟨c1,c2⟩:=SE d1;have hj:j<T.sz:=by rw[<-T.lR y]; exact(List.getElem?_eq_some_iff.1 hv).1
        obtain ⟨u,v1,v2⟩:=c2 j hj;rw[v2];exact d2.2 j v u hv v1
      ·obtain ⟨i,hi⟩:=List.mem_iff_getElem?.1 hy;obtain ⟨_,_,_,k⟩:=jB i y hi;exact k v hv
    ·simp at h
   case some.struct fs=>
    simp only at h;split at h
    ·rename_i cT;simp only[ZX]at h;obtain ⟨xs,hx,rfl⟩:=h;simp only[Rows.uptoBulk]at hb;rw[<-cT]at hl;have:=acq ih cs fs.toList 0 xs ls hx hl (by omega);simpa using this
    ·cases h
   case some.array k e=>
    simp only at h;split at h
    ·rename_i cT;simp only[ZX]at h;obtain ⟨xs,hx,rfl⟩:=h;simp only[Rows.uptoBulk]at hb;rw[<-cT]at hl;obtain ⟨g1,g2⟩:=Kq hx;cases ha:n8 P tt m e with
     | none=>
      rw[ha]at hl;cases k with
      | zero=>
       unfold B6 at hl;split at hl
       ·rename_i hj;cases hl;have:cs=[]:=gH hj.symm;subst this;exact .nil
       ·cases hl
      | succ k=>simp[B6]at hl
     | some a=>
      rw[ha]at hl;have:=acr ih cs ha k 0 ls (fun q hq=>by
       obtain ⟨y,hy,hy2⟩:=g2 q q (by simp[hq]);refine⟨y,by rw[mq]; exact hy2,?_⟩;have SF:y.1∈xs.map (·.1):=Dj.2 ⟨y,List.mem_of_getElem? hy,rfl⟩;have:=aco SF;omega) (by simpa using hl)
      simpa using this
    ·cases h
end
end Go.ak
end
