/-
  JsonNames: for every input whose bulk is at most 1048576 the law returns true, and each argument reads behind the call as it read before; part 4 of 8 of the proof: an interpreter of the model's code over typed data, proved sound; the functions that the law reaches, printed as Lean functions and tied; the plain law. Own texts laid one behind the other.
-/
import Derived.Test.YtmlkkgfenfdndaaGreatDoorRows
import Derived.ChangeSlices
import Derived.WideKeyArgs
import Derived.JoinedCond
import Derived.Test.YtmlkkgfenfdndaaGreatDoorJsonNamesB3
set_option linter.unusedSimpArgs false
set_option linter.unnecessarySimpa false
set_option linter.unusedVariables false
set_option linter.unusedSectionVars false
namespace Go.ax
open Go.RowKit Go.Proofs.YtmlkkgfenfdndaaGreatDoor

def Ty.leaves:Ty→List eH
  | .int k => [.int k] | .bool => [.bool] | .str => [.str]
  | .YJ => [.int .i64, .int .i64]
  | .json => [.int .i64, .int .i64, .int .i64, .str, .sl .str, .sl .json]
  | .raw => [.int .i64, .int .i64, .int .i64, .sl (.int .i64), .sl .raw]
  | .NY => [.int .i64, .int .i64, .int .i64, .sl (.int .i64)]
  | .ZN => [.str, .int .i64, .int .i64, .int .i64, .bool]
  | .Pm => [.str, .str, .bool]
  | .token => [.int .i64, .str, .int .i64, .int .i64, .int .i64]
  | .stop => [.int .i64, .int .i64, .bool]
  | .Sz => [.int .i64, .int .i64, .bool]
  | .order => [.int .i64, .str, .int .i64, .int .i64, .sl .stop, .sl .Sz]
  | .Io => [.int .i64, .int .i64, .int .i64]
  | .layout => [.int .i64, .sl .Io]
  | .topic => [.str, .str, .str]
  | .state => [.int .i64, .int .i64, .str, .int .i64, .int .i64, .bool, .int .i64, .int .i64, .bool, .int .i64]
  | .ZO => [.str, .int .i64, .int .i64, .int .i64, .int .i64, .int .i64, .sl (.int .i64), .int .i64, .bool, .int .i64, .bool, .int .i64, .str, .int .i64, .int .i64, .sl .stop, .sl .Sz]
  | .Pn => [.int .i64, .int .i64, .int .i64, .int .u8, .str]
  | .Jl => [.int .i64, .int .i64, .int .i64, .int .i64, .int .i64, .int .i64, .sl (.int .i64)]
  | .Po => [.int .i64, .int .i64, .int .i64, .int .i64, .int .i64, .int .i64, .int .i64, .sl (.int .i64), .str]
  | .Pp => [.int .i64, .int .i64, .sl (.int .i64)]
  | .Pq => [.int .i64, .int .i64, .int .i64]
  | .MA => [.int .i64, .int .i64]
  | .Pr => [.int .i64, .int .i64, .int .i64, .int .i64]
  | .post => [.str, .int .i64]
  | .ZP => [.int .i64, .int .i64, .int .i64, .int .i64]
  | .record => [.int .i64, .sl (.int .i64), .str]

theorem Ht (T:Ty) (x:eH.au T.leaves):∃y:T.den,T.cells y=eH.cL T.leaves x:=by
  cases T
  · exact ⟨(x.1:Int),rfl⟩
  · exact ⟨(x.1:Bool),rfl⟩
  · exact ⟨(x.1:ak),rfl⟩
  · exact ⟨(⟨x.1,x.2.1⟩:iH),rfl⟩
  · exact ⟨(⟨x.1,⟨x.2.1,x.2.2.1⟩,x.2.2.2.1,x.2.2.2.2.1,x.2.2.2.2.2.1⟩:Json),rfl⟩
  · exact ⟨(⟨x.1,x.2.1,x.2.2.1,x.2.2.2.1,x.2.2.2.2.1⟩:Raw),rfl⟩
  · exact ⟨(⟨x.1,x.2.1,x.2.2.1,x.2.2.2.1⟩:Fu),rfl⟩
  · exact ⟨(⟨x.1,x.2.1,x.2.2.1,x.2.2.2.1,x.2.2.2.2.1⟩:Yv),rfl⟩
  · exact ⟨(⟨x.1,x.2.1,x.2.2.1⟩:Mt),rfl⟩
  · exact ⟨(⟨x.1,x.2.1,⟨x.2.2.1,x.2.2.2.1⟩,x.2.2.2.2.1⟩:Token),rfl⟩
  · exact ⟨(⟨x.1,x.2.1,x.2.2.1⟩:Stop),rfl⟩
  · exact ⟨(⟨x.1,x.2.1,x.2.2.1⟩:Way),rfl⟩
  · exact ⟨(⟨x.1,x.2.1,x.2.2.1,x.2.2.2.1,x.2.2.2.2.1,x.2.2.2.2.2.1⟩:Order),rfl⟩
  · exact ⟨(⟨x.1,x.2.1,x.2.2.1⟩:Edge),rfl⟩
  · exact ⟨(⟨x.1,x.2.1⟩:Cf),rfl⟩
  · exact ⟨(⟨x.1,x.2.1,x.2.2.1⟩:FW),rfl⟩
  · exact ⟨(⟨x.1,x.2.1,x.2.2.1,x.2.2.2.1,x.2.2.2.2.1,x.2.2.2.2.2.1,x.2.2.2.2.2.2.1,x.2.2.2.2.2.2.2.1,x.2.2.2.2.2.2.2.2.1,x.2.2.2.2.2.2.2.2.2.1⟩:State),rfl⟩
  · exact ⟨(⟨x.1,x.2.1,x.2.2.1,x.2.2.2.1,x.2.2.2.2.1,x.2.2.2.2.2.1,x.2.2.2.2.2.2.1,x.2.2.2.2.2.2.2.1,x.2.2.2.2.2.2.2.2.1,x.2.2.2.2.2.2.2.2.2.1,x.2.2.2.2.2.2.2.2.2.2.1,⟨x.2.2.2.2.2.2.2.2.2.2.2.1,x.2.2.2.2.2.2.2.2.2.2.2.2.1,x.2.2.2.2.2.2.2.2.2.2.2.2.2.1,x.2.2.2.2.2.2.2.2.2.2.2.2.2.2.1,x.2.2.2.2.2.2.2.2.2.2.2.2.2.2.2.1,x.2.2.2.2.2.2.2.2.2.2.2.2.2.2.2.2.1⟩⟩:Yw),rfl⟩
  · exact ⟨(⟨x.1,x.2.1,x.2.2.1,x.2.2.2.1,x.2.2.2.2.1⟩:Mu),rfl⟩
  · exact ⟨(⟨x.1,x.2.1,x.2.2.1,x.2.2.2.1,x.2.2.2.2.1,x.2.2.2.2.2.1,x.2.2.2.2.2.2.1⟩:DM),rfl⟩
  · exact ⟨(⟨x.1,⟨x.2.1,x.2.2.1,x.2.2.2.1,x.2.2.2.2.1,x.2.2.2.2.2.1,x.2.2.2.2.2.2.1,x.2.2.2.2.2.2.2.1⟩,x.2.2.2.2.2.2.2.2.1⟩:Mv),rfl⟩
  · exact ⟨(⟨x.1,x.2.1,x.2.2.1⟩:Mw),rfl⟩
  · exact ⟨(⟨x.1,x.2.1,x.2.2.1⟩:Mx),rfl⟩
  · exact ⟨(⟨x.1,x.2.1⟩:JO),rfl⟩
  · exact ⟨(⟨⟨x.1,x.2.1⟩,⟨x.2.2.1,x.2.2.2.1⟩⟩:My),rfl⟩
  · exact ⟨(⟨x.1,x.2.1⟩:Mz),rfl⟩
  · exact ⟨(⟨x.1,x.2.1,x.2.2.1,x.2.2.2.1⟩:Yx),rfl⟩
  · exact ⟨(⟨x.1,x.2.1,x.2.2.1⟩:Cg),rfl⟩

def B2 (ls:List eH) (vs:List V):Prop:=∃x,vs=eH.cL ls x

theorem B2.nil:B2 [] []:=⟨(),rfl⟩
theorem B2.one (p:eH) (x:p.den):B2 [p] [p.enc x]:=⟨(x,()),rfl⟩
theorem B2.append:∀ {a b:List eH} {x y:List V},B2 a x→B2 b y→B2 (a++b) (x++y)
  | [],_,_,_,⟨_,rfl⟩,h=>h
  | p::ps,b,_,y,⟨x,rfl⟩,h=>by
    obtain ⟨z,hz⟩:=B2.append (a:=ps) ⟨x.2,rfl⟩ h
    refine ⟨(x.1,z),?_⟩
    show p.enc x.1::(eH.cL ps x.2++y)=p.enc x.1::eH.cL (ps++b) z
    rw[hz]
theorem B2.len:∀ {a:List eH} {x:List V},B2 a x→x.length=a.length
  | [],_,⟨_,rfl⟩=>rfl
  | p::ps,_,⟨x,rfl⟩=>by
    show (p.enc x.1::eH.cL ps x.2).length=_
    simp[B2.len (a:=ps) ⟨x.2,rfl⟩]

inductive Small (N:Nat):V→Prop where
  | int {k:IntKind} {n:Int} (h:k.has n):Small N (.int k n)
  | bool (b:Bool):Small N (.bool b)
  | str {s:ak} (h:s.length≤N):Small N (.str s)
  | sl {T:Ty} {l:List T.den} (h:l.length≤N) (he:∀x∈l,∀v∈T.cells x,Small N v):Small N (.sl T l .no)

theorem Small.le {N M:Nat} (hm:N≤M) {v:V} (h:Small N v):Small M v:=by
  induction h with
  | int h=>exact .int h
  | bool b=>exact .bool b
  | str h=>exact .str (Nat.le_trans h hm)
  | sl h _ ih=>exact .sl (Nat.le_trans h hm) ih

theorem Small.iI {N:Nat} {k:IntKind} {n:Int} (h:Small N (.int k n)):k.has n:=by cases h; assumption
theorem Small.kr {N:Nat} {s:ak} (h:Small N (.str s)):s.length≤N:=by cases h; assumption
def EC (P:Program) (f:TypeId→Option (List eH)):List Field→Nat→Nat→Option (List eH)
  | [],j,tot=>if j=tot then some []else none
  | fd::fs,j,tot =>
    if fd.offset=j then
      match f fd.type with
      | some a=>if a.length=P.cellsOf fd.type then (match EC P f fs (j+a.length) tot with|some b=>some (a++b)|none=>none)else none
      | none=>none
    else none

def xP (f:Option (List eH)) (sz:Nat):Nat→Nat→Nat→Option (List eH)
  | 0,j,tot=>if j=tot then some []else none
  | n+1,j,tot =>
    match f with
    | some a=>if a.length=sz then (match xP (some a) sz n (j+a.length) tot with|some b=>some (a++b)|none=>none)else none
    | none=>none

def mW (P:Program) (tt:dB):Nat→TypeId→Option (List eH)
  | 0,_=>none
  | n+1,t =>
    match P.underlying t with
    | some .bool=>some [.bool]
    | some (.int k)=>some [.int k]
    | some .string=>some [.str]
    | some (.slice e)=>(match (tt.at e).ty with|some T=>if P.cellsOf e=T.sz then some [.sl T]else none|none=>none)
    | some (.struct fs)=>EC P (mW P tt n) fs.toList 0 (P.cellsOf t)
    | some (.array m e)=>xP (mW P tt n e) (P.cellsOf e) m 0 (P.cellsOf t)
    | _=>none

def ED (P:Program) (tt:dB):Prop:=∀t T,(tt.at t).ty=some T→mW P tt 8 t=some T.leaves

def Qi (P:Program) (tt:dB) (t:Nat):Bool :=
  match (tt.at t).ty with
  | some T=>decide (mW P tt 8 t=some T.leaves)
  | none=>true
theorem Uy {P:Program} {tt:dB} (h:(List.range tt.length).all (Qi P tt)=true):ED P tt:=by
  intro t T hT
  by_cases ht:t<tt.length
  · have:=List.all_eq_true.1 h t (by simpa using ht)
    unfold Qi at this
    rw[hT]at this
    exact of_decide_eq_true this
  · have:tt.at t=TI.none:=by unfold dB.at; simp[List.getD,List.getElem?_eq_none (Nat.le_of_not_lt ht)]
    rw[this]at hT
    cases hT

def JT:jZ:=⟨fun _=>none,fun _=>0,⟨fun _ _=>False⟩⟩
theorem free0 (b x:Nat):Fw [] JT b x:=⟨fun ⟨_,_,h,_⟩=>(by cases h),fun h=>h⟩
theorem wf0 (w:World) (hs:oq.Ts w) (hb:∀b,oq.blocks b→b<w.heap.size):WF w [] JT:=⟨fun _ _ _ h=>h,fun _ _ h=>h.elim,fun i h=>(by simp at h),fun i j b _ _ h=>(by cases h),⟨hs,fun b h=>⟨hb b h,fun _ ⟨_,_,g,_⟩=>(by cases g)⟩⟩⟩

section
variable {H:Type} {enc:TypeId × Value→H} {P:Program} {tt:dB} {w:World} {spare:Nat→Bool} {held:Bool}

theorem Uz {d:DataW H} {l:List (DataW H)} (h:d∈l):Rows.uptoBulk d≤Rows.uptoBulkAll l:=by
  induction l with
  | nil=>cases h
  | cons x r ih =>
    simp only[Rows.uptoBulkAll]
    cases List.mem_cons.1 h with
    | inl e=>subst e; omega
    | inr e=>have:=ih e; omega
theorem Hu (d:DataW H):1≤Rows.uptoBulk d:=by
  cases d with
  | lit l=>cases l <;> simp[Rows.uptoBulk]
  | _=>simp[Rows.uptoBulk]
theorem W5 (l:List (DataW H)):l.length≤Rows.uptoBulkAll l:=by
  induction l with
  | nil=>simp[Rows.uptoBulkAll]
  | cons x r ih=>have:=Hu x; simp only[Rows.uptoBulkAll,List.length_cons]; omega

theorem Hv {α β:Type} {f:α→Option β}:∀ {l:List α} {r:List β},l.mapM f=some r→r.length=l.length∧∀(i:Nat) (x:α),l[i]? = some x→∃y,r[i]? = some y∧f x=some y
  | [],r,h=>by simp at h; subst h; exact ⟨rfl,fun i x hx=>by simp at hx⟩
  | a::l,r,h=>by
    simp only[List.mapM_cons,Option.pure_def,Option.bind_eq_bind,Option.bind_eq_some_iff]at h
    obtain ⟨b,hb,bs,hbs,e⟩:=h
    cases e
    obtain ⟨h1,h2⟩:=Hv hbs
    refine ⟨by simp[h1],fun i x hx => ?_⟩
    cases i with
    | zero=>simp at hx; subst hx; exact ⟨b,rfl,hb⟩
    | succ i=>simp at hx; exact h2 i x hx

theorem S3 {α:Type} (Q:Nat→α→Prop):∀k,(∀i,i<k→∃x,Q i x)→∃l:List α,l.length=k∧∀i x,l[i]? = some x→Q i x
  | 0,_=>⟨[],rfl,fun i x h=>by simp at h⟩
  | k+1,h=>by
    obtain ⟨l,h1,h2⟩:=S3 Q k fun i hi=>h i (by omega)
    obtain ⟨y,hy⟩:=h k (by omega)
    refine ⟨l ++ [y],by simp[h1],fun i x hx => ?_⟩
    by_cases hi:i<l.length
    · rw[List.getElem?_append_left hi]at hx; exact h2 i x hx
    · rw[List.getElem?_append_right (by omega)]at hx
      have:i=k:=by
        have:=(List.getElem?_eq_some_iff.1 hx).1
        simp at this; omega
      subst this
      rw[h1]at hx
      simp at hx; subst hx; exact hy

def Reads (w:World) (N:Nat) (ls:List eH) (cs:List Value):Prop:=∃vs,B2 ls vs∧cz w [] JT vs cs∧∀v∈vs,Small N v

theorem Reads.append {N:Nat} {a b:List eH} {x y:List Value} (h:Reads w N a x) (k:Reads w N b y):Reads w N (a++b) (x++y):=by
  obtain ⟨u,h1,h2,h3⟩:=h
  obtain ⟨v,k1,k2,k3⟩:=k
  exact ⟨u++v,h1.append k1,h2.append k2,fun z hz=>(List.mem_append.1 hz).elim (h3 z) (k3 z)⟩
theorem Reads.nil {N:Nat}:Reads w N [] []:=⟨[], .nil, .nil,fun v hv=>by cases hv⟩
theorem Reads.one {N:Nat} {p:eH} {x:p.den} {d:Value} (h:dw w [] JT (p.enc x) d) (s:Small N (p.enc x)):Reads w N [p] [d] :=
  ⟨[p.enc x], .one p x, .cons h .nil,fun v hv=>by simp at hv; subst hv; exact s⟩

theorem GD {base:Nat} {a:Addr} {n:Nat} {cs:List Value} (h:w.cells? base a n=some cs):cs.length=n∧∀j,j<n→∃v,cs[j]? = some v∧w.cell? (a.add j)=some v:=by
  unfold World.cells? at h
  split at h
  · obtain ⟨h1,h2⟩:=Hv h
    exact ⟨by simpa using h1,fun j hj=>h2 j j (by simp[hj])⟩
  · cases h

theorem UA {a:Addr} {v:Value} (h:w.cell? a=some v):a.spot=none:=by
  unfold World.cell? at h
  split at h
  · split at h
    · cases h
    · rename_i hs; cases hq:a.spot <;> simp_all
  · cases h

theorem addr_add {a:Addr} (h:a.spot=none) (x y:Nat):(⟨a.block,a.off+x+y,none⟩:Addr)=(a.add x).add y:=by
  obtain ⟨b,o,s⟩:=a
  cases h
  simp only[Addr.add]
  by_cases hx:x=0 <;> by_cases hy:y=0 <;> simp[hx,hy]

end
end Go.ax

