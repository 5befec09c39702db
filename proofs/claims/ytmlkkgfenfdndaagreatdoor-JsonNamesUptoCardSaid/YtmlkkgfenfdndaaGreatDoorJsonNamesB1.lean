/-
  JsonNames: for every input whose bulk is at most 1048576 the law returns true, and each argument reads behind the call as it read before; part 1 of 8 of the proof: an interpreter of the model's code over typed data, proved sound; the functions that the law reaches, printed as Lean functions and tied; the plain law. Own texts laid one behind the other.
-/
import Derived.Calls
import Derived.Test.YtmlkkgfenfdndaaGreatDoorProg
import Derived.Lib.LaidTab
import Derived.Lib.ItoaNum
import Derived.Shelf.Unicode.DecodeSlow
import Derived.Orders
import Derived.KernelRfl
import Derived.Below
set_option linter.unusedSimpArgs false
set_option linter.unnecessarySimpa false
set_option linter.unusedVariables false
set_option linter.unusedSectionVars false
namespace Go.ax

structure LayT where
  /-- the types of bytes, and of strings.Builder -/
  u8:Nat
  kq:Nat
  /-- functions whose specs leave the objects as they are -/
  soft:Nat→Bool
  blocks:Nat→Prop
  Ts:World→Prop
  keep:∀w w':World,(∀b,blocks b→w'.heap[b]? = w.heap[b]?)→Ts w→Ts w'

def LayT.none:LayT:=⟨5,1000000,fun _=>false,fun _=>False,fun _=>True,fun _ _ _ h=>h⟩
end Go.ax

namespace Go.ax
open Go.Proofs

def NW (w:World):Prop :=
  Go.Lib.Utf8Tabs 1 2 w∧Go.Lib.TabIs Tryz.prog w "internal/strconv.uint64pow10" .u64 Go.Lib.pow10Tab ∧
    (∃t x,w.cell? ⟨4,0,none⟩=some (.iface t x))∧(∃t x,w.cell? ⟨5,0,none⟩=some (.iface t x))

theorem M7:Tryz.prog.globalNamed "internal/strconv.uint64pow10" = some 3:=by kernel_rfl

theorem NX (w w':World) (h:∀b,b<8→w'.heap[b]? = w.heap[b]?) (k:NW w):NW w':=by
  have hc:∀b x,b<8→w'.cell? ⟨b,x,none⟩=w.cell? ⟨b,x,none⟩:=fun b x hb=>by simp only[World.cell?,h b hb]
  obtain ⟨⟨k1,k2⟩,k3,k4,k5⟩:=k
  refine ⟨⟨fun c Ki=>by rw[hc _ _ (by omega)]; exact k1 c Ki,fun i hi=>by rw[hc _ _ (by omega),hc _ _ (by omega)]; exact k2 i hi⟩,?_,by rw[hc _ _ (by omega)]; exact k4,by rw[hc _ _ (by omega)]; exact k5⟩
  unfold Go.Lib.TabIs at k3 ⊢
  rw[←k3]
  simp only[World.var?,M7,Option.bind_some,h 3 (by omega)]

def oq:LayT:=⟨5,73,fun g=>Nat.beq g 39,fun b=>b<8,NW,NX⟩
end Go.ax

namespace Go.ax

abbrev ak:=List UInt8

structure iH where
  aw:Int
  exp:Int

def iH.z:iH:=⟨0,0⟩

structure Json where
  kind:Int
  num:iH
  text:ak
  names:List ak
  items:List Json

def Json.z:Json:=⟨0,iH.z, [], [], []⟩

structure Raw where
  kind:Int
  aw:Int
  exp:Int
  text:List Int
  items:List Raw

def Raw.z:Raw:=⟨0,0,0, [], []⟩

structure Fu where
  kind:Int
  aw:Int
  exp:Int
  text:List Int

def Fu.z:Fu:=⟨0,0,0, []⟩

structure Yv where
  name:ak
  kind:Int
  low:Int
  high:Int
  free:Bool

def Yv.z:Yv:=⟨[],0,0,0,false⟩

structure Mt where
  topic:ak
  data:ak
  bent:Bool

def Mt.z:Mt:=⟨[], [],false⟩

structure Token where
  kind:Int
  text:ak
  num:iH
  at_:Int

def Token.z:Token:=⟨0, [],iH.z,0⟩

structure Stop where
  node:Int
  seq:Int
  yM:Bool

def Stop.z:Stop:=⟨0,0,false⟩

structure Way where
  Io:Int
  seq:Int
  yM:Bool

def Way.z:Way:=⟨0,0,false⟩

structure Order where
  header:Int
  sM:ak
  order:Int
  update:Int
  nodes:List Stop
  Ky:List Way

def Order.z:Order:=⟨0, [],0,0, [], []⟩

structure Edge where
  src:Int
  dst:Int
  cost:Int

def Edge.z:Edge:=⟨0,0,0⟩

structure Cf where
  nodes:Int
  Ky:List Edge

def Cf.z:Cf:=⟨0, []⟩

structure FW where
  ZM:ak
  Vw:ak
  kind:ak

def FW.z:FW:=⟨[], [], []⟩

structure State where
  header:Int
  Vx:Int
  sM:ak
  order:Int
  update:Int
  live:Bool
  node:Int
  seq:Int
  YI:Bool
  accepted:Int

def State.z:State:=⟨0,0, [],0,0,false,0,0,false,0⟩

structure Yw where
  sM:ak
  header:Int
  order:Int
  update:Int
  Vx:Int
  seen:Int
  path:List Int
  seq:Int
  open_:Bool
  rel:Int
  wait:Bool
  pending:Order

def Yw.z:Yw:=⟨[],0,0,0,0,0, [],0,false,0,false,Order.z⟩

structure Mu where
  kind:Int
  i:Int
  k:Int
  by_:Int
  data:ak

def Mu.z:Mu:=⟨0,0,0,0, []⟩

structure DM where
  header:Int
  order:Int
  update:Int
  seq:Int
  from_:Int
  yM:Int
  turns:List Int

def DM.z:DM:=⟨0,0,0,0,0,0, []⟩

structure Mv where
  kind:Int
  o:DM
  data:ak

def Mv.z:Mv:=⟨0,DM.z, []⟩

structure Mw where
  kind:Int
  n:Int
  turns:List Int

def Mw.z:Mw:=⟨0,0, []⟩

structure Mx where
  a:Int
  b:Int
  c:Int

def Mx.z:Mx:=⟨0,0,0⟩

structure JO where
  a:Int
  b:Int

def JO.z:JO:=⟨0,0⟩

structure My where
  a:iH
  b:iH

def My.z:My:=⟨iH.z,iH.z⟩

structure Mz where
  name:ak
  home:Int

def Mz.z:Mz:=⟨[],0⟩

structure Yx where
  id:Int
  target:Int
  state:Int
  sM:Int

def Yx.z:Yx:=⟨0,0,0,0⟩

structure Cg where
  kind:Int
  nums:List Int
  text:ak

def Cg.z:Cg:=⟨0, [], []⟩

inductive Ty where
  | int (k:IntKind)|bool|str
  | YJ|json|raw|NY|ZN|Pm|token|stop|Sz|order|Io|layout|topic|state|ZO|Pn|Jl|Po|Pp|Pq|MA|Pr|post|ZP|record
  deriving DecidableEq

def Ty.den:Ty→Type
  | .int _=>Int | .bool=>Bool | .str=>ak
  | .YJ=>iH
  | .json=>Json
  | .raw=>Raw
  | .NY=>Fu
  | .ZN=>Yv
  | .Pm=>Mt
  | .token=>Token
  | .stop=>Stop
  | .Sz=>Way
  | .order=>Order
  | .Io=>Edge
  | .layout=>Cf
  | .topic=>FW
  | .state=>State
  | .ZO=>Yw
  | .Pn=>Mu
  | .Jl=>DM
  | .Po=>Mv
  | .Pp=>Mw
  | .Pq=>Mx
  | .MA=>JO
  | .Pr=>My
  | .post=>Mz
  | .ZP=>Yx
  | .record=>Cg

def Ty.cg:(T:Ty)→T.den
  | .int _=>(0:Int) | .bool=>false | .str=>([]:ak)
  | .YJ=>iH.z
  | .json=>Json.z
  | .raw=>Raw.z
  | .NY=>Fu.z
  | .ZN=>Yv.z
  | .Pm=>Mt.z
  | .token=>Token.z
  | .stop=>Stop.z
  | .Sz=>Way.z
  | .order=>Order.z
  | .Io=>Edge.z
  | .layout=>Cf.z
  | .topic=>FW.z
  | .state=>State.z
  | .ZO=>Yw.z
  | .Pn=>Mu.z
  | .Jl=>DM.z
  | .Po=>Mv.z
  | .Pp=>Mw.z
  | .Pq=>Mx.z
  | .MA=>JO.z
  | .Pr=>My.z
  | .post=>Mz.z
  | .ZP=>Yx.z
  | .record=>Cg.z

def Ty.sz:Ty→Nat
  | .int _=>1 | .bool=>1 | .str=>1
  | .YJ=>2
  | .json=>6
  | .raw=>5
  | .NY=>4
  | .ZN=>5
  | .Pm=>3
  | .token=>5
  | .stop=>3
  | .Sz=>3
  | .order=>6
  | .Io=>3
  | .layout=>2
  | .topic=>3
  | .state=>10
  | .ZO=>17
  | .Pn=>5
  | .Jl=>7
  | .Po=>9
  | .Pp=>3
  | .Pq=>3
  | .MA=>2
  | .Pr=>4
  | .post=>2
  | .ZP=>4
  | .record=>3


inductive Tok where
  | no|nil|own (id:Nat)

inductive V where
  | undef
  | int (k:IntKind) (n:Int)
  | bool (b:Bool)
  | str (s:ak)
  | eC
  | ptr (id off:Nat)
  | xi (cs:List V)
  | cw
  | sl (T:Ty) (l:List T.den) (t:Tok)
  | Mn (n:Nat) (cs:List V)
  | row (id:Nat) (n:Nat)
  | Ct (id lo n:Nat)
  | sN (id:Nat) (sz:Nat) (i:Nat) (off:Nat)
  | func (f:Nat) (first cap:List V)
  | aS
  | agg (cs:List V)
  | tuple (vs:List V)
  | map (id:Nat)
  | n8
  | cJ
  | iface
  | Em (t:Nat) (k:IntKind) (n:Int)
  | Fv

def V.flat:V→List V
  | .agg cs=>cs
  | v => [v]

def V.one:V→Bool
  | .undef=>false
  | .agg _=>false
  | .tuple _=>false
  | _=>true

def M8 (v:V):Option (List V) :=
  match v with
  | .agg cs=>if cs.all V.one then some cs else none
  | v=>if v.one then some [v]else none

def Ty.cells:(T:Ty)→T.den→List V
  | .int k,(n:Int) => [.int k n]
  | .bool,(b:Bool) => [.bool b]
  | .str,(s:ak) => [.str s]
  | .YJ,(x:iH) => [.int .i64 x.aw, .int .i64 x.exp]
  | .json,(x:Json) => [.int .i64 x.kind, .int .i64 x.num.aw, .int .i64 x.num.exp, .str x.text, .sl .str x.names .no, .sl .json x.items .no]
  | .raw,(x:Raw) => [.int .i64 x.kind, .int .i64 x.aw, .int .i64 x.exp, .sl (.int .i64) x.text .no, .sl .raw x.items .no]
  | .NY,(x:Fu) => [.int .i64 x.kind, .int .i64 x.aw, .int .i64 x.exp, .sl (.int .i64) x.text .no]
  | .ZN,(x:Yv) => [.str x.name, .int .i64 x.kind, .int .i64 x.low, .int .i64 x.high, .bool x.free]
  | .Pm,(x:Mt) => [.str x.topic, .str x.data, .bool x.bent]
  | .token,(x:Token) => [.int .i64 x.kind, .str x.text, .int .i64 x.num.aw, .int .i64 x.num.exp, .int .i64 x.at_]
  | .stop,(x:Stop) => [.int .i64 x.node, .int .i64 x.seq, .bool x.yM]
  | .Sz,(x:Way) => [.int .i64 x.Io, .int .i64 x.seq, .bool x.yM]
  | .order,(x:Order) => [.int .i64 x.header, .str x.sM, .int .i64 x.order, .int .i64 x.update, .sl .stop x.nodes .no, .sl .Sz x.Ky .no]
  | .Io,(x:Edge) => [.int .i64 x.src, .int .i64 x.dst, .int .i64 x.cost]
  | .layout,(x:Cf) => [.int .i64 x.nodes, .sl .Io x.Ky .no]
  | .topic,(x:FW) => [.str x.ZM, .str x.Vw, .str x.kind]
  | .state,(x:State) => [.int .i64 x.header, .int .i64 x.Vx, .str x.sM, .int .i64 x.order, .int .i64 x.update, .bool x.live, .int .i64 x.node, .int .i64 x.seq, .bool x.YI, .int .i64 x.accepted]
  | .ZO,(x:Yw) => [.str x.sM, .int .i64 x.header, .int .i64 x.order, .int .i64 x.update, .int .i64 x.Vx, .int .i64 x.seen, .sl (.int .i64) x.path .no, .int .i64 x.seq, .bool x.open_, .int .i64 x.rel, .bool x.wait, .int .i64 x.pending.header, .str x.pending.sM, .int .i64 x.pending.order, .int .i64 x.pending.update, .sl .stop x.pending.nodes .no, .sl .Sz x.pending.Ky .no]
  | .Pn,(x:Mu) => [.int .i64 x.kind, .int .i64 x.i, .int .i64 x.k, .int .u8 x.by_, .str x.data]
  | .Jl,(x:DM) => [.int .i64 x.header, .int .i64 x.order, .int .i64 x.update, .int .i64 x.seq, .int .i64 x.from_, .int .i64 x.yM, .sl (.int .i64) x.turns .no]
  | .Po,(x:Mv) => [.int .i64 x.kind, .int .i64 x.o.header, .int .i64 x.o.order, .int .i64 x.o.update, .int .i64 x.o.seq, .int .i64 x.o.from_, .int .i64 x.o.yM, .sl (.int .i64) x.o.turns .no, .str x.data]
  | .Pp,(x:Mw) => [.int .i64 x.kind, .int .i64 x.n, .sl (.int .i64) x.turns .no]
  | .Pq,(x:Mx) => [.int .i64 x.a, .int .i64 x.b, .int .i64 x.c]
  | .MA,(x:JO) => [.int .i64 x.a, .int .i64 x.b]
  | .Pr,(x:My) => [.int .i64 x.a.aw, .int .i64 x.a.exp, .int .i64 x.b.aw, .int .i64 x.b.exp]
  | .post,(x:Mz) => [.str x.name, .int .i64 x.home]
  | .ZP,(x:Yx) => [.int .i64 x.id, .int .i64 x.target, .int .i64 x.state, .int .i64 x.sM]
  | .record,(x:Cg) => [.int .i64 x.kind, .sl (.int .i64) x.nums .no, .str x.text]

def Cu (T:Ty):V→Option (List T.den)
  | .cw=>some []
  | .sl T' l _=>if h:T'=T then some (h▸l)else none
  | _=>none

def Kz (k:IntKind):List V→Option Int
  | [.int k' n]=>if k'=k then some n else none
  | _=>none
def G3:List V→Option Bool
  | [.bool b]=>some b
  | _=>none
def KA:List V→Option ak
  | [.str s]=>some s
  | _=>none
def Q3:List V→Option iH
  | [.int .i64 a0, .int .i64 a1]=>some ⟨a0,a1⟩
  | _=>none
def NZ:List V→Option Json
  | [.int .i64 a0, .int .i64 a1, .int .i64 a2, .str a3,a4,a5]=>match Cu .str a4,Cu .json a5 with|some b4,some b5=>some ⟨a0,⟨a1,a2⟩,a3,b4,b5⟩|_,_=>none
  | _=>none
def Q4:List V→Option Raw
  | [.int .i64 a0, .int .i64 a1, .int .i64 a2,a3,a4]=>match Cu (.int .i64) a3,Cu .raw a4 with|some b3,some b4=>some ⟨a0,a1,a2,b3,b4⟩|_,_=>none
  | _=>none
def N0:List V→Option Fu
  | [.int .i64 a0, .int .i64 a1, .int .i64 a2,a3]=>match Cu (.int .i64) a3 with|some b3=>some ⟨a0,a1,a2,b3⟩|_=>none
  | _=>none
def Q5:List V→Option Yv
  | [.str a0, .int .i64 a1, .int .i64 a2, .int .i64 a3, .bool a4]=>some ⟨a0,a1,a2,a3,a4⟩
  | _=>none
def N1:List V→Option Mt
  | [.str a0, .str a1, .bool a2]=>some ⟨a0,a1,a2⟩
  | _=>none
def KB:List V→Option Token
  | [.int .i64 a0, .str a1, .int .i64 a2, .int .i64 a3, .int .i64 a4]=>some ⟨a0,a1,⟨a2,a3⟩,a4⟩
  | _=>none
def N2:List V→Option Stop
  | [.int .i64 a0, .int .i64 a1, .bool a2]=>some ⟨a0,a1,a2⟩
  | _=>none
def Q6:List V→Option Way
  | [.int .i64 a0, .int .i64 a1, .bool a2]=>some ⟨a0,a1,a2⟩
  | _=>none
def KC:List V→Option Order
  | [.int .i64 a0, .str a1, .int .i64 a2, .int .i64 a3,a4,a5]=>match Cu .stop a4,Cu .Sz a5 with|some b4,some b5=>some ⟨a0,a1,a2,a3,b4,b5⟩|_,_=>none
  | _=>none
def N3:List V→Option Edge
  | [.int .i64 a0, .int .i64 a1, .int .i64 a2]=>some ⟨a0,a1,a2⟩
  | _=>none
def Ip:List V→Option Cf
  | [.int .i64 a0,a1]=>match Cu .Io a1 with|some b1=>some ⟨a0,b1⟩|_=>none
  | _=>none
def KD:List V→Option FW
  | [.str a0, .str a1, .str a2]=>some ⟨a0,a1,a2⟩
  | _=>none
def KE:List V→Option State
  | [.int .i64 a0, .int .i64 a1, .str a2, .int .i64 a3, .int .i64 a4, .bool a5, .int .i64 a6, .int .i64 a7, .bool a8, .int .i64 a9]=>some ⟨a0,a1,a2,a3,a4,a5,a6,a7,a8,a9⟩
  | _=>none
def Q7:List V→Option Yw
  | [.str a0, .int .i64 a1, .int .i64 a2, .int .i64 a3, .int .i64 a4, .int .i64 a5,a6, .int .i64 a7, .bool a8, .int .i64 a9, .bool a10, .int .i64 a11, .str a12, .int .i64 a13, .int .i64 a14,a15,a16]=>match Cu (.int .i64) a6,Cu .stop a15,Cu .Sz a16 with|some b6,some b15,some b16=>some ⟨a0,a1,a2,a3,a4,a5,b6,a7,a8,a9,a10,⟨a11,a12,a13,a14,b15,b16⟩⟩|_,_,_=>none
  | _=>none
def N4:List V→Option Mu
  | [.int .i64 a0, .int .i64 a1, .int .i64 a2, .int .u8 a3, .str a4]=>some ⟨a0,a1,a2,a3,a4⟩
  | _=>none
def KF:List V→Option DM
  | [.int .i64 a0, .int .i64 a1, .int .i64 a2, .int .i64 a3, .int .i64 a4, .int .i64 a5,a6]=>match Cu (.int .i64) a6 with|some b6=>some ⟨a0,a1,a2,a3,a4,a5,b6⟩|_=>none
  | _=>none
def N5:List V→Option Mv
  | [.int .i64 a0, .int .i64 a1, .int .i64 a2, .int .i64 a3, .int .i64 a4, .int .i64 a5, .int .i64 a6,a7, .str a8]=>match Cu (.int .i64) a7 with|some b7=>some ⟨a0,⟨a1,a2,a3,a4,a5,a6,b7⟩,a8⟩|_=>none
  | _=>none
def N6:List V→Option Mw
  | [.int .i64 a0, .int .i64 a1,a2]=>match Cu (.int .i64) a2 with|some b2=>some ⟨a0,a1,b2⟩|_=>none
  | _=>none
def N7:List V→Option Mx
  | [.int .i64 a0, .int .i64 a1, .int .i64 a2]=>some ⟨a0,a1,a2⟩
  | _=>none
def N8:List V→Option JO
  | [.int .i64 a0, .int .i64 a1]=>some ⟨a0,a1⟩
  | _=>none
def N9:List V→Option My
  | [.int .i64 a0, .int .i64 a1, .int .i64 a2, .int .i64 a3]=>some ⟨⟨a0,a1⟩,⟨a2,a3⟩⟩
  | _=>none
def Oa:List V→Option Mz
  | [.str a0, .int .i64 a1]=>some ⟨a0,a1⟩
  | _=>none
def Q8:List V→Option Yx
  | [.int .i64 a0, .int .i64 a1, .int .i64 a2, .int .i64 a3]=>some ⟨a0,a1,a2,a3⟩
  | _=>none
def Iq:List V→Option Cg
  | [.int .i64 a0,a1, .str a2]=>match Cu (.int .i64) a1 with|some b1=>some ⟨a0,b1,a2⟩|_=>none
  | _=>none

def Ty.dec:(T:Ty)→List V→Option T.den
  | .int k=>Kz k | .bool=>G3 | .str=>KA
  | .YJ=>Q3
  | .json=>NZ
  | .raw=>Q4
  | .NY=>N0
  | .ZN=>Q5
  | .Pm=>N1
  | .token=>KB
  | .stop=>N2
  | .Sz=>Q6
  | .order=>KC
  | .Io=>N3
  | .layout=>Ip
  | .topic=>KD
  | .state=>KE
  | .ZO=>Q7
  | .Pn=>N4
  | .Jl=>KF
  | .Po=>N5
  | .Pp=>N6
  | .Pq=>N7
  | .MA=>N8
  | .Pr=>N9
  | .post=>Oa
  | .ZP=>Q8
  | .record=>Iq


def Ty.one:Ty→Bool
  | .int _=>true
  | .bool=>true
  | .str=>true
  | _=>false
def Mo (T:Ty) (x:T.den):V:=bif T.one then (T.cells x).headD .undef else .agg (T.cells x)
def Yy (T:Ty):V→Option T.den
  | .agg cs=>bif T.one then none else T.dec cs
  | v=>bif T.one then T.dec [v]else none

def xw:(K:Ty)→K.den→K.den→Bool
  | .str,(a:ak),(b:ak)=>a==b
  | .int _,(a:Int),(b:Int)=>a==b
  | .MA,(a:JO),(b:JO)=>a.a==b.a&&(a.b==b.b&&true)
  | _,_,_=>false
def Kj:Ty→Bool
  | .str=>true
  | .int _=>true
  | .MA=>true
  | _=>false
def nF (K T:Ty) (k:K.den):List (K.den × T.den)→T.den
  | []=>T.cg
  | e::r=>bif xw K k e.1 then e.2 else nF K T k r
def C3 (K T:Ty) (k:K.den):List (K.den × T.den)→Bool
  | []=>false
  | e::r=>bif xw K k e.1 then true else C3 K T k r
def wa (K T:Ty) (k:K.den) (v:T.den):List (K.den × T.den)→List (K.den × T.den)
  | [] => [(k,v)]
  | e::r=>bif xw K k e.1 then (k,v)::r else e::wa K T k v r

inductive bR where
  | free
  | dead
  | cells (cs:List V)
  | row (T:Ty) (l:List T.den)
  | tok
  | iter (s:ak) (pos:Nat)
  /-- a strings.Builder, its buffer -/
  | kq (v:V)
  | uW (K T:Ty) (l:List (K.den × T.den))

abbrev ay:=List bR

structure St where
  fr:List V
  hp:ay

inductive TD where
  | bool|int (k:IntKind)|string|ptr (e:Nat)|slice (e:Nat)|arr (n e:Nat)|map (k e:Nat)|struct (fs:List (Nat × Nat))|func|iface|other

structure TI where
  d:TD
  size:Nat
  bytes:Nat
  zero:List V
  ty:Option Ty
  eq:Bool:=false
  /-- slices of such elements are rows of ours -/
  YK:Bool:=false
  /-- strings.Builder -/
  kq:Bool:=false

abbrev dB:=List TI

def TI.none:TI:=⟨.other,0,0, [], .none,false,false,false⟩
def dB.mode (tt:dB) (rs:List Ty):dB:=tt.map fun i => { i with YK:=match i.ty with|some T=>rs.contains T|none=>false }
def dB.at (tt:dB) (t:Nat):TI:=tt.getD t TI.none
def dB.ok (tt:dB) (t:Nat):Bool:=match (tt.at t).d with | .other=>false|_=>true
def dB.isAgg (tt:dB) (t:Nat):Bool:=match (tt.at t).d with | .struct _=>true | .arr _ _=>true|_=>false

def inK (k:IntKind) (n:Int):Bool:=decide (k.min≤n)&&decide (n≤k.max)

def En:Value→V
  | .bool b => .bool b
  | .int k n=>if inK k n then .int k n else .undef
  | .string s=>if s.size≤9223372036854775807 then .str s.data.toList else .undef
  | .pointer .none => .eC
  | .slice .none 0 0 => .cw
  | .nilFunc => .aS
  | .map .none => .n8
  | .nilIface => .cJ
  | _ => .undef

def ofConst:Value→V
  | .agg cs => .agg (cs.toList.map En)
  | v=>En v

def ev (fr:List V):Operand→V
  | .tmp t=>fr.getD t .undef
  | .const c=>ofConst c
  | .func f => .func f [] []
  | .global _ => .undef

section
variable {R:Type}

def cR (b:Bool) (k:Option R):Option R:=bif b then k else none

def lT:List V→List V→Option Bool
  | [], []=>some true
  | .int k a::x, .int k' b::y=>if k=k' then (match lT x y with|some r=>some (a==b&&r)|none=>none)else none
  | .str a::x, .str b::y=>match lT x y with|some r=>some (a==b&&r)|none=>none
  | .bool a::x, .bool b::y=>match lT x y with|some r=>some (a==b&&r)|none=>none
  | _,_=>none

def eqV (a b:V):Option Bool :=
  match a,b with
  | .bool x, .bool y=>some (x==y)
  | .agg xs, .agg ys=>lT xs ys
  | _,_=>none

def Q9:V→Option Bool
  | .eC=>some true
  | .ptr _ _=>some false
  | .xi _=>some false
  | .sN _ _ _ _=>some false
  | _=>none

def Ob {R:Type} (op:BinOp) (a b:V) (k:V→Option R):Option R :=
  match b with
  | .eC =>
    (match op,Q9 a with
     | .eql,some r=>k (.bool r)
     | .neq,some r=>k (.bool (!r))
     | _,_=>none)
  | _=>none

def DN {R:Type} (a:V) (k:Option Bool→Option R):Option R :=
  match a with
  | .cw=>k (some true)
  | .sl _ l _=>bif l.isEmpty then k none else k (some false)
  | .row _ n=>bif decide (n=0)then k none else k (some false)
  | _=>none

def KG (neg:Bool):Option Bool→V
  | none => .Fv
  | some r => .bool (bif neg then !r else r)

def YL {R:Type} (op:BinOp) (a b:V) (k:V→Option R):Option R :=
  match b with
  | .cw =>
    (match op with
     | .eql=>DN a fun r=>k (KG false r)
     | .neq=>DN a fun r=>k (KG true r)
     | _=>none)
  | _=>none

def ZQ {R:Type} (op:BinOp) (y:Operand) (a b:V) (k:V→Option R):Option R :=
  match y,b,a,op with
  | .const _, .cJ, .cJ, .eql=>k (.bool true)
  | .const _, .cJ, .cJ, .neq=>k (.bool false)
  | .const _, .cJ, .iface, .eql=>k (.bool false)
  | .const _, .cJ, .iface, .neq=>k (.bool true)
  | .const _, .cJ, .Em _ _ _, .eql=>k (.bool false)
  | .const _, .cJ, .Em _ _ _, .neq=>k (.bool true)
  | _,_,_,_=>none

def BS:ak→ak→Bool
  | _, []=>false
  | [],_::_=>true
  | a::x,b::y=>a<b||(a==b&&BS x y)

def xj (op:BinOp) (x y:V) (k:V→Option R):Option R :=
  match op,x,y with
  | .shl, .int i a, .int _ b=>cR (decide (0≤b)) (k (.int i (i.wrap (a*2 ^ (min b.toNat i.bits)))))
  | .shr, .int i a, .int _ b=>cR (decide (0≤b)) (k (.int i (a.fdiv (2 ^ (min b.toNat i.bits)))))
  | op, .int i a, .int j b =>
    if i=j then
      match op with
      | .add=>k (.int i (i.wrap (a+b)))
      | .sub=>k (.int i (i.wrap (a - b)))
      | .mul=>k (.int i (i.wrap (a*b)))
      | .quo=>cR (!decide (b=0)) (k (.int i (i.wrap (a.tdiv b))))
      | .rem=>cR (!decide (b=0)) (k (.int i (a.tmod b)))
      | .and=>k (.int i (i.wrap (BitVec.ofInt i.bits a &&& BitVec.ofInt i.bits b).toNat))
      | .or=>k (.int i (i.wrap (BitVec.ofInt i.bits a ||| BitVec.ofInt i.bits b).toNat))
      | .xor=>k (.int i (i.wrap (BitVec.ofInt i.bits a ^^^ BitVec.ofInt i.bits b).toNat))
      | .eql=>k (.bool (a==b))
      | .neq=>k (.bool (a != b))
      | .lss=>k (.bool (decide (a<b)))
      | .leq=>k (.bool (decide (a≤b)))
      | .gtr=>k (.bool (decide (a>b)))
      | .geq=>k (.bool (decide (a≥b)))
      | _=>none
    else none
  | op, .str a, .str b =>
    match op with
    | .add=>cR (decide (a.length+b.length≤9223372036854775807)) (k (.str (a++b)))
    | .eql=>k (.bool (a==b))
    | .neq=>k (.bool (!(a==b)))
    | .lss=>k (.bool (BS a b))
    | .leq=>k (.bool (BS a b||a==b))
    | .gtr=>k (.bool (!(BS a b||a==b)))
    | .geq=>k (.bool (!(BS a b)))
    | _=>none
  | .eql,a,b=>match eqV a b with|some r=>k (.bool r)|none=>none
  | .neq,a,b=>match eqV a b with|some r=>k (.bool (!r))|none=>none
  | _,_,_=>none

def rA (tt:dB) (t:Nat) (cs:List V) (off:Nat) (k:V→Option R):Option R :=
  if tt.ok t then
    if tt.isAgg t then (if off+(tt.at t).size≤cs.length then k (.agg ((cs.drop off).take (tt.at t).size))else none)
    else (match cs[off]? with|some v=>k v|none=>none)
  else none

def FX (cells:List V):List (Nat × Nat × V)→Option (List V)
  | []=>some cells
  | (off,size,v)::rest =>
    match M8 v with
    | some vs=>if vs.length=size&&off+size≤cells.length then FX (cells.take off++vs++cells.drop (off+size)) rest else none
    | none=>none

def idxOf (i:V) (k:Int→Option R):Option R:=match i with | .int _ n=>k n|_=>none

def Eo (v:Option V) (d:Int) (k:Int→Option R):Option R :=
  match v with
  | none=>k d
  | some (.int _ n)=>k n
  | some _=>none

def fe:List V→List V→Bool
  | [], []=>true
  | .int k _::z, .int k' _::c=>decide (k=k')&&fe z c
  | .str _::z, .str _::c=>fe z c
  | .bool _::z, .bool _::c=>fe z c
  | _,_=>false

def Oc (i:TI) (a b:List V):Bool:=i.eq&&fe i.zero a&&fe i.zero b

def Yz (tt:dB) (o:Op) (ρ:Operand→V) (k:V→Option R):Option R :=
  match o with
  | .move x=>k (ρ x)
  | .assign x=>k (ρ x)
  | .pick c a b =>
    match ρ c with
    | .bool t =>
      (match ρ a,ρ b with
       | .bool u, .bool v=>k (.bool (bif t then u else v))
       | u,v=>bif t then k u else k v)
    | _=>none
  | .nilCheck x =>
    match ρ x with
    | .ptr i o=>k (.ptr i o)
    | .xi cs=>k (.xi cs)
    | .sN i n j o=>k (.sN i n j o)
    | .func f a b=>k (.func f a b)
    | _=>none
  | .binOp op t x y _ =>
    match ρ x,ρ y with
    | .agg a, .agg b=>if Oc (tt.at t) a b then xj op (.agg a) (.agg b) k else none
    | .bool a, .bool b=>(match (tt.at t).d with | .bool=>xj op (.bool a) (.bool b) k|_=>none)
    | .int i a, .int j b=>xj op (.int i a) (.int j b) k
    | .str a, .str b=>xj op (.str a) (.str b) k
    | a,b=>(match (tt.at t).d with | .ptr _=>Ob op a b k | .slice _=>YL op a b k | .iface=>ZQ op y a b k|_=>none)
  | .unOp op _ x =>
    match op,ρ x with
    | .neg, .int i n=>k (.int i (i.wrap (0 - n)))
    | .not, .bool b=>k (.bool (!b))
    | _,_=>none
  | .convert s d x =>
    if !tt.ok s then none else
    match (tt.at d).d,ρ x with
    | .int i, .int _ n=>k (.int i (i.wrap n))
    | .string, .str t=>(match (tt.at s).d with | .string=>k (.str t)|_=>none)
    | _,_=>none
  | .makeInterface t x =>
    match (tt.at t).d,ρ x with
    | .int _, .int i n=>k (.Em t i n)
    | _,_=>none
  | .fieldAddr s x f =>
    match (tt.at s).d with
    | .struct fs =>
      (match fs[f]? with
       | some (off,t) =>
         if (tt.at t).size=0 || !tt.ok t then none else
         (match ρ x with
          | .ptr i o=>k (.ptr i (o+off))
          | .xi cs=>k (.xi (cs.drop off))
          | .sN i n j o=>k (.sN i n j (o+off))
          | _=>none)
       | none=>none)
    | _=>none
  | .field s x f =>
    match (tt.at s).d,ρ x with
    | .struct fs, .agg cs=>(match fs[f]? with|some (off,t)=>rA tt t cs off k|none=>none)
    | _,_=>none
  | .indexAddr t x i =>
    idxOf (ρ i) fun n =>
    match (tt.at t).d,ρ x with
    | .slice e, .sl T l _=>if T.sz=(tt.at e).size&&tt.ok e then cR (decide (0≤n)&&decide (n<l.length)) (k (.xi (T.cells (l.getD n.toNat T.cg))))else none
    | .slice e, .row id m=>if tt.ok e then cR (decide (0≤n)&&decide (n<m)) (k (.sN id (tt.at e).size n.toNat 0))else none
    | .arr m e, .ptr id o=>if tt.ok e then cR (decide (0≤n)&&decide (n<m)) (k (.ptr id (o+n.toNat*(tt.at e).size)))else none
    | _,_=>none
  | .index t x i =>
    idxOf (ρ i) fun n =>
    match (tt.at t).d,ρ x with
    | .string, .str s=>cR (decide (0≤n)&&decide (n<s.length)) (k (.int .u8 (s.getD n.toNat 0).toNat))
    | .arr m e, .agg cs=>cR (decide (0≤n)&&decide (n<m)) (rA tt e cs (n.toNat*(tt.at e).size) k)
    | _,_=>none
  | .slice t x lo hi mx =>
    match mx with
    | some _=>none
    | none =>
      (match (tt.at t).d,ρ x with
       | .string, .str s =>
         Eo (hi.map ρ) s.length fun h=>Eo (lo.map ρ) 0 fun l =>
         cR (decide (0≤h)&&decide (h≤s.length)) (cR (decide (0≤l)&&decide (l≤h)) (k (.str ((s.drop l.toNat).take (h.toNat - l.toNat)))))
       | .slice e, .sl T s _ =>
         if T.sz=(tt.at e).size&&tt.ok e then
         Eo (lo.map ρ) 0 fun l =>
         (match hi with
          | none=>cR (decide (0≤l)&&decide (l≤s.length)) (k (.sl T (s.drop l.toNat) .no))
          | some hi =>
            Eo (some (ρ hi)) 0 fun h =>
            cR (decide (0≤h)&&decide (h≤s.length)) (cR (decide (0≤l)&&decide (l≤h)) (k (.sl T ((s.drop l.toNat).take (h.toNat - l.toNat)) .no))))
         else none
       | .slice e, .cw =>
         if !tt.ok e then none else
         Eo (hi.map ρ) 0 fun h=>Eo (lo.map ρ) 0 fun l=>cR (decide (h=0)&&decide (l=0)) (k .cw)
       | _,_=>none)
  | .makeFunc (.func f) first cap=>k (.func f (first.toList.map ρ) (cap.toList.map ρ))
  | .extract t i=>match ρ t with | .tuple vs=>(match vs[i]? with|some v=>k v|none=>none)|_=>none
  | .build t parts =>
    match (tt.at t).d with
    | .struct fs =>
      if !fs.all (fun f=>tt.ok f.2) || !tt.ok t||decide (1000000≤(tt.at t).zero.length)then none else
      (match FX (tt.at t).zero (parts.toList.map fun (i,x)=>((fs.getD i (0,0)).1,if i<fs.length then (tt.at (fs.getD i (0,0)).2).size else 1000000,ρ x))with
       | some cs=>k (.agg cs)|none=>none)
    | .arr _ e =>
      if !tt.ok e || !tt.ok t||decide (1000000≤(tt.at t).zero.length)then none else
      (match FX (tt.at t).zero (parts.toList.map fun (i,x)=>(i*(tt.at e).size,(tt.at e).size,ρ x))with
       | some cs=>k (.agg cs)|none=>none)
    | _=>none
  | .call c =>
    match c.callee,c.args.toList with
    | .builtin .len, [x] =>
      (match c.argTypes.toList with
       | [t] =>
         (match (tt.at t).d,ρ x with
          | .string, .str s=>k (.int .i64 s.length)
          | .slice _, .sl _ l _=>k (.int .i64 l.length)
          | .slice _, .Mn n _=>k (.int .i64 n)
          | .slice _, .row _ n=>k (.int .i64 n)
          | .slice _, .cw=>k (.int .i64 0)
          | _,_=>none)
       | _=>none)
    | .builtin .min, [x,y]=>(match ρ x,ρ y with | .int i a, .int j b=>if i=j then k (.int i (min a b))else none|_,_=>none)
    | .builtin .max, [x,y]=>(match ρ x,ρ y with | .int i a, .int j b=>if i=j then k (.int i (max a b))else none|_,_=>none)
    | _,_=>none
  | _=>none

end

def ay.at (h:ay) (i:Nat):bR:=h.getD i .dead

def Tok.pn (ρ:Nat→Option Nat):Tok→Tok
  | .own i=>match ρ i with|some j => .own j|none => .no
  | t=>t

mutual
def V.pn (ρ:Nat→Option Nat):V→V
  | .ptr i o=>match ρ i with|some j => .ptr j o|none => .undef
  | .sl T l t => .sl T l (t.pn ρ)
  | .row i n=>match ρ i with|some j => .row j n|none => .undef
  | .Ct i q n=>match ρ i with|some j => .Ct j q n|none => .undef
  | .sN i n k o=>match ρ i with|some j => .sN j n k o|none => .undef
  | .map i=>match ρ i with|some j => .map j|none => .undef
  | .func f a b => .func f (V.xD ρ a) (V.xD ρ b)
  | .agg cs => .agg (V.xD ρ cs)
  | .tuple vs => .tuple (V.xD ρ vs)
  | .xi cs => .xi (V.xD ρ cs)
  | .Mn n cs => .Mn n (V.xD ρ cs)
  | v=>v
def V.xD (ρ:Nat→Option Nat):List V→List V
  | [] => []
  | v::vs=>v.pn ρ::V.xD ρ vs
end

def bR.pn (ρ:Nat→Option Nat):bR→bR
  | .cells cs => .cells (V.xD ρ cs)
  | .kq v => .kq (v.pn ρ)
  | o=>o

mutual
def V.ids:V→List Nat
  | .ptr i _ => [i]
  | .sl _ _ (.own i) => [i]
  | .row i _ => [i]
  | .Ct i _ _ => [i]
  | .sN i _ _ _ => [i]
  | .map i => [i]
  | .func _ a b=>V.sc a++V.sc b
  | .agg cs=>V.sc cs
  | .tuple vs=>V.sc vs
  | .xi cs=>V.sc cs
  | .Mn _ cs=>V.sc cs
  | _ => []
def V.sc:List V→List Nat
  | [] => []
  | v::vs=>v.ids++V.sc vs
end

def bR.ids:bR→List Nat
  | .cells cs=>V.sc cs
  | .kq v=>v.ids
  | _ => []

def reach (h:ay):Nat→List Nat→List Nat→List Nat
  | 0,_,seen=>seen
  | _+1, [],seen=>seen
  | n+1,i::todo,seen=>if seen.contains i then reach h n todo seen else reach h n (todo++(h.at i).ids) (seen ++ [i])

def xx (ord:List Nat) (i:Nat):Option Nat:=let p:=ord.idxOf i; if p<ord.length then some p else none

def ay.pick (h:ay) (ord:List Nat):ay:=ord.map fun i=>(h.at i).pn (xx ord)

def oP (ord:List Nat) (n:Nat) (j:Nat):Nat:=if j<ord.length then ord.getD j 0 else n+(j - ord.length)
def ay.zk (h:ay):List (Nat × bR)→ay
  | []=>h
  | (i,o)::r=>ay.zk (h.set i o) r
def ay.back (h:ay) (ord:List Nat) (h':ay):ay :=
  let ρ:=fun j=>some (oP ord h.length j)
  ay.zk h (ord.zip ((h'.take ord.length).map (bR.pn ρ)))++(h'.drop ord.length).map (bR.pn ρ)

section
variable {R:Type}

abbrev Spec (R:Type):=List V→ay→(V→ay→Option R)→Option R

def n9 (l:List Int):ak:=l.flatMap fun n=>(Utf8.encode n).data.toList

def wc (tt:dB) (t:Nat):Ty→Bool
  | .str=>(match (tt.at t).d with | .string=>true|_=>false)
  | .int k=>(match (tt.at t).d with | .int k'=>decide (k'=k)|_=>false)
  | _=>false
def zm (tt:dB) (t:Nat):Ty→Bool
  | .bool=>(match (tt.at t).d,(tt.at t).zero with | .bool, [.bool false]=>true|_,_=>false)
  | .int k=>(match (tt.at t).d,(tt.at t).zero with | .int _, [.int k' 0]=>decide (k'=k)|_,_=>false)
  | _=>false

def DO (lim:Option Nat) (i:Nat):Bool:=match lim with|none=>true|some m=>decide (i<m)

def Tt (tt:dB) (o:Op) (ρ:Operand→V) (h:ay) (lim:Option Nat) (k:V→Option R):Option R :=
  match o with
  | .load t x =>
    match ρ x with
    | .ptr i o =>
      if DO lim i then
        match h.at i with
        | .cells cs=>rA tt t cs o k
        | .kq v=>rA tt t [.undef,v] o k
        | _=>none
      else none
    | .xi cs=>rA tt t cs 0 k
    | .sN i sz j o =>
      if DO lim i then
        match h.at i with
        | .row T l=>if sz=T.sz then cR (decide (j<l.length)) (rA tt t (T.cells (l.getD j T.cg)) o k)else none
        | _=>none
      else none
    | _=>none
  | .lookup t x ix ok =>
    match (tt.at t).d,ρ x with
    | .map kt vt, .map i =>
      if DO lim i then
        match h.at i with
        | .uW K T l =>
          if wc tt kt K&&zm tt vt T then
            match Yy K (ρ ix)with
            | some kx=>bif ok then k (.tuple [Mo T (nF K T kx l), .bool (C3 K T kx l)])else k (Mo T (nF K T kx l))
            | none=>none
          else none
        | _=>none
      else none
    | _,_=>none
  | .convert s d x =>
    match (tt.at d).d,(tt.at s).d,ρ x with
    | .string, .slice e, .row i _ =>
      if DO lim i then
        match (tt.at e).d,h.at i with
        | .int .u8, .row (.int .u8) l=>k (.str ((l:List Int).map fun n=>UInt8.ofNat n.toNat))
        | _,_=>none
      else none
    | .string, .slice e, .sl T l _ =>
      match (tt.at e).d,T,l with
      | .int .u8, .int .u8,l=>k (.str ((l:List Int).map fun n=>UInt8.ofNat n.toNat))
      | .int .i32, .int .i32,l=>cR (decide (4*l.length≤9223372036854775807)) (k (.str (n9 l)))
      | _,_,_=>none
    | .string, .slice e, .cw=>match (tt.at e).d with | .int .u8=>k (.str [])|_=>none
    | _,_,_=>none
  | _=>none

def Gj (s:ak):List (Ty.den (.int .u8)):=(s.map fun b=>(b.toNat:Int):List Int)

def wg (T:Ty):List (List V)→Option (List T.den)
  | []=>some []
  | c::cs=>match T.dec c,wg T cs with|some x,some xs=>some (x::xs)|_,_=>none

def chunks (n:Nat):Nat→List V→List (List V)
  | 0,_ => []
  | m+1,l=>l.take n::chunks n m (l.drop n)

def Cv (ρ:Operand→V):Option Operand→Bool
  | none=>true
  | some x=>(match ρ x with | .int _ _=>true|_=>false)

def Vi (tt:dB) (o:Op) (ρ:Operand→V) (k:bR→(Nat→V)→Option R):Option R :=
  match o with
  | .alloc t=>if (tt.at t).kq then k (.kq .cw) fun i => .ptr i 0 else if tt.ok t then k (.cells (tt.at t).zero) fun i => .ptr i 0 else none
  | .box t x=>match M8 (ρ x)with|some cs=>if tt.ok t&&decide (cs.length=(tt.at t).size)then k (.cells cs) fun i => .ptr i 0 else none|none=>none
  | .buildSlice t len parts =>
    match (tt.at t).d with
    | .slice e =>
      let sz:=(tt.at e).size
      if sz=0||decide (len*sz>4096) || !tt.ok e then none else
      (match FX ((List.replicate len (tt.at e).zero).flatten) (parts.toList.map fun (i,x)=>(i*sz,sz,ρ x)),(tt.at e).ty with
       | some cs,some T =>
         if T.sz=sz then
           if ((tt.at e).YK&&decide (len=0))=true then k (.row T []) fun i => .row i 0 else
           (match wg T (chunks sz len cs)with|some l=>k .tok fun i => .sl T l (.own i)|none=>k .dead fun _ => .Mn len cs)
         else none
       | some cs,none=>k .dead fun _ => .Mn len cs
       | none,_=>none)
    | _=>none
  | .makeSlice t n c =>
    match (tt.at t).d,ρ n,ρ c with
    | .slice e, .int _ a, .int _ b =>
      (match (tt.at e).ty with
       | some T =>
         (match T.dec (tt.at e).zero with
          | some z=>if T.sz=(tt.at e).size&&tt.ok e then cR (decide (0≤a)&&decide (a=b)&&decide (a*(tt.at e).bytes≤140737488355328)&&decide (a≤140737488355328)) (k (.row T (List.replicate a.toNat z)) fun i => .row i a.toNat)else none
          | none=>none)
       | none=>none)
    | _,_,_=>none
  | .convert s d x =>
    match (tt.at s).d,(tt.at d).d,ρ x with
    | .string, .slice e, .str t =>
      (match (tt.at e).d with
       | .int .u8=>k (.row (.int .u8) (Gj t)) fun i => .row i t.length
       | _=>none)
    | _,_,_=>none
  | .makeMap t ZR =>
    if Cv ρ ZR then
    match (tt.at t).d with
    | .map kt vt =>
      (match (tt.at kt).ty,(tt.at vt).ty with
       | some K,some T=>if wc tt kt K&&zm tt vt T then k (.uW K T []) fun i => .map i else none
       | _,_=>none)
    | _=>none
    else none
  | .range t x=>match (tt.at t).d,ρ x with | .string, .str s=>k (.iter s 0) fun i => .ptr i 0|_,_=>none
  | _=>none

def zn (cs:List V) (o:Nat) (vs:List V):List V:=cs.take o++vs++cs.drop (o+vs.length)

def Jm (T:Ty) (h:ay):V→Option (List T.den)
  | .cw=>some []
  | .sl T' l _=>if e:T'=T then some (e▸l)else none
  | .row i _=>match h.at i with | .row T' l=>if e:T'=T then some (e▸l)else none|_=>none
  | .Mn n cs=>if cs.length=n*T.sz then wg T (chunks T.sz n cs)else none
  | .str s=>if e:T = .int .u8 then some (e▸Gj s)else none
  | _=>none

def nT (tt:dB) (e:Nat) (s x:V) (h:ay) (id:Nat) (k:V→ay→Option R):Option R :=
  match (tt.at e).ty with
  | some T =>
    if T.sz=(tt.at e).size&&(tt.at e).bytes != 0&&tt.ok e then
    (match Jm T h x with
     | some m =>
       let room (n:Nat) (q:Option R):Option R:=cR (decide ((n+m.length)*(tt.at e).bytes≤140737488355328)) q
       (match s with
        | .cw=>room 0 (if (tt.at e).YK then k (.row id m.length) (h.set id (.row T m))else k (.sl T m (.own id)) (h.set id .tok))
        | .sl T' l tk =>
          if q:T'=T then
            let l':List T.den:=q▸l
            (match tk with
             | .no=>none
             | .nil=>room l.length (k (.sl T (l'++m) (.own id)) (h.set id .tok))
             | .own i=>(match h.at i with | .tok=>room l.length (k (.sl T (l'++m) (.own id)) ((h.set i .dead).set id .tok))|_=>none))
          else none
        | .row i _ =>
          (match h.at i with
           | .row T' l =>
             if q:T'=T then
               let l':List T.den:=q▸l
               room l.length (k (.row id (l'.length+m.length)) ((h.set i .dead).set id (.row T (l'++m))))
             else none
           | _=>none)
        | _=>none)
     | none=>none)
    else none
  | none=>none

def mi (s:ak) (pos:Nat):Nat × Nat:=Utf8.decode ⟨s.toArray⟩ pos

def Kk (tt:dB) (o:Op) (ρ:Operand→V) (h:ay) (id:Nat) (k:V→ay→Option R):Option R :=
  match o with
  | .store t x y =>
    match M8 (ρ y)with
    | none=>none
    | some vs =>
    if tt.ok t&&decide (vs.length=(tt.at t).size)then
      match ρ x with
      | .ptr i o =>
        (match h.at i with
         | .cells cs=>if o+vs.length≤cs.length then k .undef (h.set i (.cells (zn cs o vs)))else none
         | .kq _=>(match o,vs with|1, [v]=>k .undef (h.set i (.kq v))|_,_=>none)
         | _=>none)
      | .sN i sz j o =>
        (match h.at i with
         | .row T l =>
           if sz=T.sz then
           let cs:=T.cells (l.getD j T.cg)
           if o+vs.length≤cs.length then
             (match T.dec (zn cs o vs)with
              | some y=>cR (decide (j<l.length)) (k .undef (h.set i (.row T (l.set j y))))
              | none=>none)
           else none
           else none
         | _=>none)
      | _=>none
    else none
  | .call c =>
    match c.callee,c.args.toList,c.argTypes.toList with
    | .builtin .append, [s,x], [t,xt] =>
      (match (tt.at t).d,(tt.at xt).d with
       | .slice e, .slice _=>nT tt e (ρ s) (ρ x) h id k
       | .slice e, .string=>nT tt e (ρ s) (ρ x) h id k
       | _,_=>none)
    | _,_,_=>none
  | .mapUpdate t m x y =>
    match (tt.at t).d,ρ m with
    | .map kt vt, .map i =>
      (match h.at i with
       | .uW K T l =>
         if wc tt kt K&&zm tt vt T then
           match Yy K (ρ x),Yy T (ρ y)with
           | some kx,some vx=>k .undef (h.set i (.uW K T (wa K T kx vx l)))
           | _,_=>none
         else none
       | _=>none)
    | _,_=>none
  | .insert t m x y =>
    match (tt.at t).d,ρ m with
    | .map kt vt, .map i =>
      (match h.at i with
       | .uW K T l =>
         if wc tt kt K&&zm tt vt T then
           match Yy K (ρ x),Yy T (ρ y)with
           | some kx,some vx=>k .undef (h.set i (.uW K T (wa K T kx vx l)))
           | _,_=>none
         else none
       | _=>none)
    | _,_=>none
  | .next x str =>
    match str,ρ x with
    | true, .ptr i 0 =>
      (match h.at i with
       | .iter s pos=>bif decide (pos<s.length)then k (.tuple [.bool true, .int .i64 pos, .int .i32 (mi s pos).1]) (h.set i (.iter s (pos+(mi s pos).2)))else k (.tuple [.bool false]) h
       | _=>none)
    | _,_=>none
  | _=>none

mutual
def V.shut (h:ay):V→V
  | .sl T l _ => .sl T l .no
  | .row i _=>match h.at i with | .row T l => .sl T l .no|_ => .undef
  | .agg cs => .agg (V.Jn h cs)
  | .tuple vs => .tuple (V.Jn h vs)
  | v=>v
def V.Jn (h:ay):List V→List V
  | [] => []
  | v::vs=>v.shut h::V.Jn h vs
end

def V.M9:V→Bool
  | .int _ _ | .bool _ | .str _ | .eC | .cw | .n8 | .aS | .cJ | .iface | .Em _ _ _=>true
  | _=>false
def V.Tu:V→Bool
  | .tuple vs=>vs.all V.M9
  | .agg vs=>vs.all V.M9
  | v=>v.M9

inductive Cls where
  | P|R|A|W|C|F|X
  deriving DecidableEq

def fj (tt:dB):Op→Cls
  | .move _ | .assign _ | .pick _ _ _ | .nilCheck _ | .binOp _ _ _ _ _ | .unOp _ _ _ | .fieldAddr _ _ _ | .field _ _ _ | .indexAddr _ _ _ | .index _ _ _
  | .slice _ _ _ _ _ | .makeFunc _ _ _ | .extract _ _ | .build _ _ | .makeInterface _ _ => .P
  | .convert s d _ =>
    match (tt.at s).d,(tt.at d).d with
    | .slice _, .string => .R
    | .string, .slice _ => .A
    | _,_ => .P
  | .load _ _ => .R
  | .lookup _ _ _ _ => .R
  | .alloc _ | .box _ _ | .buildSlice _ _ _ | .makeSlice _ _ _ | .range _ _ | .makeMap _ _ => .A
  | .store _ _ _ => .W
  | .mapUpdate _ _ _ _ => .W
  | .insert _ _ _ _ => .W
  | .next _ str=>bif str then .W else .X
  | .call c=>match c.callee with
    | .builtin .len => .P | .builtin .min => .P | .builtin .max => .P
    | .builtin .append => .W
    | .builtin _ => .X
    | .value _ => .C
    | .invoke _ _ => .X
  | _ => .X

def mj (fr:List V) (dst:Option Nat) (v:V):List V:=match dst with|some d=>fr.set d v|none=>fr

def KH:V→V
  | .sl T l _ => .sl T l .no
  | v=>v

def C4:V→V
  | .sl T l _ => .sl T l .no
  | .agg cs => .agg (cs.map KH)
  | v=>v

abbrev Env (R:Type):=Nat→Option (Bool × Spec R)

def nU (E:Env R) (o:Op):Bool :=
  match o with
  | .call c=>(match c.callee with | .value (.func g)=>(match E g with|some (b,_)=>b|none=>false) | .value (.tmp _)=>true|_=>false)
  | _=>false

def ml (E:Env R) (o:Op):Bool :=
  match o with
  | .call c=>(match c.callee with | .value (.func g)=>oq.soft g&&(match E g with|some (false,_)=>true|_=>false)|_=>false)
  | _=>false

def o4:Op→Bool
  | .call c=>(match c.callee with | .builtin .append=>true|_=>false)
  | _=>false

def Ra (id:Nat):V→Bool | .row _ _=>false | .sl _ _ (.own i)=>decide (i<id)|_=>true
def YM (id:Nat):V→Bool | .row i _=>decide (i<id)|_=>true
def uX (o:Op) (ρ:Operand→V) (id:Nat):Bool :=
  match o with
  | .call c=>(match c.args.toList with | [s,x]=>Ra id (ρ s)&&YM id (ρ x)|_=>true)
  | _=>true

def dU (tt:dB) (E:Env R) (o:Op):Cls:=match fj tt o with | .C=>bif nU E o then .C else .F|c=>c

def canon (tt:dB) (t:Nat) (v:V):V :=
  match (tt.at t).ty with
  | some T =>
    (match v with
     | .agg cs=>(match T.dec cs with|some x=>if tt.isAgg t then .agg (T.cells x)else v|none=>v)
     | v=>(match T.dec [v]with|some x=>if tt.isAgg t then v else (match T.cells x with | [c]=>c|_=>v)|none=>v))
  | none =>
    (match (tt.at t).d with
     | .slice e=>(match (tt.at e).ty with|some T=>(match Cu T v with|some l => .sl T l .no|none=>v)|none=>v)
     | _=>v)

def Gk (tt:dB):List Nat→List V→List V
  | t::ts,v::vs=>canon tt t v::Gk tt ts vs
  | _,vs=>vs

def Vy (sp:Spec R) (vs:List V) (h:ay) (k:V→ay→Option R):Option R :=
  match V.sc vs with
  | []=>sp vs [] fun v h'=>(match h' with | []=>bif v.Tu then k v h else none|_::_=>none)
  | _::_=>none

def xy (tt:dB) (E:Env R) (full:Bool) (c:Call) (ρ:Operand→V) (h:ay) (k:V→ay→Option R):Option R :=
  match c.callee with
  | .value f =>
    match ρ f with
    | .func g first cap =>
      let vs:=first++c.args.toList.map ρ++cap
      (match E g with
       | some (true,sp) =>
         let ps:=(first++Gk tt c.argTypes.toList (c.args.toList.map ρ)++cap).map C4
         (match V.sc ps with
          | []=>sp ps [] fun v h'=>(match h' with | []=>k v h|_::_=>none)
          | _::_=>bif full then Vy sp (V.Jn h ps) h k else none)
       | some (false,sp) =>
         bif full then
           bif oq.soft g then sp vs h k else
           let ord:=reach h 64 (V.sc vs) []
           sp (V.xD (xx ord) vs) (h.pick ord) fun v h'=>k (v.pn fun j=>some (oP ord h.length j)) (h.back ord h')
         else none
       | none=>none)
    | _=>none
  | _=>none

def yN (tt:dB) (E:Env R) (drawn:Option Nat) (id:Nat) (o:Oper) (st:St) (k:St→Option R):Option R :=
  let ρ:=ev st.fr
  match fj tt o.op with
  | .P=>Yz tt o.op ρ fun v=>k ⟨mj st.fr o.dst v,st.hp⟩
  | .R=>Tt tt o.op ρ st.hp drawn fun v=>k ⟨mj st.fr o.dst v,st.hp⟩
  | .A=>Vi tt o.op ρ fun ob mk=>k ⟨mj st.fr o.dst (mk id),st.hp.set id ob⟩
  | .W=>bif drawn.isSome && !uX o.op ρ id then none else Kk tt o.op ρ st.hp id fun v h=>k ⟨mj st.fr o.dst v,h⟩
  | .C=>match o.op with | .call c=>xy tt E (drawn.isNone || !nU E o.op) c ρ st.hp fun v h=>k ⟨mj st.fr o.dst v,h⟩|_=>none
  | .F=>none
  | .X=>none

def bZ (tt:dB) (o:Oper):Bool:=match fj tt o.op with | .A=>true | .W=>true|_=>false

def uY (all:List Oper) (o:Oper) (st:St) (run skip:St→Option R):Option R :=
  match o.guard with
  | none=>run st
  | some (j,want) =>
    match ((all[j]?).bind (·.dst))with
    | none=>none
    | some d =>
      match st.fr.getD d .undef with
      | .bool b =>
        bif b then (if want then run ⟨st.fr.set d (.bool true),st.hp⟩else skip ⟨st.fr.set d (.bool true),st.hp⟩)
        else (if want then skip ⟨st.fr.set d (.bool false),st.hp⟩else run ⟨st.fr.set d (.bool false),st.hp⟩)
      | .tuple []=>skip st
      | _=>none

noncomputable def KI {α β:Type} (l:List α) (k:List α→β):β :=
  List.rec (motive:=fun _=>(List α→β)→β) (fun k=>k []) (fun v _ ih k=>ih fun r=>k (v::r)) l k
theorem Cw {α β:Type}:∀(l:List α) (k:List α→β),KI l k=k l
  | [],_=>rfl
  | v::l,k=>Cw l fun r=>k (v::r)
noncomputable def Fb {β:Type} (st:St) (k:St→β):β:=KI st.fr fun fr=>KI st.hp fun hp=>k ⟨fr,hp⟩
theorem C5 {β:Type} (st:St) (k:St→β):Fb st k=k st:=by unfold Fb; rw[Cw,Cw]

noncomputable def KJ (tt:dB) (E:Env R) (drawn:Option Nat) (all:List Oper):List Oper→Nat→St→(St→Option R)→Option R
  | [],_,st,k=>k st
  | o::rest,id,st,k =>
    let ZS:=if bZ tt o then id+1 else id
    uY all o st (fun st=>yN tt E drawn id o st fun st=>Fb st fun st=>KJ tt E drawn all rest ZS st k)
      (fun st=>Fb ⟨mj st.fr o.dst (.tuple []),st.hp⟩ fun st=>KJ tt E drawn all rest ZS st k)

def Kl (M:List Nat) (es:List Nat):Nat:=es.foldl (fun m e=>m ||| (Nat.pow 2 e ||| M.getD e 0)) 0

def C6 (o:Oper):List Nat:=(o.after.toList.filter fun e=>Region.binds .any e).map (·.on)

def G4 (ops:List Oper):List Nat:=ops.foldl (init := []) fun M o=>M ++ [Kl M (C6 o)]
def beforeL (n:Nat) (M:List Nat):List (List Nat):=(List.range n).map fun j=>(List.range n).filter fun i=>(M.getD j 0).testBit i

def looks (all:List Oper) (o:Oper):List Nat :=
  (o.op.operands.toList.filterMap fun | .tmp t=>some t|_=>none) ++
  (match o.guard with|some (g,_)=>((all[g]?).bind (·.dst)).toList|none => [])

def xE (all:List Oper) (x y:Oper):Bool :=
  (match x.dst with|some d => !(looks all y).contains d&&y.dst != some d|none=>true) &&
  (match y.dst with|some d => !(looks all x).contains d|none=>true)

def FY (a b:Cls):Bool :=
  match a,b with
  | .X,_|_, .X=>false
  | .P,_|_, .P=>true
  | .C, .R | .C, .A | .R, .C | .A, .C=>true
  | .R, .R | .R, .A | .A, .R | .A, .A=>true
  | _,_=>false

def tokPair (tt:dB) (E:Env R) (x y:Op):Bool :=
  ((o4 x&&(match dU tt E y with | .A | .R=>true|_=>false))||((match dU tt E x with | .R=>true|_=>false)&&o4 y)) ||
    ((ml E x&&(match dU tt E y with | .R=>true|_=>false))||((match dU tt E x with | .R=>true|_=>false)&&ml E y))

def Ir (tt:dB) (E:Env R) (all:List Oper) (x y:Oper):Bool:=(FY (dU tt E x.op) (dU tt E y.op)||tokPair tt E x.op y.op)&&xE all x y

def Vj (tt:dB) (E:Env R) (o:Op):Bool:=match dU tt E o with | .F=>true|_=>false
def Tv (tt:dB) (E:Env R) (all:List Oper) (x:Oper):Bool:=(match dU tt E x.op with | .R=>true|_=>false)&&all.any fun y=>Vj tt E y.op&&xE all x y
def kK (all:List Oper) (o:Oper):Bool :=
  match o.op with
  | .store _ (.tmp t) _=>o.dst.isNone&&o.guard.isNone&&((all.any fun z=>z.dst==some t&&(match z.op with | .fieldAddr _ _ _=>true|_=>false))||all.all fun z=>z.dst != some t)
  | _=>false
def qz (all:List Oper) (o:Oper):Bool :=
  match o.op with
  | .store _ (.tmp t) _=>o.dst.isNone&&o.guard.isNone&&all.any fun z=>z.dst==some t&&(match z.op with | .indexAddr _ _ _=>true|_=>false)
  | _=>false
def Rb (all:List Oper) (x y:Oper):Bool:=(kK all x&&qz all y)||(qz all x&&kK all y)
def Na (tt:dB) (E:Env R) (all:List Oper) (x:Oper):Bool:=(match dU tt E x.op with | .R=>true|_=>false)&&all.any (kK all)
def rdA (tt:dB) (E:Env R) (x:Oper):Bool:=match dU tt E x.op with | .R | .A=>true|_=>false
def Ps (tt:dB) (E:Env R) (x y:Oper):Bool := !(o4 x.op&&rdA tt E y) && !(rdA tt E x&&o4 y.op)
def Vk (tt:dB) (S:Option (Bool × List Nat)) (base:Nat) (o:Oper):Option Nat:=match S with|some (true,_)=>(match fj tt o.op with | .W=>none|_=>some base)|_=>some base
def DP (tt:dB) (E:Env R) (YN:Option Bool) (all:List Oper) (x y:Oper):Bool :=
  (Ir tt E all x y&&(match YN with|some true=>Ps tt E x y|_=>true))||(match YN with
    | none=>false
    | some true=>((Tv tt E all x&&Vj tt E y.op)||(Vj tt E x.op&&(!ml E x.op&&(match fj tt y.op with | .A=>true|_=>false)))||Rb all x y)&&xE all x y
    | some false=>(Na tt E all x&&kK all y)&&xE all x y)
def wh (o:Op) (ρ:Operand→V):List Nat:=match o with | .load _ x=>(ρ x).ids | .lookup _ x _ _=>(ρ x).ids | .convert _ _ x=>(ρ x).ids|_ => []
def mB (o:Op) (ρ:Operand→V) (h:ay):List Nat :=
  match o with
  | .call c=>(match c.callee with | .value f=>(match ρ f with | .func _ first cap=>reach h 64 (V.sc (first++c.args.toList.map ρ++cap)) []|_ => [])|_ => [])
  | _ => []
def A5 (o:Op) (ρ:Operand→V):List Nat:=match o with | .store _ x _=>(ρ x).ids|_ => []
def Gl (tt:dB) (E:Env R) (base:Nat) (S:Option (Bool × List Nat)) (all:List Oper) (o:Oper) (ρ:Operand→V) (h:ay):Bool :=
  match S with
  | none=>true
  | some (false,A) =>
    match fj tt o.op with
    | .R => !Na tt E all o||(wh o.op ρ).all fun i => !A.contains i
    | .W => !kK all o||(A5 o.op ρ).all fun i=>A.contains i
    | _=>true
  | some (true,A) =>
    match fj tt o.op with
    | .R => !Tv tt E all o||(wh o.op ρ).all fun i=>A.contains i
    | .C => !Vj tt E o.op||ml E o.op||(Nat.ble (base+(all.filter (bZ tt)).length) h.length&&(mB o.op ρ h).all (fun i=>Nat.blt i base)&&A.all fun i=>Nat.blt i h.length && !(mB o.op ρ h).contains i)
    | .W=>(!kK all o||(A5 o.op ρ).all fun i=>A.contains i)&&(!qz all o||(A5 o.op ρ).all fun i => !A.contains i)
    | _=>true
def KK (ops:List Oper) (fr:List V):List Nat:=ops.flatMap fun o=>match o.op with | .fieldAddr _ x _=>(ev fr x).ids | .load _ x=>(ev fr x).ids | .store _ x _=>(ev fr x).ids|_ => []

def KL (ops:List Oper) (fr:List V):List Nat:=ops.flatMap fun o =>
  bif kK ops o then (match o.op with | .store _ (.tmp t) _=>bif (ops.all fun z=>z.dst != some t)then (ev fr (.tmp t)).ids else ops.flatMap (fun z=>bif z.dst==some t then (match z.op with | .fieldAddr _ x _=>(ev fr x).ids|_ => [])else [])|_ => [])else []

noncomputable def Pt (tt:dB) (E:Env R) (base:Nat) (A:Bool × List Nat) (all:List Oper):List Oper→Nat→St→(St→Option R)→Option R
  | [],_,st,k=>k st
  | o::rest,id,st,k =>
    let ZS:=if bZ tt o then id+1 else id
    uY all o st (fun st=>bif Gl tt E base (some A) all o (ev st.fr) st.hp then yN tt E (Vk tt (some A) base o) id o st fun st=>Fb st fun st=>Pt tt E base A all rest ZS st k else none)
      (fun st=>Fb ⟨mj st.fr o.dst (.tuple []),st.hp⟩ fun st=>Pt tt E base A all rest ZS st k)

def Ep (tt:dB) (E:Env R) (YN:Option Bool) (ops:List Oper):Bool :=
  let M:=G4 ops
  (List.range ops.length).all fun j=>(List.range j).all (fun i =>
    (M.getD j 0).testBit i||DP tt E YN ops (ops.getD i default) (ops.getD j default)) &&
    (C6 (ops.getD j default)).all (fun i=>Nat.blt i j) &&
    Nat.beq (M.getD j 0) (Kl M (C6 (ops.getD j default)))

noncomputable def Fc (tt:dB) (E:Env R) (ops:List Oper) (draw:Bool) (st:St) (k:St→Option R):Option R :=
  let n:=st.hp.length
  let sO:St:=⟨st.fr,st.hp++List.replicate (ops.filter (bZ tt)).length .free⟩
  if draw then (if Ep tt E none ops then KJ tt E (some n) ops ops n sO k else if Ep tt E (some true) ops then Pt tt E n (true,KK ops st.fr) ops ops n sO k else if Ep tt E (some false) ops then Pt tt E n (false,KL ops st.fr) ops ops n sO k else none)
  else KJ tt E none ops ops n sO k

noncomputable def FZ (log:List (Nat × V)) (t:Nat) (d:V):V :=
  List.rec (motive:=fun _=>V) d (fun x _ ih=>cond (Nat.beq x.1 t) x.2 ih) log
noncomputable def KM {β:Type} (log:List (Nat × V)) (t:Nat) (d:V) (k:V→β):β :=
  List.rec (motive:=fun _=>β) (k d) (fun x _ ih=>cond (Nat.beq x.1 t) (k x.2) ih) log
noncomputable def Rc {β:Type} (log:List (Nat × V)) (fr:List V) (k:List V→β):β :=
  List.rec (motive:=fun _=>Nat→(List V→β)→β) (fun _ k=>k []) (fun v _ ih i k=>KM log i v fun v'=>ih (i+1) fun r=>k (v'::r)) fr 0 k
noncomputable def evF (fr:List V) (log:List (Nat × V)) (x:Operand):V:=match x with | .tmp t=>FZ log t (fr.getD t .undef)|x=>ev fr x
def Nb (n:Nat) (log:List (Nat × V)) (dst:Option Nat) (v:V):List (Nat × V):=match dst with|some d=>bif Nat.blt d n then (d,v)::log else log|none=>log

def Vz (tt:dB) (E:Env R) (drawn:Option Nat) (id:Nat) (o:Oper) (ρ:Operand→V) (hp:ay) (k:V→ay→Option R):Option R :=
  match fj tt o.op with
  | .P=>Yz tt o.op ρ fun v=>k v hp
  | .R=>Tt tt o.op ρ hp drawn fun v=>k v hp
  | .A=>Vi tt o.op ρ fun ob mk=>k (mk id) (hp.set id ob)
  | .W=>bif drawn.isSome && !uX o.op ρ id then none else Kk tt o.op ρ hp id fun v h=>k v h
  | .C=>match o.op with | .call c=>xy tt E (drawn.isNone || !nU E o.op) c ρ hp fun v h=>k v h|_=>none
  | .F=>none
  | .X=>none

noncomputable def Rd (all:List Oper) (o:Oper) (fr:List V) (log:List (Nat × V)) (run skip:List (Nat × V)→Option R):Option R :=
  match o.guard with
  | none=>run log
  | some (j,want) =>
    match ((all[j]?).bind (·.dst))with
    | none=>none
    | some d =>
      match FZ log d (fr.getD d .undef)with
      | .bool b =>
        bif b then (if want then run ((d, .bool true)::log)else skip ((d, .bool true)::log))
        else (if want then skip ((d, .bool false)::log)else run ((d, .bool false)::log))
      | .tuple []=>skip log
      | _=>none

noncomputable def Re (tt:dB) (E:Env R) (drawn:Option Nat) (all:List Oper) (n:Nat) (fr:List V):List Oper→Nat→List (Nat × V)→ay→(St→Option R)→Option R
  | [],_,log,hp,k=>Rc log fr fun fr=>KI hp fun hp=>k ⟨fr,hp⟩
  | o::rest,id,log,hp,k =>
    let ZS:=if bZ tt o then id+1 else id
    Rd all o fr log (fun log=>Vz tt E drawn id o (evF fr log) hp fun v hp=>KI hp fun hp=>Re tt E drawn all n fr rest ZS (Nb n log o.dst v) hp k)
      (fun log=>Re tt E drawn all n fr rest ZS (Nb n log o.dst (.tuple [])) hp k)

noncomputable def regionF (tt:dB) (E:Env R) (ops:List Oper) (draw:Bool) (st:St) (k:St→Option R):Option R :=
  let n:=st.hp.length
  let hp:=st.hp++List.replicate (ops.filter (bZ tt)).length .free
  if draw then (if Ep tt E none ops then Re tt E (some n) ops st.fr.length st.fr ops n [] hp k else if Ep tt E (some true) ops then Pt tt E n (true,KK ops st.fr) ops ops n ⟨st.fr,hp⟩ k else if Ep tt E (some false) ops then Pt tt E n (false,KL ops st.fr) ops ops n ⟨st.fr,hp⟩ k else none)
  else Re tt E none ops st.fr.length st.fr ops n [] hp k

inductive Ex where
  | normal|exit (id:Nat)|goto (l:Nat)|ret

structure Hint where
  live:List Nat
  own:List (Nat × Ty) := []
  rows:List (Nat × Ty) := []
  cells:List (Nat × Nat × Ty × Bool) := []
  drop:List Nat := []
  out:List Nat := []

def C7 (live drop:List Nat) (fr:List V):List V:=fr.zipIdx.map fun (v,i)=>if live.contains i then (if drop.contains i then C4 v else v)else .undef

def Gm:List (Nat × Ty)→St→St
  | [],st=>st
  | (d,T)::r,st =>
    match st.fr.getD d .undef with
    | .cw=>Gm r ⟨st.fr.set d (.sl T [] (.own st.hp.length)),st.hp ++ [.tok]⟩
    | .sl T' l .nil=>Gm r ⟨st.fr.set d (.sl T' l (.own st.hp.length)),st.hp ++ [.tok]⟩
    | _=>Gm r st

def Er:List (Nat × Ty)→St→St
  | [],st=>st
  | (d,T)::r,st =>
    match st.fr.getD d .undef with
    | .cw=>Er r ⟨st.fr.set d (.row st.hp.length 0),st.hp ++ [.row T []]⟩
    | _=>Er r st

def zN (T:Ty) (b:Bool):bR:=bif b then .row T []else .tok
def wi (T:Ty) (b:Bool) (i:Nat):V:=bif b then .row i 0 else .sl T [] (.own i)

def zZ:List (Nat × Nat × Ty × Bool)→St→St
  | [],st=>st
  | (i,o,T,b)::r,st =>
    match st.hp.at i with
    | .cells cs =>
      (match cs.getD o .undef with
       | .cw=>zZ r ⟨st.fr,st.hp.set i (.cells (cs.set o (wi T b st.hp.length))) ++ [zN T b]⟩
       | _=>zZ r st)
    | .kq v =>
      (match v with
       | .cw=>zZ r ⟨st.fr,st.hp.set i (.kq (wi T b st.hp.length)) ++ [zN T b]⟩
       | _=>zZ r st)
    | _=>zZ r st

def St.gc (m:Nat) (st:St):St :=
  let ord:=reach st.hp 256 (List.range m++V.sc st.fr) []
  ⟨V.xD (xx ord) st.fr,st.hp.pick ord⟩

def SA (m:Nat) (h:Hint) (st:St):St:=match h.cells with | []=>st|_::_=>st.gc m
def norm (m:Nat) (h:Hint) (st:St):St:=(zZ h.cells (Er h.rows (Gm h.own (SA m h ⟨C7 h.live h.drop st.fr,st.hp⟩)))).gc m

def trim (m:Nat) (h:Hint) (st:St):St:=(⟨C7 h.out [] st.fr,st.hp⟩:St).gc m

abbrev cd (R:Type):=St→(Ex→St→Option R)→Option R

def keyOf:Code→Nat
  | .region id _ _=>id
  | .seq a _=>keyOf a
  | .block _ b=>keyOf b
  | .loop b=>keyOf b
  | .cond _ a _=>keyOf a
  | .scope b=>keyOf b
  | _=>0

def SB (body:cd R):Nat→cd R
  | 0,_,_=>none
  | n+1,st,K=>body st fun e sO=>match e with | .normal=>SB body n sO K|e=>K e sO

def BT (body:cd R) (f:St→St):Nat→cd R
  | 0,_,_=>none
  | n+1,st,K=>body st fun e sO=>match e with | .normal=>BT body f n (f sO) K|e=>K e sO

noncomputable def anyT (a b:Option R):Option R:=open Classical in if a=b then a else none

noncomputable def kL (tt:dB) (E:Env R) (L:Nat→Option (Hint × cd R)) (m:Nat):Code→cd R
  | .skip,st,K=>K .normal st
  | .region _ ops draw,st,K=>regionF tt E ops.toList draw st fun sO=>K .normal sO
  | .seq a b,st,K=>kL tt E L m a st fun e sO=>match e with | .normal=>kL tt E L m b sO K|e=>K e sO
  | .cond c a b,st,K=>match ev st.fr c with | .bool t=>bif t then kL tt E L m a st K else kL tt E L m b st K | .Fv=>anyT (kL tt E L m a st K) (kL tt E L m b st K)|_=>none
  | .block id a,st,K=>kL tt E L m a st fun e sO=>match e with | .exit i=>if i=id then K .normal sO else K (.exit i) sO|e=>K e sO
  | .loop a,st,K =>
    match L (keyOf a)with
    | some (h,ls)=>ls (norm m h st) K
    | none=>SB (kL tt E L m a) 70 st K
  | .exit id,st,K=>K (.exit id) st
  | .ret,st,K=>K .ret st
  | _,_,_=>none

def Pu (tt:dB) (st:St):List ResultVar→(List V→Option R)→Option R
  | [],k=>k []
  | .tmp t::r,k=>Pu tt st r fun vs=>k (st.fr.getD t .undef::vs)
  | .cell a t::r,k =>
    match st.fr.getD a .undef with
    | .ptr i o =>
      (match st.hp.at i with
       | .cells cs=>rA tt t cs o fun v=>Pu tt st r fun vs=>k (v::vs)
       | _=>none)
    | _=>none

def nG (h:ay):List Nat→ay
  | []=>h
  | i::r=>match h.at i with | .row _ _=>nG (h.set i .dead) r|_=>nG h r

def Rf (tt:dB):List Nat→List V→List V
  | t::ts,v::vs=>canon tt t v::Rf tt ts vs
  | _,_ => []

def Km (tt:dB) (ts:List Nat) (m:Nat) (keep:Bool) (vs:List V) (h:ay) (k:V→ay→Option R):Option R :=
  let ws:=if keep then vs else Rf tt ts (V.Jn h vs)
  let h:=if keep then h else nG h (V.sc vs)
  let ord:=reach h 256 (List.range m++V.sc ws) []
  k (match V.xD (xx ord) ws with | [v]=>v|l => .tuple l) (h.pick ord)

noncomputable def iq (tt:dB) (E:Env R) (L:Nat→Option (Hint × cd R)) (keep:Bool) (fn:Func) (c:Code):Spec R :=
  fun args h k =>
    if 200<h.length then none else
    kL tt E L h.length c ⟨args++List.replicate (fn.ntmps - args.length) .undef,h⟩ fun e st =>
      match e with
      | .normal | .ret=>Pu tt st fn.results.toList fun vs=>Km tt fn.resultTypes.toList h.length keep vs st.hp k
      | _=>none

end
end Go.ax

namespace Go.ax
open Go.RowKit

structure Pv where
  cells:Nat→Nat→Prop
instance:CoeFun Pv fun _=>Nat→Nat→Prop:=⟨Pv.cells⟩

structure jZ where
  sb:Nat→Option Nat
  off:Nat→Nat
  /-- cells that are the callers' -/
  ext:Pv

def bR.from_ (o:bR) (f:Nat):Option Nat :=
  match o with
  | .free=>none
  | .dead=>none
  | .tok=>some f
  | _=>some 0

def Used (h:ay) (i:Nat):Prop:=i<h.length∧h.at i ≠ .free

def tu (h:ay) (c:jZ) (b x:Nat):Prop:=∃i f,c.sb i=some b∧(h.at i).from_ (c.off i)=some f∧f≤x

def Fw (h:ay) (c:jZ) (b x:Nat):Prop:=¬tu h c b x∧¬c.ext b x

def mx:Nat:=9223372036854775807

def Rg (T:Ty) (o:Nat) (e:TypeId):Prop:=T = .int .u8→o=0∧e=oq.u8

inductive dw (w:World) (h:ay) (c:jZ):V→Value→Prop where
  | undef (v:Value):dw w h c .undef v
  | int {k:IntKind} {n:Int} (hn:k.has n):dw w h c (.int k n) (.int k n)
  | bool (b:Bool):dw w h c (.bool b) (.bool b)
  | str {s:ByteArray} (hl:s.size≤mx):dw w h c (.str s.data.toList) (.string s)
  | eC:dw w h c .eC (.pointer none)
  | ptr {i o:Nat} {v:Value} (hi:Used h i) (hv:∃b,v = .pointer (some ⟨b,o,none⟩)∧(h.at i ≠ .dead→c.sb i=some b)):dw w h c (.ptr i o) v
  | xi {cs:List V} {b o:Nat} (f:Nat→Value) (hc:∀j,j<cs.length→w.cell? ⟨b,o+j,none⟩=some (f j)∧Fw h c b (o+j))
      (hr:∀(j:Nat) (v:V),cs[j]? = some v→dw w h c v (f j)):dw w h c (.xi cs) (.pointer (some ⟨b,o,none⟩))
  | cw:dw w h c .cw (.slice none 0 0)
  | sl {T:Ty} {l:List T.den} {t:Tok} {A:Option Addr} {cap:Nat} (f:Nat→Nat→Value) (lB:l.length≤cap) (sd:cap≤mx)
      (hc:∀i j,i<l.length→j<T.sz→∃b o,A=some ⟨b,o,none⟩∧w.cell? ⟨b,o+i*T.sz+j,none⟩=some (f i j)∧Fw h c b (o+i*T.sz+j))
      (hr:∀(i j:Nat) (x:T.den) (v:V),l[i]? = some x→(T.cells x)[j]? = some v→dw w h c v (f i j))
      (xF:t = .nil→A=none∧cap=0)
      (mA:∀i,t = .own i→Used h i∧(h.at i = .tok →
        (c.sb i=none∧A=none∧cap=0)∨∃b o arr e fz,c.sb i=some b∧A=some ⟨b,o,none⟩∧c.off i=o+l.length*T.sz ∧
          w.heap[b]? = some (Obj.cells arr e fz)∧o+cap*T.sz≤arr.size∧Rg T o e)):dw w h c (.sl T l t) (.slice A l.length cap)
  | Mn {n sz:Nat} {cs:List V} {A:Option Addr} (hn:cs.length=n*sz) (sd:n≤mx) (f:Nat→Value)
      (hc:∀j,j<cs.length→∃b o,A=some ⟨b,o,none⟩∧w.cell? ⟨b,o+j,none⟩=some (f j)∧Fw h c b (o+j))
      (hr:∀(j:Nat) (v:V),cs[j]? = some v→dw w h c v (f j)):dw w h c (.Mn n cs) (.slice A n n)
  | row {i n:Nat} {v:Value} (hi:Used h i) (hn:n≤mx) (hv:∃A cap,v = .slice A n cap∧(0<n→∃a,A=some a)∧∀T l,h.at i = .row T l→n=l.length∧n≤cap∧cap≤mx ∧
        ((c.sb i=none∧A=none∧cap=0)∨∃b arr e fz,c.sb i=some b∧A=some ⟨b,c.off i,none⟩∧w.heap[b]? = some (Obj.cells arr e fz)∧c.off i+cap*T.sz≤arr.size)) :
      dw w h c (.row i n) v
  | Ct {i q n:Nat} {v:Value} (hi:Used h i) (hn:n≤mx) (hv:∃A cap,v = .slice A n cap∧(0<n→∃a,A=some a)∧∀T l,h.at i = .row T l→q+n≤l.length∧n≤cap∧cap≤mx ∧
        (0<n→∃b,c.sb i=some b∧A=some ⟨b,c.off i+q*T.sz,none⟩)):dw w h c (.Ct i q n) v
  | sN {i n j o:Nat} {v:Value} (hi:Used h i) (hv:∃a,v = .pointer (some a)∧∀T l,h.at i = .row T l→n=T.sz→j<l.length→∃b,c.sb i=some b∧a=⟨b,c.off i+j*T.sz+o,none⟩) :
      dw w h c (.sN i n j o) v
  | func {f:Nat} {a b:List V} {x y:Array Value} (ha:a.length=x.size) (hb:b.length=y.size)
      (hra:∀(j:Nat) (v:V) (d:Value),a[j]? = some v→x[j]? = some d→dw w h c v d) (hrb:∀(j:Nat) (v:V) (d:Value),b[j]? = some v→y[j]? = some d→dw w h c v d) :
      dw w h c (.func f a b) (.func (.func f) x y)
  | aS:dw w h c .aS .nilFunc
  | agg {cs:List V} {x:Array Value} (hl:cs.length=x.size) (hr:∀(j:Nat) (v:V) (d:Value),cs[j]? = some v→x[j]? = some d→dw w h c v d):dw w h c (.agg cs) (.agg x)
  | tuple {cs:List V} {x:Array Value} (hl:cs.length=x.size) (hr:∀(j:Nat) (v:V) (d:Value),cs[j]? = some v→x[j]? = some d→dw w h c v d):dw w h c (.tuple cs) (.tuple x)
  | map {i:Nat} {v:Value} (hi:Used h i) (hv:∃b,v = .map (some b)∧(h.at i ≠ .dead→c.sb i=some b)):dw w h c (.map i) v
  | n8:dw w h c .n8 (.map none)
  | cJ:dw w h c .cJ .nilIface
  | iface (t:TypeId) (v:Value):dw w h c .iface (.iface t v)
  | Em {t:TypeId} {k:IntKind} {n:Int} (hn:k.has n):dw w h c (.Em t k n) (.iface t (.int k n))
  | Fv (b:Bool):dw w h c .Fv (.bool b)

def cz (w:World) (h:ay) (c:jZ) (cs:List V) (ds:List Value):Prop :=
  cs.length=ds.length∧∀(j:Nat) (v:V) (d:Value),cs[j]? = some v→ds[j]? = some d→dw w h c v d

def nY (w:World) (h:ay) (c:jZ) (i:Nat):bR→Prop
  | .free=>True
  | .dead=>True
  | .cells cs=>∃b arr e,c.sb i=some b∧w.heap[b]? = some (Obj.cells arr e (0,0))∧cz w h c cs arr.toList
  | .row T l=>(c.sb i=none∧l = [])∨∃b arr e fz,c.sb i=some b∧w.heap[b]? = some (Obj.cells arr e fz)∧c.off i+l.length*T.sz≤arr.size ∧
      (∀x,x<arr.size→w.frozen? ⟨b,x,none⟩=false)∧∀(n j:Nat) (x:T.den) (v:V),l[n]? = some x→(T.cells x)[j]? = some v→∃d,arr[c.off i+n*T.sz+j]? = some d∧dw w h c v d
  | .tok=>c.sb i=none∨∃b arr e fz,c.sb i=some b∧w.heap[b]? = some (Obj.cells arr e fz)∧c.off i≤arr.size∧(fz.1=fz.2∨fz.2≤c.off i)
  | .kq v=>∃b p d,c.sb i=some b∧w.heap[b]? = some (Obj.cells #[p,d] oq.kq (0,0))∧(p = .pointer none∨p = .pointer (some ⟨b,0,none⟩))∧dw w h c v d
  | .iter s pos=>∃b bs,c.sb i=some b∧w.heap[b]? = some (.stringIter bs pos)∧bs.data.toList=s∧bs.size≤mx
  | .uW K T l=>∃b es clock,c.sb i=some b∧w.heap[b]? = some (.map es clock)∧Kj K=true∧T.one=true∧es.size=l.length ∧
      ∀(j:Nat) (x:K.den × T.den) (e:MapEntry),l[j]? = some x→es[j]? = some e→dw w h c (Mo K x.1) e.key∧dw w h c (Mo T x.2) e.val

def bR.live:bR→Prop
  | .free=>False
  | .dead=>False
  | _=>True

def Laid (w:World) (h:ay) (c:jZ):Prop:=oq.Ts w∧∀b,oq.blocks b→b<w.heap.size∧∀x, ¬tu h c b x

structure WF (w:World) (h:ay) (c:jZ):Prop where
  xG:∀b x,tu h c b x→¬c.ext b x
  o5:∀b x,c.ext b x→b<w.heap.size
  obj:∀i,i<h.length→nY w h c i (h.at i)
  inj:∀i j b,(h.at i).live→(h.at j).live→c.sb i=some b→c.sb j=some b→i=j
  lay:Laid w h c

def bR.ir:bR→bR→Prop
  | .cells cs, .cells ds=>cs.length=ds.length
  | .row T l, .row U m=>T=U∧l.length=m.length
  | .tok, .tok=>True
  | .iter _ _, .iter _ _=>True
  | .kq _, .kq _=>True
  | .uW K T _, .uW K' U _=>K=K'∧T=U
  | _,_=>False

structure Ext (w:World) (h:ay) (c:jZ) (w':World) (h':ay) (c':jZ):Prop where
  os:w'.os=w.os
  tape:w'.tape=w.tape
  output:w'.output=w.output
  size:w.heap.size≤w'.heap.size
  used:∀i,Used h i→Used h' i
  same:∀i,Used h i→h'.at i ≠ .dead→(h.at i).ir (h'.at i)∧c'.sb i=c.sb i∧c'.off i=c.off i
  cell:∀b x,b<w.heap.size→¬tu h c b x→w'.cell? ⟨b,x,none⟩=w.cell? ⟨b,x,none⟩
  block:∀b,b<w.heap.size→(∀x, ¬tu h c b x)→w'.heap[b]? = w.heap[b]?
  vQ:∀b x,b<w.heap.size→tu h' c' b x→tu h c b x
  ext:c'.ext=c.ext
  arr:∀(b:Nat) (arr:Array Value) (e:TypeId) (fz:Nat × Nat),w.heap[b]? = some (Obj.cells arr e fz)→∃(Es:Array Value) (Fx:Nat × Nat),w'.heap[b]? = some (Obj.cells Es e Fx)∧Es.size=arr.size

theorem Ext.refl (w:World) (h:ay) (c:jZ):Ext w h c w h c where
  os:=rfl
  tape:=rfl
  output:=rfl
  size:=Nat.le_refl _
  used:=fun _ hi=>hi
  same:=fun i hi hd=>⟨by have h2:=hi.2; revert hd h2; cases h.at i <;> simp[bR.ir],rfl,rfl⟩
  cell:=fun _ _ _ _=>rfl
  block:=fun _ _ _=>rfl
  vQ:=fun _ _ _ ho=>ho
  ext:=rfl
  arr:=fun b arr e fz hb=>⟨arr,fz,hb,rfl⟩

theorem bR.Cx {o o':bR} (h:o.ir o'):o ≠ .dead∧o' ≠ .dead:=by
  cases o <;> cases o' <;> simp_all [bR.ir]

theorem bR.Tw {a b c:bR} (h:a.ir b) (k:b.ir c):a.ir c:=by
  cases a <;> cases b <;> cases c <;> simp_all [bR.ir]

theorem Ext.trans {w w1 w2:World} {h h1 h2:ay} {c c1 c2:jZ} (a:Ext w h c w1 h1 c1) (b:Ext w1 h1 c1 w2 h2 c2):Ext w h c w2 h2 c2 where
  os:=b.os.trans a.os
  tape:=b.tape.trans a.tape
  output:=b.output.trans a.output
  size:=Nat.le_trans a.size b.size
  used:=fun i hi=>b.used i (a.used i hi)
  same:=fun i hi hd=>by
    obtain ⟨s2,e2,f2⟩:=b.same i (a.used i hi) hd
    obtain ⟨s1,e1,f1⟩:=a.same i hi (bR.Cx s2).1
    exact ⟨bR.Tw s1 s2,e2.trans e1,f2.trans f1⟩
  cell:=fun x y hx ho=>by
    rw[b.cell x y (Nat.lt_of_lt_of_le hx a.size) (fun o=>ho (a.vQ x y hx o)),a.cell x y hx ho]
  block:=fun x hx ho=>by
    rw[b.block x (Nat.lt_of_lt_of_le hx a.size) (fun y o=>ho y (a.vQ x y hx o)),a.block x hx ho]
  vQ:=fun x y hx o=>a.vQ x y hx (b.vQ x y (Nat.lt_of_lt_of_le hx a.size) o)
  ext:=b.ext.trans a.ext
  arr:=fun x arr e fz hx=>by
    obtain ⟨a1,f1,h1,s1⟩:=a.arr x arr e fz hx
    obtain ⟨a2,f2,h2,s2⟩:=b.arr x a1 e f1 h1
    exact ⟨a2,f2,h2,s2.trans s1⟩

theorem lt_of_cell {w:World} {b x:Nat} {v:Value} (h:w.cell? ⟨b,x,none⟩=some v):b<w.heap.size :=
  World.block_lt_of_cell? _ _ h

theorem YO {o o':bR} (h:o.ir o') (e:o' = .tok):o = .tok:=by subst e; cases o <;> simp_all [bR.ir]
theorem Od {o:bR} {T:Ty} {l:List T.den} (h:o.ir (.row T l)):∃m:List T.den,o = .row T m∧m.length=l.length:=by
  cases o with
  | row U m=>obtain ⟨rfl,e⟩:=h; exact ⟨m,rfl,e⟩
  | _=>simp[bR.ir]at h

section
variable {w w':World} {h h':ay} {c c':jZ}

theorem Ext.KN (x:Ext w h c w' h' c') {b o:Nat} {v:Value} (hc:w.cell? ⟨b,o,none⟩=some v) (ho:Fw h c b o) :
    w'.cell? ⟨b,o,none⟩=some v∧Fw h' c' b o :=
  ⟨(x.cell b o (lt_of_cell hc) ho.1).trans hc,fun k=>ho.1 (x.vQ b o (lt_of_cell hc) k),by rw[x.ext]; exact ho.2⟩

theorem dw.mono (x:Ext w h c w' h' c') {v:V} {d:Value} (r:dw w h c v d):dw w' h' c' v d:=by
  induction r with
  | undef v=>exact .undef v
  | int hn=>exact .int hn
  | bool b=>exact .bool b
  | str hl=>exact .str hl
  | eC=>exact .eC
  | cw=>exact .cw
  | aS=>exact .aS
  | n8=>exact .n8
  | cJ=>exact .cJ
  | iface t v=>exact .iface t v
  | Em hn=>exact .Em hn
  | Fv b=>exact .Fv b
  | ptr hi hv =>
    obtain ⟨b,hv,hb⟩:=hv
    refine .ptr (x.used _ hi) ⟨b,hv,fun hd => ?_⟩
    obtain ⟨s,e,_⟩:=x.same _ hi hd
    rw[e]
    exact hb (bR.Cx s).1
  | map hi hv =>
    obtain ⟨b,hv,hb⟩:=hv
    refine .map (x.used _ hi) ⟨b,hv,fun hd => ?_⟩
    obtain ⟨s,e,_⟩:=x.same _ hi hd
    rw[e]
    exact hb (bR.Cx s).1
  | xi f hc _ ih=>exact .xi f (fun j hj=>x.KN (hc j hj).1 (hc j hj).2) ih
  | sl f lB sd hc _ xF mA ih =>
    refine .sl f lB sd (fun i j hi hj => ?_) ih xF (fun i ht => ?_)
    · obtain ⟨b,o,hA,h1,h2⟩:=hc i j hi hj
      exact ⟨b,o,hA,x.KN h1 h2⟩
    · obtain ⟨hi,ho⟩:=mA i ht
      refine ⟨x.used _ hi,fun KO => ?_⟩
      obtain ⟨s,e,eo⟩:=x.same i hi (by rw[KO]; simp)
      rw[e,eo]
      rcases ho (YO s KO)with hn|⟨b,o,arr,el,fz,h1,h2,h3,h4,h5⟩
      · exact .inl hn
      · obtain ⟨Es,Fx,h4',hs⟩:=x.arr b arr el fz h4
        exact .inr ⟨b,o,Es,el,Fx,h1,h2,h3,h4',by rw[hs]; exact h5.1,h5.2⟩
  | Mn hn sd f hc _ ih =>
    refine .Mn hn sd f (fun j hj => ?_) ih
    obtain ⟨b,o,hA,h1,h2⟩:=hc j hj
    exact ⟨b,o,hA,x.KN h1 h2⟩
  | row hi hn hv =>
    obtain ⟨A,cap,Tx,hA,hv⟩:=hv
    refine .row (x.used _ hi) hn ⟨A,cap,Tx,hA,fun T l he => ?_⟩
    obtain ⟨s,e,eo⟩:=x.same _ hi (by rw[he]; simp)
    rw[he]at s
    obtain ⟨m,hm,hl⟩:=Od s
    obtain ⟨Pe,h1,h2,h3⟩:=hv T m hm
    refine ⟨by rw[Pe,hl],h1,h2,?_⟩
    rw[e,eo]
    rcases h3 with h3|⟨b,arr,el,fz,g1,g2,g3,g4⟩
    · exact .inl h3
    · obtain ⟨Es,Fx,h4',hs⟩:=x.arr b arr el fz g3
      exact .inr ⟨b,Es,el,Fx,g1,g2,h4',by rw[hs]; exact g4⟩
  | Ct hi hn hv =>
    obtain ⟨A,cap,Tx,hA,hv⟩:=hv
    refine .Ct (x.used _ hi) hn ⟨A,cap,Tx,hA,fun T l he => ?_⟩
    obtain ⟨s,e,eo⟩:=x.same _ hi (by rw[he]; simp)
    rw[he]at s
    obtain ⟨m,hm,hl⟩:=Od s
    rw[e,eo,←hl]
    exact hv T m hm
  | sN hi hv =>
    obtain ⟨a,ha,hv⟩:=hv
    refine .sN (x.used _ hi) ⟨a,ha,fun T l he hn hj => ?_⟩
    obtain ⟨s,e,eo⟩:=x.same _ hi (by rw[he]; simp)
    rw[he]at s
    obtain ⟨m,hm,hl⟩:=Od s
    rw[e,eo]
    exact hv T m hm hn (by rw[hl]; exact hj)
  | func ha hb _ _ iha ihb=>exact .func ha hb iha ihb
  | agg hl _ ih=>exact .agg hl ih
  | tuple hl _ ih=>exact .tuple hl ih

theorem cz.mono (x:Ext w h c w' h' c') {cs:List V} {ds:List Value} (r:cz w h c cs ds):cz w' h' c' cs ds :=
  ⟨r.1,fun j v d hv hd=>(r.2 j v d hv hd).mono x⟩

theorem cz.nil:cz w h c [] []:=⟨rfl,fun j v d hv=>by simp at hv⟩
theorem cz.cons {v:V} {d:Value} {cs:List V} {ds:List Value} (r:dw w h c v d) (rs:cz w h c cs ds):cz w h c (v::cs) (d::ds):=by
  refine ⟨by simp[rs.1],fun j u e hu he => ?_⟩
  cases j with
  | zero=>simp at hu he; subst hu; subst he; exact r
  | succ j=>simp at hu he; exact rs.2 j u e hu he
theorem cz.head {v:V} {d:Value} {cs:List V} {ds:List Value} (r:cz w h c (v::cs) (d::ds)):dw w h c v d:=r.2 0 v d rfl rfl
theorem cz.tail {v:V} {d:Value} {cs:List V} {ds:List Value} (r:cz w h c (v::cs) (d::ds)):cz w h c cs ds :=
  ⟨by simpa using r.1,fun j u e hu he=>r.2 (j+1) u e (by simpa using hu) (by simpa using he)⟩
theorem cz.append {a b:List V} {x y:List Value} (r:cz w h c a x) (s:cz w h c b y):cz w h c (a++b) (x++y):=by
  refine ⟨by simp[r.1,s.1],fun j u e hu he => ?_⟩
  have hl:=r.1
  by_cases hj:j<a.length
  · rw[List.getElem?_append_left hj]at hu
    rw[List.getElem?_append_left (by omega)]at he
    exact r.2 j u e hu he
  · rw[List.getElem?_append_right (by omega)]at hu
    rw[List.getElem?_append_right (by omega),←hl]at he
    exact s.2 _ u e hu he
theorem cz.take {a:List V} {x:List Value} (r:cz w h c a x) (n:Nat):cz w h c (a.take n) (x.take n):=by
  refine ⟨by simp[r.1],fun j u e hu he => ?_⟩
  rw[List.getElem?_take]at hu he
  split at hu <;> simp_all
  exact r.2 j u e hu he
theorem cz.drop {a:List V} {x:List Value} (r:cz w h c a x) (n:Nat):cz w h c (a.drop n) (x.drop n):=by
  refine ⟨by simp[r.1],fun j u e hu he => ?_⟩
  rw[List.getElem?_drop]at hu he
  exact r.2 _ u e hu he
theorem cz.map {α:Type} {f:α→V} {g:α→Value} (l:List α) (r:∀x∈l,dw w h c (f x) (g x)):cz w h c (l.map f) (l.map g):=by
  induction l with
  | nil=>exact .nil
  | cons x l ih=>exact .cons (r x (by simp)) (ih fun y hy=>r y (by simp[hy]))
theorem cz.getD {a:List V} {x:List Value} (r:cz w h c a x) (j:Nat) (d:Value):dw w h c (a.getD j .undef) (x.getD j d):=by
  by_cases hj:j<a.length
  · have hx:j<x.length:=by have:=r.1; omega
    exact r.2 j _ _ (by simp[List.getD,List.getElem?_eq_getElem hj]) (by simp[List.getD,List.getElem?_eq_getElem hx])
  · have:a.getD j .undef = .undef:=by simp[List.getD,List.getElem?_eq_none (Nat.le_of_not_lt hj)]
    rw[this]; exact .undef _
theorem cz.set {a:List V} {x:List Value} (r:cz w h c a x) (j:Nat) {v:V} {d:Value} (rv:dw w h c v d):cz w h c (a.set j v) (x.set j d):=by
  refine ⟨by simp[r.1],fun i u e hu he => ?_⟩
  rw[List.getElem?_set]at hu he
  by_cases xk:j=i
  · simp only[xk,if_true]at hu he
    split at hu <;> split at he <;> simp_all
  · simp only[xk,if_false]at hu he
    exact r.2 i u e hu he
theorem cz.JP (n:Nat) (d:Value):cz w h c (List.replicate n .undef) (List.replicate n d):=by
  refine ⟨by simp,fun j u e hu _ => ?_⟩
  rw[List.getElem?_replicate]at hu
  split at hu <;> simp_all
  subst hu; exact .undef _
end
end Go.ax

