/-
  JsonAgain: for every input whose bulk is at most 1048576 the law returns true, and each argument reads behind the call as it read before; part 1 of 9 of the proof: an interpreter of the model's code over typed data, proved sound; the functions that the law reaches, printed as Lean functions and tied; the plain law. Own texts laid one behind the other.
-/
import Derived.Calls
import Derived.Test.YtmlkkgfenfdndaaGreatDoorProg
import Derived.Lib.LaidTab
import Derived.Lib.ItoaNum
import Derived.Shelf.Unicode.DecodeSlow
import Derived.Orders
import Derived.KernelRfl
import Derived.Below
set_option linter.unusedSimpArgs false
set_option linter.unnecessarySimpa false
set_option linter.unusedVariables false
set_option linter.unusedSectionVars false
namespace Go.ay

structure LayT where
  /-- the types of bytes, and of strings.Builder -/
  u8:Nat
  kW:Nat
  /-- functions whose specs leave the objects as they are -/
  soft:Nat→Bool
  blocks:Nat→Prop
  VP:World→Prop
  keep:∀w w':World,(∀b,blocks b→w'.heap[b]? = w.heap[b]?)→VP w→VP w'

def LayT.none:LayT:=⟨5,1000000,fun _=>false,fun _=>False,fun _=>True,fun _ _ _ h=>h⟩
end Go.ay

namespace Go.ay
open Go.Proofs

def PN (w:World):Prop :=
  Go.Lib.Utf8Tabs 1 2 w∧Go.Lib.TabIs Tryz.prog w "internal/strconv.uint64pow10" .u64 Go.Lib.pow10Tab ∧
    (∃t x,w.cell? ⟨4,0,none⟩=some (.iface t x))∧(∃t x,w.cell? ⟨5,0,none⟩=some (.iface t x))

theorem OS:Tryz.prog.globalNamed "internal/strconv.uint64pow10" = some 3:=by kernel_rfl

theorem PO (w w':World) (h:∀b,b<8→w'.heap[b]? = w.heap[b]?) (k:PN w):PN w':=by
  have hc:∀b x,b<8→w'.cell? ⟨b,x,none⟩=w.cell? ⟨b,x,none⟩:=fun b x hb=>by simp only[World.cell?,h b hb]
  obtain ⟨⟨k1,k2⟩,k3,k4,k5⟩:=k
  refine ⟨⟨fun c Lx=>by rw[hc _ _ (by omega)]; exact k1 c Lx,fun i hi=>by rw[hc _ _ (by omega),hc _ _ (by omega)]; exact k2 i hi⟩,?_,by rw[hc _ _ (by omega)]; exact k4,by rw[hc _ _ (by omega)]; exact k5⟩
  unfold Go.Lib.TabIs at k3 ⊢
  rw[←k3]
  simp only[World.var?,OS,Option.bind_some,h 3 (by omega)]

def oZ:LayT:=⟨5,73,fun g=>Nat.beq g 39,fun b=>b<8,PN,PO⟩
end Go.ay

namespace Go.ay

abbrev aj:=List UInt8

structure iZ where
  aB:Int
  exp:Int

def iZ.z:iZ:=⟨0,0⟩

structure Json where
  kind:Int
  num:iZ
  text:aj
  names:List aj
  items:List Json

def Json.z:Json:=⟨0,iZ.z, [], [], []⟩

structure Raw where
  kind:Int
  aB:Int
  exp:Int
  text:List Int
  items:List Raw

def Raw.z:Raw:=⟨0,0,0, [], []⟩

structure GJ where
  kind:Int
  aB:Int
  exp:Int
  text:List Int

def GJ.z:GJ:=⟨0,0,0, []⟩

structure Fld where
  name:aj
  kind:Int
  low:Int
  high:Int
  free:Bool

def Fld.z:Fld:=⟨[],0,0,0,false⟩

structure Og where
  topic:aj
  data:aj
  bent:Bool

def Og.z:Og:=⟨[], [],false⟩

structure Token where
  kind:Int
  text:aj
  num:iZ
  at_:Int

def Token.z:Token:=⟨0, [],iZ.z,0⟩

structure Stop where
  node:Int
  seq:Int
  zN:Bool

def Stop.z:Stop:=⟨0,0,false⟩

structure Way where
  JG:Int
  seq:Int
  zN:Bool

def Way.z:Way:=⟨0,0,false⟩

structure Order where
  header:Int
  tI:aj
  order:Int
  update:Int
  nodes:List Stop
  LU:List Way

def Order.z:Order:=⟨0, [],0,0, [], []⟩

structure Edge where
  src:Int
  dst:Int
  cost:Int

def Edge.z:Edge:=⟨0,0,0⟩

structure C5 where
  nodes:Int
  LU:List Edge

def C5.z:C5:=⟨0, []⟩

structure Ha where
  maker:aj
  X5:aj
  kind:aj

def Ha.z:Ha:=⟨[], [], []⟩

structure State where
  header:Int
  X6:Int
  tI:aj
  order:Int
  update:Int
  live:Bool
  node:Int
  seq:Int
  driving:Bool
  accepted:Int

def State.z:State:=⟨0,0, [],0,0,false,0,0,false,0⟩

structure Ctl where
  tI:aj
  header:Int
  order:Int
  update:Int
  X6:Int
  seen:Int
  path:List Int
  seq:Int
  open_:Bool
  rel:Int
  wait:Bool
  pending:Order

def Ctl.z:Ctl:=⟨[],0,0,0,0,0, [],0,false,0,false,Order.z⟩

structure Oh where
  kind:Int
  i:Int
  k:Int
  by_:Int
  data:aj

def Oh.z:Oh:=⟨0,0,0,0, []⟩

structure ET where
  header:Int
  order:Int
  update:Int
  seq:Int
  from_:Int
  zN:Int
  turns:List Int

def ET.z:ET:=⟨0,0,0,0,0,0, []⟩

structure Oi where
  kind:Int
  o:ET
  data:aj

def Oi.z:Oi:=⟨0,ET.z, []⟩

structure Oj where
  kind:Int
  n:Int
  turns:List Int

def Oj.z:Oj:=⟨0,0, []⟩

structure Ol where
  a:Int
  b:Int
  c:Int

def Ol.z:Ol:=⟨0,0,0⟩

structure KX where
  a:Int
  b:Int

def KX.z:KX:=⟨0,0⟩

structure Om where
  a:iZ
  b:iZ

def Om.z:Om:=⟨iZ.z,iZ.z⟩

structure On where
  name:aj
  home:Int

def On.z:On:=⟨[],0⟩

structure Job where
  id:Int
  target:Int
  state:Int
  tI:Int

def Job.z:Job:=⟨0,0,0,0⟩

structure C6 where
  kind:Int
  nums:List Int
  text:aj

def C6.z:C6:=⟨0, [], []⟩

inductive Ty where
  | int (k:IntKind)|bool|str
  | dcm|json|raw|PQ|fld|Q8|token|stop|UP|order|JG|layout|topic|state|ctl|Q9|Kx|Ra|Rb|Rc|Oo|Rd|post|job|record
  deriving DecidableEq

def Ty.den:Ty→Type
  | .int _=>Int | .bool=>Bool | .str=>aj
  | .dcm=>iZ
  | .json=>Json
  | .raw=>Raw
  | .PQ=>GJ
  | .fld=>Fld
  | .Q8=>Og
  | .token=>Token
  | .stop=>Stop
  | .UP=>Way
  | .order=>Order
  | .JG=>Edge
  | .layout=>C5
  | .topic=>Ha
  | .state=>State
  | .ctl=>Ctl
  | .Q9=>Oh
  | .Kx=>ET
  | .Ra=>Oi
  | .Rb=>Oj
  | .Rc=>Ol
  | .Oo=>KX
  | .Rd=>Om
  | .post=>On
  | .job=>Job
  | .record=>C6

def Ty.cn:(T:Ty)→T.den
  | .int _=>(0:Int) | .bool=>false | .str=>([]:aj)
  | .dcm=>iZ.z
  | .json=>Json.z
  | .raw=>Raw.z
  | .PQ=>GJ.z
  | .fld=>Fld.z
  | .Q8=>Og.z
  | .token=>Token.z
  | .stop=>Stop.z
  | .UP=>Way.z
  | .order=>Order.z
  | .JG=>Edge.z
  | .layout=>C5.z
  | .topic=>Ha.z
  | .state=>State.z
  | .ctl=>Ctl.z
  | .Q9=>Oh.z
  | .Kx=>ET.z
  | .Ra=>Oi.z
  | .Rb=>Oj.z
  | .Rc=>Ol.z
  | .Oo=>KX.z
  | .Rd=>Om.z
  | .post=>On.z
  | .job=>Job.z
  | .record=>C6.z

def Ty.sz:Ty→Nat
  | .int _=>1 | .bool=>1 | .str=>1
  | .dcm=>2
  | .json=>6
  | .raw=>5
  | .PQ=>4
  | .fld=>5
  | .Q8=>3
  | .token=>5
  | .stop=>3
  | .UP=>3
  | .order=>6
  | .JG=>3
  | .layout=>2
  | .topic=>3
  | .state=>10
  | .ctl=>17
  | .Q9=>5
  | .Kx=>7
  | .Ra=>9
  | .Rb=>3
  | .Rc=>3
  | .Oo=>2
  | .Rd=>4
  | .post=>2
  | .job=>4
  | .record=>3


inductive Tok where
  | no|nil|own (id:Nat)

inductive V where
  | undef
  | int (k:IntKind) (n:Int)
  | bool (b:Bool)
  | str (s:aj)
  | eQ
  | ptr (id off:Nat)
  | yc (cs:List V)
  | cJ
  | sl (T:Ty) (l:List T.den) (t:Tok)
  | N8 (n:Nat) (cs:List V)
  | row (id:Nat) (n:Nat)
  | Ds (id lo n:Nat)
  | tJ (id:Nat) (sz:Nat) (i:Nat) (off:Nat)
  | func (f:Nat) (first cap:List V)
  | aV
  | agg (cs:List V)
  | tuple (vs:List V)
  | map (id:Nat)
  | oN
  | cX
  | iface
  | FA (t:Nat) (k:IntKind) (n:Int)
  | GK

def V.flat:V→List V
  | .agg cs=>cs
  | v => [v]

def V.one:V→Bool
  | .undef=>false
  | .agg _=>false
  | .tuple _=>false
  | _=>true

def OT (v:V):Option (List V) :=
  match v with
  | .agg cs=>if cs.all V.one then some cs else none
  | v=>if v.one then some [v]else none

def Ty.cells:(T:Ty)→T.den→List V
  | .int k,(n:Int) => [.int k n]
  | .bool,(b:Bool) => [.bool b]
  | .str,(s:aj) => [.str s]
  | .dcm,(x:iZ) => [.int .i64 x.aB, .int .i64 x.exp]
  | .json,(x:Json) => [.int .i64 x.kind, .int .i64 x.num.aB, .int .i64 x.num.exp, .str x.text, .sl .str x.names .no, .sl .json x.items .no]
  | .raw,(x:Raw) => [.int .i64 x.kind, .int .i64 x.aB, .int .i64 x.exp, .sl (.int .i64) x.text .no, .sl .raw x.items .no]
  | .PQ,(x:GJ) => [.int .i64 x.kind, .int .i64 x.aB, .int .i64 x.exp, .sl (.int .i64) x.text .no]
  | .fld,(x:Fld) => [.str x.name, .int .i64 x.kind, .int .i64 x.low, .int .i64 x.high, .bool x.free]
  | .Q8,(x:Og) => [.str x.topic, .str x.data, .bool x.bent]
  | .token,(x:Token) => [.int .i64 x.kind, .str x.text, .int .i64 x.num.aB, .int .i64 x.num.exp, .int .i64 x.at_]
  | .stop,(x:Stop) => [.int .i64 x.node, .int .i64 x.seq, .bool x.zN]
  | .UP,(x:Way) => [.int .i64 x.JG, .int .i64 x.seq, .bool x.zN]
  | .order,(x:Order) => [.int .i64 x.header, .str x.tI, .int .i64 x.order, .int .i64 x.update, .sl .stop x.nodes .no, .sl .UP x.LU .no]
  | .JG,(x:Edge) => [.int .i64 x.src, .int .i64 x.dst, .int .i64 x.cost]
  | .layout,(x:C5) => [.int .i64 x.nodes, .sl .JG x.LU .no]
  | .topic,(x:Ha) => [.str x.maker, .str x.X5, .str x.kind]
  | .state,(x:State) => [.int .i64 x.header, .int .i64 x.X6, .str x.tI, .int .i64 x.order, .int .i64 x.update, .bool x.live, .int .i64 x.node, .int .i64 x.seq, .bool x.driving, .int .i64 x.accepted]
  | .ctl,(x:Ctl) => [.str x.tI, .int .i64 x.header, .int .i64 x.order, .int .i64 x.update, .int .i64 x.X6, .int .i64 x.seen, .sl (.int .i64) x.path .no, .int .i64 x.seq, .bool x.open_, .int .i64 x.rel, .bool x.wait, .int .i64 x.pending.header, .str x.pending.tI, .int .i64 x.pending.order, .int .i64 x.pending.update, .sl .stop x.pending.nodes .no, .sl .UP x.pending.LU .no]
  | .Q9,(x:Oh) => [.int .i64 x.kind, .int .i64 x.i, .int .i64 x.k, .int .u8 x.by_, .str x.data]
  | .Kx,(x:ET) => [.int .i64 x.header, .int .i64 x.order, .int .i64 x.update, .int .i64 x.seq, .int .i64 x.from_, .int .i64 x.zN, .sl (.int .i64) x.turns .no]
  | .Ra,(x:Oi) => [.int .i64 x.kind, .int .i64 x.o.header, .int .i64 x.o.order, .int .i64 x.o.update, .int .i64 x.o.seq, .int .i64 x.o.from_, .int .i64 x.o.zN, .sl (.int .i64) x.o.turns .no, .str x.data]
  | .Rb,(x:Oj) => [.int .i64 x.kind, .int .i64 x.n, .sl (.int .i64) x.turns .no]
  | .Rc,(x:Ol) => [.int .i64 x.a, .int .i64 x.b, .int .i64 x.c]
  | .Oo,(x:KX) => [.int .i64 x.a, .int .i64 x.b]
  | .Rd,(x:Om) => [.int .i64 x.a.aB, .int .i64 x.a.exp, .int .i64 x.b.aB, .int .i64 x.b.exp]
  | .post,(x:On) => [.str x.name, .int .i64 x.home]
  | .job,(x:Job) => [.int .i64 x.id, .int .i64 x.target, .int .i64 x.state, .int .i64 x.tI]
  | .record,(x:C6) => [.int .i64 x.kind, .sl (.int .i64) x.nums .no, .str x.text]

def Dt (T:Ty):V→Option (List T.den)
  | .cJ=>some []
  | .sl T' l _=>if h:T'=T then some (h▸l)else none
  | _=>none

def LV (k:IntKind):List V→Option Int
  | [.int k' n]=>if k'=k then some n else none
  | _=>none
def Ii:List V→Option Bool
  | [.bool b]=>some b
  | _=>none
def LW:List V→Option aj
  | [.str s]=>some s
  | _=>none
def S2:List V→Option iZ
  | [.int .i64 a0, .int .i64 a1]=>some ⟨a0,a1⟩
  | _=>none
def PR:List V→Option Json
  | [.int .i64 a0, .int .i64 a1, .int .i64 a2, .str a3,a4,a5]=>match Dt .str a4,Dt .json a5 with|some b4,some b5=>some ⟨a0,⟨a1,a2⟩,a3,b4,b5⟩|_,_=>none
  | _=>none
def S3:List V→Option Raw
  | [.int .i64 a0, .int .i64 a1, .int .i64 a2,a3,a4]=>match Dt (.int .i64) a3,Dt .raw a4 with|some b3,some b4=>some ⟨a0,a1,a2,b3,b4⟩|_,_=>none
  | _=>none
def PS:List V→Option GJ
  | [.int .i64 a0, .int .i64 a1, .int .i64 a2,a3]=>match Dt (.int .i64) a3 with|some b3=>some ⟨a0,a1,a2,b3⟩|_=>none
  | _=>none
def S4:List V→Option Fld
  | [.str a0, .int .i64 a1, .int .i64 a2, .int .i64 a3, .bool a4]=>some ⟨a0,a1,a2,a3,a4⟩
  | _=>none
def PT:List V→Option Og
  | [.str a0, .str a1, .bool a2]=>some ⟨a0,a1,a2⟩
  | _=>none
def LX:List V→Option Token
  | [.int .i64 a0, .str a1, .int .i64 a2, .int .i64 a3, .int .i64 a4]=>some ⟨a0,a1,⟨a2,a3⟩,a4⟩
  | _=>none
def PU:List V→Option Stop
  | [.int .i64 a0, .int .i64 a1, .bool a2]=>some ⟨a0,a1,a2⟩
  | _=>none
def S5:List V→Option Way
  | [.int .i64 a0, .int .i64 a1, .bool a2]=>some ⟨a0,a1,a2⟩
  | _=>none
def LY:List V→Option Order
  | [.int .i64 a0, .str a1, .int .i64 a2, .int .i64 a3,a4,a5]=>match Dt .stop a4,Dt .UP a5 with|some b4,some b5=>some ⟨a0,a1,a2,a3,b4,b5⟩|_,_=>none
  | _=>none
def PV:List V→Option Edge
  | [.int .i64 a0, .int .i64 a1, .int .i64 a2]=>some ⟨a0,a1,a2⟩
  | _=>none
def JH:List V→Option C5
  | [.int .i64 a0,a1]=>match Dt .JG a1 with|some b1=>some ⟨a0,b1⟩|_=>none
  | _=>none
def LZ:List V→Option Ha
  | [.str a0, .str a1, .str a2]=>some ⟨a0,a1,a2⟩
  | _=>none
def L0:List V→Option State
  | [.int .i64 a0, .int .i64 a1, .str a2, .int .i64 a3, .int .i64 a4, .bool a5, .int .i64 a6, .int .i64 a7, .bool a8, .int .i64 a9]=>some ⟨a0,a1,a2,a3,a4,a5,a6,a7,a8,a9⟩
  | _=>none
def S6:List V→Option Ctl
  | [.str a0, .int .i64 a1, .int .i64 a2, .int .i64 a3, .int .i64 a4, .int .i64 a5,a6, .int .i64 a7, .bool a8, .int .i64 a9, .bool a10, .int .i64 a11, .str a12, .int .i64 a13, .int .i64 a14,a15,a16]=>match Dt (.int .i64) a6,Dt .stop a15,Dt .UP a16 with|some b6,some b15,some b16=>some ⟨a0,a1,a2,a3,a4,a5,b6,a7,a8,a9,a10,⟨a11,a12,a13,a14,b15,b16⟩⟩|_,_,_=>none
  | _=>none
def PW:List V→Option Oh
  | [.int .i64 a0, .int .i64 a1, .int .i64 a2, .int .u8 a3, .str a4]=>some ⟨a0,a1,a2,a3,a4⟩
  | _=>none
def L1:List V→Option ET
  | [.int .i64 a0, .int .i64 a1, .int .i64 a2, .int .i64 a3, .int .i64 a4, .int .i64 a5,a6]=>match Dt (.int .i64) a6 with|some b6=>some ⟨a0,a1,a2,a3,a4,a5,b6⟩|_=>none
  | _=>none
def PX:List V→Option Oi
  | [.int .i64 a0, .int .i64 a1, .int .i64 a2, .int .i64 a3, .int .i64 a4, .int .i64 a5, .int .i64 a6,a7, .str a8]=>match Dt (.int .i64) a7 with|some b7=>some ⟨a0,⟨a1,a2,a3,a4,a5,a6,b7⟩,a8⟩|_=>none
  | _=>none
def PY:List V→Option Oj
  | [.int .i64 a0, .int .i64 a1,a2]=>match Dt (.int .i64) a2 with|some b2=>some ⟨a0,a1,b2⟩|_=>none
  | _=>none
def PZ:List V→Option Ol
  | [.int .i64 a0, .int .i64 a1, .int .i64 a2]=>some ⟨a0,a1,a2⟩
  | _=>none
def P0:List V→Option KX
  | [.int .i64 a0, .int .i64 a1]=>some ⟨a0,a1⟩
  | _=>none
def P1:List V→Option Om
  | [.int .i64 a0, .int .i64 a1, .int .i64 a2, .int .i64 a3]=>some ⟨⟨a0,a1⟩,⟨a2,a3⟩⟩
  | _=>none
def P2:List V→Option On
  | [.str a0, .int .i64 a1]=>some ⟨a0,a1⟩
  | _=>none
def S7:List V→Option Job
  | [.int .i64 a0, .int .i64 a1, .int .i64 a2, .int .i64 a3]=>some ⟨a0,a1,a2,a3⟩
  | _=>none
def JI:List V→Option C6
  | [.int .i64 a0,a1, .str a2]=>match Dt (.int .i64) a1 with|some b1=>some ⟨a0,b1,a2⟩|_=>none
  | _=>none

def Ty.dec:(T:Ty)→List V→Option T.den
  | .int k=>LV k | .bool=>Ii | .str=>LW
  | .dcm=>S2
  | .json=>PR
  | .raw=>S3
  | .PQ=>PS
  | .fld=>S4
  | .Q8=>PT
  | .token=>LX
  | .stop=>PU
  | .UP=>S5
  | .order=>LY
  | .JG=>PV
  | .layout=>JH
  | .topic=>LZ
  | .state=>L0
  | .ctl=>S6
  | .Q9=>PW
  | .Kx=>L1
  | .Ra=>PX
  | .Rb=>PY
  | .Rc=>PZ
  | .Oo=>P0
  | .Rd=>P1
  | .post=>P2
  | .job=>S7
  | .record=>JI


def Ty.one:Ty→Bool
  | .int _=>true
  | .bool=>true
  | .str=>true
  | _=>false
def N9 (T:Ty) (x:T.den):V:=bif T.one then (T.cells x).headD .undef else .agg (T.cells x)
def elD (T:Ty):V→Option T.den
  | .agg cs=>bif T.one then none else T.dec cs
  | v=>bif T.one then T.dec [v]else none

def yo:(K:Ty)→K.den→K.den→Bool
  | .str,(a:aj),(b:aj)=>a==b
  | .int _,(a:Int),(b:Int)=>a==b
  | .Oo,(a:KX),(b:KX)=>a.a==b.a&&(a.b==b.b&&true)
  | _,_,_=>false
def Ly:Ty→Bool
  | .str=>true
  | .int _=>true
  | .Oo=>true
  | _=>false
def nJ (K T:Ty) (k:K.den):List (K.den × T.den)→T.den
  | []=>T.cn
  | e::r=>bif yo K k e.1 then e.2 else nJ K T k r
def D4 (K T:Ty) (k:K.den):List (K.den × T.den)→Bool
  | []=>false
  | e::r=>bif yo K k e.1 then true else D4 K T k r
def wW (K T:Ty) (k:K.den) (v:T.den):List (K.den × T.den)→List (K.den × T.den)
  | [] => [(k,v)]
  | e::r=>bif yo K k e.1 then (k,v)::r else e::wW K T k v r

inductive ca where
  | free
  | dead
  | cells (cs:List V)
  | row (T:Ty) (l:List T.den)
  | tok
  | iter (s:aj) (pos:Nat)
  /-- a strings.Builder, its buffer -/
  | kW (v:V)
  | vL (K T:Ty) (l:List (K.den × T.den))

abbrev az:=List ca

structure St where
  fr:List V
  hp:az

inductive TD where
  | bool|int (k:IntKind)|string|ptr (e:Nat)|slice (e:Nat)|arr (n e:Nat)|map (k e:Nat)|struct (fs:List (Nat × Nat))|func|iface|other

structure TI where
  d:TD
  size:Nat
  bytes:Nat
  zero:List V
  ty:Option Ty
  eq:Bool:=false
  /-- slices of such elements are rows of ours -/
  rowy:Bool:=false
  /-- strings.Builder -/
  kW:Bool:=false

abbrev dO:=List TI

def TI.none:TI:=⟨.other,0,0, [], .none,false,false,false⟩
def dO.mode (tt:dO) (rs:List Ty):dO:=tt.map fun i => { i with rowy:=match i.ty with|some T=>rs.contains T|none=>false }
def dO.at (tt:dO) (t:Nat):TI:=tt.getD t TI.none
def dO.ok (tt:dO) (t:Nat):Bool:=match (tt.at t).d with | .other=>false|_=>true
def dO.isAgg (tt:dO) (t:Nat):Bool:=match (tt.at t).d with | .struct _=>true | .arr _ _=>true|_=>false

def inK (k:IntKind) (n:Int):Bool:=decide (k.min≤n)&&decide (n≤k.max)

def FB:Value→V
  | .bool b => .bool b
  | .int k n=>if inK k n then .int k n else .undef
  | .string s=>if s.size≤9223372036854775807 then .str s.data.toList else .undef
  | .pointer .none => .eQ
  | .slice .none 0 0 => .cJ
  | .nilFunc => .aV
  | .map .none => .oN
  | .nilIface => .cX
  | _ => .undef

def ofConst:Value→V
  | .agg cs => .agg (cs.toList.map FB)
  | v=>FB v

def ev (fr:List V):Operand→V
  | .tmp t=>fr.getD t .undef
  | .const c=>ofConst c
  | .func f => .func f [] []
  | .global _ => .undef

section
variable {R:Type}

def cU (b:Bool) (k:Option R):Option R:=bif b then k else none

def mD:List V→List V→Option Bool
  | [], []=>some true
  | .int k a::x, .int k' b::y=>if k=k' then (match mD x y with|some r=>some (a==b&&r)|none=>none)else none
  | .str a::x, .str b::y=>match mD x y with|some r=>some (a==b&&r)|none=>none
  | .bool a::x, .bool b::y=>match mD x y with|some r=>some (a==b&&r)|none=>none
  | _,_=>none

def eqV (a b:V):Option Bool :=
  match a,b with
  | .bool x, .bool y=>some (x==y)
  | .agg xs, .agg ys=>mD xs ys
  | _,_=>none

def S8:V→Option Bool
  | .eQ=>some true
  | .ptr _ _=>some false
  | .yc _=>some false
  | .tJ _ _ _ _=>some false
  | _=>none

def P3 {R:Type} (op:BinOp) (a b:V) (k:V→Option R):Option R :=
  match b with
  | .eQ =>
    (match op,S8 a with
     | .eql,some r=>k (.bool r)
     | .neq,some r=>k (.bool (!r))
     | _,_=>none)
  | _=>none

def EU {R:Type} (a:V) (k:Option Bool→Option R):Option R :=
  match a with
  | .cJ=>k (some true)
  | .sl _ l _=>bif l.isEmpty then k none else k (some false)
  | .row _ n=>bif decide (n=0)then k none else k (some false)
  | _=>none

def L2 (neg:Bool):Option Bool→V
  | none => .GK
  | some r => .bool (bif neg then !r else r)

def slK {R:Type} (op:BinOp) (a b:V) (k:V→Option R):Option R :=
  match b with
  | .cJ =>
    (match op with
     | .eql=>EU a fun r=>k (L2 false r)
     | .neq=>EU a fun r=>k (L2 true r)
     | _=>none)
  | _=>none

def ifK {R:Type} (op:BinOp) (y:Operand) (a b:V) (k:V→Option R):Option R :=
  match y,b,a,op with
  | .const _, .cX, .cX, .eql=>k (.bool true)
  | .const _, .cX, .cX, .neq=>k (.bool false)
  | .const _, .cX, .iface, .eql=>k (.bool false)
  | .const _, .cX, .iface, .neq=>k (.bool true)
  | .const _, .cX, .FA _ _ _, .eql=>k (.bool false)
  | .const _, .cX, .FA _ _ _, .neq=>k (.bool true)
  | _,_,_,_=>none

def CL:aj→aj→Bool
  | _, []=>false
  | [],_::_=>true
  | a::x,b::y=>a<b||(a==b&&CL x y)

def yd (op:BinOp) (x y:V) (k:V→Option R):Option R :=
  match op,x,y with
  | .shl, .int i a, .int _ b=>cU (decide (0≤b)) (k (.int i (i.wrap (a*2 ^ (min b.toNat i.bits)))))
  | .shr, .int i a, .int _ b=>cU (decide (0≤b)) (k (.int i (a.fdiv (2 ^ (min b.toNat i.bits)))))
  | op, .int i a, .int j b =>
    if i=j then
      match op with
      | .add=>k (.int i (i.wrap (a+b)))
      | .sub=>k (.int i (i.wrap (a - b)))
      | .mul=>k (.int i (i.wrap (a*b)))
      | .quo=>cU (!decide (b=0)) (k (.int i (i.wrap (a.tdiv b))))
      | .rem=>cU (!decide (b=0)) (k (.int i (a.tmod b)))
      | .and=>k (.int i (i.wrap (BitVec.ofInt i.bits a &&& BitVec.ofInt i.bits b).toNat))
      | .or=>k (.int i (i.wrap (BitVec.ofInt i.bits a ||| BitVec.ofInt i.bits b).toNat))
      | .xor=>k (.int i (i.wrap (BitVec.ofInt i.bits a ^^^ BitVec.ofInt i.bits b).toNat))
      | .eql=>k (.bool (a==b))
      | .neq=>k (.bool (a != b))
      | .lss=>k (.bool (decide (a<b)))
      | .leq=>k (.bool (decide (a≤b)))
      | .gtr=>k (.bool (decide (a>b)))
      | .geq=>k (.bool (decide (a≥b)))
      | _=>none
    else none
  | op, .str a, .str b =>
    match op with
    | .add=>cU (decide (a.length+b.length≤9223372036854775807)) (k (.str (a++b)))
    | .eql=>k (.bool (a==b))
    | .neq=>k (.bool (!(a==b)))
    | .lss=>k (.bool (CL a b))
    | .leq=>k (.bool (CL a b||a==b))
    | .gtr=>k (.bool (!(CL a b||a==b)))
    | .geq=>k (.bool (!(CL a b)))
    | _=>none
  | .eql,a,b=>match eqV a b with|some r=>k (.bool r)|none=>none
  | .neq,a,b=>match eqV a b with|some r=>k (.bool (!r))|none=>none
  | _,_,_=>none

def su (tt:dO) (t:Nat) (cs:List V) (off:Nat) (k:V→Option R):Option R :=
  if tt.ok t then
    if tt.isAgg t then (if off+(tt.at t).size≤cs.length then k (.agg ((cs.drop off).take (tt.at t).size))else none)
    else (match cs[off]? with|some v=>k v|none=>none)
  else none

def Hb (cells:List V):List (Nat × Nat × V)→Option (List V)
  | []=>some cells
  | (off,size,v)::rest =>
    match OT v with
    | some vs=>if vs.length=size&&off+size≤cells.length then Hb (cells.take off++vs++cells.drop (off+size)) rest else none
    | none=>none

def idxOf (i:V) (k:Int→Option R):Option R:=match i with | .int _ n=>k n|_=>none

def FC (v:Option V) (d:Int) (k:Int→Option R):Option R :=
  match v with
  | none=>k d
  | some (.int _ n)=>k n
  | some _=>none

def fw:List V→List V→Bool
  | [], []=>true
  | .int k _::z, .int k' _::c=>decide (k=k')&&fw z c
  | .str _::z, .str _::c=>fw z c
  | .bool _::z, .bool _::c=>fw z c
  | _,_=>false

def P4 (i:TI) (a b:List V):Bool:=i.eq&&fw i.zero a&&fw i.zero b

def opP (tt:dO) (o:Op) (ρ:Operand→V) (k:V→Option R):Option R :=
  match o with
  | .move x=>k (ρ x)
  | .assign x=>k (ρ x)
  | .pick c a b =>
    match ρ c with
    | .bool t =>
      (match ρ a,ρ b with
       | .bool u, .bool v=>k (.bool (bif t then u else v))
       | u,v=>bif t then k u else k v)
    | _=>none
  | .nilCheck x =>
    match ρ x with
    | .ptr i o=>k (.ptr i o)
    | .yc cs=>k (.yc cs)
    | .tJ i n j o=>k (.tJ i n j o)
    | .func f a b=>k (.func f a b)
    | _=>none
  | .binOp op t x y _ =>
    match ρ x,ρ y with
    | .agg a, .agg b=>if P4 (tt.at t) a b then yd op (.agg a) (.agg b) k else none
    | .bool a, .bool b=>(match (tt.at t).d with | .bool=>yd op (.bool a) (.bool b) k|_=>none)
    | .int i a, .int j b=>yd op (.int i a) (.int j b) k
    | .str a, .str b=>yd op (.str a) (.str b) k
    | a,b=>(match (tt.at t).d with | .ptr _=>P3 op a b k | .slice _=>slK op a b k | .iface=>ifK op y a b k|_=>none)
  | .unOp op _ x =>
    match op,ρ x with
    | .neg, .int i n=>k (.int i (i.wrap (0 - n)))
    | .not, .bool b=>k (.bool (!b))
    | _,_=>none
  | .convert s d x =>
    if !tt.ok s then none else
    match (tt.at d).d,ρ x with
    | .int i, .int _ n=>k (.int i (i.wrap n))
    | .string, .str t=>(match (tt.at s).d with | .string=>k (.str t)|_=>none)
    | _,_=>none
  | .makeInterface t x =>
    match (tt.at t).d,ρ x with
    | .int _, .int i n=>k (.FA t i n)
    | _,_=>none
  | .fieldAddr s x f =>
    match (tt.at s).d with
    | .struct fs =>
      (match fs[f]? with
       | some (off,t) =>
         if (tt.at t).size=0 || !tt.ok t then none else
         (match ρ x with
          | .ptr i o=>k (.ptr i (o+off))
          | .yc cs=>k (.yc (cs.drop off))
          | .tJ i n j o=>k (.tJ i n j (o+off))
          | _=>none)
       | none=>none)
    | _=>none
  | .field s x f =>
    match (tt.at s).d,ρ x with
    | .struct fs, .agg cs=>(match fs[f]? with|some (off,t)=>su tt t cs off k|none=>none)
    | _,_=>none
  | .indexAddr t x i =>
    idxOf (ρ i) fun n =>
    match (tt.at t).d,ρ x with
    | .slice e, .sl T l _=>if T.sz=(tt.at e).size&&tt.ok e then cU (decide (0≤n)&&decide (n<l.length)) (k (.yc (T.cells (l.getD n.toNat T.cn))))else none
    | .slice e, .row id m=>if tt.ok e then cU (decide (0≤n)&&decide (n<m)) (k (.tJ id (tt.at e).size n.toNat 0))else none
    | .arr m e, .ptr id o=>if tt.ok e then cU (decide (0≤n)&&decide (n<m)) (k (.ptr id (o+n.toNat*(tt.at e).size)))else none
    | _,_=>none
  | .index t x i =>
    idxOf (ρ i) fun n =>
    match (tt.at t).d,ρ x with
    | .string, .str s=>cU (decide (0≤n)&&decide (n<s.length)) (k (.int .u8 (s.getD n.toNat 0).toNat))
    | .arr m e, .agg cs=>cU (decide (0≤n)&&decide (n<m)) (su tt e cs (n.toNat*(tt.at e).size) k)
    | _,_=>none
  | .slice t x lo hi mx =>
    match mx with
    | some _=>none
    | none =>
      (match (tt.at t).d,ρ x with
       | .string, .str s =>
         FC (hi.map ρ) s.length fun h=>FC (lo.map ρ) 0 fun l =>
         cU (decide (0≤h)&&decide (h≤s.length)) (cU (decide (0≤l)&&decide (l≤h)) (k (.str ((s.drop l.toNat).take (h.toNat - l.toNat)))))
       | .slice e, .sl T s _ =>
         if T.sz=(tt.at e).size&&tt.ok e then
         FC (lo.map ρ) 0 fun l =>
         (match hi with
          | none=>cU (decide (0≤l)&&decide (l≤s.length)) (k (.sl T (s.drop l.toNat) .no))
          | some hi =>
            FC (some (ρ hi)) 0 fun h =>
            cU (decide (0≤h)&&decide (h≤s.length)) (cU (decide (0≤l)&&decide (l≤h)) (k (.sl T ((s.drop l.toNat).take (h.toNat - l.toNat)) .no))))
         else none
       | .slice e, .cJ =>
         if !tt.ok e then none else
         FC (hi.map ρ) 0 fun h=>FC (lo.map ρ) 0 fun l=>cU (decide (h=0)&&decide (l=0)) (k .cJ)
       | _,_=>none)
  | .makeFunc (.func f) first cap=>k (.func f (first.toList.map ρ) (cap.toList.map ρ))
  | .extract t i=>match ρ t with | .tuple vs=>(match vs[i]? with|some v=>k v|none=>none)|_=>none
  | .build t parts =>
    match (tt.at t).d with
    | .struct fs =>
      if !fs.all (fun f=>tt.ok f.2) || !tt.ok t||decide (1000000≤(tt.at t).zero.length)then none else
      (match Hb (tt.at t).zero (parts.toList.map fun (i,x)=>((fs.getD i (0,0)).1,if i<fs.length then (tt.at (fs.getD i (0,0)).2).size else 1000000,ρ x))with
       | some cs=>k (.agg cs)|none=>none)
    | .arr _ e =>
      if !tt.ok e || !tt.ok t||decide (1000000≤(tt.at t).zero.length)then none else
      (match Hb (tt.at t).zero (parts.toList.map fun (i,x)=>(i*(tt.at e).size,(tt.at e).size,ρ x))with
       | some cs=>k (.agg cs)|none=>none)
    | _=>none
  | .call c =>
    match c.callee,c.args.toList with
    | .builtin .len, [x] =>
      (match c.argTypes.toList with
       | [t] =>
         (match (tt.at t).d,ρ x with
          | .string, .str s=>k (.int .i64 s.length)
          | .slice _, .sl _ l _=>k (.int .i64 l.length)
          | .slice _, .N8 n _=>k (.int .i64 n)
          | .slice _, .row _ n=>k (.int .i64 n)
          | .slice _, .cJ=>k (.int .i64 0)
          | _,_=>none)
       | _=>none)
    | .builtin .min, [x,y]=>(match ρ x,ρ y with | .int i a, .int j b=>if i=j then k (.int i (min a b))else none|_,_=>none)
    | .builtin .max, [x,y]=>(match ρ x,ρ y with | .int i a, .int j b=>if i=j then k (.int i (max a b))else none|_,_=>none)
    | _,_=>none
  | _=>none

end

def az.at (h:az) (i:Nat):ca:=h.getD i .dead

def Tok.pZ (ρ:Nat→Option Nat):Tok→Tok
  | .own i=>match ρ i with|some j => .own j|none => .no
  | t=>t

mutual
def V.pZ (ρ:Nat→Option Nat):V→V
  | .ptr i o=>match ρ i with|some j => .ptr j o|none => .undef
  | .sl T l t => .sl T l (t.pZ ρ)
  | .row i n=>match ρ i with|some j => .row j n|none => .undef
  | .Ds i q n=>match ρ i with|some j => .Ds j q n|none => .undef
  | .tJ i n k o=>match ρ i with|some j => .tJ j n k o|none => .undef
  | .map i=>match ρ i with|some j => .map j|none => .undef
  | .func f a b => .func f (V.yt ρ a) (V.yt ρ b)
  | .agg cs => .agg (V.yt ρ cs)
  | .tuple vs => .tuple (V.yt ρ vs)
  | .yc cs => .yc (V.yt ρ cs)
  | .N8 n cs => .N8 n (V.yt ρ cs)
  | v=>v
def V.yt (ρ:Nat→Option Nat):List V→List V
  | [] => []
  | v::vs=>v.pZ ρ::V.yt ρ vs
end

def ca.pZ (ρ:Nat→Option Nat):ca→ca
  | .cells cs => .cells (V.yt ρ cs)
  | .kW v => .kW (v.pZ ρ)
  | o=>o

mutual
def V.ids:V→List Nat
  | .ptr i _ => [i]
  | .sl _ _ (.own i) => [i]
  | .row i _ => [i]
  | .Ds i _ _ => [i]
  | .tJ i _ _ _ => [i]
  | .map i => [i]
  | .func _ a b=>V.s6 a++V.s6 b
  | .agg cs=>V.s6 cs
  | .tuple vs=>V.s6 vs
  | .yc cs=>V.s6 cs
  | .N8 _ cs=>V.s6 cs
  | _ => []
def V.s6:List V→List Nat
  | [] => []
  | v::vs=>v.ids++V.s6 vs
end

def ca.ids:ca→List Nat
  | .cells cs=>V.s6 cs
  | .kW v=>v.ids
  | _ => []

def reach (h:az):Nat→List Nat→List Nat→List Nat
  | 0,_,seen=>seen
  | _+1, [],seen=>seen
  | n+1,i::todo,seen=>if seen.contains i then reach h n todo seen else reach h n (todo++(h.at i).ids) (seen ++ [i])

def yp (ord:List Nat) (i:Nat):Option Nat:=let p:=ord.idxOf i; if p<ord.length then some p else none

def az.pick (h:az) (ord:List Nat):az:=ord.map fun i=>(h.at i).pZ (yp ord)

def pD (ord:List Nat) (n:Nat) (j:Nat):Nat:=if j<ord.length then ord.getD j 0 else n+(j - ord.length)
def az.Ao (h:az):List (Nat × ca)→az
  | []=>h
  | (i,o)::r=>az.Ao (h.set i o) r
def az.back (h:az) (ord:List Nat) (h':az):az :=
  let ρ:=fun j=>some (pD ord h.length j)
  az.Ao h (ord.zip ((h'.take ord.length).map (ca.pZ ρ)))++(h'.drop ord.length).map (ca.pZ ρ)

section
variable {R:Type}

abbrev Spec (R:Type):=List V→az→(V→az→Option R)→Option R

def oO (l:List Int):aj:=l.flatMap fun n=>(Utf8.encode n).data.toList

def wX (tt:dO) (t:Nat):Ty→Bool
  | .str=>(match (tt.at t).d with | .string=>true|_=>false)
  | .int k=>(match (tt.at t).d with | .int k'=>decide (k'=k)|_=>false)
  | _=>false
def Ap (tt:dO) (t:Nat):Ty→Bool
  | .bool=>(match (tt.at t).d,(tt.at t).zero with | .bool, [.bool false]=>true|_,_=>false)
  | .int k=>(match (tt.at t).d,(tt.at t).zero with | .int _, [.int k' 0]=>decide (k'=k)|_,_=>false)
  | _=>false

def EV (lim:Option Nat) (i:Nat):Bool:=match lim with|none=>true|some m=>decide (i<m)

def VQ (tt:dO) (o:Op) (ρ:Operand→V) (h:az) (lim:Option Nat) (k:V→Option R):Option R :=
  match o with
  | .load t x =>
    match ρ x with
    | .ptr i o =>
      if EV lim i then
        match h.at i with
        | .cells cs=>su tt t cs o k
        | .kW v=>su tt t [.undef,v] o k
        | _=>none
      else none
    | .yc cs=>su tt t cs 0 k
    | .tJ i sz j o =>
      if EV lim i then
        match h.at i with
        | .row T l=>if sz=T.sz then cU (decide (j<l.length)) (su tt t (T.cells (l.getD j T.cn)) o k)else none
        | _=>none
      else none
    | _=>none
  | .lookup t x ix ok =>
    match (tt.at t).d,ρ x with
    | .map kt vt, .map i =>
      if EV lim i then
        match h.at i with
        | .vL K T l =>
          if wX tt kt K&&Ap tt vt T then
            match elD K (ρ ix)with
            | some kx=>bif ok then k (.tuple [N9 T (nJ K T kx l), .bool (D4 K T kx l)])else k (N9 T (nJ K T kx l))
            | none=>none
          else none
        | _=>none
      else none
    | _,_=>none
  | .convert s d x =>
    match (tt.at d).d,(tt.at s).d,ρ x with
    | .string, .slice e, .row i _ =>
      if EV lim i then
        match (tt.at e).d,h.at i with
        | .int .u8, .row (.int .u8) l=>k (.str ((l:List Int).map fun n=>UInt8.ofNat n.toNat))
        | _,_=>none
      else none
    | .string, .slice e, .sl T l _ =>
      match (tt.at e).d,T,l with
      | .int .u8, .int .u8,l=>k (.str ((l:List Int).map fun n=>UInt8.ofNat n.toNat))
      | .int .i32, .int .i32,l=>cU (decide (4*l.length≤9223372036854775807)) (k (.str (oO l)))
      | _,_,_=>none
    | .string, .slice e, .cJ=>match (tt.at e).d with | .int .u8=>k (.str [])|_=>none
    | _,_,_=>none
  | _=>none

def Hw (s:aj):List (Ty.den (.int .u8)):=(s.map fun b=>(b.toNat:Int):List Int)

def wY (T:Ty):List (List V)→Option (List T.den)
  | []=>some []
  | c::cs=>match T.dec c,wY T cs with|some x,some xs=>some (x::xs)|_,_=>none

def chunks (n:Nat):Nat→List V→List (List V)
  | 0,_ => []
  | m+1,l=>l.take n::chunks n m (l.drop n)

def Du (ρ:Operand→V):Option Operand→Bool
  | none=>true
  | some x=>(match ρ x with | .int _ _=>true|_=>false)

def XL (tt:dO) (o:Op) (ρ:Operand→V) (k:ca→(Nat→V)→Option R):Option R :=
  match o with
  | .alloc t=>if (tt.at t).kW then k (.kW .cJ) fun i => .ptr i 0 else if tt.ok t then k (.cells (tt.at t).zero) fun i => .ptr i 0 else none
  | .box t x=>match OT (ρ x)with|some cs=>if tt.ok t&&decide (cs.length=(tt.at t).size)then k (.cells cs) fun i => .ptr i 0 else none|none=>none
  | .buildSlice t len parts =>
    match (tt.at t).d with
    | .slice e =>
      let sz:=(tt.at e).size
      if sz=0||decide (len*sz>4096) || !tt.ok e then none else
      (match Hb ((List.replicate len (tt.at e).zero).flatten) (parts.toList.map fun (i,x)=>(i*sz,sz,ρ x)),(tt.at e).ty with
       | some cs,some T =>
         if T.sz=sz then
           if ((tt.at e).rowy&&decide (len=0))=true then k (.row T []) fun i => .row i 0 else
           (match wY T (chunks sz len cs)with|some l=>k .tok fun i => .sl T l (.own i)|none=>k .dead fun _ => .N8 len cs)
         else none
       | some cs,none=>k .dead fun _ => .N8 len cs
       | none,_=>none)
    | _=>none
  | .makeSlice t n c =>
    match (tt.at t).d,ρ n,ρ c with
    | .slice e, .int _ a, .int _ b =>
      (match (tt.at e).ty with
       | some T =>
         (match T.dec (tt.at e).zero with
          | some z=>if T.sz=(tt.at e).size&&tt.ok e then cU (decide (0≤a)&&decide (a=b)&&decide (a*(tt.at e).bytes≤140737488355328)&&decide (a≤140737488355328)) (k (.row T (List.replicate a.toNat z)) fun i => .row i a.toNat)else none
          | none=>none)
       | none=>none)
    | _,_,_=>none
  | .convert s d x =>
    match (tt.at s).d,(tt.at d).d,ρ x with
    | .string, .slice e, .str t =>
      (match (tt.at e).d with
       | .int .u8=>k (.row (.int .u8) (Hw t)) fun i => .row i t.length
       | _=>none)
    | _,_,_=>none
  | .makeMap t rsv =>
    if Du ρ rsv then
    match (tt.at t).d with
    | .map kt vt =>
      (match (tt.at kt).ty,(tt.at vt).ty with
       | some K,some T=>if wX tt kt K&&Ap tt vt T then k (.vL K T []) fun i => .map i else none
       | _,_=>none)
    | _=>none
    else none
  | .range t x=>match (tt.at t).d,ρ x with | .string, .str s=>k (.iter s 0) fun i => .ptr i 0|_,_=>none
  | _=>none

def Aq (cs:List V) (o:Nat) (vs:List V):List V:=cs.take o++vs++cs.drop (o+vs.length)

def Ky (T:Ty) (h:az):V→Option (List T.den)
  | .cJ=>some []
  | .sl T' l _=>if e:T'=T then some (e▸l)else none
  | .row i _=>match h.at i with | .row T' l=>if e:T'=T then some (e▸l)else none|_=>none
  | .N8 n cs=>if cs.length=n*T.sz then wY T (chunks T.sz n cs)else none
  | .str s=>if e:T = .int .u8 then some (e▸Hw s)else none
  | _=>none

def oB (tt:dO) (e:Nat) (s x:V) (h:az) (id:Nat) (k:V→az→Option R):Option R :=
  match (tt.at e).ty with
  | some T =>
    if T.sz=(tt.at e).size&&(tt.at e).bytes != 0&&tt.ok e then
    (match Ky T h x with
     | some m =>
       let room (n:Nat) (q:Option R):Option R:=cU (decide ((n+m.length)*(tt.at e).bytes≤140737488355328)) q
       (match s with
        | .cJ=>room 0 (if (tt.at e).rowy then k (.row id m.length) (h.set id (.row T m))else k (.sl T m (.own id)) (h.set id .tok))
        | .sl T' l tk =>
          if q:T'=T then
            let l':List T.den:=q▸l
            (match tk with
             | .no=>none
             | .nil=>room l.length (k (.sl T (l'++m) (.own id)) (h.set id .tok))
             | .own i=>(match h.at i with | .tok=>room l.length (k (.sl T (l'++m) (.own id)) ((h.set i .dead).set id .tok))|_=>none))
          else none
        | .row i _ =>
          (match h.at i with
           | .row T' l =>
             if q:T'=T then
               let l':List T.den:=q▸l
               room l.length (k (.row id (l'.length+m.length)) ((h.set i .dead).set id (.row T (l'++m))))
             else none
           | _=>none)
        | _=>none)
     | none=>none)
    else none
  | none=>none

def mW (s:aj) (pos:Nat):Nat × Nat:=Utf8.decode ⟨s.toArray⟩ pos

def Lz (tt:dO) (o:Op) (ρ:Operand→V) (h:az) (id:Nat) (k:V→az→Option R):Option R :=
  match o with
  | .store t x y =>
    match OT (ρ y)with
    | none=>none
    | some vs =>
    if tt.ok t&&decide (vs.length=(tt.at t).size)then
      match ρ x with
      | .ptr i o =>
        (match h.at i with
         | .cells cs=>if o+vs.length≤cs.length then k .undef (h.set i (.cells (Aq cs o vs)))else none
         | .kW _=>(match o,vs with|1, [v]=>k .undef (h.set i (.kW v))|_,_=>none)
         | _=>none)
      | .tJ i sz j o =>
        (match h.at i with
         | .row T l =>
           if sz=T.sz then
           let cs:=T.cells (l.getD j T.cn)
           if o+vs.length≤cs.length then
             (match T.dec (Aq cs o vs)with
              | some y=>cU (decide (j<l.length)) (k .undef (h.set i (.row T (l.set j y))))
              | none=>none)
           else none
           else none
         | _=>none)
      | _=>none
    else none
  | .call c =>
    match c.callee,c.args.toList,c.argTypes.toList with
    | .builtin .append, [s,x], [t,xt] =>
      (match (tt.at t).d,(tt.at xt).d with
       | .slice e, .slice _=>oB tt e (ρ s) (ρ x) h id k
       | .slice e, .string=>oB tt e (ρ s) (ρ x) h id k
       | _,_=>none)
    | _,_,_=>none
  | .mapUpdate t m x y =>
    match (tt.at t).d,ρ m with
    | .map kt vt, .map i =>
      (match h.at i with
       | .vL K T l =>
         if wX tt kt K&&Ap tt vt T then
           match elD K (ρ x),elD T (ρ y)with
           | some kx,some vx=>k .undef (h.set i (.vL K T (wW K T kx vx l)))
           | _,_=>none
         else none
       | _=>none)
    | _,_=>none
  | .insert t m x y =>
    match (tt.at t).d,ρ m with
    | .map kt vt, .map i =>
      (match h.at i with
       | .vL K T l =>
         if wX tt kt K&&Ap tt vt T then
           match elD K (ρ x),elD T (ρ y)with
           | some kx,some vx=>k .undef (h.set i (.vL K T (wW K T kx vx l)))
           | _,_=>none
         else none
       | _=>none)
    | _,_=>none
  | .next x str =>
    match str,ρ x with
    | true, .ptr i 0 =>
      (match h.at i with
       | .iter s pos=>bif decide (pos<s.length)then k (.tuple [.bool true, .int .i64 pos, .int .i32 (mW s pos).1]) (h.set i (.iter s (pos+(mW s pos).2)))else k (.tuple [.bool false]) h
       | _=>none)
    | _,_=>none
  | _=>none

mutual
def V.shut (h:az):V→V
  | .sl T l _ => .sl T l .no
  | .row i _=>match h.at i with | .row T l => .sl T l .no|_ => .undef
  | .agg cs => .agg (V.Kz h cs)
  | .tuple vs => .tuple (V.Kz h vs)
  | v=>v
def V.Kz (h:az):List V→List V
  | [] => []
  | v::vs=>v.shut h::V.Kz h vs
end

def V.OU:V→Bool
  | .int _ _ | .bool _ | .str _ | .eQ | .cJ | .oN | .aV | .cX | .iface | .FA _ _ _=>true
  | _=>false
def V.VR:V→Bool
  | .tuple vs=>vs.all V.OU
  | .agg vs=>vs.all V.OU
  | v=>v.OU

inductive Cls where
  | P|R|A|W|C|F|X
  deriving DecidableEq

def fB (tt:dO):Op→Cls
  | .move _ | .assign _ | .pick _ _ _ | .nilCheck _ | .binOp _ _ _ _ _ | .unOp _ _ _ | .fieldAddr _ _ _ | .field _ _ _ | .indexAddr _ _ _ | .index _ _ _
  | .slice _ _ _ _ _ | .makeFunc _ _ _ | .extract _ _ | .build _ _ | .makeInterface _ _ => .P
  | .convert s d _ =>
    match (tt.at s).d,(tt.at d).d with
    | .slice _, .string => .R
    | .string, .slice _ => .A
    | _,_ => .P
  | .load _ _ => .R
  | .lookup _ _ _ _ => .R
  | .alloc _ | .box _ _ | .buildSlice _ _ _ | .makeSlice _ _ _ | .range _ _ | .makeMap _ _ => .A
  | .store _ _ _ => .W
  | .mapUpdate _ _ _ _ => .W
  | .insert _ _ _ _ => .W
  | .next _ str=>bif str then .W else .X
  | .call c=>match c.callee with
    | .builtin .len => .P | .builtin .min => .P | .builtin .max => .P
    | .builtin .append => .W
    | .builtin _ => .X
    | .value _ => .C
    | .invoke _ _ => .X
  | _ => .X

def mX (fr:List V) (dst:Option Nat) (v:V):List V:=match dst with|some d=>fr.set d v|none=>fr

def L3:V→V
  | .sl T l _ => .sl T l .no
  | v=>v

def D5:V→V
  | .sl T l _ => .sl T l .no
  | .agg cs => .agg (cs.map L3)
  | v=>v

abbrev Env (R:Type):=Nat→Option (Bool × Spec R)

def oC (E:Env R) (o:Op):Bool :=
  match o with
  | .call c=>(match c.callee with | .value (.func g)=>(match E g with|some (b,_)=>b|none=>false) | .value (.tmp _)=>true|_=>false)
  | _=>false

def mY (E:Env R) (o:Op):Bool :=
  match o with
  | .call c=>(match c.callee with | .value (.func g)=>oZ.soft g&&(match E g with|some (false,_)=>true|_=>false)|_=>false)
  | _=>false

def pO:Op→Bool
  | .call c=>(match c.callee with | .builtin .append=>true|_=>false)
  | _=>false

def S9 (id:Nat):V→Bool | .row _ _=>false | .sl _ _ (.own i)=>decide (i<id)|_=>true
def lowX (id:Nat):V→Bool | .row i _=>decide (i<id)|_=>true
def vM (o:Op) (ρ:Operand→V) (id:Nat):Bool :=
  match o with
  | .call c=>(match c.args.toList with | [s,x]=>S9 id (ρ s)&&lowX id (ρ x)|_=>true)
  | _=>true

def ew (tt:dO) (E:Env R) (o:Op):Cls:=match fB tt o with | .C=>bif oC E o then .C else .F|c=>c

def canon (tt:dO) (t:Nat) (v:V):V :=
  match (tt.at t).ty with
  | some T =>
    (match v with
     | .agg cs=>(match T.dec cs with|some x=>if tt.isAgg t then .agg (T.cells x)else v|none=>v)
     | v=>(match T.dec [v]with|some x=>if tt.isAgg t then v else (match T.cells x with | [c]=>c|_=>v)|none=>v))
  | none =>
    (match (tt.at t).d with
     | .slice e=>(match (tt.at e).ty with|some T=>(match Dt T v with|some l => .sl T l .no|none=>v)|none=>v)
     | _=>v)

def Hx (tt:dO):List Nat→List V→List V
  | t::ts,v::vs=>canon tt t v::Hx tt ts vs
  | _,vs=>vs

def X7 (sp:Spec R) (vs:List V) (h:az) (k:V→az→Option R):Option R :=
  match V.s6 vs with
  | []=>sp vs [] fun v h'=>(match h' with | []=>bif v.VR then k v h else none|_::_=>none)
  | _::_=>none

def yq (tt:dO) (E:Env R) (full:Bool) (c:Call) (ρ:Operand→V) (h:az) (k:V→az→Option R):Option R :=
  match c.callee with
  | .value f =>
    match ρ f with
    | .func g first cap =>
      let vs:=first++c.args.toList.map ρ++cap
      (match E g with
       | some (true,sp) =>
         let ps:=(first++Hx tt c.argTypes.toList (c.args.toList.map ρ)++cap).map D5
         (match V.s6 ps with
          | []=>sp ps [] fun v h'=>(match h' with | []=>k v h|_::_=>none)
          | _::_=>bif full then X7 sp (V.Kz h ps) h k else none)
       | some (false,sp) =>
         bif full then
           bif oZ.soft g then sp vs h k else
           let ord:=reach h 64 (V.s6 vs) []
           sp (V.yt (yp ord) vs) (h.pick ord) fun v h'=>k (v.pZ fun j=>some (pD ord h.length j)) (h.back ord h')
         else none
       | none=>none)
    | _=>none
  | _=>none

def zO (tt:dO) (E:Env R) (drawn:Option Nat) (id:Nat) (o:Oper) (st:St) (k:St→Option R):Option R :=
  let ρ:=ev st.fr
  match fB tt o.op with
  | .P=>opP tt o.op ρ fun v=>k ⟨mX st.fr o.dst v,st.hp⟩
  | .R=>VQ tt o.op ρ st.hp drawn fun v=>k ⟨mX st.fr o.dst v,st.hp⟩
  | .A=>XL tt o.op ρ fun ob mk=>k ⟨mX st.fr o.dst (mk id),st.hp.set id ob⟩
  | .W=>bif drawn.isSome && !vM o.op ρ id then none else Lz tt o.op ρ st.hp id fun v h=>k ⟨mX st.fr o.dst v,h⟩
  | .C=>match o.op with | .call c=>yq tt E (drawn.isNone || !oC E o.op) c ρ st.hp fun v h=>k ⟨mX st.fr o.dst v,h⟩|_=>none
  | .F=>none
  | .X=>none

def cm (tt:dO) (o:Oper):Bool:=match fB tt o.op with | .A=>true | .W=>true|_=>false

def vN (all:List Oper) (o:Oper) (st:St) (run skip:St→Option R):Option R :=
  match o.guard with
  | none=>run st
  | some (j,want) =>
    match ((all[j]?).bind (·.dst))with
    | none=>none
    | some d =>
      match st.fr.getD d .undef with
      | .bool b =>
        bif b then (if want then run ⟨st.fr.set d (.bool true),st.hp⟩else skip ⟨st.fr.set d (.bool true),st.hp⟩)
        else (if want then skip ⟨st.fr.set d (.bool false),st.hp⟩else run ⟨st.fr.set d (.bool false),st.hp⟩)
      | .tuple []=>skip st
      | _=>none

noncomputable def L4 {α β:Type} (l:List α) (k:List α→β):β :=
  List.rec (motive:=fun _=>(List α→β)→β) (fun k=>k []) (fun v _ ih k=>ih fun r=>k (v::r)) l k
theorem Dv {α β:Type}:∀(l:List α) (k:List α→β),L4 l k=k l
  | [],_=>rfl
  | v::l,k=>Dv l fun r=>k (v::r)
noncomputable def Gq {β:Type} (st:St) (k:St→β):β:=L4 st.fr fun fr=>L4 st.hp fun hp=>k ⟨fr,hp⟩
theorem D6 {β:Type} (st:St) (k:St→β):Gq st k=k st:=by unfold Gq; rw[Dv,Dv]

noncomputable def L5 (tt:dO) (E:Env R) (drawn:Option Nat) (all:List Oper):List Oper→Nat→St→(St→Option R)→Option R
  | [],_,st,k=>k st
  | o::rest,id,st,k =>
    let id':=if cm tt o then id+1 else id
    vN all o st (fun st=>zO tt E drawn id o st fun st=>Gq st fun st=>L5 tt E drawn all rest id' st k)
      (fun st=>Gq ⟨mX st.fr o.dst (.tuple []),st.hp⟩ fun st=>L5 tt E drawn all rest id' st k)

def LA (M:List Nat) (es:List Nat):Nat:=es.foldl (fun m e=>m ||| (Nat.pow 2 e ||| M.getD e 0)) 0

def D7 (o:Oper):List Nat:=(o.after.toList.filter fun e=>Region.binds .any e).map (·.on)

def Ij (ops:List Oper):List Nat:=ops.foldl (init := []) fun M o=>M ++ [LA M (D7 o)]
def beforeL (n:Nat) (M:List Nat):List (List Nat):=(List.range n).map fun j=>(List.range n).filter fun i=>(M.getD j 0).testBit i

def looks (all:List Oper) (o:Oper):List Nat :=
  (o.op.operands.toList.filterMap fun | .tmp t=>some t|_=>none) ++
  (match o.guard with|some (g,_)=>((all[g]?).bind (·.dst)).toList|none => [])

def yu (all:List Oper) (x y:Oper):Bool :=
  (match x.dst with|some d => !(looks all y).contains d&&y.dst != some d|none=>true) &&
  (match y.dst with|some d => !(looks all x).contains d|none=>true)

def Hc (a b:Cls):Bool :=
  match a,b with
  | .X,_|_, .X=>false
  | .P,_|_, .P=>true
  | .C, .R | .C, .A | .R, .C | .A, .C=>true
  | .R, .R | .R, .A | .A, .R | .A, .A=>true
  | _,_=>false

def tokPair (tt:dO) (E:Env R) (x y:Op):Bool :=
  ((pO x&&(match ew tt E y with | .A | .R=>true|_=>false))||((match ew tt E x with | .R=>true|_=>false)&&pO y)) ||
    ((mY E x&&(match ew tt E y with | .R=>true|_=>false))||((match ew tt E x with | .R=>true|_=>false)&&mY E y))

def JJ (tt:dO) (E:Env R) (all:List Oper) (x y:Oper):Bool:=(Hc (ew tt E x.op) (ew tt E y.op)||tokPair tt E x.op y.op)&&yu all x y

def XM (tt:dO) (E:Env R) (o:Op):Bool:=match ew tt E o with | .F=>true|_=>false
def VS (tt:dO) (E:Env R) (all:List Oper) (x:Oper):Bool:=(match ew tt E x.op with | .R=>true|_=>false)&&all.any fun y=>XM tt E y.op&&yu all x y
def lu (all:List Oper) (o:Oper):Bool :=
  match o.op with
  | .store _ (.tmp t) _=>o.dst.isNone&&o.guard.isNone&&((all.any fun z=>z.dst==some t&&(match z.op with | .fieldAddr _ _ _=>true|_=>false))||all.all fun z=>z.dst != some t)
  | _=>false
def rM (all:List Oper) (o:Oper):Bool :=
  match o.op with
  | .store _ (.tmp t) _=>o.dst.isNone&&o.guard.isNone&&all.any fun z=>z.dst==some t&&(match z.op with | .indexAddr _ _ _=>true|_=>false)
  | _=>false
def Ta (all:List Oper) (x y:Oper):Bool:=(lu all x&&rM all y)||(rM all x&&lu all y)
def OV (tt:dO) (E:Env R) (all:List Oper) (x:Oper):Bool:=(match ew tt E x.op with | .R=>true|_=>false)&&all.any (lu all)
def rdA (tt:dO) (E:Env R) (x:Oper):Bool:=match ew tt E x.op with | .R | .A=>true|_=>false
def Re (tt:dO) (E:Env R) (x y:Oper):Bool := !(pO x.op&&rdA tt E y) && !(rdA tt E x&&pO y.op)
def XO (tt:dO) (S:Option (Bool × List Nat)) (base:Nat) (o:Oper):Option Nat:=match S with|some (true,_)=>(match fB tt o.op with | .W=>none|_=>some base)|_=>some base
def EW (tt:dO) (E:Env R) (far:Option Bool) (all:List Oper) (x y:Oper):Bool :=
  (JJ tt E all x y&&(match far with|some true=>Re tt E x y|_=>true))||(match far with
    | none=>false
    | some true=>((VS tt E all x&&XM tt E y.op)||(XM tt E x.op&&(!mY E x.op&&(match fB tt y.op with | .A=>true|_=>false)))||Ta all x y)&&yu all x y
    | some false=>(OV tt E all x&&lu all y)&&yu all x y)
def wZ (o:Op) (ρ:Operand→V):List Nat:=match o with | .load _ x=>(ρ x).ids | .lookup _ x _ _=>(ρ x).ids | .convert _ _ x=>(ρ x).ids|_ => []
def np (o:Op) (ρ:Operand→V) (h:az):List Nat :=
  match o with
  | .call c=>(match c.callee with | .value f=>(match ρ f with | .func _ first cap=>reach h 64 (V.s6 (first++c.args.toList.map ρ++cap)) []|_ => [])|_ => [])
  | _ => []
def BV (o:Op) (ρ:Operand→V):List Nat:=match o with | .store _ x _=>(ρ x).ids|_ => []
def Hy (tt:dO) (E:Env R) (base:Nat) (S:Option (Bool × List Nat)) (all:List Oper) (o:Oper) (ρ:Operand→V) (h:az):Bool :=
  match S with
  | none=>true
  | some (false,A) =>
    match fB tt o.op with
    | .R => !OV tt E all o||(wZ o.op ρ).all fun i => !A.contains i
    | .W => !lu all o||(BV o.op ρ).all fun i=>A.contains i
    | _=>true
  | some (true,A) =>
    match fB tt o.op with
    | .R => !VS tt E all o||(wZ o.op ρ).all fun i=>A.contains i
    | .C => !XM tt E o.op||mY E o.op||(Nat.ble (base+(all.filter (cm tt)).length) h.length&&(np o.op ρ h).all (fun i=>Nat.blt i base)&&A.all fun i=>Nat.blt i h.length && !(np o.op ρ h).contains i)
    | .W=>(!lu all o||(BV o.op ρ).all fun i=>A.contains i)&&(!rM all o||(BV o.op ρ).all fun i => !A.contains i)
    | _=>true
def L6 (ops:List Oper) (fr:List V):List Nat:=ops.flatMap fun o=>match o.op with | .fieldAddr _ x _=>(ev fr x).ids | .load _ x=>(ev fr x).ids | .store _ x _=>(ev fr x).ids|_ => []

def L7 (ops:List Oper) (fr:List V):List Nat:=ops.flatMap fun o =>
  bif lu ops o then (match o.op with | .store _ (.tmp t) _=>bif (ops.all fun z=>z.dst != some t)then (ev fr (.tmp t)).ids else ops.flatMap (fun z=>bif z.dst==some t then (match z.op with | .fieldAddr _ x _=>(ev fr x).ids|_ => [])else [])|_ => [])else []

noncomputable def Rf (tt:dO) (E:Env R) (base:Nat) (A:Bool × List Nat) (all:List Oper):List Oper→Nat→St→(St→Option R)→Option R
  | [],_,st,k=>k st
  | o::rest,id,st,k =>
    let id':=if cm tt o then id+1 else id
    vN all o st (fun st=>bif Hy tt E base (some A) all o (ev st.fr) st.hp then zO tt E (XO tt (some A) base o) id o st fun st=>Gq st fun st=>Rf tt E base A all rest id' st k else none)
      (fun st=>Gq ⟨mX st.fr o.dst (.tuple []),st.hp⟩ fun st=>Rf tt E base A all rest id' st k)

def FD (tt:dO) (E:Env R) (far:Option Bool) (ops:List Oper):Bool :=
  let M:=Ij ops
  (List.range ops.length).all fun j=>(List.range j).all (fun i =>
    (M.getD j 0).testBit i||EW tt E far ops (ops.getD i default) (ops.getD j default)) &&
    (D7 (ops.getD j default)).all (fun i=>Nat.blt i j) &&
    Nat.beq (M.getD j 0) (LA M (D7 (ops.getD j default)))

noncomputable def Gr (tt:dO) (E:Env R) (ops:List Oper) (draw:Bool) (st:St) (k:St→Option R):Option R :=
  let n:=st.hp.length
  let tK:St:=⟨st.fr,st.hp++List.replicate (ops.filter (cm tt)).length .free⟩
  if draw then (if FD tt E none ops then L5 tt E (some n) ops ops n tK k else if FD tt E (some true) ops then Rf tt E n (true,L6 ops st.fr) ops ops n tK k else if FD tt E (some false) ops then Rf tt E n (false,L7 ops st.fr) ops ops n tK k else none)
  else L5 tt E none ops ops n tK k

noncomputable def Hd (log:List (Nat × V)) (t:Nat) (d:V):V :=
  List.rec (motive:=fun _=>V) d (fun x _ ih=>cond (Nat.beq x.1 t) x.2 ih) log
noncomputable def L8 {β:Type} (log:List (Nat × V)) (t:Nat) (d:V) (k:V→β):β :=
  List.rec (motive:=fun _=>β) (k d) (fun x _ ih=>cond (Nat.beq x.1 t) (k x.2) ih) log
noncomputable def Tb {β:Type} (log:List (Nat × V)) (fr:List V) (k:List V→β):β :=
  List.rec (motive:=fun _=>Nat→(List V→β)→β) (fun _ k=>k []) (fun v _ ih i k=>L8 log i v fun v'=>ih (i+1) fun r=>k (v'::r)) fr 0 k
noncomputable def evF (fr:List V) (log:List (Nat × V)) (x:Operand):V:=match x with | .tmp t=>Hd log t (fr.getD t .undef)|x=>ev fr x
def OW (n:Nat) (log:List (Nat × V)) (dst:Option Nat) (v:V):List (Nat × V):=match dst with|some d=>bif Nat.blt d n then (d,v)::log else log|none=>log

def X8 (tt:dO) (E:Env R) (drawn:Option Nat) (id:Nat) (o:Oper) (ρ:Operand→V) (hp:az) (k:V→az→Option R):Option R :=
  match fB tt o.op with
  | .P=>opP tt o.op ρ fun v=>k v hp
  | .R=>VQ tt o.op ρ hp drawn fun v=>k v hp
  | .A=>XL tt o.op ρ fun ob mk=>k (mk id) (hp.set id ob)
  | .W=>bif drawn.isSome && !vM o.op ρ id then none else Lz tt o.op ρ hp id fun v h=>k v h
  | .C=>match o.op with | .call c=>yq tt E (drawn.isNone || !oC E o.op) c ρ hp fun v h=>k v h|_=>none
  | .F=>none
  | .X=>none

noncomputable def Tc (all:List Oper) (o:Oper) (fr:List V) (log:List (Nat × V)) (run skip:List (Nat × V)→Option R):Option R :=
  match o.guard with
  | none=>run log
  | some (j,want) =>
    match ((all[j]?).bind (·.dst))with
    | none=>none
    | some d =>
      match Hd log d (fr.getD d .undef)with
      | .bool b =>
        bif b then (if want then run ((d, .bool true)::log)else skip ((d, .bool true)::log))
        else (if want then skip ((d, .bool false)::log)else run ((d, .bool false)::log))
      | .tuple []=>skip log
      | _=>none

noncomputable def Td (tt:dO) (E:Env R) (drawn:Option Nat) (all:List Oper) (n:Nat) (fr:List V):List Oper→Nat→List (Nat × V)→az→(St→Option R)→Option R
  | [],_,log,hp,k=>Tb log fr fun fr=>L4 hp fun hp=>k ⟨fr,hp⟩
  | o::rest,id,log,hp,k =>
    let id':=if cm tt o then id+1 else id
    Tc all o fr log (fun log=>X8 tt E drawn id o (evF fr log) hp fun v hp=>L4 hp fun hp=>Td tt E drawn all n fr rest id' (OW n log o.dst v) hp k)
      (fun log=>Td tt E drawn all n fr rest id' (OW n log o.dst (.tuple [])) hp k)

noncomputable def regionF (tt:dO) (E:Env R) (ops:List Oper) (draw:Bool) (st:St) (k:St→Option R):Option R :=
  let n:=st.hp.length
  let hp:=st.hp++List.replicate (ops.filter (cm tt)).length .free
  if draw then (if FD tt E none ops then Td tt E (some n) ops st.fr.length st.fr ops n [] hp k else if FD tt E (some true) ops then Rf tt E n (true,L6 ops st.fr) ops ops n ⟨st.fr,hp⟩ k else if FD tt E (some false) ops then Rf tt E n (false,L7 ops st.fr) ops ops n ⟨st.fr,hp⟩ k else none)
  else Td tt E none ops st.fr.length st.fr ops n [] hp k

inductive Ex where
  | normal|exit (id:Nat)|goto (l:Nat)|ret

structure Hint where
  live:List Nat
  own:List (Nat × Ty) := []
  rows:List (Nat × Ty) := []
  cells:List (Nat × Nat × Ty × Bool) := []
  drop:List Nat := []
  out:List Nat := []

def D8 (live drop:List Nat) (fr:List V):List V:=fr.zipIdx.map fun (v,i)=>if live.contains i then (if drop.contains i then D5 v else v)else .undef

def Hz:List (Nat × Ty)→St→St
  | [],st=>st
  | (d,T)::r,st =>
    match st.fr.getD d .undef with
    | .cJ=>Hz r ⟨st.fr.set d (.sl T [] (.own st.hp.length)),st.hp ++ [.tok]⟩
    | .sl T' l .nil=>Hz r ⟨st.fr.set d (.sl T' l (.own st.hp.length)),st.hp ++ [.tok]⟩
    | _=>Hz r st

def FE:List (Nat × Ty)→St→St
  | [],st=>st
  | (d,T)::r,st =>
    match st.fr.getD d .undef with
    | .cJ=>FE r ⟨st.fr.set d (.row st.hp.length 0),st.hp ++ [.row T []]⟩
    | _=>FE r st

def AP (T:Ty) (b:Bool):ca:=bif b then .row T []else .tok
def w3 (T:Ty) (b:Bool) (i:Nat):V:=bif b then .row i 0 else .sl T [] (.own i)

def AZ:List (Nat × Nat × Ty × Bool)→St→St
  | [],st=>st
  | (i,o,T,b)::r,st =>
    match st.hp.at i with
    | .cells cs =>
      (match cs.getD o .undef with
       | .cJ=>AZ r ⟨st.fr,st.hp.set i (.cells (cs.set o (w3 T b st.hp.length))) ++ [AP T b]⟩
       | _=>AZ r st)
    | .kW v =>
      (match v with
       | .cJ=>AZ r ⟨st.fr,st.hp.set i (.kW (w3 T b st.hp.length)) ++ [AP T b]⟩
       | _=>AZ r st)
    | _=>AZ r st

def St.gc (m:Nat) (st:St):St :=
  let ord:=reach st.hp 256 (List.range m++V.s6 st.fr) []
  ⟨V.yt (yp ord) st.fr,st.hp.pick ord⟩

def UQ (m:Nat) (h:Hint) (st:St):St:=match h.cells with | []=>st|_::_=>st.gc m
def norm (m:Nat) (h:Hint) (st:St):St:=(AZ h.cells (FE h.rows (Hz h.own (UQ m h ⟨D8 h.live h.drop st.fr,st.hp⟩)))).gc m

def trim (m:Nat) (h:Hint) (st:St):St:=(⟨D8 h.out [] st.fr,st.hp⟩:St).gc m

abbrev cr (R:Type):=St→(Ex→St→Option R)→Option R

def keyOf:Code→Nat
  | .region id _ _=>id
  | .seq a _=>keyOf a
  | .block _ b=>keyOf b
  | .loop b=>keyOf b
  | .cond _ a _=>keyOf a
  | .scope b=>keyOf b
  | _=>0

def UR (body:cr R):Nat→cr R
  | 0,_,_=>none
  | n+1,st,K=>body st fun e tK=>match e with | .normal=>UR body n tK K|e=>K e tK

def CM (body:cr R) (f:St→St):Nat→cr R
  | 0,_,_=>none
  | n+1,st,K=>body st fun e tK=>match e with | .normal=>CM body f n (f tK) K|e=>K e tK

noncomputable def anyT (a b:Option R):Option R:=open Classical in if a=b then a else none

noncomputable def lv (tt:dO) (E:Env R) (L:Nat→Option (Hint × cr R)) (m:Nat):Code→cr R
  | .skip,st,K=>K .normal st
  | .region _ ops draw,st,K=>regionF tt E ops.toList draw st fun tK=>K .normal tK
  | .seq a b,st,K=>lv tt E L m a st fun e tK=>match e with | .normal=>lv tt E L m b tK K|e=>K e tK
  | .cond c a b,st,K=>match ev st.fr c with | .bool t=>bif t then lv tt E L m a st K else lv tt E L m b st K | .GK=>anyT (lv tt E L m a st K) (lv tt E L m b st K)|_=>none
  | .block id a,st,K=>lv tt E L m a st fun e tK=>match e with | .exit i=>if i=id then K .normal tK else K (.exit i) tK|e=>K e tK
  | .loop a,st,K =>
    match L (keyOf a)with
    | some (h,ls)=>ls (norm m h st) K
    | none=>UR (lv tt E L m a) 70 st K
  | .exit id,st,K=>K (.exit id) st
  | .ret,st,K=>K .ret st
  | _,_,_=>none

def Rg (tt:dO) (st:St):List ResultVar→(List V→Option R)→Option R
  | [],k=>k []
  | .tmp t::r,k=>Rg tt st r fun vs=>k (st.fr.getD t .undef::vs)
  | .cell a t::r,k =>
    match st.fr.getD a .undef with
    | .ptr i o =>
      (match st.hp.at i with
       | .cells cs=>su tt t cs o fun v=>Rg tt st r fun vs=>k (v::vs)
       | _=>none)
    | _=>none

def oo (h:az):List Nat→az
  | []=>h
  | i::r=>match h.at i with | .row _ _=>oo (h.set i .dead) r|_=>oo h r

def Te (tt:dO):List Nat→List V→List V
  | t::ts,v::vs=>canon tt t v::Te tt ts vs
  | _,_ => []

def LB (tt:dO) (ts:List Nat) (m:Nat) (keep:Bool) (vs:List V) (h:az) (k:V→az→Option R):Option R :=
  let ws:=if keep then vs else Te tt ts (V.Kz h vs)
  let h:=if keep then h else oo h (V.s6 vs)
  let ord:=reach h 256 (List.range m++V.s6 ws) []
  k (match V.yt (yp ord) ws with | [v]=>v|l => .tuple l) (h.pick ord)

noncomputable def iP (tt:dO) (E:Env R) (L:Nat→Option (Hint × cr R)) (keep:Bool) (fn:Func) (c:Code):Spec R :=
  fun args h k =>
    if 200<h.length then none else
    lv tt E L h.length c ⟨args++List.replicate (fn.ntmps - args.length) .undef,h⟩ fun e st =>
      match e with
      | .normal | .ret=>Rg tt st fn.results.toList fun vs=>LB tt fn.resultTypes.toList h.length keep vs st.hp k
      | _=>none

end
end Go.ay

namespace Go.ay
open Go.RowKit

structure Rh where
  cells:Nat→Nat→Prop
instance:CoeFun Rh fun _=>Nat→Nat→Prop:=⟨Rh.cells⟩

structure kA where
  s5:Nat→Option Nat
  off:Nat→Nat
  /-- cells that are the callers' -/
  ext:Rh

def ca.from_ (o:ca) (f:Nat):Option Nat :=
  match o with
  | .free=>none
  | .dead=>none
  | .tok=>some f
  | _=>some 0

def Used (h:az) (i:Nat):Prop:=i<h.length∧h.at i ≠ .free

def uo (h:az) (c:kA) (b x:Nat):Prop:=∃i f,c.s5 i=some b∧(h.at i).from_ (c.off i)=some f∧f≤x

def GL (h:az) (c:kA) (b x:Nat):Prop:=¬uo h c b x∧¬c.ext b x

def mx:Nat:=9223372036854775807

def Tf (T:Ty) (o:Nat) (e:TypeId):Prop:=T = .int .u8→o=0∧e=oZ.u8

inductive dK (w:World) (h:az) (c:kA):V→Value→Prop where
  | undef (v:Value):dK w h c .undef v
  | int {k:IntKind} {n:Int} (hn:k.has n):dK w h c (.int k n) (.int k n)
  | bool (b:Bool):dK w h c (.bool b) (.bool b)
  | str {s:ByteArray} (hl:s.size≤mx):dK w h c (.str s.data.toList) (.string s)
  | eQ:dK w h c .eQ (.pointer none)
  | ptr {i o:Nat} {v:Value} (hi:Used h i) (hv:∃b,v = .pointer (some ⟨b,o,none⟩)∧(h.at i ≠ .dead→c.s5 i=some b)):dK w h c (.ptr i o) v
  | yc {cs:List V} {b o:Nat} (f:Nat→Value) (hc:∀j,j<cs.length→w.cell? ⟨b,o+j,none⟩=some (f j)∧GL h c b (o+j))
      (hr:∀(j:Nat) (v:V),cs[j]? = some v→dK w h c v (f j)):dK w h c (.yc cs) (.pointer (some ⟨b,o,none⟩))
  | cJ:dK w h c .cJ (.slice none 0 0)
  | sl {T:Ty} {l:List T.den} {t:Tok} {A:Option Addr} {cap:Nat} (f:Nat→Nat→Value) (me:l.length≤cap) (s7:cap≤mx)
      (hc:∀i j,i<l.length→j<T.sz→∃b o,A=some ⟨b,o,none⟩∧w.cell? ⟨b,o+i*T.sz+j,none⟩=some (f i j)∧GL h c b (o+i*T.sz+j))
      (hr:∀(i j:Nat) (x:T.den) (v:V),l[i]? = some x→(T.cells x)[j]? = some v→dK w h c v (f i j))
      (yv:t = .nil→A=none∧cap=0)
      (nk:∀i,t = .own i→Used h i∧(h.at i = .tok →
        (c.s5 i=none∧A=none∧cap=0)∨∃b o arr e fz,c.s5 i=some b∧A=some ⟨b,o,none⟩∧c.off i=o+l.length*T.sz ∧
          w.heap[b]? = some (Obj.cells arr e fz)∧o+cap*T.sz≤arr.size∧Tf T o e)):dK w h c (.sl T l t) (.slice A l.length cap)
  | N8 {n sz:Nat} {cs:List V} {A:Option Addr} (hn:cs.length=n*sz) (s7:n≤mx) (f:Nat→Value)
      (hc:∀j,j<cs.length→∃b o,A=some ⟨b,o,none⟩∧w.cell? ⟨b,o+j,none⟩=some (f j)∧GL h c b (o+j))
      (hr:∀(j:Nat) (v:V),cs[j]? = some v→dK w h c v (f j)):dK w h c (.N8 n cs) (.slice A n n)
  | row {i n:Nat} {v:Value} (hi:Used h i) (hn:n≤mx) (hv:∃A cap,v = .slice A n cap∧(0<n→∃a,A=some a)∧∀T l,h.at i = .row T l→n=l.length∧n≤cap∧cap≤mx ∧
        ((c.s5 i=none∧A=none∧cap=0)∨∃b arr e fz,c.s5 i=some b∧A=some ⟨b,c.off i,none⟩∧w.heap[b]? = some (Obj.cells arr e fz)∧c.off i+cap*T.sz≤arr.size)) :
      dK w h c (.row i n) v
  | Ds {i q n:Nat} {v:Value} (hi:Used h i) (hn:n≤mx) (hv:∃A cap,v = .slice A n cap∧(0<n→∃a,A=some a)∧∀T l,h.at i = .row T l→q+n≤l.length∧n≤cap∧cap≤mx ∧
        (0<n→∃b,c.s5 i=some b∧A=some ⟨b,c.off i+q*T.sz,none⟩)):dK w h c (.Ds i q n) v
  | tJ {i n j o:Nat} {v:Value} (hi:Used h i) (hv:∃a,v = .pointer (some a)∧∀T l,h.at i = .row T l→n=T.sz→j<l.length→∃b,c.s5 i=some b∧a=⟨b,c.off i+j*T.sz+o,none⟩) :
      dK w h c (.tJ i n j o) v
  | func {f:Nat} {a b:List V} {x y:Array Value} (ha:a.length=x.size) (hb:b.length=y.size)
      (hra:∀(j:Nat) (v:V) (d:Value),a[j]? = some v→x[j]? = some d→dK w h c v d) (hrb:∀(j:Nat) (v:V) (d:Value),b[j]? = some v→y[j]? = some d→dK w h c v d) :
      dK w h c (.func f a b) (.func (.func f) x y)
  | aV:dK w h c .aV .nilFunc
  | agg {cs:List V} {x:Array Value} (hl:cs.length=x.size) (hr:∀(j:Nat) (v:V) (d:Value),cs[j]? = some v→x[j]? = some d→dK w h c v d):dK w h c (.agg cs) (.agg x)
  | tuple {cs:List V} {x:Array Value} (hl:cs.length=x.size) (hr:∀(j:Nat) (v:V) (d:Value),cs[j]? = some v→x[j]? = some d→dK w h c v d):dK w h c (.tuple cs) (.tuple x)
  | map {i:Nat} {v:Value} (hi:Used h i) (hv:∃b,v = .map (some b)∧(h.at i ≠ .dead→c.s5 i=some b)):dK w h c (.map i) v
  | oN:dK w h c .oN (.map none)
  | cX:dK w h c .cX .nilIface
  | iface (t:TypeId) (v:Value):dK w h c .iface (.iface t v)
  | FA {t:TypeId} {k:IntKind} {n:Int} (hn:k.has n):dK w h c (.FA t k n) (.iface t (.int k n))
  | GK (b:Bool):dK w h c .GK (.bool b)

def cK (w:World) (h:az) (c:kA) (cs:List V) (ds:List Value):Prop :=
  cs.length=ds.length∧∀(j:Nat) (v:V) (d:Value),cs[j]? = some v→ds[j]? = some d→dK w h c v d

def oJ (w:World) (h:az) (c:kA) (i:Nat):ca→Prop
  | .free=>True
  | .dead=>True
  | .cells cs=>∃b arr e,c.s5 i=some b∧w.heap[b]? = some (Obj.cells arr e (0,0))∧cK w h c cs arr.toList
  | .row T l=>(c.s5 i=none∧l = [])∨∃b arr e fz,c.s5 i=some b∧w.heap[b]? = some (Obj.cells arr e fz)∧c.off i+l.length*T.sz≤arr.size ∧
      (∀x,x<arr.size→w.frozen? ⟨b,x,none⟩=false)∧∀(n j:Nat) (x:T.den) (v:V),l[n]? = some x→(T.cells x)[j]? = some v→∃d,arr[c.off i+n*T.sz+j]? = some d∧dK w h c v d
  | .tok=>c.s5 i=none∨∃b arr e fz,c.s5 i=some b∧w.heap[b]? = some (Obj.cells arr e fz)∧c.off i≤arr.size∧(fz.1=fz.2∨fz.2≤c.off i)
  | .kW v=>∃b p d,c.s5 i=some b∧w.heap[b]? = some (Obj.cells #[p,d] oZ.kW (0,0))∧(p = .pointer none∨p = .pointer (some ⟨b,0,none⟩))∧dK w h c v d
  | .iter s pos=>∃b bs,c.s5 i=some b∧w.heap[b]? = some (.stringIter bs pos)∧bs.data.toList=s∧bs.size≤mx
  | .vL K T l=>∃b es clock,c.s5 i=some b∧w.heap[b]? = some (.map es clock)∧Ly K=true∧T.one=true∧es.size=l.length ∧
      ∀(j:Nat) (x:K.den × T.den) (e:MapEntry),l[j]? = some x→es[j]? = some e→dK w h c (N9 K x.1) e.key∧dK w h c (N9 T x.2) e.val

def ca.live:ca→Prop
  | .free=>False
  | .dead=>False
  | _=>True

def Laid (w:World) (h:az) (c:kA):Prop:=oZ.VP w∧∀b,oZ.blocks b→b<w.heap.size∧∀x, ¬uo h c b x

structure WF (w:World) (h:az) (c:kA):Prop where
  yw:∀b x,uo h c b x→¬c.ext b x
  pP:∀b x,c.ext b x→b<w.heap.size
  obj:∀i,i<h.length→oJ w h c i (h.at i)
  inj:∀i j b,(h.at i).live→(h.at j).live→c.s5 i=some b→c.s5 j=some b→i=j
  lay:Laid w h c

def ca.iQ:ca→ca→Prop
  | .cells cs, .cells ds=>cs.length=ds.length
  | .row T l, .row U m=>T=U∧l.length=m.length
  | .tok, .tok=>True
  | .iter _ _, .iter _ _=>True
  | .kW _, .kW _=>True
  | .vL K T _, .vL K' U _=>K=K'∧T=U
  | _,_=>False

structure Ext (w:World) (h:az) (c:kA) (w':World) (h':az) (c':kA):Prop where
  os:w'.os=w.os
  tape:w'.tape=w.tape
  output:w'.output=w.output
  size:w.heap.size≤w'.heap.size
  used:∀i,Used h i→Used h' i
  same:∀i,Used h i→h'.at i ≠ .dead→(h.at i).iQ (h'.at i)∧c'.s5 i=c.s5 i∧c'.off i=c.off i
  cell:∀b x,b<w.heap.size→¬uo h c b x→w'.cell? ⟨b,x,none⟩=w.cell? ⟨b,x,none⟩
  block:∀b,b<w.heap.size→(∀x, ¬uo h c b x)→w'.heap[b]? = w.heap[b]?
  wK:∀b x,b<w.heap.size→uo h' c' b x→uo h c b x
  ext:c'.ext=c.ext
  arr:∀(b:Nat) (arr:Array Value) (e:TypeId) (fz:Nat × Nat),w.heap[b]? = some (Obj.cells arr e fz)→∃(FF:Array Value) (GM:Nat × Nat),w'.heap[b]? = some (Obj.cells FF e GM)∧FF.size=arr.size

theorem Ext.refl (w:World) (h:az) (c:kA):Ext w h c w h c where
  os:=rfl
  tape:=rfl
  output:=rfl
  size:=Nat.le_refl _
  used:=fun _ hi=>hi
  same:=fun i hi hd=>⟨by have h2:=hi.2; revert hd h2; cases h.at i <;> simp[ca.iQ],rfl,rfl⟩
  cell:=fun _ _ _ _=>rfl
  block:=fun _ _ _=>rfl
  wK:=fun _ _ _ ho=>ho
  ext:=rfl
  arr:=fun b arr e fz hb=>⟨arr,fz,hb,rfl⟩

theorem ca.Dw {o o':ca} (h:o.iQ o'):o ≠ .dead∧o' ≠ .dead:=by
  cases o <;> cases o' <;> simp_all [ca.iQ]

theorem ca.VT {a b c:ca} (h:a.iQ b) (k:b.iQ c):a.iQ c:=by
  cases a <;> cases b <;> cases c <;> simp_all [ca.iQ]

theorem Ext.trans {w w1 w2:World} {h h1 h2:az} {c c1 c2:kA} (a:Ext w h c w1 h1 c1) (b:Ext w1 h1 c1 w2 h2 c2):Ext w h c w2 h2 c2 where
  os:=b.os.trans a.os
  tape:=b.tape.trans a.tape
  output:=b.output.trans a.output
  size:=Nat.le_trans a.size b.size
  used:=fun i hi=>b.used i (a.used i hi)
  same:=fun i hi hd=>by
    obtain ⟨s2,e2,f2⟩:=b.same i (a.used i hi) hd
    obtain ⟨s1,e1,f1⟩:=a.same i hi (ca.Dw s2).1
    exact ⟨ca.VT s1 s2,e2.trans e1,f2.trans f1⟩
  cell:=fun x y hx ho=>by
    rw[b.cell x y (Nat.lt_of_lt_of_le hx a.size) (fun o=>ho (a.wK x y hx o)),a.cell x y hx ho]
  block:=fun x hx ho=>by
    rw[b.block x (Nat.lt_of_lt_of_le hx a.size) (fun y o=>ho y (a.wK x y hx o)),a.block x hx ho]
  wK:=fun x y hx o=>a.wK x y hx (b.wK x y (Nat.lt_of_lt_of_le hx a.size) o)
  ext:=b.ext.trans a.ext
  arr:=fun x arr e fz hx=>by
    obtain ⟨a1,f1,h1,s1⟩:=a.arr x arr e fz hx
    obtain ⟨a2,f2,h2,s2⟩:=b.arr x a1 e f1 h1
    exact ⟨a2,f2,h2,s2.trans s1⟩

theorem lt_of_cell {w:World} {b x:Nat} {v:Value} (h:w.cell? ⟨b,x,none⟩=some v):b<w.heap.size :=
  World.block_lt_of_cell? _ _ h

theorem sim_tok {o o':ca} (h:o.iQ o') (e:o' = .tok):o = .tok:=by subst e; cases o <;> simp_all [ca.iQ]
theorem P5 {o:ca} {T:Ty} {l:List T.den} (h:o.iQ (.row T l)):∃m:List T.den,o = .row T m∧m.length=l.length:=by
  cases o with
  | row U m=>obtain ⟨rfl,e⟩:=h; exact ⟨m,rfl,e⟩
  | _=>simp[ca.iQ]at h

section
variable {w w':World} {h h':az} {c c':kA}

theorem Ext.L9 (x:Ext w h c w' h' c') {b o:Nat} {v:Value} (hc:w.cell? ⟨b,o,none⟩=some v) (ho:GL h c b o) :
    w'.cell? ⟨b,o,none⟩=some v∧GL h' c' b o :=
  ⟨(x.cell b o (lt_of_cell hc) ho.1).trans hc,fun k=>ho.1 (x.wK b o (lt_of_cell hc) k),by rw[x.ext]; exact ho.2⟩

theorem dK.mono (x:Ext w h c w' h' c') {v:V} {d:Value} (r:dK w h c v d):dK w' h' c' v d:=by
  induction r with
  | undef v=>exact .undef v
  | int hn=>exact .int hn
  | bool b=>exact .bool b
  | str hl=>exact .str hl
  | eQ=>exact .eQ
  | cJ=>exact .cJ
  | aV=>exact .aV
  | oN=>exact .oN
  | cX=>exact .cX
  | iface t v=>exact .iface t v
  | FA hn=>exact .FA hn
  | GK b=>exact .GK b
  | ptr hi hv =>
    obtain ⟨b,hv,hb⟩:=hv
    refine .ptr (x.used _ hi) ⟨b,hv,fun hd => ?_⟩
    obtain ⟨s,e,_⟩:=x.same _ hi hd
    rw[e]
    exact hb (ca.Dw s).1
  | map hi hv =>
    obtain ⟨b,hv,hb⟩:=hv
    refine .map (x.used _ hi) ⟨b,hv,fun hd => ?_⟩
    obtain ⟨s,e,_⟩:=x.same _ hi hd
    rw[e]
    exact hb (ca.Dw s).1
  | yc f hc _ ih=>exact .yc f (fun j hj=>x.L9 (hc j hj).1 (hc j hj).2) ih
  | sl f me s7 hc _ yv nk ih =>
    refine .sl f me s7 (fun i j hi hj => ?_) ih yv (fun i ht => ?_)
    · obtain ⟨b,o,hA,h1,h2⟩:=hc i j hi hj
      exact ⟨b,o,hA,x.L9 h1 h2⟩
    · obtain ⟨hi,ho⟩:=nk i ht
      refine ⟨x.used _ hi,fun Ma => ?_⟩
      obtain ⟨s,e,eo⟩:=x.same i hi (by rw[Ma]; simp)
      rw[e,eo]
      rcases ho (sim_tok s Ma)with hn|⟨b,o,arr,el,fz,h1,h2,h3,h4,h5⟩
      · exact .inl hn
      · obtain ⟨FF,GM,h4',hs⟩:=x.arr b arr el fz h4
        exact .inr ⟨b,o,FF,el,GM,h1,h2,h3,h4',by rw[hs]; exact h5.1,h5.2⟩
  | N8 hn s7 f hc _ ih =>
    refine .N8 hn s7 f (fun j hj => ?_) ih
    obtain ⟨b,o,hA,h1,h2⟩:=hc j hj
    exact ⟨b,o,hA,x.L9 h1 h2⟩
  | row hi hn hv =>
    obtain ⟨A,cap,VU,hA,hv⟩:=hv
    refine .row (x.used _ hi) hn ⟨A,cap,VU,hA,fun T l he => ?_⟩
    obtain ⟨s,e,eo⟩:=x.same _ hi (by rw[he]; simp)
    rw[he]at s
    obtain ⟨m,hm,hl⟩:=P5 s
    obtain ⟨Q1,h1,h2,h3⟩:=hv T m hm
    refine ⟨by rw[Q1,hl],h1,h2,?_⟩
    rw[e,eo]
    rcases h3 with h3|⟨b,arr,el,fz,g1,g2,g3,g4⟩
    · exact .inl h3
    · obtain ⟨FF,GM,h4',hs⟩:=x.arr b arr el fz g3
      exact .inr ⟨b,FF,el,GM,g1,g2,h4',by rw[hs]; exact g4⟩
  | Ds hi hn hv =>
    obtain ⟨A,cap,VU,hA,hv⟩:=hv
    refine .Ds (x.used _ hi) hn ⟨A,cap,VU,hA,fun T l he => ?_⟩
    obtain ⟨s,e,eo⟩:=x.same _ hi (by rw[he]; simp)
    rw[he]at s
    obtain ⟨m,hm,hl⟩:=P5 s
    rw[e,eo,←hl]
    exact hv T m hm
  | tJ hi hv =>
    obtain ⟨a,ha,hv⟩:=hv
    refine .tJ (x.used _ hi) ⟨a,ha,fun T l he hn hj => ?_⟩
    obtain ⟨s,e,eo⟩:=x.same _ hi (by rw[he]; simp)
    rw[he]at s
    obtain ⟨m,hm,hl⟩:=P5 s
    rw[e,eo]
    exact hv T m hm hn (by rw[hl]; exact hj)
  | func ha hb _ _ iha ihb=>exact .func ha hb iha ihb
  | agg hl _ ih=>exact .agg hl ih
  | tuple hl _ ih=>exact .tuple hl ih

theorem cK.mono (x:Ext w h c w' h' c') {cs:List V} {ds:List Value} (r:cK w h c cs ds):cK w' h' c' cs ds :=
  ⟨r.1,fun j v d hv hd=>(r.2 j v d hv hd).mono x⟩

theorem cK.nil:cK w h c [] []:=⟨rfl,fun j v d hv=>by simp at hv⟩
theorem cK.cons {v:V} {d:Value} {cs:List V} {ds:List Value} (r:dK w h c v d) (rs:cK w h c cs ds):cK w h c (v::cs) (d::ds):=by
  refine ⟨by simp[rs.1],fun j u e hu he => ?_⟩
  cases j with
  | zero=>simp at hu he; subst hu; subst he; exact r
  | succ j=>simp at hu he; exact rs.2 j u e hu he
theorem cK.head {v:V} {d:Value} {cs:List V} {ds:List Value} (r:cK w h c (v::cs) (d::ds)):dK w h c v d:=r.2 0 v d rfl rfl
theorem cK.tail {v:V} {d:Value} {cs:List V} {ds:List Value} (r:cK w h c (v::cs) (d::ds)):cK w h c cs ds :=
  ⟨by simpa using r.1,fun j u e hu he=>r.2 (j+1) u e (by simpa using hu) (by simpa using he)⟩
theorem cK.append {a b:List V} {x y:List Value} (r:cK w h c a x) (s:cK w h c b y):cK w h c (a++b) (x++y):=by
  refine ⟨by simp[r.1,s.1],fun j u e hu he => ?_⟩
  have hl:=r.1
  by_cases hj:j<a.length
  · rw[List.getElem?_append_left hj]at hu
    rw[List.getElem?_append_left (by omega)]at he
    exact r.2 j u e hu he
  · rw[List.getElem?_append_right (by omega)]at hu
    rw[List.getElem?_append_right (by omega),←hl]at he
    exact s.2 _ u e hu he
theorem cK.take {a:List V} {x:List Value} (r:cK w h c a x) (n:Nat):cK w h c (a.take n) (x.take n):=by
  refine ⟨by simp[r.1],fun j u e hu he => ?_⟩
  rw[List.getElem?_take]at hu he
  split at hu <;> simp_all
  exact r.2 j u e hu he
theorem cK.drop {a:List V} {x:List Value} (r:cK w h c a x) (n:Nat):cK w h c (a.drop n) (x.drop n):=by
  refine ⟨by simp[r.1],fun j u e hu he => ?_⟩
  rw[List.getElem?_drop]at hu he
  exact r.2 _ u e hu he
theorem cK.map {α:Type} {f:α→V} {g:α→Value} (l:List α) (r:∀x∈l,dK w h c (f x) (g x)):cK w h c (l.map f) (l.map g):=by
  induction l with
  | nil=>exact .nil
  | cons x l ih=>exact .cons (r x (by simp)) (ih fun y hy=>r y (by simp[hy]))
theorem cK.getD {a:List V} {x:List Value} (r:cK w h c a x) (j:Nat) (d:Value):dK w h c (a.getD j .undef) (x.getD j d):=by
  by_cases hj:j<a.length
  · have hx:j<x.length:=by have:=r.1; omega
    exact r.2 j _ _ (by simp[List.getD,List.getElem?_eq_getElem hj]) (by simp[List.getD,List.getElem?_eq_getElem hx])
  · have:a.getD j .undef = .undef:=by simp[List.getD,List.getElem?_eq_none (Nat.le_of_not_lt hj)]
    rw[this]; exact .undef _
theorem cK.set {a:List V} {x:List Value} (r:cK w h c a x) (j:Nat) {v:V} {d:Value} (rv:dK w h c v d):cK w h c (a.set j v) (x.set j d):=by
  refine ⟨by simp[r.1],fun i u e hu he => ?_⟩
  rw[List.getElem?_set]at hu he
  by_cases ye:j=i
  · simp only[ye,if_true]at hu he
    split at hu <;> split at he <;> simp_all
  · simp only[ye,if_false]at hu he
    exact r.2 i u e hu he
theorem cK.KY (n:Nat) (d:Value):cK w h c (List.replicate n .undef) (List.replicate n d):=by
  refine ⟨by simp,fun j u e hu _ => ?_⟩
  rw[List.getElem?_replicate]at hu
  split at hu <;> simp_all
  subst hu; exact .undef _
end
end Go.ay

