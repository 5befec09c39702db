/-
  TopTexts: for every input whose bulk is at most 1048576 the law returns true, and each argument reads behind the call as it read before; part 1 of 8 of the proof: an interpreter of the model's code over typed data, proved sound; the functions that the law reaches, printed as Lean functions and tied; the plain law. Own texts laid one behind the other.
-/
import Derived.Calls
import Derived.Test.YtmlkkgfenfdndaaGreatDoorProg
import Derived.Lib.LaidTab
import Derived.Lib.ItoaNum
import Derived.Shelf.Unicode.DecodeSlow
import Derived.Orders
import Derived.KernelRfl
import Derived.Below
set_option linter.unusedSimpArgs false
set_option linter.unnecessarySimpa false
set_option linter.unusedVariables false
set_option linter.unusedSectionVars false
noncomputable section
namespace Go.aF

structure LayT where
 /-- the types of bytes, and of strings.Builder -/
 u8:Nat
 lW:Nat
 /-- functions whose specs leave the objects as they are -/
 soft:Nat→Bool
 blocks:Nat→Prop
 U3:World→Prop
 uM:∀w w':World,(∀b,blocks b→w'.heap[b]? = w.heap[b]?)→U3 w→U3 w'

def LayT.none:LayT:=⟨5,1000000,fun _=>false,fun _=>False,fun _=>True,fun _ _ _ h=>h⟩
end Go.aF

namespace Go.aF
open Go.Proofs

def OP (w:World):Prop :=
 Go.Lib.Utf8Tabs 1 2 w∧Go.Lib.TabIs Tryz.prog w "internal/strconv.uint64pow10" .u64 Go.Lib.pow10Tab ∧
  (∃t x,w.cell? ⟨4,0,none⟩=some (.iface t x))∧(∃t x,w.cell? ⟨5,0,none⟩=some (.iface t x))

theorem NQ:Tryz.prog.globalNamed "internal/strconv.uint64pow10" = some 3:=by kernel_rfl

theorem OQ (w w':World) (h:∀b,b<8→w'.heap[b]? = w.heap[b]?) (k:OP w):OP w':=by
 have hc:∀b x,b<8→w'.cell? ⟨b,x,none⟩=w.cell? ⟨b,x,none⟩:=fun b x hb=>by simp only[World.cell?,h b hb]
 obtain ⟨⟨k1,k2⟩,k3,k4,k5⟩:=k
 refine ⟨⟨fun c KF=>by rw[hc _ _ (by omega)]; exact k1 c KF,fun i hi=>by rw[hc _ _ (by omega),hc _ _ (by omega)]; exact k2 i hi⟩,?_,by rw[hc _ _ (by omega)]; exact k4,by rw[hc _ _ (by omega)]; exact k5⟩
 unfold Go.Lib.TabIs at k3 ⊢
 rw[←k3]
 simp only[World.var?,NQ,Option.bind_some,h 3 (by omega)]

def nR:LayT:=⟨5,73,fun g=>Nat.beq g 39,fun b=>b<8,OP,OQ⟩
end Go.aF

namespace Go.aF

abbrev aj:=List UInt8

structure iC where
 aB:Int
 exp:Int

def iC.z:iC:=⟨0,0⟩

structure Json where
 kind:Int
 num:iC
 text:aj
 names:List aj
 items:List Json

def Json.z:Json:=⟨0,iC.z, [], [], []⟩

structure Raw where
 kind:Int
 aB:Int
 exp:Int
 text:List Int
 items:List Raw

def Raw.z:Raw:=⟨0,0,0, [], []⟩

structure Hk where
 kind:Int
 aB:Int
 exp:Int
 text:List Int

def Hk.z:Hk:=⟨0,0,0, []⟩

structure Fld where
 name:aj
 kind:Int
 low:Int
 high:Int
 free:Bool

def Fld.z:Fld:=⟨[],0,0,0,false⟩

structure Nd where
 topic:aj
 data:aj
 bent:Bool

def Nd.z:Nd:=⟨[], [],false⟩

structure Token where
 kind:Int
 text:aj
 num:iC
 at_:Int

def Token.z:Token:=⟨0, [],iC.z,0⟩

structure Stop where
 node:Int
 seq:Int
 yn:Bool

def Stop.z:Stop:=⟨0,0,false⟩

structure Way where
 IV:Int
 seq:Int
 yn:Bool

def Way.z:Way:=⟨0,0,false⟩

structure Order where
 header:Int
 sC:aj
 order:Int
 update:Int
 nodes:List Stop
 K2:List Way

def Order.z:Order:=⟨0, [],0,0, [], []⟩

structure Edge where
 src:Int
 dst:Int
 cost:Int

def Edge.z:Edge:=⟨0,0,0⟩

structure BF where
 nodes:Int
 K2:List Edge

def BF.z:BF:=⟨0, []⟩

structure Ga where
 maker:aj
 Xo:aj
 kind:aj

def Ga.z:Ga:=⟨[], [], []⟩

structure State where
 header:Int
 Xp:Int
 sC:aj
 order:Int
 update:Int
 live:Bool
 node:Int
 seq:Int
 driving:Bool
 accepted:Int

def State.z:State:=⟨0,0, [],0,0,false,0,0,false,0⟩

structure Ctl where
 sC:aj
 header:Int
 order:Int
 update:Int
 Xp:Int
 seen:Int
 path:List Int
 seq:Int
 open_:Bool
 rel:Int
 wait:Bool
 pending:Order

def Ctl.z:Ctl:=⟨[],0,0,0,0,0, [],0,false,0,false,Order.z⟩

structure Nf where
 kind:Int
 i:Int
 k:Int
 by_:Int
 data:aj

def Nf.z:Nf:=⟨0,0,0,0, []⟩

structure DL where
 header:Int
 order:Int
 update:Int
 seq:Int
 from_:Int
 yn:Int
 turns:List Int

def DL.z:DL:=⟨0,0,0,0,0,0, []⟩

structure Ng where
 kind:Int
 o:DL
 data:aj

def Ng.z:Ng:=⟨0,DL.z, []⟩

structure Nh where
 kind:Int
 n:Int
 turns:List Int

def Nh.z:Nh:=⟨0,0, []⟩

structure Ni where
 a:Int
 b:Int
 c:Int

def Ni.z:Ni:=⟨0,0,0⟩

structure J5 where
 a:Int
 b:Int

def J5.z:J5:=⟨0,0⟩

structure Nj where
 a:iC
 b:iC

def Nj.z:Nj:=⟨iC.z,iC.z⟩

structure Nk where
 name:aj
 home:Int

def Nk.z:Nk:=⟨[],0⟩

structure Job where
 id:Int
 target:Int
 state:Int
 sC:Int

def Job.z:Job:=⟨0,0,0,0⟩

structure BG where
 kind:Int
 nums:List Int
 text:aj

def BG.z:BG:=⟨0, [], []⟩

inductive Ty where
 | int (k:IntKind)|bool|str
 | dcm|json|raw|OR|fld|Qh|token|stop|TZ|order|IV|layout|topic|state|ctl|Qi|JB|Qj|Qk|Ql|Nl|Qm|post|job|record
 deriving DecidableEq

def Ty.den:Ty→Type
 | .int _=>Int | .bool=>Bool | .str=>aj
 | .dcm=>iC
 | .json=>Json
 | .raw=>Raw
 | .OR=>Hk
 | .fld=>Fld
 | .Qh=>Nd
 | .token=>Token
 | .stop=>Stop
 | .TZ=>Way
 | .order=>Order
 | .IV=>Edge
 | .layout=>BF
 | .topic=>Ga
 | .state=>State
 | .ctl=>Ctl
 | .Qi=>Nf
 | .JB=>DL
 | .Qj=>Ng
 | .Qk=>Nh
 | .Ql=>Ni
 | .Nl=>J5
 | .Qm=>Nj
 | .post=>Nk
 | .job=>Job
 | .record=>BG

def Ty.bY:(T:Ty)→T.den
 | .int _=>(0:Int) | .bool=>false | .str=>([]:aj)
 | .dcm=>iC.z
 | .json=>Json.z
 | .raw=>Raw.z
 | .OR=>Hk.z
 | .fld=>Fld.z
 | .Qh=>Nd.z
 | .token=>Token.z
 | .stop=>Stop.z
 | .TZ=>Way.z
 | .order=>Order.z
 | .IV=>Edge.z
 | .layout=>BF.z
 | .topic=>Ga.z
 | .state=>State.z
 | .ctl=>Ctl.z
 | .Qi=>Nf.z
 | .JB=>DL.z
 | .Qj=>Ng.z
 | .Qk=>Nh.z
 | .Ql=>Ni.z
 | .Nl=>J5.z
 | .Qm=>Nj.z
 | .post=>Nk.z
 | .job=>Job.z
 | .record=>BG.z

def Ty.sz:Ty→Nat
 | .int _=>1 | .bool=>1 | .str=>1
 | .dcm=>2
 | .json=>6
 | .raw=>5
 | .OR=>4
 | .fld=>5
 | .Qh=>3
 | .token=>5
 | .stop=>3
 | .TZ=>3
 | .order=>6
 | .IV=>3
 | .layout=>2
 | .topic=>3
 | .state=>10
 | .ctl=>17
 | .Qi=>5
 | .JB=>7
 | .Qj=>9
 | .Qk=>3
 | .Ql=>3
 | .Nl=>2
 | .Qm=>4
 | .post=>2
 | .job=>4
 | .record=>3


inductive Tok where
  | no|nil|own (id:Nat)

inductive V where
  | undef
  | int (k:IntKind) (n:Int)
  | bool (b:Bool)
  | str (s:aj)
  | eI
  | ptr (id off:Nat)
  | uN (cs:List V)
  | cM
  | sl (T:Ty) (l:List T.den) (t:Tok)
  | J6 (n:Nat) (cs:List V)
  | row (id:Nat) (n:Nat)
  | B5 (id lo n:Nat)
  | sD (id:Nat) (sz:Nat) (i:Nat) (off:Nat)
  | func (f:Nat) (first cap:List V)
  | aT
  | agg (cs:List V)
  | tuple (vs:List V)
  | map (id:Nat)
  | nS
  | dv
  | iface
  | GC (t:Nat) (k:IntKind) (n:Int)
  | FN

def V.flat:V→List V
  | .agg cs=>cs
  | v => [v]

def V.one:V→Bool
  | .undef=>false
  | .agg _=>false
  | .tuple _=>false
  | _=>true

def NR (v:V):Option (List V) :=
  match v with
  | .agg cs=>if cs.all V.one then some cs else none
  | v=>if v.one then some [v]else none

def Ty.cells:(T:Ty)→T.den→List V
  | .int k,(n:Int) => [.int k n]
  | .bool,(b:Bool) => [.bool b]
  | .str,(s:aj) => [.str s]
  | .dcm,(x:iC) => [.int .i64 x.aB, .int .i64 x.exp]
  | .json,(x:Json) => [.int .i64 x.kind, .int .i64 x.num.aB, .int .i64 x.num.exp, .str x.text, .sl .str x.names .no, .sl .json x.items .no]
  | .raw,(x:Raw) => [.int .i64 x.kind, .int .i64 x.aB, .int .i64 x.exp, .sl (.int .i64) x.text .no, .sl .raw x.items .no]
  | .OR,(x:Hk) => [.int .i64 x.kind, .int .i64 x.aB, .int .i64 x.exp, .sl (.int .i64) x.text .no]
  | .fld,(x:Fld) => [.str x.name, .int .i64 x.kind, .int .i64 x.low, .int .i64 x.high, .bool x.free]
  | .Qh,(x:Nd) => [.str x.topic, .str x.data, .bool x.bent]
  | .token,(x:Token) => [.int .i64 x.kind, .str x.text, .int .i64 x.num.aB, .int .i64 x.num.exp, .int .i64 x.at_]
  | .stop,(x:Stop) => [.int .i64 x.node, .int .i64 x.seq, .bool x.yn]
  | .TZ,(x:Way) => [.int .i64 x.IV, .int .i64 x.seq, .bool x.yn]
  | .order,(x:Order) => [.int .i64 x.header, .str x.sC, .int .i64 x.order, .int .i64 x.update, .sl .stop x.nodes .no, .sl .TZ x.K2 .no]
  | .IV,(x:Edge) => [.int .i64 x.src, .int .i64 x.dst, .int .i64 x.cost]
  | .layout,(x:BF) => [.int .i64 x.nodes, .sl .IV x.K2 .no]
  | .topic,(x:Ga) => [.str x.maker, .str x.Xo, .str x.kind]
  | .state,(x:State) => [.int .i64 x.header, .int .i64 x.Xp, .str x.sC, .int .i64 x.order, .int .i64 x.update, .bool x.live, .int .i64 x.node, .int .i64 x.seq, .bool x.driving, .int .i64 x.accepted]
  | .ctl,(x:Ctl) => [.str x.sC, .int .i64 x.header, .int .i64 x.order, .int .i64 x.update, .int .i64 x.Xp, .int .i64 x.seen, .sl (.int .i64) x.path .no, .int .i64 x.seq, .bool x.open_, .int .i64 x.rel, .bool x.wait, .int .i64 x.pending.header, .str x.pending.sC, .int .i64 x.pending.order, .int .i64 x.pending.update, .sl .stop x.pending.nodes .no, .sl .TZ x.pending.K2 .no]
  | .Qi,(x:Nf) => [.int .i64 x.kind, .int .i64 x.i, .int .i64 x.k, .int .u8 x.by_, .str x.data]
  | .JB,(x:DL) => [.int .i64 x.header, .int .i64 x.order, .int .i64 x.update, .int .i64 x.seq, .int .i64 x.from_, .int .i64 x.yn, .sl (.int .i64) x.turns .no]
  | .Qj,(x:Ng) => [.int .i64 x.kind, .int .i64 x.o.header, .int .i64 x.o.order, .int .i64 x.o.update, .int .i64 x.o.seq, .int .i64 x.o.from_, .int .i64 x.o.yn, .sl (.int .i64) x.o.turns .no, .str x.data]
  | .Qk,(x:Nh) => [.int .i64 x.kind, .int .i64 x.n, .sl (.int .i64) x.turns .no]
  | .Ql,(x:Ni) => [.int .i64 x.a, .int .i64 x.b, .int .i64 x.c]
  | .Nl,(x:J5) => [.int .i64 x.a, .int .i64 x.b]
  | .Qm,(x:Nj) => [.int .i64 x.a.aB, .int .i64 x.a.exp, .int .i64 x.b.aB, .int .i64 x.b.exp]
  | .post,(x:Nk) => [.str x.name, .int .i64 x.home]
  | .job,(x:Job) => [.int .i64 x.id, .int .i64 x.target, .int .i64 x.state, .int .i64 x.sC]
  | .record,(x:BG) => [.int .i64 x.kind, .sl (.int .i64) x.nums .no, .str x.text]

def B6 (T:Ty):V→Option (List T.den)
  | .cM=>some []
  | .sl T' l _=>if h:T'=T then some (h▸l)else none
  | _=>none

def K3 (k:IntKind):List V→Option Int
  | [.int k' n]=>if k'=k then some n else none
  | _=>none
def Hl:List V→Option Bool
  | [.bool b]=>some b
  | _=>none
def K4:List V→Option aj
  | [.str s]=>some s
  | _=>none
def R7:List V→Option iC
  | [.int .i64 a0, .int .i64 a1]=>some ⟨a0,a1⟩
  | _=>none
def OS:List V→Option Json
  | [.int .i64 a0, .int .i64 a1, .int .i64 a2, .str a3,a4,a5]=>match B6 .str a4,B6 .json a5 with|some b4,some b5=>some ⟨a0,⟨a1,a2⟩,a3,b4,b5⟩|_,_=>none
  | _=>none
def R8:List V→Option Raw
  | [.int .i64 a0, .int .i64 a1, .int .i64 a2,a3,a4]=>match B6 (.int .i64) a3,B6 .raw a4 with|some b3,some b4=>some ⟨a0,a1,a2,b3,b4⟩|_,_=>none
  | _=>none
def OT:List V→Option Hk
  | [.int .i64 a0, .int .i64 a1, .int .i64 a2,a3]=>match B6 (.int .i64) a3 with|some b3=>some ⟨a0,a1,a2,b3⟩|_=>none
  | _=>none
def R9:List V→Option Fld
  | [.str a0, .int .i64 a1, .int .i64 a2, .int .i64 a3, .bool a4]=>some ⟨a0,a1,a2,a3,a4⟩
  | _=>none
def OU:List V→Option Nd
  | [.str a0, .str a1, .bool a2]=>some ⟨a0,a1,a2⟩
  | _=>none
def K5:List V→Option Token
  | [.int .i64 a0, .str a1, .int .i64 a2, .int .i64 a3, .int .i64 a4]=>some ⟨a0,a1,⟨a2,a3⟩,a4⟩
  | _=>none
def OV:List V→Option Stop
  | [.int .i64 a0, .int .i64 a1, .bool a2]=>some ⟨a0,a1,a2⟩
  | _=>none
def Sa:List V→Option Way
  | [.int .i64 a0, .int .i64 a1, .bool a2]=>some ⟨a0,a1,a2⟩
  | _=>none
def K6:List V→Option Order
  | [.int .i64 a0, .str a1, .int .i64 a2, .int .i64 a3,a4,a5]=>match B6 .stop a4,B6 .TZ a5 with|some b4,some b5=>some ⟨a0,a1,a2,a3,b4,b5⟩|_,_=>none
  | _=>none
def OW:List V→Option Edge
  | [.int .i64 a0, .int .i64 a1, .int .i64 a2]=>some ⟨a0,a1,a2⟩
  | _=>none
def IW:List V→Option BF
  | [.int .i64 a0,a1]=>match B6 .IV a1 with|some b1=>some ⟨a0,b1⟩|_=>none
  | _=>none
def K7:List V→Option Ga
  | [.str a0, .str a1, .str a2]=>some ⟨a0,a1,a2⟩
  | _=>none
def K8:List V→Option State
  | [.int .i64 a0, .int .i64 a1, .str a2, .int .i64 a3, .int .i64 a4, .bool a5, .int .i64 a6, .int .i64 a7, .bool a8, .int .i64 a9]=>some ⟨a0,a1,a2,a3,a4,a5,a6,a7,a8,a9⟩
  | _=>none
def Sb:List V→Option Ctl
  | [.str a0, .int .i64 a1, .int .i64 a2, .int .i64 a3, .int .i64 a4, .int .i64 a5,a6, .int .i64 a7, .bool a8, .int .i64 a9, .bool a10, .int .i64 a11, .str a12, .int .i64 a13, .int .i64 a14,a15,a16]=>match B6 (.int .i64) a6,B6 .stop a15,B6 .TZ a16 with|some b6,some b15,some b16=>some ⟨a0,a1,a2,a3,a4,a5,b6,a7,a8,a9,a10,⟨a11,a12,a13,a14,b15,b16⟩⟩|_,_,_=>none
  | _=>none
def OX:List V→Option Nf
  | [.int .i64 a0, .int .i64 a1, .int .i64 a2, .int .u8 a3, .str a4]=>some ⟨a0,a1,a2,a3,a4⟩
  | _=>none
def K9:List V→Option DL
  | [.int .i64 a0, .int .i64 a1, .int .i64 a2, .int .i64 a3, .int .i64 a4, .int .i64 a5,a6]=>match B6 (.int .i64) a6 with|some b6=>some ⟨a0,a1,a2,a3,a4,a5,b6⟩|_=>none
  | _=>none
def OY:List V→Option Ng
  | [.int .i64 a0, .int .i64 a1, .int .i64 a2, .int .i64 a3, .int .i64 a4, .int .i64 a5, .int .i64 a6,a7, .str a8]=>match B6 (.int .i64) a7 with|some b7=>some ⟨a0,⟨a1,a2,a3,a4,a5,a6,b7⟩,a8⟩|_=>none
  | _=>none
def OZ:List V→Option Nh
  | [.int .i64 a0, .int .i64 a1,a2]=>match B6 (.int .i64) a2 with|some b2=>some ⟨a0,a1,b2⟩|_=>none
  | _=>none
def O0:List V→Option Ni
  | [.int .i64 a0, .int .i64 a1, .int .i64 a2]=>some ⟨a0,a1,a2⟩
  | _=>none
def O1:List V→Option J5
  | [.int .i64 a0, .int .i64 a1]=>some ⟨a0,a1⟩
  | _=>none
def O2:List V→Option Nj
  | [.int .i64 a0, .int .i64 a1, .int .i64 a2, .int .i64 a3]=>some ⟨⟨a0,a1⟩,⟨a2,a3⟩⟩
  | _=>none
def O3:List V→Option Nk
  | [.str a0, .int .i64 a1]=>some ⟨a0,a1⟩
  | _=>none
def Sc:List V→Option Job
  | [.int .i64 a0, .int .i64 a1, .int .i64 a2, .int .i64 a3]=>some ⟨a0,a1,a2,a3⟩
  | _=>none
def IX:List V→Option BG
  | [.int .i64 a0,a1, .str a2]=>match B6 (.int .i64) a1 with|some b1=>some ⟨a0,b1,a2⟩|_=>none
  | _=>none

def Ty.dec:(T:Ty)→List V→Option T.den
  | .int k=>K3 k | .bool=>Hl | .str=>K4
  | .dcm=>R7
  | .json=>OS
  | .raw=>R8
  | .OR=>OT
  | .fld=>R9
  | .Qh=>OU
  | .token=>K5
  | .stop=>OV
  | .TZ=>Sa
  | .order=>K6
  | .IV=>OW
  | .layout=>IW
  | .topic=>K7
  | .state=>K8
  | .ctl=>Sb
  | .Qi=>OX
  | .JB=>K9
  | .Qj=>OY
  | .Qk=>OZ
  | .Ql=>O0
  | .Nl=>O1
  | .Qm=>O2
  | .post=>O3
  | .job=>Sc
  | .record=>IX


def Ty.one:Ty→Bool
  | .int _=>true
  | .bool=>true
  | .str=>true
  | _=>false
def M6 (T:Ty) (x:T.den):V:=bif T.one then (T.cells x).headD .undef else .agg (T.cells x)
def elD (T:Ty):V→Option T.den
  | .agg cs=>bif T.one then none else T.dec cs
  | v=>bif T.one then T.dec [v]else none

def xc:(K:Ty)→K.den→K.den→Bool
  | .str,(a:aj),(b:aj)=>a==b
  | .int _,(a:Int),(b:Int)=>a==b
  | .Nl,(a:J5),(b:J5)=>a.a==b.a&&(a.b==b.b&&true)
  | _,_,_=>false
def KG:Ty→Bool
  | .str=>true
  | .int _=>true
  | .Nl=>true
  | _=>false
def mw (K T:Ty) (k:K.den):List (K.den × T.den)→T.den
  | []=>T.bY
  | e::r=>bif xc K k e.1 then e.2 else mw K T k r
def CG (K T:Ty) (k:K.den):List (K.den × T.den)→Bool
  | []=>false
  | e::r=>bif xc K k e.1 then true else CG K T k r
def vT (K T:Ty) (k:K.den) (v:T.den):List (K.den × T.den)→List (K.den × T.den)
  | [] => [(k,v)]
  | e::r=>bif xc K k e.1 then (k,v)::r else e::vT K T k v r

inductive bO where
  | free
  | dead
  | cells (cs:List V)
  | row (T:Ty) (l:List T.den)
  | tok
  | iter (s:aj) (pos:Nat)
  /-- a strings.Builder, its buffer -/
  | lW (v:V)
  | uO (K T:Ty) (l:List (K.den × T.den))

abbrev aG:=List bO

structure St where
  fr:List V
  hp:aG

inductive TD where
  | bool|int (k:IntKind)|string|ptr (e:Nat)|slice (e:Nat)|arr (n e:Nat)|map (k e:Nat)|struct (fs:List (Nat × Nat))|func|iface|other

structure TI where
  d:TD
  size:Nat
  bytes:Nat
  zero:List V
  ty:Option Ty
  eq:Bool:=false
  /-- slices of such elements are rows of ours -/
  rowy:Bool:=false
  /-- strings.Builder -/
  lW:Bool:=false

abbrev dA:=List TI

def TI.none:TI:=⟨.other,0,0, [], .none,false,false,false⟩
def dA.mode (tt:dA) (rs:List Ty):dA:=tt.map fun i => { i with rowy:=match i.ty with|some T=>rs.contains T|none=>false }
def dA.at (tt:dA) (t:Nat):TI:=tt.getD t TI.none
def dA.ok (tt:dA) (t:Nat):Bool:=match (tt.at t).d with | .other=>false|_=>true
def dA.isAgg (tt:dA) (t:Nat):Bool:=match (tt.at t).d with | .struct _=>true | .arr _ _=>true|_=>false

def inK (k:IntKind) (n:Int):Bool:=decide (k.min≤n)&&decide (n≤k.max)

def Eo:Value→V
  | .bool b => .bool b
  | .int k n=>if inK k n then .int k n else .undef
  | .string s=>if s.size≤9223372036854775807 then .str s.data.toList else .undef
  | .pointer .none => .eI
  | .slice .none 0 0 => .cM
  | .nilFunc => .aT
  | .map .none => .nS
  | .nilIface => .dv
  | _ => .undef

def ofConst:Value→V
  | .agg cs => .agg (cs.toList.map Eo)
  | v=>Eo v

def ev (fr:List V):Operand→V
  | .tmp t=>fr.getD t .undef
  | .const c=>ofConst c
  | .func f => .func f [] []
  | .global _ => .undef

section
variable {R:Type}

def cw (b:Bool) (k:Option R):Option R:=bif b then k else none

def lB:List V→List V→Option Bool
  | [], []=>some true
  | .int k a::x, .int k' b::y=>if k=k' then (match lB x y with|some r=>some (a==b&&r)|none=>none)else none
  | .str a::x, .str b::y=>match lB x y with|some r=>some (a==b&&r)|none=>none
  | .bool a::x, .bool b::y=>match lB x y with|some r=>some (a==b&&r)|none=>none
  | _,_=>none

def eqV (a b:V):Option Bool :=
  match a,b with
  | .bool x, .bool y=>some (x==y)
  | .agg xs, .agg ys=>lB xs ys
  | _,_=>none

def Sd:V→Option Bool
  | .eI=>some true
  | .ptr _ _=>some false
  | .uN _=>some false
  | .sD _ _ _ _=>some false
  | _=>none

def O4 {R:Type} (op:BinOp) (a b:V) (k:V→Option R):Option R :=
  match b with
  | .eI =>
    (match op,Sd a with
     | .eql,some r=>k (.bool r)
     | .neq,some r=>k (.bool (!r))
     | _,_=>none)
  | _=>none

def DM {R:Type} (a:V) (k:Option Bool→Option R):Option R :=
  match a with
  | .cM=>k (some true)
  | .sl _ l _=>bif l.isEmpty then k none else k (some false)
  | .row _ n=>bif decide (n=0)then k none else k (some false)
  | _=>none

def La (neg:Bool):Option Bool→V
  | none => .FN
  | some r => .bool (bif neg then !r else r)

def slK {R:Type} (op:BinOp) (a b:V) (k:V→Option R):Option R :=
  match b with
  | .cM =>
    (match op with
     | .eql=>DM a fun r=>k (La false r)
     | .neq=>DM a fun r=>k (La true r)
     | _=>none)
  | _=>none

def ifK {R:Type} (op:BinOp) (y:Operand) (a b:V) (k:V→Option R):Option R :=
  match y,b,a,op with
  | .const _, .dv, .dv, .eql=>k (.bool true)
  | .const _, .dv, .dv, .neq=>k (.bool false)
  | .const _, .dv, .iface, .eql=>k (.bool false)
  | .const _, .dv, .iface, .neq=>k (.bool true)
  | .const _, .dv, .GC _ _ _, .eql=>k (.bool false)
  | .const _, .dv, .GC _ _ _, .neq=>k (.bool true)
  | _,_,_,_=>none

def Bm:aj→aj→Bool
  | _, []=>false
  | [],_::_=>true
  | a::x,b::y=>a<b||(a==b&&Bm x y)

def wW (op:BinOp) (x y:V) (k:V→Option R):Option R :=
  match op,x,y with
  | .shl, .int i a, .int _ b=>cw (decide (0≤b)) (k (.int i (i.wrap (a*2 ^ (min b.toNat i.bits)))))
  | .shr, .int i a, .int _ b=>cw (decide (0≤b)) (k (.int i (a.fdiv (2 ^ (min b.toNat i.bits)))))
  | op, .int i a, .int j b =>
    if i=j then
      match op with
      | .add=>k (.int i (i.wrap (a+b)))
      | .sub=>k (.int i (i.wrap (a - b)))
      | .mul=>k (.int i (i.wrap (a*b)))
      | .quo=>cw (!decide (b=0)) (k (.int i (i.wrap (a.tdiv b))))
      | .rem=>cw (!decide (b=0)) (k (.int i (a.tmod b)))
      | .and=>k (.int i (i.wrap (BitVec.ofInt i.bits a &&& BitVec.ofInt i.bits b).toNat))
      | .or=>k (.int i (i.wrap (BitVec.ofInt i.bits a ||| BitVec.ofInt i.bits b).toNat))
      | .xor=>k (.int i (i.wrap (BitVec.ofInt i.bits a ^^^ BitVec.ofInt i.bits b).toNat))
      | .eql=>k (.bool (a==b))
      | .neq=>k (.bool (a != b))
      | .lss=>k (.bool (decide (a<b)))
      | .leq=>k (.bool (decide (a≤b)))
      | .gtr=>k (.bool (decide (a>b)))
      | .geq=>k (.bool (decide (a≥b)))
      | _=>none
    else none
  | op, .str a, .str b =>
    match op with
    | .add=>cw (decide (a.length+b.length≤9223372036854775807)) (k (.str (a++b)))
    | .eql=>k (.bool (a==b))
    | .neq=>k (.bool (!(a==b)))
    | .lss=>k (.bool (Bm a b))
    | .leq=>k (.bool (Bm a b||a==b))
    | .gtr=>k (.bool (!(Bm a b||a==b)))
    | .geq=>k (.bool (!(Bm a b)))
    | _=>none
  | .eql,a,b=>match eqV a b with|some r=>k (.bool r)|none=>none
  | .neq,a,b=>match eqV a b with|some r=>k (.bool (!r))|none=>none
  | _,_,_=>none

def rh (tt:dA) (t:Nat) (cs:List V) (off:Nat) (k:V→Option R):Option R :=
  if tt.ok t then
    if tt.isAgg t then (if off+(tt.at t).size≤cs.length then k (.agg ((cs.drop off).take (tt.at t).size))else none)
    else (match cs[off]? with|some v=>k v|none=>none)
  else none

def Gb (cells:List V):List (Nat × Nat × V)→Option (List V)
  | []=>some cells
  | (off,size,v)::rest =>
    match NR v with
    | some vs=>if vs.length=size&&off+size≤cells.length then Gb (cells.take off++vs++cells.drop (off+size)) rest else none
    | none=>none

def idxOf (i:V) (k:Int→Option R):Option R:=match i with | .int _ n=>k n|_=>none

def Ep (v:Option V) (d:Int) (k:Int→Option R):Option R :=
  match v with
  | none=>k d
  | some (.int _ n)=>k n
  | some _=>none

def fa:List V→List V→Bool
  | [], []=>true
  | .int k _::z, .int k' _::c=>decide (k=k')&&fa z c
  | .str _::z, .str _::c=>fa z c
  | .bool _::z, .bool _::c=>fa z c
  | _,_=>false

def O5 (i:TI) (a b:List V):Bool:=i.eq&&fa i.zero a&&fa i.zero b

def opP (tt:dA) (o:Op) (ρ:Operand→V) (k:V→Option R):Option R :=
  match o with
  | .move x=>k (ρ x)
  | .assign x=>k (ρ x)
  | .pick c a b =>
    match ρ c with
    | .bool t =>
      (match ρ a,ρ b with
       | .bool u, .bool v=>k (.bool (bif t then u else v))
       | u,v=>bif t then k u else k v)
    | _=>none
  | .nilCheck x =>
    match ρ x with
    | .ptr i o=>k (.ptr i o)
    | .uN cs=>k (.uN cs)
    | .sD i n j o=>k (.sD i n j o)
    | .func f a b=>k (.func f a b)
    | _=>none
  | .binOp op t x y _ =>
    match ρ x,ρ y with
    | .agg a, .agg b=>if O5 (tt.at t) a b then wW op (.agg a) (.agg b) k else none
    | .bool a, .bool b=>(match (tt.at t).d with | .bool=>wW op (.bool a) (.bool b) k|_=>none)
    | .int i a, .int j b=>wW op (.int i a) (.int j b) k
    | .str a, .str b=>wW op (.str a) (.str b) k
    | a,b=>(match (tt.at t).d with | .ptr _=>O4 op a b k | .slice _=>slK op a b k | .iface=>ifK op y a b k|_=>none)
  | .unOp op _ x =>
    match op,ρ x with
    | .neg, .int i n=>k (.int i (i.wrap (0 - n)))
    | .not, .bool b=>k (.bool (!b))
    | _,_=>none
  | .convert s d x =>
    if !tt.ok s then none else
    match (tt.at d).d,ρ x with
    | .int i, .int _ n=>k (.int i (i.wrap n))
    | .string, .str t=>(match (tt.at s).d with | .string=>k (.str t)|_=>none)
    | _,_=>none
  | .makeInterface t x =>
    match (tt.at t).d,ρ x with
    | .int _, .int i n=>k (.GC t i n)
    | _,_=>none
  | .fieldAddr s x f =>
    match (tt.at s).d with
    | .struct fs =>
      (match fs[f]? with
       | some (off,t) =>
         if (tt.at t).size=0 || !tt.ok t then none else
         (match ρ x with
          | .ptr i o=>k (.ptr i (o+off))
          | .uN cs=>k (.uN (cs.drop off))
          | .sD i n j o=>k (.sD i n j (o+off))
          | _=>none)
       | none=>none)
    | _=>none
  | .field s x f =>
    match (tt.at s).d,ρ x with
    | .struct fs, .agg cs=>(match fs[f]? with|some (off,t)=>rh tt t cs off k|none=>none)
    | _,_=>none
  | .indexAddr t x i =>
    idxOf (ρ i) fun n =>
    match (tt.at t).d,ρ x with
    | .slice e, .sl T l _=>if T.sz=(tt.at e).size&&tt.ok e then cw (decide (0≤n)&&decide (n<l.length)) (k (.uN (T.cells (l.getD n.toNat T.bY))))else none
    | .slice e, .row id m=>if tt.ok e then cw (decide (0≤n)&&decide (n<m)) (k (.sD id (tt.at e).size n.toNat 0))else none
    | .arr m e, .ptr id o=>if tt.ok e then cw (decide (0≤n)&&decide (n<m)) (k (.ptr id (o+n.toNat*(tt.at e).size)))else none
    | .slice e, .J6 m cs=>if tt.ok e&&decide ((tt.at e).size≠0)&&decide (cs.length=m*(tt.at e).size)then cw (decide (0≤n)&&decide (n<m)) (k (.uN (cs.drop (n.toNat*(tt.at e).size))))else none
    | _,_=>none
  | .index t x i =>
    idxOf (ρ i) fun n =>
    match (tt.at t).d,ρ x with
    | .string, .str s=>cw (decide (0≤n)&&decide (n<s.length)) (k (.int .u8 (s.getD n.toNat 0).toNat))
    | .arr m e, .agg cs=>cw (decide (0≤n)&&decide (n<m)) (rh tt e cs (n.toNat*(tt.at e).size) k)
    | _,_=>none
  | .slice t x lo hi mx =>
    match mx with
    | some _=>none
    | none =>
      (match (tt.at t).d,ρ x with
       | .string, .str s =>
         Ep (hi.map ρ) s.length fun h=>Ep (lo.map ρ) 0 fun l =>
         cw (decide (0≤h)&&decide (h≤s.length)) (cw (decide (0≤l)&&decide (l≤h)) (k (.str ((s.drop l.toNat).take (h.toNat - l.toNat)))))
       | .slice e, .sl T s _ =>
         if T.sz=(tt.at e).size&&tt.ok e then
         Ep (lo.map ρ) 0 fun l =>
         (match hi with
          | none=>cw (decide (0≤l)&&decide (l≤s.length)) (k (.sl T (s.drop l.toNat) .no))
          | some hi =>
            Ep (some (ρ hi)) 0 fun h =>
            cw (decide (0≤h)&&decide (h≤s.length)) (cw (decide (0≤l)&&decide (l≤h)) (k (.sl T ((s.drop l.toNat).take (h.toNat - l.toNat)) .no))))
         else none
       | .slice e, .cM =>
         if !tt.ok e then none else
         Ep (hi.map ρ) 0 fun h=>Ep (lo.map ρ) 0 fun l=>cw (decide (h=0)&&decide (l=0)) (k .cM)
       | _,_=>none)
  | .makeFunc (.func f) first cap=>k (.func f (first.toList.map ρ) (cap.toList.map ρ))
  | .extract t i=>match ρ t with | .tuple vs=>(match vs[i]? with|some v=>k v|none=>none)|_=>none
  | .build t parts =>
    match (tt.at t).d with
    | .struct fs =>
      if !fs.all (fun f=>tt.ok f.2) || !tt.ok t||decide (1000000≤(tt.at t).zero.length)then none else
      (match Gb (tt.at t).zero (parts.toList.map fun (i,x)=>((fs.getD i (0,0)).1,if i<fs.length then (tt.at (fs.getD i (0,0)).2).size else 1000000,ρ x))with
       | some cs=>k (.agg cs)|none=>none)
    | .arr _ e =>
      if !tt.ok e || !tt.ok t||decide (1000000≤(tt.at t).zero.length)then none else
      (match Gb (tt.at t).zero (parts.toList.map fun (i,x)=>(i*(tt.at e).size,(tt.at e).size,ρ x))with
       | some cs=>k (.agg cs)|none=>none)
    | _=>none
  | .call c =>
    match c.callee,c.args.toList with
    | .builtin .len, [x] =>
      (match c.argTypes.toList with
       | [t] =>
         (match (tt.at t).d,ρ x with
          | .string, .str s=>k (.int .i64 s.length)
          | .slice _, .sl _ l _=>k (.int .i64 l.length)
          | .slice _, .J6 n _=>k (.int .i64 n)
          | .slice _, .row _ n=>k (.int .i64 n)
          | .slice _, .cM=>k (.int .i64 0)
          | _,_=>none)
       | _=>none)
    | .builtin .min, [x,y]=>(match ρ x,ρ y with | .int i a, .int j b=>if i=j then k (.int i (min a b))else none|_,_=>none)
    | .builtin .max, [x,y]=>(match ρ x,ρ y with | .int i a, .int j b=>if i=j then k (.int i (max a b))else none|_,_=>none)
    | _,_=>none
  | _=>none

end

def aG.at (h:aG) (i:Nat):bO:=h.getD i .dead

def Tok.pg (ρ:Nat→Option Nat):Tok→Tok
  | .own i=>match ρ i with|some j => .own j|none => .no
  | t=>t

mutual
def V.pg (ρ:Nat→Option Nat):V→V
  | .ptr i o=>match ρ i with|some j => .ptr j o|none => .undef
  | .sl T l t => .sl T l (t.pg ρ)
  | .row i n=>match ρ i with|some j => .row j n|none => .undef
  | .B5 i q n=>match ρ i with|some j => .B5 j q n|none => .undef
  | .sD i n k o=>match ρ i with|some j => .sD j n k o|none => .undef
  | .map i=>match ρ i with|some j => .map j|none => .undef
  | .func f a b => .func f (V.xh ρ a) (V.xh ρ b)
  | .agg cs => .agg (V.xh ρ cs)
  | .tuple vs => .tuple (V.xh ρ vs)
  | .uN cs => .uN (V.xh ρ cs)
  | .J6 n cs => .J6 n (V.xh ρ cs)
  | v=>v
def V.xh (ρ:Nat→Option Nat):List V→List V
  | [] => []
  | v::vs=>v.pg ρ::V.xh ρ vs
end

def bO.pg (ρ:Nat→Option Nat):bO→bO
  | .cells cs => .cells (V.xh ρ cs)
  | .lW v => .lW (v.pg ρ)
  | o=>o

mutual
def V.ids:V→List Nat
  | .ptr i _ => [i]
  | .sl _ _ (.own i) => [i]
  | .row i _ => [i]
  | .B5 i _ _ => [i]
  | .sD i _ _ _ => [i]
  | .map i => [i]
  | .func _ a b=>V.r6 a++V.r6 b
  | .agg cs=>V.r6 cs
  | .tuple vs=>V.r6 vs
  | .uN cs=>V.r6 cs
  | .J6 _ cs=>V.r6 cs
  | _ => []
def V.r6:List V→List Nat
  | [] => []
  | v::vs=>v.ids++V.r6 vs
end

def bO.ids:bO→List Nat
  | .cells cs=>V.r6 cs
  | .lW v=>v.ids
  | _ => []

def reach (h:aG):Nat→List Nat→List Nat→List Nat
  | 0,_,seen=>seen
  | _+1, [],seen=>seen
  | n+1,i::todo,seen=>if seen.contains i then reach h n todo seen else reach h n (todo++(h.at i).ids) (seen ++ [i])

def xd (ord:List Nat) (i:Nat):Option Nat:=let p:=ord.idxOf i; if p<ord.length then some p else none

def aG.pick (h:aG) (ord:List Nat):aG:=ord.map fun i=>(h.at i).pg (xd ord)

def oI (ord:List Nat) (n:Nat) (j:Nat):Nat:=if j<ord.length then ord.getD j 0 else n+(j - ord.length)
def aG.yO (h:aG):List (Nat × bO)→aG
  | []=>h
  | (i,o)::r=>aG.yO (h.set i o) r
def aG.back (h:aG) (ord:List Nat) (h':aG):aG :=
  let ρ:=fun j=>some (oI ord h.length j)
  aG.yO h (ord.zip ((h'.take ord.length).map (bO.pg ρ)))++(h'.drop ord.length).map (bO.pg ρ)

section
variable {R:Type}

abbrev Spec (R:Type):=List V→aG→(V→aG→Option R)→Option R

def nT (l:List Int):aj:=l.flatMap fun n=>(Utf8.encode n).data.toList

def vU (tt:dA) (t:Nat):Ty→Bool
  | .str=>(match (tt.at t).d with | .string=>true|_=>false)
  | .int k=>(match (tt.at t).d with | .int k'=>decide (k'=k)|_=>false)
  | _=>false
def yP (tt:dA) (t:Nat):Ty→Bool
  | .bool=>(match (tt.at t).d,(tt.at t).zero with | .bool, [.bool false]=>true|_,_=>false)
  | .int k=>(match (tt.at t).d,(tt.at t).zero with | .int _, [.int k' 0]=>decide (k'=k)|_,_=>false)
  | _=>false

def DN (lim:Option Nat) (i:Nat):Bool:=match lim with|none=>true|some m=>decide (i<m)

def U4 (tt:dA) (o:Op) (ρ:Operand→V) (h:aG) (lim:Option Nat) (k:V→Option R):Option R :=
  match o with
  | .load t x =>
    match ρ x with
    | .ptr i o =>
      if DN lim i then
        match h.at i with
        | .cells cs=>rh tt t cs o k
        | .lW v=>rh tt t [.undef,v] o k
        | _=>none
      else none
    | .uN cs=>rh tt t cs 0 k
    | .sD i sz j o =>
      if DN lim i then
        match h.at i with
        | .row T l=>if sz=T.sz then cw (decide (j<l.length)) (rh tt t (T.cells (l.getD j T.bY)) o k)else none
        | _=>none
      else none
    | _=>none
  | .lookup t x ix ok =>
    match (tt.at t).d,ρ x with
    | .map kt vt, .map i =>
      if DN lim i then
        match h.at i with
        | .uO K T l =>
          if vU tt kt K&&yP tt vt T then
            match elD K (ρ ix)with
            | some kx=>bif ok then k (.tuple [M6 T (mw K T kx l), .bool (CG K T kx l)])else k (M6 T (mw K T kx l))
            | none=>none
          else none
        | _=>none
      else none
    | _,_=>none
  | .convert s d x =>
    match (tt.at d).d,(tt.at s).d,ρ x with
    | .string, .slice e, .row i _ =>
      if DN lim i then
        match (tt.at e).d,h.at i with
        | .int .u8, .row (.int .u8) l=>k (.str ((l:List Int).map fun n=>UInt8.ofNat n.toNat))
        | _,_=>none
      else none
    | .string, .slice e, .sl T l _ =>
      match (tt.at e).d,T,l with
      | .int .u8, .int .u8,l=>k (.str ((l:List Int).map fun n=>UInt8.ofNat n.toNat))
      | .int .i32, .int .i32,l=>cw (decide (4*l.length≤9223372036854775807)) (k (.str (nT l)))
      | _,_,_=>none
    | .string, .slice e, .cM=>match (tt.at e).d with | .int .u8=>k (.str [])|_=>none
    | _,_,_=>none
  | _=>none

def GD (s:aj):List (Ty.den (.int .u8)):=(s.map fun b=>(b.toNat:Int):List Int)

def uP (T:Ty):List (List V)→Option (List T.den)
  | []=>some []
  | c::cs=>match T.dec c,uP T cs with|some x,some xs=>some (x::xs)|_,_=>none

def chunks (n:Nat):Nat→List V→List (List V)
  | 0,_ => []
  | m+1,l=>l.take n::chunks n m (l.drop n)

def B7 (ρ:Operand→V):Option Operand→Bool
  | none=>true
  | some x=>(match ρ x with | .int _ _=>true|_=>false)

def W5 (tt:dA) (o:Op) (ρ:Operand→V) (k:bO→(Nat→V)→Option R):Option R :=
  match o with
  | .alloc t=>if (tt.at t).lW then k (.lW .cM) fun i => .ptr i 0 else if tt.ok t then k (.cells (tt.at t).zero) fun i => .ptr i 0 else none
  | .box t x=>match NR (ρ x)with|some cs=>if tt.ok t&&decide (cs.length=(tt.at t).size)then k (.cells cs) fun i => .ptr i 0 else none|none=>none
  | .buildSlice t len parts =>
    match (tt.at t).d with
    | .slice e =>
      let sz:=(tt.at e).size
      if sz=0||decide (len*sz>4096) || !tt.ok e then none else
      (match Gb ((List.replicate len (tt.at e).zero).flatten) (parts.toList.map fun (i,x)=>(i*sz,sz,ρ x)),(tt.at e).ty with
       | some cs,some T =>
         if T.sz=sz then
           if ((tt.at e).rowy&&decide (len=0))=true then k (.row T []) fun i => .row i 0 else
           (match uP T (chunks sz len cs)with|some l=>k .tok fun i => .sl T l (.own i)|none=>k .dead fun _ => .J6 len cs)
         else none
       | some cs,none=>k .dead fun _ => .J6 len cs
       | none,_=>none)
    | _=>none
  | .makeSlice t n c =>
    match (tt.at t).d,ρ n,ρ c with
    | .slice e, .int _ a, .int _ b =>
      (match (tt.at e).ty with
       | some T =>
         (match T.dec (tt.at e).zero with
          | some z=>if T.sz=(tt.at e).size&&tt.ok e then cw (decide (0≤a)&&decide (a=b)&&decide (a*(tt.at e).bytes≤140737488355328)&&decide (a≤140737488355328)) (k (.row T (List.replicate a.toNat z)) fun i => .row i a.toNat)else none
          | none=>none)
       | none=>none)
    | _,_,_=>none
  | .convert s d x =>
    match (tt.at s).d,(tt.at d).d,ρ x with
    | .string, .slice e, .str t =>
      (match (tt.at e).d with
       | .int .u8=>k (.row (.int .u8) (GD t)) fun i => .row i t.length
       | _=>none)
    | _,_,_=>none
  | .makeMap t rsv =>
    if B7 ρ rsv then
    match (tt.at t).d with
    | .map kt vt =>
      (match (tt.at kt).ty,(tt.at vt).ty with
       | some K,some T=>if vU tt kt K&&yP tt vt T then k (.uO K T []) fun i => .map i else none
       | _,_=>none)
    | _=>none
    else none
  | .range t x=>match (tt.at t).d,ρ x with | .string, .str s=>k (.iter s 0) fun i => .ptr i 0|_,_=>none
  | _=>none

def yQ (cs:List V) (o:Nat) (vs:List V):List V:=cs.take o++vs++cs.drop (o+vs.length)

def JC (T:Ty) (h:aG):V→Option (List T.den)
  | .cM=>some []
  | .sl T' l _=>if e:T'=T then some (e▸l)else none
  | .row i _=>match h.at i with | .row T' l=>if e:T'=T then some (e▸l)else none|_=>none
  | .J6 n cs=>if cs.length=n*T.sz then uP T (chunks T.sz n cs)else none
  | .str s=>if e:T = .int .u8 then some (e▸GD s)else none
  | _=>none

def nE (tt:dA) (e:Nat) (s x:V) (h:aG) (id:Nat) (k:V→aG→Option R):Option R :=
  match (tt.at e).ty with
  | some T =>
    if T.sz=(tt.at e).size&&(tt.at e).bytes != 0&&tt.ok e then
    (match JC T h x with
     | some m =>
       let room (n:Nat) (q:Option R):Option R:=cw (decide ((n+m.length)*(tt.at e).bytes≤140737488355328)) q
       (match s with
        | .cM=>room 0 (if (tt.at e).rowy then k (.row id m.length) (h.set id (.row T m))else k (.sl T m (.own id)) (h.set id .tok))
        | .sl T' l tk =>
          if q:T'=T then
            let l':List T.den:=q▸l
            (match tk with
             | .no=>none
             | .nil=>room l.length (k (.sl T (l'++m) (.own id)) (h.set id .tok))
             | .own i=>(match h.at i with | .tok=>room l.length (k (.sl T (l'++m) (.own id)) ((h.set i .dead).set id .tok))|_=>none))
          else none
        | .row i _ =>
          (match h.at i with
           | .row T' l =>
             if q:T'=T then
               let l':List T.den:=q▸l
               room l.length (k (.row id (l'.length+m.length)) ((h.set i .dead).set id (.row T (l'++m))))
             else none
           | _=>none)
        | _=>none)
     | none=>none)
    else none
  | none=>none

def lI (s:aj) (pos:Nat):Nat × Nat:=Utf8.decode ⟨s.toArray⟩ pos

def B8 (tt:dA) (t:Nat) (v:V) (h:aG) (k:V→aG→Option R):Option R :=
  match (tt.at t).d,v with
  | .arr m e, .ptr i 0 =>
    (match h.at i with
     | .cells cs =>
       (match (tt.at e).ty with
        | some T =>
          if T.sz=(tt.at e).size&&tt.ok e&&decide (cs.length=m*T.sz)&&decide (m≠0)&&decide (m≤4096)then
            match uP T (chunks T.sz m cs)with
            | some l=>k (.sl T l .no) (h.set i .dead)
            | none=>none
          else none
        | none=>none)
     | _=>none)
  | _,_=>none

def KH (tt:dA) (o:Op) (ρ:Operand→V) (h:aG) (id:Nat) (k:V→aG→Option R):Option R :=
  match o with
  | .slice t x lo hi mx=>bif lo.isNone&&hi.isNone&&mx.isNone then B8 tt t (ρ x) h k else none
  | .store t x y =>
    match NR (ρ y)with
    | none=>none
    | some vs =>
    if tt.ok t&&decide (vs.length=(tt.at t).size)then
      match ρ x with
      | .ptr i o =>
        (match h.at i with
         | .cells cs=>if o+vs.length≤cs.length then k .undef (h.set i (.cells (yQ cs o vs)))else none
         | .lW _=>(match o,vs with|1, [v]=>k .undef (h.set i (.lW v))|_,_=>none)
         | _=>none)
      | .sD i sz j o =>
        (match h.at i with
         | .row T l =>
           if sz=T.sz then
           let cs:=T.cells (l.getD j T.bY)
           if o+vs.length≤cs.length then
             (match T.dec (yQ cs o vs)with
              | some y=>cw (decide (j<l.length)) (k .undef (h.set i (.row T (l.set j y))))
              | none=>none)
           else none
           else none
         | _=>none)
      | _=>none
    else none
  | .call c =>
    match c.callee,c.args.toList,c.argTypes.toList with
    | .builtin .append, [s,x], [t,xt] =>
      (match (tt.at t).d,(tt.at xt).d with
       | .slice e, .slice _=>nE tt e (ρ s) (ρ x) h id k
       | .slice e, .string=>nE tt e (ρ s) (ρ x) h id k
       | _,_=>none)
    | _,_,_=>none
  | .mapUpdate t m x y =>
    match (tt.at t).d,ρ m with
    | .map kt vt, .map i =>
      (match h.at i with
       | .uO K T l =>
         if vU tt kt K&&yP tt vt T then
           match elD K (ρ x),elD T (ρ y)with
           | some kx,some vx=>k .undef (h.set i (.uO K T (vT K T kx vx l)))
           | _,_=>none
         else none
       | _=>none)
    | _,_=>none
  | .insert t m x y =>
    match (tt.at t).d,ρ m with
    | .map kt vt, .map i =>
      (match h.at i with
       | .uO K T l =>
         if vU tt kt K&&yP tt vt T then
           match elD K (ρ x),elD T (ρ y)with
           | some kx,some vx=>k .undef (h.set i (.uO K T (vT K T kx vx l)))
           | _,_=>none
         else none
       | _=>none)
    | _,_=>none
  | .next x str =>
    match str,ρ x with
    | true, .ptr i 0 =>
      (match h.at i with
       | .iter s pos=>bif decide (pos<s.length)then k (.tuple [.bool true, .int .i64 pos, .int .i32 (lI s pos).1]) (h.set i (.iter s (pos+(lI s pos).2)))else k (.tuple [.bool false]) h
       | _=>none)
    | _,_=>none
  | _=>none

mutual
def V.shut (h:aG):V→V
  | .sl T l _ => .sl T l .no
  | .row i _=>match h.at i with | .row T l => .sl T l .no|_ => .undef
  | .agg cs => .agg (V.JD h cs)
  | .tuple vs => .tuple (V.JD h vs)
  | v=>v
def V.JD (h:aG):List V→List V
  | [] => []
  | v::vs=>v.shut h::V.JD h vs
end

def V.NS:V→Bool
  | .int _ _ | .bool _ | .str _ | .eI | .cM | .nS | .aT | .dv | .iface | .GC _ _ _=>true
  | _=>false
def V.U5:V→Bool
  | .tuple vs=>vs.all V.NS
  | .agg vs=>vs.all V.NS
  | v=>v.NS

inductive Cls where
  | P|R|A|W|C|F|X
  deriving DecidableEq

def fk (tt:dA):Op→Cls
  | .move _ | .assign _ | .pick _ _ _ | .nilCheck _ | .binOp _ _ _ _ _ | .unOp _ _ _ | .fieldAddr _ _ _ | .field _ _ _ | .indexAddr _ _ _ | .index _ _ _
  | .makeFunc _ _ _ | .extract _ _ | .build _ _ | .makeInterface _ _ => .P
  | .slice t _ _ _ _=>match (tt.at t).d with | .arr _ _ => .W|_ => .P
  | .convert s d _ =>
    match (tt.at s).d,(tt.at d).d with
    | .slice _, .string => .R
    | .string, .slice _ => .A
    | _,_ => .P
  | .load _ _ => .R
  | .lookup _ _ _ _ => .R
  | .alloc _ | .box _ _ | .buildSlice _ _ _ | .makeSlice _ _ _ | .range _ _ | .makeMap _ _ => .A
  | .store _ _ _ => .W
  | .mapUpdate _ _ _ _ => .W
  | .insert _ _ _ _ => .W
  | .next _ str=>bif str then .W else .X
  | .call c=>match c.callee with
    | .builtin .len => .P | .builtin .min => .P | .builtin .max => .P
    | .builtin .append => .W
    | .builtin _ => .X
    | .value _ => .C
    | .invoke _ _ => .X
  | _ => .X

def lJ (fr:List V) (dst:Option Nat) (v:V):List V:=match dst with|some d=>fr.set d v|none=>fr

def Lb:V→V
  | .sl T l _ => .sl T l .no
  | v=>v

def CH:V→V
  | .sl T l _ => .sl T l .no
  | .agg cs => .agg (cs.map Lb)
  | v=>v

abbrev Env (R:Type):=Nat→Option (Bool × Spec R)

def nF (E:Env R) (o:Op):Bool :=
  match o with
  | .call c=>(match c.callee with | .value (.func g)=>(match E g with|some (b,_)=>b|none=>false) | .value (.tmp _)=>true|_=>false)
  | _=>false

def lK (E:Env R) (o:Op):Bool :=
  match o with
  | .call c=>(match c.callee with | .value (.func g)=>nR.soft g&&(match E g with|some (false,_)=>true|_=>false)|_=>false)
  | _=>false

def o0:Op→Bool
  | .call c=>(match c.callee with | .builtin .append=>true|_=>false)
  | _=>false

def Se (id:Nat):V→Bool | .row _ _=>false | .sl _ _ (.own i)=>decide (i<id)|_=>true
def lowX (id:Nat):V→Bool | .row i _=>decide (i<id)|_=>true
def uQ (o:Op) (ρ:Operand→V) (id:Nat):Bool :=
  match o with
  | .call c=>(match c.args.toList with | [s,x]=>Se id (ρ s)&&lowX id (ρ x)|_=>true)
  | _=>true

def dU (tt:dA) (E:Env R) (o:Op):Cls:=match fk tt o with | .C=>bif nF E o then .C else .F|c=>c

def canon (tt:dA) (t:Nat) (v:V):V :=
  match (tt.at t).ty with
  | some T =>
    (match v with
     | .agg cs=>(match T.dec cs with|some x=>if tt.isAgg t then .agg (T.cells x)else v|none=>v)
     | v=>(match T.dec [v]with|some x=>if tt.isAgg t then v else (match T.cells x with | [c]=>c|_=>v)|none=>v))
  | none =>
    (match (tt.at t).d with
     | .slice e=>(match (tt.at e).ty with|some T=>(match B6 T v with|some l => .sl T l .no|none=>v)|none=>v)
     | _=>v)

def GF (tt:dA):List Nat→List V→List V
  | t::ts,v::vs=>canon tt t v::GF tt ts vs
  | _,vs=>vs

def Xq (sp:Spec R) (vs:List V) (h:aG) (k:V→aG→Option R):Option R :=
  match V.r6 vs with
  | []=>sp vs [] fun v h'=>(match h' with | []=>bif v.U5 then k v h else none|_::_=>none)
  | _::_=>none

def xe (tt:dA) (E:Env R) (full:Bool) (c:Call) (ρ:Operand→V) (h:aG) (k:V→aG→Option R):Option R :=
  match c.callee with
  | .value f =>
    match ρ f with
    | .func g first cap =>
      let vs:=first++c.args.toList.map ρ++cap
      (match E g with
       | some (true,sp) =>
         let ps:=(first++GF tt c.argTypes.toList (c.args.toList.map ρ)++cap).map CH
         (match V.r6 ps with
          | []=>sp ps [] fun v h'=>(match h' with | []=>k v h|_::_=>none)
          | _::_=>bif full then Xq sp (V.JD h ps) h k else none)
       | some (false,sp) =>
         bif full then
           bif nR.soft g then sp vs h k else
           let ord:=reach h 64 (V.r6 vs) []
           sp (V.xh (xd ord) vs) (h.pick ord) fun v h'=>k (v.pg fun j=>some (oI ord h.length j)) (h.back ord h')
         else none
       | none=>none)
    | _=>none
  | _=>none

def yo (tt:dA) (E:Env R) (drawn:Option Nat) (id:Nat) (o:Oper) (st:St) (k:St→Option R):Option R :=
  let ρ:=ev st.fr
  match fk tt o.op with
  | .P=>opP tt o.op ρ fun v=>k ⟨lJ st.fr o.dst v,st.hp⟩
  | .R=>U4 tt o.op ρ st.hp drawn fun v=>k ⟨lJ st.fr o.dst v,st.hp⟩
  | .A=>W5 tt o.op ρ fun ob mk=>k ⟨lJ st.fr o.dst (mk id),st.hp.set id ob⟩
  | .W=>bif drawn.isSome && !uQ o.op ρ id then none else KH tt o.op ρ st.hp id fun v h=>k ⟨lJ st.fr o.dst v,h⟩
  | .C=>match o.op with | .call c=>xe tt E (drawn.isNone || !nF E o.op) c ρ st.hp fun v h=>k ⟨lJ st.fr o.dst v,h⟩|_=>none
  | .F=>none
  | .X=>none

def bZ (tt:dA) (o:Oper):Bool:=match fk tt o.op with | .A=>true | .W=>true|_=>false

def uR (all:List Oper) (o:Oper) (st:St) (run skip:St→Option R):Option R :=
  match o.guard with
  | none=>run st
  | some (j,want) =>
    match ((all[j]?).bind (·.dst))with
    | none=>none
    | some d =>
      match st.fr.getD d .undef with
      | .bool b =>
        bif b then (if want then run ⟨st.fr.set d (.bool true),st.hp⟩else skip ⟨st.fr.set d (.bool true),st.hp⟩)
        else (if want then skip ⟨st.fr.set d (.bool false),st.hp⟩else run ⟨st.fr.set d (.bool false),st.hp⟩)
      | .tuple []=>skip st
      | _=>none

def Lc {α β:Type} (l:List α) (k:List α→β):β :=
  List.rec (motive:=fun _=>(List α→β)→β) (fun k=>k []) (fun v _ ih k=>ih fun r=>k (v::r)) l k
theorem B9 {α β:Type}:∀(l:List α) (k:List α→β),Lc l k=k l
  | [],_=>rfl
  | v::l,k=>B9 l fun r=>k (v::r)
def Fu {β:Type} (st:St) (k:St→β):β:=Lc st.fr fun fr=>Lc st.hp fun hp=>k ⟨fr,hp⟩
theorem CI {β:Type} (st:St) (k:St→β):Fu st k=k st:=by unfold Fu; rw[B9,B9]

def Ld (tt:dA) (E:Env R) (drawn:Option Nat) (all:List Oper):List Oper→Nat→St→(St→Option R)→Option R
  | [],_,st,k=>k st
  | o::rest,id,st,k =>
    let id':=if bZ tt o then id+1 else id
    uR all o st (fun st=>yo tt E drawn id o st fun st=>Fu st fun st=>Ld tt E drawn all rest id' st k)
      (fun st=>Fu ⟨lJ st.fr o.dst (.tuple []),st.hp⟩ fun st=>Ld tt E drawn all rest id' st k)

def KI (M:List Nat) (es:List Nat):Nat:=es.foldl (fun m e=>m ||| (Nat.pow 2 e ||| M.getD e 0)) 0

def CJ (o:Oper):List Nat:=(o.after.toList.filter fun e=>Region.binds .any e).map (·.on)

def Hm (ops:List Oper):List Nat:=ops.foldl (init := []) fun M o=>M ++ [KI M (CJ o)]
def beforeL (n:Nat) (M:List Nat):List (List Nat):=(List.range n).map fun j=>(List.range n).filter fun i=>(M.getD j 0).testBit i

def looks (all:List Oper) (o:Oper):List Nat :=
  (o.op.operands.toList.filterMap fun | .tmp t=>some t|_=>none) ++
  (match o.guard with|some (g,_)=>((all[g]?).bind (·.dst)).toList|none => [])

def xi (all:List Oper) (x y:Oper):Bool :=
  (match x.dst with|some d => !(looks all y).contains d&&y.dst != some d|none=>true) &&
  (match y.dst with|some d => !(looks all x).contains d|none=>true)

def Gc (a b:Cls):Bool :=
  match a,b with
  | .X,_|_, .X=>false
  | .P,_|_, .P=>true
  | .C, .R | .C, .A | .R, .C | .A, .C=>true
  | .R, .R | .R, .A | .A, .R | .A, .A=>true
  | _,_=>false

def tokPair (tt:dA) (E:Env R) (x y:Op):Bool :=
  ((o0 x&&(match dU tt E y with | .A | .R=>true|_=>false))||((match dU tt E x with | .R=>true|_=>false)&&o0 y)) ||
    ((lK E x&&(match dU tt E y with | .R=>true|_=>false))||((match dU tt E x with | .R=>true|_=>false)&&lK E y))

def IY (tt:dA) (E:Env R) (all:List Oper) (x y:Oper):Bool:=(Gc (dU tt E x.op) (dU tt E y.op)||tokPair tt E x.op y.op)&&xi all x y

def W6 (tt:dA) (E:Env R) (o:Op):Bool:=match dU tt E o with | .F=>true|_=>false
def U6 (tt:dA) (E:Env R) (all:List Oper) (x:Oper):Bool:=(match dU tt E x.op with | .R=>true|_=>false)&&all.any fun y=>W6 tt E y.op&&xi all x y
def jU (all:List Oper) (o:Oper):Bool :=
  match o.op with
  | .store _ (.tmp t) _=>o.dst.isNone&&o.guard.isNone&&((all.any fun z=>z.dst==some t&&(match z.op with | .fieldAddr _ _ _=>true|_=>false))||all.all fun z=>z.dst != some t)
  | _=>false
def qz (all:List Oper) (o:Oper):Bool :=
  match o.op with
  | .store _ (.tmp t) _=>o.dst.isNone&&o.guard.isNone&&all.any fun z=>z.dst==some t&&(match z.op with | .indexAddr _ _ _=>true|_=>false)
  | _=>false
def Sf (all:List Oper) (x y:Oper):Bool:=(jU all x&&qz all y)||(qz all x&&jU all y)
def NT (tt:dA) (E:Env R) (all:List Oper) (x:Oper):Bool:=(match dU tt E x.op with | .R=>true|_=>false)&&all.any (jU all)
def rdA (tt:dA) (E:Env R) (x:Oper):Bool:=match dU tt E x.op with | .R | .A=>true|_=>false
def Qn (tt:dA) (E:Env R) (x y:Oper):Bool := !(o0 x.op&&rdA tt E y) && !(rdA tt E x&&o0 y.op)
def W7 (tt:dA) (S:Option (Bool × List Nat)) (base:Nat) (o:Oper):Option Nat:=match S with|some (true,_)=>(match fk tt o.op with | .W=>none|_=>some base)|_=>some base
def DO (tt:dA) (E:Env R) (far:Option Bool) (all:List Oper) (x y:Oper):Bool :=
  (IY tt E all x y&&(match far with|some true=>Qn tt E x y|_=>true))||(match far with
    | none=>false
    | some true=>((U6 tt E all x&&W6 tt E y.op)||(W6 tt E x.op&&(!lK E x.op&&(match fk tt y.op with | .A=>true|_=>false)))||Sf all x y)&&xi all x y
    | some false=>(NT tt E all x&&jU all y)&&xi all x y)
def vV (o:Op) (ρ:Operand→V):List Nat:=match o with | .load _ x=>(ρ x).ids | .lookup _ x _ _=>(ρ x).ids | .convert _ _ x=>(ρ x).ids|_ => []
def lY (o:Op) (ρ:Operand→V) (h:aG):List Nat :=
  match o with
  | .call c=>(match c.callee with | .value f=>(match ρ f with | .func _ first cap=>reach h 64 (V.r6 (first++c.args.toList.map ρ++cap)) []|_ => [])|_ => [])
  | _ => []
def Ay (o:Op) (ρ:Operand→V):List Nat:=match o with | .store _ x _=>(ρ x).ids|_ => []
def GG (tt:dA) (E:Env R) (base:Nat) (S:Option (Bool × List Nat)) (all:List Oper) (o:Oper) (ρ:Operand→V) (h:aG):Bool :=
  match S with
  | none=>true
  | some (false,A) =>
    match fk tt o.op with
    | .R => !NT tt E all o||(vV o.op ρ).all fun i => !A.contains i
    | .W => !jU all o||(Ay o.op ρ).all fun i=>A.contains i
    | _=>true
  | some (true,A) =>
    match fk tt o.op with
    | .R => !U6 tt E all o||(vV o.op ρ).all fun i=>A.contains i
    | .C => !W6 tt E o.op||lK E o.op||(Nat.ble (base+(all.filter (bZ tt)).length) h.length&&(lY o.op ρ h).all (fun i=>Nat.blt i base)&&A.all fun i=>Nat.blt i h.length && !(lY o.op ρ h).contains i)
    | .W=>(!jU all o||(Ay o.op ρ).all fun i=>A.contains i)&&(!qz all o||(Ay o.op ρ).all fun i => !A.contains i)
    | _=>true
def Le (ops:List Oper) (fr:List V):List Nat:=ops.flatMap fun o=>match o.op with | .fieldAddr _ x _=>(ev fr x).ids | .load _ x=>(ev fr x).ids | .store _ x _=>(ev fr x).ids|_ => []

def Lf (ops:List Oper) (fr:List V):List Nat:=ops.flatMap fun o =>
  bif jU ops o then (match o.op with | .store _ (.tmp t) _=>bif (ops.all fun z=>z.dst != some t)then (ev fr (.tmp t)).ids else ops.flatMap (fun z=>bif z.dst==some t then (match z.op with | .fieldAddr _ x _=>(ev fr x).ids|_ => [])else [])|_ => [])else []

def Qo (tt:dA) (E:Env R) (base:Nat) (A:Bool × List Nat) (all:List Oper):List Oper→Nat→St→(St→Option R)→Option R
  | [],_,st,k=>k st
  | o::rest,id,st,k =>
    let id':=if bZ tt o then id+1 else id
    uR all o st (fun st=>bif GG tt E base (some A) all o (ev st.fr) st.hp then yo tt E (W7 tt (some A) base o) id o st fun st=>Fu st fun st=>Qo tt E base A all rest id' st k else none)
      (fun st=>Fu ⟨lJ st.fr o.dst (.tuple []),st.hp⟩ fun st=>Qo tt E base A all rest id' st k)

def Er (tt:dA) (E:Env R) (far:Option Bool) (ops:List Oper):Bool :=
  let M:=Hm ops
  (List.range ops.length).all fun j=>(List.range j).all (fun i =>
    (M.getD j 0).testBit i||DO tt E far ops (ops.getD i default) (ops.getD j default)) &&
    (CJ (ops.getD j default)).all (fun i=>Nat.blt i j) &&
    Nat.beq (M.getD j 0) (KI M (CJ (ops.getD j default)))

def Fv (tt:dA) (E:Env R) (ops:List Oper) (draw:Bool) (st:St) (k:St→Option R):Option R :=
  let n:=st.hp.length
  let sE:St:=⟨st.fr,st.hp++List.replicate (ops.filter (bZ tt)).length .free⟩
  if draw then (if Er tt E none ops then Ld tt E (some n) ops ops n sE k else if Er tt E (some true) ops then Qo tt E n (true,Le ops st.fr) ops ops n sE k else if Er tt E (some false) ops then Qo tt E n (false,Lf ops st.fr) ops ops n sE k else none)
  else Ld tt E none ops ops n sE k

def Gd (log:List (Nat × V)) (t:Nat) (d:V):V :=
  List.rec (motive:=fun _=>V) d (fun x _ ih=>cond (Nat.beq x.1 t) x.2 ih) log
def Lg {β:Type} (log:List (Nat × V)) (t:Nat) (d:V) (k:V→β):β :=
  List.rec (motive:=fun _=>β) (k d) (fun x _ ih=>cond (Nat.beq x.1 t) (k x.2) ih) log
def Sg {β:Type} (log:List (Nat × V)) (fr:List V) (k:List V→β):β :=
  List.rec (motive:=fun _=>Nat→(List V→β)→β) (fun _ k=>k []) (fun v _ ih i k=>Lg log i v fun v'=>ih (i+1) fun r=>k (v'::r)) fr 0 k
def evF (fr:List V) (log:List (Nat × V)) (x:Operand):V:=match x with | .tmp t=>Gd log t (fr.getD t .undef)|x=>ev fr x
def NU (n:Nat) (log:List (Nat × V)) (dst:Option Nat) (v:V):List (Nat × V):=match dst with|some d=>bif Nat.blt d n then (d,v)::log else log|none=>log

def Xr (tt:dA) (E:Env R) (drawn:Option Nat) (id:Nat) (o:Oper) (ρ:Operand→V) (hp:aG) (k:V→aG→Option R):Option R :=
  match fk tt o.op with
  | .P=>opP tt o.op ρ fun v=>k v hp
  | .R=>U4 tt o.op ρ hp drawn fun v=>k v hp
  | .A=>W5 tt o.op ρ fun ob mk=>k (mk id) (hp.set id ob)
  | .W=>bif drawn.isSome && !uQ o.op ρ id then none else KH tt o.op ρ hp id fun v h=>k v h
  | .C=>match o.op with | .call c=>xe tt E (drawn.isNone || !nF E o.op) c ρ hp fun v h=>k v h|_=>none
  | .F=>none
  | .X=>none

def Sh (all:List Oper) (o:Oper) (fr:List V) (log:List (Nat × V)) (run skip:List (Nat × V)→Option R):Option R :=
  match o.guard with
  | none=>run log
  | some (j,want) =>
    match ((all[j]?).bind (·.dst))with
    | none=>none
    | some d =>
      match Gd log d (fr.getD d .undef)with
      | .bool b =>
        bif b then (if want then run ((d, .bool true)::log)else skip ((d, .bool true)::log))
        else (if want then skip ((d, .bool false)::log)else run ((d, .bool false)::log))
      | .tuple []=>skip log
      | _=>none

def Si (tt:dA) (E:Env R) (drawn:Option Nat) (all:List Oper) (n:Nat) (fr:List V):List Oper→Nat→List (Nat × V)→aG→(St→Option R)→Option R
  | [],_,log,hp,k=>Sg log fr fun fr=>Lc hp fun hp=>k ⟨fr,hp⟩
  | o::rest,id,log,hp,k =>
    let id':=if bZ tt o then id+1 else id
    Sh all o fr log (fun log=>Xr tt E drawn id o (evF fr log) hp fun v hp=>Lc hp fun hp=>Si tt E drawn all n fr rest id' (NU n log o.dst v) hp k)
      (fun log=>Si tt E drawn all n fr rest id' (NU n log o.dst (.tuple [])) hp k)

def regionF (tt:dA) (E:Env R) (ops:List Oper) (draw:Bool) (st:St) (k:St→Option R):Option R :=
  let n:=st.hp.length
  let hp:=st.hp++List.replicate (ops.filter (bZ tt)).length .free
  if draw then (if Er tt E none ops then Si tt E (some n) ops st.fr.length st.fr ops n [] hp k else if Er tt E (some true) ops then Qo tt E n (true,Le ops st.fr) ops ops n ⟨st.fr,hp⟩ k else if Er tt E (some false) ops then Qo tt E n (false,Lf ops st.fr) ops ops n ⟨st.fr,hp⟩ k else none)
  else Si tt E none ops st.fr.length st.fr ops n [] hp k

inductive Ex where
  | normal|exit (id:Nat)|goto (l:Nat)|ret

structure Hint where
  live:List Nat
  own:List (Nat × Ty) := []
  rows:List (Nat × Ty) := []
  cells:List (Nat × Nat × Ty × Bool) := []
  drop:List Nat := []
  out:List Nat := []

def CK (live drop:List Nat) (fr:List V):List V:=fr.zipIdx.map fun (v,i)=>if live.contains i then (if drop.contains i then CH v else v)else .undef

def GH:List (Nat × Ty)→St→St
  | [],st=>st
  | (d,T)::r,st =>
    match st.fr.getD d .undef with
    | .cM=>GH r ⟨st.fr.set d (.sl T [] (.own st.hp.length)),st.hp ++ [.tok]⟩
    | .sl T' l .nil=>GH r ⟨st.fr.set d (.sl T' l (.own st.hp.length)),st.hp ++ [.tok]⟩
    | _=>GH r st

def Es:List (Nat × Ty)→St→St
  | [],st=>st
  | (d,T)::r,st =>
    match st.fr.getD d .undef with
    | .cM=>Es r ⟨st.fr.set d (.row st.hp.length 0),st.hp ++ [.row T []]⟩
    | _=>Es r st

def zx (T:Ty) (b:Bool):bO:=bif b then .row T []else .tok
def vW (T:Ty) (b:Bool) (i:Nat):V:=bif b then .row i 0 else .sl T [] (.own i)

def zO:List (Nat × Nat × Ty × Bool)→St→St
  | [],st=>st
  | (i,o,T,b)::r,st =>
    match st.hp.at i with
    | .cells cs =>
      (match cs.getD o .undef with
       | .cM=>zO r ⟨st.fr,st.hp.set i (.cells (cs.set o (vW T b st.hp.length))) ++ [zx T b]⟩
       | _=>zO r st)
    | .lW v =>
      (match v with
       | .cM=>zO r ⟨st.fr,st.hp.set i (.lW (vW T b st.hp.length)) ++ [zx T b]⟩
       | _=>zO r st)
    | _=>zO r st

def St.gc (m:Nat) (st:St):St :=
  let ord:=reach st.hp 256 (List.range m++V.r6 st.fr) []
  ⟨V.xh (xd ord) st.fr,st.hp.pick ord⟩

def T0 (m:Nat) (h:Hint) (st:St):St:=match h.cells with | []=>st|_::_=>st.gc m
def norm (m:Nat) (h:Hint) (st:St):St:=(zO h.cells (Es h.rows (GH h.own (T0 m h ⟨CK h.live h.drop st.fr,st.hp⟩)))).gc m

def trim (m:Nat) (h:Hint) (st:St):St:=(⟨CK h.out [] st.fr,st.hp⟩:St).gc m

abbrev eJ (R:Type):=St→(Ex→St→Option R)→Option R

def keyOf:Code→Nat
  | .region id _ _=>id
  | .seq a _=>keyOf a
  | .block _ b=>keyOf b
  | .loop b=>keyOf b
  | .cond _ a _=>keyOf a
  | .scope b=>keyOf b
  | _=>0

def T1 (body:eJ R):Nat→eJ R
  | 0,_,_=>none
  | n+1,st,K=>body st fun e sE=>match e with | .normal=>T1 body n sE K|e=>K e sE

def Bn (body:eJ R) (f:St→St):Nat→eJ R
  | 0,_,_=>none
  | n+1,st,K=>body st fun e sE=>match e with | .normal=>Bn body f n (f sE) K|e=>K e sE

def anyT (a b:Option R):Option R:=open Classical in if a=b then a else none

def jV (tt:dA) (E:Env R) (L:Nat→Option (Hint × eJ R)) (m:Nat):Code→eJ R
  | .skip,st,K=>K .normal st
  | .region _ ops draw,st,K=>regionF tt E ops.toList draw st fun sE=>K .normal sE
  | .seq a b,st,K=>jV tt E L m a st fun e sE=>match e with | .normal=>jV tt E L m b sE K|e=>K e sE
  | .cond c a b,st,K=>match ev st.fr c with | .bool t=>bif t then jV tt E L m a st K else jV tt E L m b st K | .FN=>anyT (jV tt E L m a st K) (jV tt E L m b st K)|_=>none
  | .block id a,st,K=>jV tt E L m a st fun e sE=>match e with | .exit i=>if i=id then K .normal sE else K (.exit i) sE|e=>K e sE
  | .loop a,st,K =>
    match L (keyOf a)with
    | some (h,ls)=>ls (norm m h st) K
    | none=>T1 (jV tt E L m a) 70 st K
  | .exit id,st,K=>K (.exit id) st
  | .ret,st,K=>K .ret st
  | _,_,_=>none

def Qp (tt:dA) (st:St):List ResultVar→(List V→Option R)→Option R
  | [],k=>k []
  | .tmp t::r,k=>Qp tt st r fun vs=>k (st.fr.getD t .undef::vs)
  | .cell a t::r,k =>
    match st.fr.getD a .undef with
    | .ptr i o =>
      (match st.hp.at i with
       | .cells cs=>rh tt t cs o fun v=>Qp tt st r fun vs=>k (v::vs)
       | _=>none)
    | _=>none

def nh (h:aG):List Nat→aG
  | []=>h
  | i::r=>match h.at i with | .row _ _=>nh (h.set i .dead) r|_=>nh h r

def Sj (tt:dA):List Nat→List V→List V
  | t::ts,v::vs=>canon tt t v::Sj tt ts vs
  | _,_ => []

def KJ (tt:dA) (ts:List Nat) (m:Nat) (uM:Bool) (vs:List V) (h:aG) (k:V→aG→Option R):Option R :=
  let ws:=if uM then vs else Sj tt ts (V.JD h vs)
  let h:=if uM then h else nh h (V.r6 vs)
  let ord:=reach h 256 (List.range m++V.r6 ws) []
  k (match V.xh (xd ord) ws with | [v]=>v|l => .tuple l) (h.pick ord)

def funK (tt:dA) (E:Env R) (L:Nat→Option (Hint × eJ R)) (uM:Bool) (fn:Func) (c:Code):Spec R :=
  fun args h k =>
    if 200<h.length then none else
    jV tt E L h.length c ⟨args++List.replicate (fn.ntmps - args.length) .undef,h⟩ fun e st =>
      match e with
      | .normal | .ret=>Qp tt st fn.results.toList fun vs=>KJ tt fn.resultTypes.toList h.length uM vs st.hp k
      | _=>none

end
end Go.aF

namespace Go.aF
open Go.RowKit

structure Qq where
 cells:Nat→Nat→Prop
instance:CoeFun Qq fun _=>Nat→Nat→Prop:=⟨Qq.cells⟩

structure js where
 rZ:Nat→Option Nat
 off:Nat→Nat
 /-- cells that are the callers' -/
 ext:Qq

def bO.from_ (o:bO) (f:Nat):Option Nat :=
 match o with
 | .free=>none
 | .dead=>none
 | .tok=>some f
 | _=>some 0

def Used (h:aG) (i:Nat):Prop:=i<h.length∧h.at i ≠ .free

def sF (h:aG) (c:js) (b x:Nat):Prop:=∃i f,c.rZ i=some b∧(h.at i).from_ (c.off i)=some f∧f≤x

def FO (h:aG) (c:js) (b x:Nat):Prop:=¬sF h c b x∧¬c.ext b x

def mx:Nat:=9223372036854775807

def Sk (T:Ty) (o:Nat) (e:TypeId):Prop:=T = .int .u8→o=0∧e=nR.u8

inductive dz (w:World) (h:aG) (c:js):V→Value→Prop where
 | undef (v:Value):dz w h c .undef v
 | int {k:IntKind} {n:Int} (hn:k.has n):dz w h c (.int k n) (.int k n)
 | bool (b:Bool):dz w h c (.bool b) (.bool b)
 | str {s:ByteArray} (hl:s.size≤mx):dz w h c (.str s.data.toList) (.string s)
 | eI:dz w h c .eI (.pointer none)
 | ptr {i o:Nat} {v:Value} (hi:Used h i) (hv:∃b,v = .pointer (some ⟨b,o,none⟩)∧(h.at i ≠ .dead→c.rZ i=some b)):dz w h c (.ptr i o) v
 | uN {cs:List V} {b o:Nat} (f:Nat→Value) (hc:∀j,j<cs.length→w.cell? ⟨b,o+j,none⟩=some (f j)∧FO h c b (o+j))
   (hr:∀(j:Nat) (v:V),cs[j]? = some v→dz w h c v (f j)):dz w h c (.uN cs) (.pointer (some ⟨b,o,none⟩))
 | cM:dz w h c .cM (.slice none 0 0)
 | sl {T:Ty} {l:List T.den} {t:Tok} {A:Option Addr} {cap:Nat} (f:Nat→Nat→Value) (kM:l.length≤cap) (r5:cap≤mx)
   (hc:∀i j,i<l.length→j<T.sz→∃b o,A=some ⟨b,o,none⟩∧w.cell? ⟨b,o+i*T.sz+j,none⟩=some (f i j)∧FO h c b (o+i*T.sz+j))
   (hr:∀(i j:Nat) (x:T.den) (v:V),l[i]? = some x→(T.cells x)[j]? = some v→dz w h c v (f i j))
   (xj:t = .nil→A=none∧cap=0)
   (lC:∀i,t = .own i→Used h i∧(h.at i = .tok →
    (c.rZ i=none∧A=none∧cap=0)∨∃b o arr e fz,c.rZ i=some b∧A=some ⟨b,o,none⟩∧c.off i=o+l.length*T.sz ∧
     w.heap[b]? = some (Obj.cells arr e fz)∧o+cap*T.sz≤arr.size∧Sk T o e)):dz w h c (.sl T l t) (.slice A l.length cap)
 | J6 {n sz:Nat} {cs:List V} {A:Option Addr} (hn:cs.length=n*sz) (r5:n≤mx) (f:Nat→Value)
   (hc:∀j,j<cs.length→∃b o,A=some ⟨b,o,none⟩∧w.cell? ⟨b,o+j,none⟩=some (f j)∧FO h c b (o+j))
   (hr:∀(j:Nat) (v:V),cs[j]? = some v→dz w h c v (f j)):dz w h c (.J6 n cs) (.slice A n n)
 | row {i n:Nat} {v:Value} (hi:Used h i) (hn:n≤mx) (hv:∃A cap,v = .slice A n cap∧(0<n→∃a,A=some a)∧∀T l,h.at i = .row T l→n=l.length∧n≤cap∧cap≤mx ∧
    ((c.rZ i=none∧A=none∧cap=0)∨∃b arr e fz,c.rZ i=some b∧A=some ⟨b,c.off i,none⟩∧w.heap[b]? = some (Obj.cells arr e fz)∧c.off i+cap*T.sz≤arr.size)) :
   dz w h c (.row i n) v
 | B5 {i q n:Nat} {v:Value} (hi:Used h i) (hn:n≤mx) (hv:∃A cap,v = .slice A n cap∧(0<n→∃a,A=some a)∧∀T l,h.at i = .row T l→q+n≤l.length∧n≤cap∧cap≤mx ∧
    (0<n→∃b,c.rZ i=some b∧A=some ⟨b,c.off i+q*T.sz,none⟩)):dz w h c (.B5 i q n) v
 | sD {i n j o:Nat} {v:Value} (hi:Used h i) (hv:∃a,v = .pointer (some a)∧∀T l,h.at i = .row T l→n=T.sz→j<l.length→∃b,c.rZ i=some b∧a=⟨b,c.off i+j*T.sz+o,none⟩) :
   dz w h c (.sD i n j o) v
 | func {f:Nat} {a b:List V} {x y:Array Value} (ha:a.length=x.size) (hb:b.length=y.size)
   (hra:∀(j:Nat) (v:V) (d:Value),a[j]? = some v→x[j]? = some d→dz w h c v d) (hrb:∀(j:Nat) (v:V) (d:Value),b[j]? = some v→y[j]? = some d→dz w h c v d) :
   dz w h c (.func f a b) (.func (.func f) x y)
 | aT:dz w h c .aT .nilFunc
 | agg {cs:List V} {x:Array Value} (hl:cs.length=x.size) (hr:∀(j:Nat) (v:V) (d:Value),cs[j]? = some v→x[j]? = some d→dz w h c v d):dz w h c (.agg cs) (.agg x)
 | tuple {cs:List V} {x:Array Value} (hl:cs.length=x.size) (hr:∀(j:Nat) (v:V) (d:Value),cs[j]? = some v→x[j]? = some d→dz w h c v d):dz w h c (.tuple cs) (.tuple x)
 | map {i:Nat} {v:Value} (hi:Used h i) (hv:∃b,v = .map (some b)∧(h.at i ≠ .dead→c.rZ i=some b)):dz w h c (.map i) v
 | nS:dz w h c .nS (.map none)
 | dv:dz w h c .dv .nilIface
 | iface (t:TypeId) (v:Value):dz w h c .iface (.iface t v)
 | GC {t:TypeId} {k:IntKind} {n:Int} (hn:k.has n):dz w h c (.GC t k n) (.iface t (.int k n))
 | FN (b:Bool):dz w h c .FN (.bool b)

def cy (w:World) (h:aG) (c:js) (cs:List V) (ds:List Value):Prop :=
 cs.length=ds.length∧∀(j:Nat) (v:V) (d:Value),cs[j]? = some v→ds[j]? = some d→dz w h c v d

def nK (w:World) (h:aG) (c:js) (i:Nat):bO→Prop
 | .free=>True
 | .dead=>True
 | .cells cs=>∃b arr e,c.rZ i=some b∧w.heap[b]? = some (Obj.cells arr e (0,0))∧cy w h c cs arr.toList
 | .row T l=>(c.rZ i=none∧l = [])∨∃b arr e fz,c.rZ i=some b∧w.heap[b]? = some (Obj.cells arr e fz)∧c.off i+l.length*T.sz≤arr.size ∧
   (∀x,x<arr.size→w.frozen? ⟨b,x,none⟩=false)∧∀(n j:Nat) (x:T.den) (v:V),l[n]? = some x→(T.cells x)[j]? = some v→∃d,arr[c.off i+n*T.sz+j]? = some d∧dz w h c v d
 | .tok=>c.rZ i=none∨∃b arr e fz,c.rZ i=some b∧w.heap[b]? = some (Obj.cells arr e fz)∧c.off i≤arr.size∧(fz.1=fz.2∨fz.2≤c.off i)
 | .lW v=>∃b p d,c.rZ i=some b∧w.heap[b]? = some (Obj.cells #[p,d] nR.lW (0,0))∧(p = .pointer none∨p = .pointer (some ⟨b,0,none⟩))∧dz w h c v d
 | .iter s pos=>∃b bs,c.rZ i=some b∧w.heap[b]? = some (.stringIter bs pos)∧bs.data.toList=s∧bs.size≤mx
 | .uO K T l=>∃b es clock,c.rZ i=some b∧w.heap[b]? = some (.map es clock)∧KG K=true∧T.one=true∧es.size=l.length ∧
   ∀(j:Nat) (x:K.den × T.den) (e:MapEntry),l[j]? = some x→es[j]? = some e→dz w h c (M6 K x.1) e.key∧dz w h c (M6 T x.2) e.val

def bO.live:bO→Prop
 | .free=>False
 | .dead=>False
 | _=>True

def Laid (w:World) (h:aG) (c:js):Prop:=nR.U3 w∧∀b,nR.blocks b→b<w.heap.size∧∀x, ¬sF h c b x

structure WF (w:World) (h:aG) (c:js):Prop where
 wX:∀b x,sF h c b x→¬c.ext b x
 o3:∀b x,c.ext b x→b<w.heap.size
 obj:∀i,i<h.length→nK w h c i (h.at i)
 inj:∀i j b,(h.at i).live→(h.at j).live→c.rZ i=some b→c.rZ j=some b→i=j
 lay:Laid w h c

def bO.gZ:bO→bO→Prop
 | .cells cs, .cells ds=>cs.length=ds.length
 | .row T l, .row U m=>T=U∧l.length=m.length
 | .tok, .tok=>True
 | .iter _ _, .iter _ _=>True
 | .lW _, .lW _=>True
 | .uO K T _, .uO K' U _=>K=K'∧T=U
 | _,_=>False

structure Ext (w:World) (h:aG) (c:js) (w':World) (h':aG) (c':js):Prop where
 os:w'.os=w.os
 tape:w'.tape=w.tape
 output:w'.output=w.output
 size:w.heap.size≤w'.heap.size
 used:∀i,Used h i→Used h' i
 same:∀i,Used h i→h'.at i ≠ .dead→(h.at i).gZ (h'.at i)∧c'.rZ i=c.rZ i∧c'.off i=c.off i
 cell:∀b x,b<w.heap.size→¬sF h c b x→w'.cell? ⟨b,x,none⟩=w.cell? ⟨b,x,none⟩
 block:∀b,b<w.heap.size→(∀x, ¬sF h c b x)→w'.heap[b]? = w.heap[b]?
 vH:∀b x,b<w.heap.size→sF h' c' b x→sF h c b x
 ext:c'.ext=c.ext
 arr:∀(b:Nat) (arr:Array Value) (e:TypeId) (fz:Nat × Nat),w.heap[b]? = some (Obj.cells arr e fz)→∃(Et:Array Value) (FP:Nat × Nat),w'.heap[b]? = some (Obj.cells Et e FP)∧Et.size=arr.size

theorem Ext.refl (w:World) (h:aG) (c:js):Ext w h c w h c where
 os:=rfl
 tape:=rfl
 output:=rfl
 size:=Nat.le_refl _
 used:=fun _ hi=>hi
 same:=fun i hi hd=>⟨by have h2:=hi.2; revert hd h2; cases h.at i <;> simp[bO.gZ],rfl,rfl⟩
 cell:=fun _ _ _ _=>rfl
 block:=fun _ _ _=>rfl
 vH:=fun _ _ _ ho=>ho
 ext:=rfl
 arr:=fun b arr e fz hb=>⟨arr,fz,hb,rfl⟩

theorem bO.Ca {o o':bO} (h:o.gZ o'):o ≠ .dead∧o' ≠ .dead:=by
 cases o <;> cases o' <;> simp_all [bO.gZ]

theorem bO.U7 {a b c:bO} (h:a.gZ b) (k:b.gZ c):a.gZ c:=by
 cases a <;> cases b <;> cases c <;> simp_all [bO.gZ]

theorem Ext.trans {w w1 w2:World} {h h1 h2:aG} {c c1 c2:js} (a:Ext w h c w1 h1 c1) (b:Ext w1 h1 c1 w2 h2 c2):Ext w h c w2 h2 c2 where
 os:=b.os.trans a.os
 tape:=b.tape.trans a.tape
 output:=b.output.trans a.output
 size:=Nat.le_trans a.size b.size
 used:=fun i hi=>b.used i (a.used i hi)
 same:=fun i hi hd=>by
  obtain ⟨s2,e2,f2⟩:=b.same i (a.used i hi) hd
  obtain ⟨s1,e1,f1⟩:=a.same i hi (bO.Ca s2).1
  exact ⟨bO.U7 s1 s2,e2.trans e1,f2.trans f1⟩
 cell:=fun x y hx ho=>by
  rw[b.cell x y (Nat.lt_of_lt_of_le hx a.size) (fun o=>ho (a.vH x y hx o)),a.cell x y hx ho]
 block:=fun x hx ho=>by
  rw[b.block x (Nat.lt_of_lt_of_le hx a.size) (fun y o=>ho y (a.vH x y hx o)),a.block x hx ho]
 vH:=fun x y hx o=>a.vH x y hx (b.vH x y (Nat.lt_of_lt_of_le hx a.size) o)
 ext:=b.ext.trans a.ext
 arr:=fun x arr e fz hx=>by
  obtain ⟨a1,f1,h1,s1⟩:=a.arr x arr e fz hx
  obtain ⟨a2,f2,h2,s2⟩:=b.arr x a1 e f1 h1
  exact ⟨a2,f2,h2,s2.trans s1⟩

theorem lt_of_cell {w:World} {b x:Nat} {v:Value} (h:w.cell? ⟨b,x,none⟩=some v):b<w.heap.size :=
 World.block_lt_of_cell? _ _ h

theorem sim_tok {o o':bO} (h:o.gZ o') (e:o' = .tok):o = .tok:=by subst e; cases o <;> simp_all [bO.gZ]
theorem O6 {o:bO} {T:Ty} {l:List T.den} (h:o.gZ (.row T l)):∃m:List T.den,o = .row T m∧m.length=l.length:=by
 cases o with
 | row U m=>obtain ⟨rfl,e⟩:=h; exact ⟨m,rfl,e⟩
 | _=>simp[bO.gZ]at h

section
variable {w w':World} {h h':aG} {c c':js}

theorem Ext.Lh (x:Ext w h c w' h' c') {b o:Nat} {v:Value} (hc:w.cell? ⟨b,o,none⟩=some v) (ho:FO h c b o) :
  w'.cell? ⟨b,o,none⟩=some v∧FO h' c' b o :=
 ⟨(x.cell b o (lt_of_cell hc) ho.1).trans hc,fun k=>ho.1 (x.vH b o (lt_of_cell hc) k),by rw[x.ext]; exact ho.2⟩

theorem dz.mono (x:Ext w h c w' h' c') {v:V} {d:Value} (r:dz w h c v d):dz w' h' c' v d:=by
 induction r with
 | undef v=>exact .undef v
 | int hn=>exact .int hn
 | bool b=>exact .bool b
 | str hl=>exact .str hl
 | eI=>exact .eI
 | cM=>exact .cM
 | aT=>exact .aT
 | nS=>exact .nS
 | dv=>exact .dv
 | iface t v=>exact .iface t v
 | GC hn=>exact .GC hn
 | FN b=>exact .FN b
 | ptr hi hv =>
  obtain ⟨b,hv,hb⟩:=hv
  refine .ptr (x.used _ hi) ⟨b,hv,fun hd => ?_⟩
  obtain ⟨s,e,_⟩:=x.same _ hi hd
  rw[e]
  exact hb (bO.Ca s).1
 | map hi hv =>
  obtain ⟨b,hv,hb⟩:=hv
  refine .map (x.used _ hi) ⟨b,hv,fun hd => ?_⟩
  obtain ⟨s,e,_⟩:=x.same _ hi hd
  rw[e]
  exact hb (bO.Ca s).1
 | uN f hc _ ih=>exact .uN f (fun j hj=>x.Lh (hc j hj).1 (hc j hj).2) ih
 | sl f kM r5 hc _ xj lC ih =>
  refine .sl f kM r5 (fun i j hi hj => ?_) ih xj (fun i ht => ?_)
  ·obtain ⟨b,o,hA,h1,h2⟩:=hc i j hi hj
   exact ⟨b,o,hA,x.Lh h1 h2⟩
  ·obtain ⟨hi,ho⟩:=lC i ht
   refine ⟨x.used _ hi,fun Li => ?_⟩
   obtain ⟨s,e,eo⟩:=x.same i hi (by rw[Li]; simp)
   rw[e,eo]
   rcases ho (sim_tok s Li)with hn|⟨b,o,arr,el,fz,h1,h2,h3,h4,h5⟩
   ·exact .inl hn
   ·obtain ⟨Et,FP,h4',hs⟩:=x.arr b arr el fz h4
    exact .inr ⟨b,o,Et,el,FP,h1,h2,h3,h4',by rw[hs]; exact h5.1,h5.2⟩
 | J6 hn r5 f hc _ ih =>
  refine .J6 hn r5 f (fun j hj => ?_) ih
  obtain ⟨b,o,hA,h1,h2⟩:=hc j hj
  exact ⟨b,o,hA,x.Lh h1 h2⟩
 | row hi hn hv =>
  obtain ⟨A,cap,U8,hA,hv⟩:=hv
  refine .row (x.used _ hi) hn ⟨A,cap,U8,hA,fun T l he => ?_⟩
  obtain ⟨s,e,eo⟩:=x.same _ hi (by rw[he]; simp)
  rw[he]at s
  obtain ⟨m,hm,hl⟩:=O6 s
  obtain ⟨Qb,h1,h2,h3⟩:=hv T m hm
  refine ⟨by rw[Qb,hl],h1,h2,?_⟩
  rw[e,eo]
  rcases h3 with h3|⟨b,arr,el,fz,g1,g2,g3,g4⟩
  ·exact .inl h3
  ·obtain ⟨Et,FP,h4',hs⟩:=x.arr b arr el fz g3
   exact .inr ⟨b,Et,el,FP,g1,g2,h4',by rw[hs]; exact g4⟩
 | B5 hi hn hv =>
  obtain ⟨A,cap,U8,hA,hv⟩:=hv
  refine .B5 (x.used _ hi) hn ⟨A,cap,U8,hA,fun T l he => ?_⟩
  obtain ⟨s,e,eo⟩:=x.same _ hi (by rw[he]; simp)
  rw[he]at s
  obtain ⟨m,hm,hl⟩:=O6 s
  rw[e,eo,←hl]
  exact hv T m hm
 | sD hi hv =>
  obtain ⟨a,ha,hv⟩:=hv
  refine .sD (x.used _ hi) ⟨a,ha,fun T l he hn hj => ?_⟩
  obtain ⟨s,e,eo⟩:=x.same _ hi (by rw[he]; simp)
  rw[he]at s
  obtain ⟨m,hm,hl⟩:=O6 s
  rw[e,eo]
  exact hv T m hm hn (by rw[hl]; exact hj)
 | func ha hb _ _ iha ihb=>exact .func ha hb iha ihb
 | agg hl _ ih=>exact .agg hl ih
 | tuple hl _ ih=>exact .tuple hl ih

theorem cy.mono (x:Ext w h c w' h' c') {cs:List V} {ds:List Value} (r:cy w h c cs ds):cy w' h' c' cs ds :=
 ⟨r.1,fun j v d hv hd=>(r.2 j v d hv hd).mono x⟩

theorem cy.nil:cy w h c [] []:=⟨rfl,fun j v d hv=>by simp at hv⟩
theorem cy.cons {v:V} {d:Value} {cs:List V} {ds:List Value} (r:dz w h c v d) (rs:cy w h c cs ds):cy w h c (v::cs) (d::ds):=by
 refine ⟨by simp[rs.1],fun j u e hu he => ?_⟩
 cases j with
 | zero=>simp at hu he; subst hu; subst he; exact r
 | succ j=>simp at hu he; exact rs.2 j u e hu he
theorem cy.head {v:V} {d:Value} {cs:List V} {ds:List Value} (r:cy w h c (v::cs) (d::ds)):dz w h c v d:=r.2 0 v d rfl rfl
theorem cy.tail {v:V} {d:Value} {cs:List V} {ds:List Value} (r:cy w h c (v::cs) (d::ds)):cy w h c cs ds :=
 ⟨by simpa using r.1,fun j u e hu he=>r.2 (j+1) u e (by simpa using hu) (by simpa using he)⟩
theorem cy.append {a b:List V} {x y:List Value} (r:cy w h c a x) (s:cy w h c b y):cy w h c (a++b) (x++y):=by
 refine ⟨by simp[r.1,s.1],fun j u e hu he => ?_⟩
 have hl:=r.1
 by_cases hj:j<a.length
 ·rw[List.getElem?_append_left hj]at hu
  rw[List.getElem?_append_left (by omega)]at he
  exact r.2 j u e hu he
 ·rw[List.getElem?_append_right (by omega)]at hu
  rw[List.getElem?_append_right (by omega),←hl]at he
  exact s.2 _ u e hu he
theorem cy.take {a:List V} {x:List Value} (r:cy w h c a x) (n:Nat):cy w h c (a.take n) (x.take n):=by
 refine ⟨by simp[r.1],fun j u e hu he => ?_⟩
 rw[List.getElem?_take]at hu he
 split at hu <;> simp_all
 exact r.2 j u e hu he
theorem cy.drop {a:List V} {x:List Value} (r:cy w h c a x) (n:Nat):cy w h c (a.drop n) (x.drop n):=by
 refine ⟨by simp[r.1],fun j u e hu he => ?_⟩
 rw[List.getElem?_drop]at hu he
 exact r.2 _ u e hu he
theorem cy.map {α:Type} {f:α→V} {g:α→Value} (l:List α) (r:∀x∈l,dz w h c (f x) (g x)):cy w h c (l.map f) (l.map g):=by
 induction l with
 | nil=>exact .nil
 | cons x l ih=>exact .cons (r x (by simp)) (ih fun y hy=>r y (by simp[hy]))
theorem cy.getD {a:List V} {x:List Value} (r:cy w h c a x) (j:Nat) (d:Value):dz w h c (a.getD j .undef) (x.getD j d):=by
 by_cases hj:j<a.length
 ·have hx:j<x.length:=by have:=r.1; omega
  exact r.2 j _ _ (by simp[List.getD,List.getElem?_eq_getElem hj]) (by simp[List.getD,List.getElem?_eq_getElem hx])
 ·have:a.getD j .undef = .undef:=by simp[List.getD,List.getElem?_eq_none (Nat.le_of_not_lt hj)]
  rw[this]; exact .undef _
theorem cy.set {a:List V} {x:List Value} (r:cy w h c a x) (j:Nat) {v:V} {d:Value} (rv:dz w h c v d):cy w h c (a.set j v) (x.set j d):=by
 refine ⟨by simp[r.1],fun i u e hu he => ?_⟩
 rw[List.getElem?_set]at hu he
 by_cases vm:j=i
 ·simp only[vm,if_true]at hu he
  split at hu <;> split at he <;> simp_all
 ·simp only[vm,if_false]at hu he
  exact r.2 i u e hu he
theorem cy.J7 (n:Nat) (d:Value):cy w h c (List.replicate n .undef) (List.replicate n d):=by
 refine ⟨by simp,fun j u e hu _ => ?_⟩
 rw[List.getElem?_replicate]at hu
 split at hu <;> simp_all
 subst hu; exact .undef _
end
end Go.aF
end
