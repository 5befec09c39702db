/-
  FleetTells: for every input whose bulk is at most 1048576 the law returns true, and each argument reads behind the call as it read before; part 1 of 9 of the proof: an interpreter of the model's code over typed data, proved sound; the functions that the law reaches, printed as Lean functions and tied; the plain law. Own texts laid one behind the other.
-/
import Derived.JoinedCond
import Derived.Calls
import Derived.Test.YtolnaonmpohciaaDoorProg
import Derived.Shelf.Unicode.DecodeSlow
import Derived.Orders
import Derived.KernelRfl
import Derived.Below
set_option linter.unusedSimpArgs false
set_option linter.unnecessarySimpa false
set_option linter.unusedVariables false
set_option linter.unusedSectionVars false
noncomputable section
namespace Go.ad
open Go

theorem UA {P:Program} {f:FuncId} {fn:Func} {s:ChangeSpec} {c:OpenClaim} (h1:c.wf (OpenSpec.ofChange s)=true) (h2:laidOutB P=true) (h3:mapsRowed P=true)
  (h4:fn.params.all (P.readableRec ·)=true) (h5:namedTie P c.named s.vars=true) (h6:(c.stops == [])=true) (h7:(P.stops == [])=true) (h8:(c.knobs == [])=true) (h9:(P.stopKnobs == [])=true)
  (h10:(c.inPlace==P.inPlace f)=true) (h11:(c.unfollowed==P.unfollowed f)=true) (h12:(c.recurses==P.recurses f)=true) (h13:(c.named==P.varsNamed f)=true)
  (h14:(c.maps==(fn.params.toList++s.plain.varTypes P).any (P.mapsRec ·))=true) (h15:(c.ifaces==(fn.params.toList++s.plain.varTypes P).any (P.ifacesRec ·))=true) (h16:(c.mapsOut==P.mapsAmong fn.resultTypes.toList)=true)
  (h17:(c.loops==(fn.params.toList++s.plain.varTypes P).any (P.loopsFrom ·))=true) (h18:(c.wideKeys==(fn.params.toList++s.plain.varTypes P++fn.resultTypes.toList).any (P.wideKeysFrom ·))=true)
  (h19:s.vars.all (P.varReadable ·)=true) (h20:fn.resultTypes.all (fun t=>P.readableRec t&&decide (t<P.types.size))=true) (h21:(c.ifacesOut==fn.resultTypes.toList.any (P.ifacesRec ·))=true) (h22:(c.loopsOut==fn.resultTypes.toList.any (P.loopsFrom ·))=true)
  (h23:(c.plainKeys==P.plainKeys)=true) (h24:c.shortTexts.isNone=true) (h25:P.stopsHeard=true) (h26:P.mayEnter=true) (h27:(c.lifted==P.liftsFinal)=true) (h28:(P.make==some c.make)=true)
  (h29:(c.kinds==(if c.domain.isEmpty then []else fn.params.toList.map fun t=>match P.underlying t with|some (.int k)=>some k|_=>none))=true) (h30:(c.pinned==c.pinnedBy)=true)
  (h31:(c.veiled==(fn.params.toList++s.plain.varTypes P++fn.resultTypes.toList).any (P.veiledRec ·))=true) (h32:c.veiledFits P fn.params.toList (fn.params.toList++s.plain.varTypes P++fn.resultTypes.toList)=true):joinedFacts P f fn s c=true:=by
 unfold joinedFacts
 simp only[Bool.and_eq_true]
 exact ⟨⟨⟨⟨⟨⟨⟨⟨⟨⟨⟨⟨⟨⟨⟨⟨⟨⟨⟨⟨⟨⟨⟨⟨⟨⟨⟨⟨⟨⟨⟨h1,h2⟩,h3⟩,h4⟩,h5⟩,h6⟩,h7⟩,h8⟩,h9⟩,h10⟩,h11⟩,h12⟩,h13⟩,h14⟩,h15⟩,h16⟩,h17⟩,h18⟩,h19⟩,h20⟩,h21⟩,h22⟩,h23⟩,h24⟩,h25⟩,h26⟩,h27⟩,h28⟩,h29⟩,h30⟩,h31⟩,h32⟩
end Go.ad

namespace Go.ad

structure LayT where
 /-- the types of bytes, and of strings.Builder -/
 u8:Nat
 qV:Nat
 /-- functions whose specs leave the objects as they are -/
 soft:Nat→Bool
 blocks:Nat→Prop
 UB:World→Prop
 pP:∀w w':World,(∀b,blocks b→w'.heap[b]? = w.heap[b]?)→UB w→UB w'

def LayT.none:LayT:=⟨5,1000000,fun _=>false,fun _=>False,fun _=>True,fun _ _ _ h=>h⟩
end Go.ad

namespace Go.ad
open Go.Proofs

def O8 (w:World):Prop:=Go.Lib.Utf8Tabs 0 1 w∧True

theorem O9 (w w':World) (h:∀b,b<2→w'.heap[b]? = w.heap[b]?) (k:O8 w):O8 w':=by
 have hc:∀b x,b<2→w'.cell? ⟨b,x,none⟩=w.cell? ⟨b,x,none⟩:=fun b x hb=>by simp only[World.cell?,h b hb]
 obtain ⟨⟨k1,k2⟩,_⟩:=k
 exact ⟨⟨fun c K5=>by rw[hc _ _ (by omega)]; exact k1 c K5,fun i hi=>by rw[hc _ _ (by omega),hc _ _ (by omega)]; exact k2 i hi⟩,trivial⟩

def mZ:LayT:=⟨5,1000000,fun _=>false,fun b=>b<2,O8,O9⟩
end Go.ad

namespace Go.ad

abbrev aA:=List UInt8

structure Bi where
 iL:Int
 exp:Int

def Bi.z:Bi:=⟨0,0⟩

structure Json where
 kind:Int
 num:Bi
 text:aA
 names:List aA
 items:List Json

def Json.z:Json:=⟨0,Bi.z, [], [], []⟩

structure Raw where
 kind:Int
 iL:Int
 exp:Int
 text:List Int
 items:List Raw

def Raw.z:Raw:=⟨0,0,0, [], []⟩

structure Nx where
 kind:Int
 iL:Int
 exp:Int
 text:List Int

def Nx.z:Nx:=⟨0,0,0, []⟩

structure Y7 where
 name:aA
 kind:Int
 low:Int
 high:Int
 free:Bool

def Y7.z:Y7:=⟨[],0,0,0,false⟩

structure Ny where
 topic:aA
 data:aA
 bent:Bool

def Ny.z:Ny:=⟨[], [],false⟩

structure Token where
 kind:Int
 text:aA
 num:Bi
 at_:Int

def Token.z:Token:=⟨0, [],Bi.z,0⟩

structure Stop where
 node:Int
 seq:Int
 ax:Bool

def Stop.z:Stop:=⟨0,0,false⟩

structure Way where
 fk:Int
 seq:Int
 ax:Bool

def Way.z:Way:=⟨0,0,false⟩

structure Order where
 header:Int
 ae:aA
 order:Int
 update:Int
 nodes:List Stop
 af:List Way

def Order.z:Order:=⟨0, [],0,0, [], []⟩

structure Edge where
 src:Int
 dst:Int
 cost:Int

def Edge.z:Edge:=⟨0,0,0⟩

structure cf where
 nodes:Int
 af:List Edge

def cf.z:cf:=⟨0, []⟩

structure FG where
 maker:aA
 Ww:aA
 kind:aA

def FG.z:FG:=⟨[], [], []⟩

structure State where
 header:Int
 aX:Int
 ae:aA
 order:Int
 update:Int
 live:Bool
 node:Int
 seq:Int
 dW:Bool
 accepted:Int

def State.z:State:=⟨0,0, [],0,0,false,0,0,false,0⟩

structure bN where
 ae:aA
 header:Int
 order:Int
 update:Int
 aX:Int
 seen:Int
 path:List Int
 seq:Int
 open_:Bool
 rel:Int
 wait:Bool
 pending:Order

def bN.z:bN:=⟨[],0,0,0,0,0, [],0,false,0,false,Order.z⟩

structure Nz where
 kind:Int
 i:Int
 k:Int
 by_:Int
 data:aA

def Nz.z:Nz:=⟨0,0,0,0, []⟩

structure kh where
 header:Int
 order:Int
 update:Int
 seq:Int
 from_:Int
 ax:Int
 turns:List Int

def kh.z:kh:=⟨0,0,0,0,0,0, []⟩

structure NA where
 kind:Int
 o:kh
 data:aA

def NA.z:NA:=⟨0,kh.z, []⟩

structure NB where
 kind:Int
 n:Int
 turns:List Int

def NB.z:NB:=⟨0,0, []⟩

structure oD where
 a:Int
 b:Int
 c:Int

def oD.z:oD:=⟨0,0,0⟩

structure Kt where
 a:Int
 b:Int

def Kt.z:Kt:=⟨0,0⟩

structure NC where
 a:Bi
 b:Bi

def NC.z:NC:=⟨Bi.z,Bi.z⟩

structure ND where
 name:aA
 home:Int

def ND.z:ND:=⟨[],0⟩

structure Y8 where
 id:Int
 target:Int
 state:Int
 ae:Int

def Y8.z:Y8:=⟨0,0,0,0⟩

structure yt where
 kind:Int
 nums:List Int
 text:aA

def yt.z:yt:=⟨0, [], []⟩

inductive Ty where
 | int (k:IntKind)|bool|str
 | dcm|json|raw|Qp|fld|Pa|token|stop|dt|order|fk|layout|topic|state|C8|Qq|C9|Qr|Qs|u7|NF|Qt|post|job|record
 deriving DecidableEq

def Ty.den:Ty→Type
 | .int _=>Int | .bool=>Bool | .str=>aA
 | .dcm=>Bi
 | .json=>Json
 | .raw=>Raw
 | .Qp=>Nx
 | .fld=>Y7
 | .Pa=>Ny
 | .token=>Token
 | .stop=>Stop
 | .dt=>Way
 | .order=>Order
 | .fk=>Edge
 | .layout=>cf
 | .topic=>FG
 | .state=>State
 | .C8=>bN
 | .Qq=>Nz
 | .C9=>kh
 | .Qr=>NA
 | .Qs=>NB
 | .u7=>oD
 | .NF=>Kt
 | .Qt=>NC
 | .post=>ND
 | .job=>Y8
 | .record=>yt

def Ty.aC:(T:Ty)→T.den
 | .int _=>(0:Int) | .bool=>false | .str=>([]:aA)
 | .dcm=>Bi.z
 | .json=>Json.z
 | .raw=>Raw.z
 | .Qp=>Nx.z
 | .fld=>Y7.z
 | .Pa=>Ny.z
 | .token=>Token.z
 | .stop=>Stop.z
 | .dt=>Way.z
 | .order=>Order.z
 | .fk=>Edge.z
 | .layout=>cf.z
 | .topic=>FG.z
 | .state=>State.z
 | .C8=>bN.z
 | .Qq=>Nz.z
 | .C9=>kh.z
 | .Qr=>NA.z
 | .Qs=>NB.z
 | .u7=>oD.z
 | .NF=>Kt.z
 | .Qt=>NC.z
 | .post=>ND.z
 | .job=>Y8.z
 | .record=>yt.z

def Ty.sz:Ty→Nat
 | .int _=>1 | .bool=>1 | .str=>1
 | .dcm=>2
 | .json=>6
 | .raw=>5
 | .Qp=>4
 | .fld=>5
 | .Pa=>3
 | .token=>5
 | .stop=>3
 | .dt=>3
 | .order=>6
 | .fk=>3
 | .layout=>2
 | .topic=>3
 | .state=>10
 | .C8=>17
 | .Qq=>5
 | .C9=>7
 | .Qr=>9
 | .Qs=>3
 | .u7=>3
 | .NF=>2
 | .Qt=>4
 | .post=>2
 | .job=>4
 | .record=>3


inductive Tok where
 | no|nil|own (id:Nat)

inductive V where
 | undef
 | int (k:IntKind) (n:Int)
 | bool (b:Bool)
 | str (s:aA)
 | gk
 | ptr (id off:Nat)
 | lX (cs:List V)
 | aI
 | sl (T:Ty) (l:List T.den) (t:Tok)
 | Ku (n:Nat) (cs:List V)
 | row (id:Nat) (n:Nat)
 | m0 (id sz lo n:Nat)
 | nu (id:Nat) (sz:Nat) (i:Nat) (off:Nat)
 | func (f:Nat) (first cap:List V)
 | fB
 | agg (cs:List V)
 | tuple (vs:List V)
 | map (id:Nat)
 | km
 | dd
 | iface
 | Lq (t:Nat) (k:IntKind) (n:Int)
 | Fh

def V.flat:V→List V
 | .agg cs=>cs
 | v => [v]

def V.one:V→Bool
 | .undef=>false
 | .agg _=>false
 | .tuple _=>false
 | _=>true

def Ol (v:V):Option (List V) :=
 match v with
 | .agg cs=>if cs.all V.one then some cs else none
 | v=>if v.one then some [v]else none

def Ty.cells:(T:Ty)→T.den→List V
 | .int k,(n:Int) => [.int k n]
 | .bool,(b:Bool) => [.bool b]
 | .str,(s:aA) => [.str s]
 | .dcm,(x:Bi) => [.int .i64 x.iL, .int .i64 x.exp]
 | .json,(x:Json) => [.int .i64 x.kind, .int .i64 x.num.iL, .int .i64 x.num.exp, .str x.text, .sl .str x.names .no, .sl .json x.items .no]
 | .raw,(x:Raw) => [.int .i64 x.kind, .int .i64 x.iL, .int .i64 x.exp, .sl (.int .i64) x.text .no, .sl .raw x.items .no]
 | .Qp,(x:Nx) => [.int .i64 x.kind, .int .i64 x.iL, .int .i64 x.exp, .sl (.int .i64) x.text .no]
 | .fld,(x:Y7) => [.str x.name, .int .i64 x.kind, .int .i64 x.low, .int .i64 x.high, .bool x.free]
 | .Pa,(x:Ny) => [.str x.topic, .str x.data, .bool x.bent]
 | .token,(x:Token) => [.int .i64 x.kind, .str x.text, .int .i64 x.num.iL, .int .i64 x.num.exp, .int .i64 x.at_]
 | .stop,(x:Stop) => [.int .i64 x.node, .int .i64 x.seq, .bool x.ax]
 | .dt,(x:Way) => [.int .i64 x.fk, .int .i64 x.seq, .bool x.ax]
 | .order,(x:Order) => [.int .i64 x.header, .str x.ae, .int .i64 x.order, .int .i64 x.update, .sl .stop x.nodes .no, .sl .dt x.af .no]
 | .fk,(x:Edge) => [.int .i64 x.src, .int .i64 x.dst, .int .i64 x.cost]
 | .layout,(x:cf) => [.int .i64 x.nodes, .sl .fk x.af .no]
 | .topic,(x:FG) => [.str x.maker, .str x.Ww, .str x.kind]
 | .state,(x:State) => [.int .i64 x.header, .int .i64 x.aX, .str x.ae, .int .i64 x.order, .int .i64 x.update, .bool x.live, .int .i64 x.node, .int .i64 x.seq, .bool x.dW, .int .i64 x.accepted]
 | .C8,(x:bN) => [.str x.ae, .int .i64 x.header, .int .i64 x.order, .int .i64 x.update, .int .i64 x.aX, .int .i64 x.seen, .sl (.int .i64) x.path .no, .int .i64 x.seq, .bool x.open_, .int .i64 x.rel, .bool x.wait, .int .i64 x.pending.header, .str x.pending.ae, .int .i64 x.pending.order, .int .i64 x.pending.update, .sl .stop x.pending.nodes .no, .sl .dt x.pending.af .no]
 | .Qq,(x:Nz) => [.int .i64 x.kind, .int .i64 x.i, .int .i64 x.k, .int .u8 x.by_, .str x.data]
 | .C9,(x:kh) => [.int .i64 x.header, .int .i64 x.order, .int .i64 x.update, .int .i64 x.seq, .int .i64 x.from_, .int .i64 x.ax, .sl (.int .i64) x.turns .no]
 | .Qr,(x:NA) => [.int .i64 x.kind, .int .i64 x.o.header, .int .i64 x.o.order, .int .i64 x.o.update, .int .i64 x.o.seq, .int .i64 x.o.from_, .int .i64 x.o.ax, .sl (.int .i64) x.o.turns .no, .str x.data]
 | .Qs,(x:NB) => [.int .i64 x.kind, .int .i64 x.n, .sl (.int .i64) x.turns .no]
 | .u7,(x:oD) => [.int .i64 x.a, .int .i64 x.b, .int .i64 x.c]
 | .NF,(x:Kt) => [.int .i64 x.a, .int .i64 x.b]
 | .Qt,(x:NC) => [.int .i64 x.a.iL, .int .i64 x.a.exp, .int .i64 x.b.iL, .int .i64 x.b.exp]
 | .post,(x:ND) => [.str x.name, .int .i64 x.home]
 | .job,(x:Y8) => [.int .i64 x.id, .int .i64 x.target, .int .i64 x.state, .int .i64 x.ae]
 | .record,(x:yt) => [.int .i64 x.kind, .sl (.int .i64) x.nums .no, .str x.text]

def zR (T:Ty):V→Option (List T.den)
 | .aI=>some []
 | .sl T' l _=>if h:T'=T then some (h▸l)else none
 | _=>none

def Lr (k:IntKind):List V→Option Int
 | [.int k' n]=>if k'=k then some n else none
 | _=>none
def G9:List V→Option Bool
 | [.bool b]=>some b
 | _=>none
def Ls:List V→Option aA
 | [.str s]=>some s
 | _=>none
def R7:List V→Option Bi
 | [.int .i64 a0, .int .i64 a1]=>some ⟨a0,a1⟩
 | _=>none
def Pb:List V→Option Json
 | [.int .i64 a0, .int .i64 a1, .int .i64 a2, .str a3,a4,a5]=>match zR .str a4,zR .json a5 with|some b4,some b5=>some ⟨a0,⟨a1,a2⟩,a3,b4,b5⟩|_,_=>none
 | _=>none
def R8:List V→Option Raw
 | [.int .i64 a0, .int .i64 a1, .int .i64 a2,a3,a4]=>match zR (.int .i64) a3,zR .raw a4 with|some b3,some b4=>some ⟨a0,a1,a2,b3,b4⟩|_,_=>none
 | _=>none
def Pc:List V→Option Nx
 | [.int .i64 a0, .int .i64 a1, .int .i64 a2,a3]=>match zR (.int .i64) a3 with|some b3=>some ⟨a0,a1,a2,b3⟩|_=>none
 | _=>none
def R9:List V→Option Y7
 | [.str a0, .int .i64 a1, .int .i64 a2, .int .i64 a3, .bool a4]=>some ⟨a0,a1,a2,a3,a4⟩
 | _=>none
def Pd:List V→Option Ny
 | [.str a0, .str a1, .bool a2]=>some ⟨a0,a1,a2⟩
 | _=>none
def Lt:List V→Option Token
 | [.int .i64 a0, .str a1, .int .i64 a2, .int .i64 a3, .int .i64 a4]=>some ⟨a0,a1,⟨a2,a3⟩,a4⟩
 | _=>none
def Pe:List V→Option Stop
 | [.int .i64 a0, .int .i64 a1, .bool a2]=>some ⟨a0,a1,a2⟩
 | _=>none
def Sa:List V→Option Way
 | [.int .i64 a0, .int .i64 a1, .bool a2]=>some ⟨a0,a1,a2⟩
 | _=>none
def Lu:List V→Option Order
 | [.int .i64 a0, .str a1, .int .i64 a2, .int .i64 a3,a4,a5]=>match zR .stop a4,zR .dt a5 with|some b4,some b5=>some ⟨a0,a1,a2,a3,b4,b5⟩|_,_=>none
 | _=>none
def Pf:List V→Option Edge
 | [.int .i64 a0, .int .i64 a1, .int .i64 a2]=>some ⟨a0,a1,a2⟩
 | _=>none
def IM:List V→Option cf
 | [.int .i64 a0,a1]=>match zR .fk a1 with|some b1=>some ⟨a0,b1⟩|_=>none
 | _=>none
def Lv:List V→Option FG
 | [.str a0, .str a1, .str a2]=>some ⟨a0,a1,a2⟩
 | _=>none
def Lw:List V→Option State
 | [.int .i64 a0, .int .i64 a1, .str a2, .int .i64 a3, .int .i64 a4, .bool a5, .int .i64 a6, .int .i64 a7, .bool a8, .int .i64 a9]=>some ⟨a0,a1,a2,a3,a4,a5,a6,a7,a8,a9⟩
 | _=>none
def Sb:List V→Option bN
 | [.str a0, .int .i64 a1, .int .i64 a2, .int .i64 a3, .int .i64 a4, .int .i64 a5,a6, .int .i64 a7, .bool a8, .int .i64 a9, .bool Sc, .int .i64 TH, .str a12, .int .i64 Sd, .int .i64 TJ,TK,a16]=>match zR (.int .i64) a6,zR .stop TK,zR .dt a16 with|some b6,some b15,some b16=>some ⟨a0,a1,a2,a3,a4,a5,b6,a7,a8,a9,Sc,⟨TH,a12,Sd,TJ,b15,b16⟩⟩|_,_,_=>none
 | _=>none
def Pg:List V→Option Nz
 | [.int .i64 a0, .int .i64 a1, .int .i64 a2, .int .u8 a3, .str a4]=>some ⟨a0,a1,a2,a3,a4⟩
 | _=>none
def Lx:List V→Option kh
 | [.int .i64 a0, .int .i64 a1, .int .i64 a2, .int .i64 a3, .int .i64 a4, .int .i64 a5,a6]=>match zR (.int .i64) a6 with|some b6=>some ⟨a0,a1,a2,a3,a4,a5,b6⟩|_=>none
 | _=>none
def Ph:List V→Option NA
 | [.int .i64 a0, .int .i64 a1, .int .i64 a2, .int .i64 a3, .int .i64 a4, .int .i64 a5, .int .i64 a6,a7, .str a8]=>match zR (.int .i64) a7 with|some b7=>some ⟨a0,⟨a1,a2,a3,a4,a5,a6,b7⟩,a8⟩|_=>none
 | _=>none
def Pj:List V→Option NB
 | [.int .i64 a0, .int .i64 a1,a2]=>match zR (.int .i64) a2 with|some b2=>some ⟨a0,a1,b2⟩|_=>none
 | _=>none
def Pk:List V→Option oD
 | [.int .i64 a0, .int .i64 a1, .int .i64 a2]=>some ⟨a0,a1,a2⟩
 | _=>none
def Pl:List V→Option Kt
 | [.int .i64 a0, .int .i64 a1]=>some ⟨a0,a1⟩
 | _=>none
def Pm:List V→Option NC
 | [.int .i64 a0, .int .i64 a1, .int .i64 a2, .int .i64 a3]=>some ⟨⟨a0,a1⟩,⟨a2,a3⟩⟩
 | _=>none
def Pn:List V→Option ND
 | [.str a0, .int .i64 a1]=>some ⟨a0,a1⟩
 | _=>none
def Se:List V→Option Y8
 | [.int .i64 a0, .int .i64 a1, .int .i64 a2, .int .i64 a3]=>some ⟨a0,a1,a2,a3⟩
 | _=>none
def IN:List V→Option yt
 | [.int .i64 a0,a1, .str a2]=>match zR (.int .i64) a1 with|some b1=>some ⟨a0,b1,a2⟩|_=>none
 | _=>none

def Ty.dec:(T:Ty)→List V→Option T.den
 | .int k=>Lr k | .bool=>G9 | .str=>Ls
 | .dcm=>R7
 | .json=>Pb
 | .raw=>R8
 | .Qp=>Pc
 | .fld=>R9
 | .Pa=>Pd
 | .token=>Lt
 | .stop=>Pe
 | .dt=>Sa
 | .order=>Lu
 | .fk=>Pf
 | .layout=>IM
 | .topic=>Lv
 | .state=>Lw
 | .C8=>Sb
 | .Qq=>Pg
 | .C9=>Lx
 | .Qr=>Ph
 | .Qs=>Pj
 | .u7=>Pk
 | .NF=>Pl
 | .Qt=>Pm
 | .post=>Pn
 | .job=>Se
 | .record=>IN


def Ty.DK:Ty→Bool
 | .Pa=>true
 | _=>false
def Ty.one:Ty→Bool
 | .int _=>true
 | .bool=>true
 | .str=>true
 | _=>false
def Nv (T:Ty) (x:T.den):V:=bif T.one then (T.cells x).headD .undef else .agg (T.cells x)
def Y9 (T:Ty):V→Option T.den
 | .agg cs=>bif T.one then none else T.dec cs
 | v=>bif T.one then T.dec [v]else none

def Da:(K:Ty)→K.den→K.den→Bool
 | .str,(a:aA),(b:aA)=>a==b
 | .int _,(a:Int),(b:Int)=>a==b
 | .NF,(a:Kt),(b:Kt)=>a.a==b.a&&(a.b==b.b&&true)
 | _,_,_=>false
def K6:Ty→Bool
 | .str=>true
 | .int _=>true
 | .NF=>true
 | _=>false
def pQ (K T:Ty) (k:K.den):List (K.den×T.den)→T.den
 | []=>T.aC
 | e::r=>bif Da K k e.1 then e.2 else pQ K T k r
def Bl (K T:Ty) (k:K.den):List (K.den×T.den)→Bool
 | []=>false
 | e::r=>bif Da K k e.1 then true else Bl K T k r
def yu (K T:Ty) (k:K.den) (v:T.den):List (K.den×T.den)→List (K.den×T.den)
 | [] => [(k,v)]
 | e::r=>bif Da K k e.1 then (k,v)::r else e::yu K T k v r

inductive aP where
 | free
 | dead
 | cells (cs:List V)
 | row (T:Ty) (l:List T.den)
 | tok
 | iter (s:aA) (pos:Nat)
 /-- a strings.Builder, its buffer -/
 | qV (v:V)
 | qW (K T:Ty) (l:List (K.den×T.den))

abbrev ai:=List aP

structure St where
 fr:List V
 hp:ai

inductive TD where
 | bool|int (k:IntKind)|string|ptr (e:Nat)|slice (e:Nat)|arr (n e:Nat)|map (k e:Nat)|struct (fs:List (Nat×Nat))|func|iface|other

structure TI where
 d:TD
 size:Nat
 bytes:Nat
 zero:List V
 ty:Option Ty
 eq:Bool:=false
 /-- slices of such elements are rows of ours -/
 Zz:Bool:=false
 /-- strings.Builder -/
 qV:Bool:=false

abbrev ca:=List TI

def TI.none:TI:=⟨.other,0,0, [], .none,false,false,false⟩
def ca.at (tt:ca) (t:Nat):TI:=tt.getD t TI.none
def ca.ok (tt:ca) (t:Nat):Bool:=match (tt.at t).d with | .other=>false|_=>true
def ca.isAgg (tt:ca) (t:Nat):Bool:=match (tt.at t).d with | .struct _=>true | .arr _ _=>true|_=>false

def inK (k:IntKind) (n:Int):Bool:=decide (k.min≤n)&&decide (n≤k.max)

def DL:Value→V
 | .bool b => .bool b
 | .int k n=>if inK k n then .int k n else .undef
 | .string s=>if s.size≤9223372036854775807 then .str s.data.toList else .undef
 | .pointer .none => .gk
 | .slice .none 0 0 => .aI
 | .nilFunc => .fB
 | .map .none => .km
 | .nilIface => .dd
 | _ => .undef

def ofConst:Value→V
 | .agg cs => .agg (cs.toList.map DL)
 | v=>DL v

def ev (fr:List V):Operand→V
 | .tmp t=>fr.getD t .undef
 | .const c=>ofConst c
 | .func f => .func f [] []
 | .global _ => .undef

section
variable {R:Type}

def cC (b:Bool) (k:Option R):Option R:=bif b then k else none

def fC:List V→List V→Option Bool
 | [], []=>some true
 | .int k a::x, .int k' b::y=>if k=k' then (match fC x y with|some r=>some (a==b&&r)|none=>none)else none
 | .str a::x, .str b::y=>match fC x y with|some r=>some (a==b&&r)|none=>none
 | .bool a::x, .bool b::y=>match fC x y with|some r=>some (a==b&&r)|none=>none
 | _,_=>none

def eqV (a b:V):Option Bool :=
 match a,b with
 | .bool x, .bool y=>some (x==y)
 | .agg xs, .agg ys=>fC xs ys
 | _,_=>none

def Sf:V→Option Bool
 | .gk=>some true
 | .ptr _ _=>some false
 | .lX _=>some false
 | .nu _ _ _ _=>some false
 | _=>none

def Po {R:Type} (op:BinOp) (a b:V) (k:V→Option R):Option R :=
 match b with
 | .gk =>
  (match op,Sf a with
   | .eql,some r=>k (.bool r)
   | .neq,some r=>k (.bool (!r))
   | _,_=>none)
 | _=>none

def Db {R:Type} (a:V) (k:Option Bool→Option R):Option R :=
 match a with
 | .aI=>k (some true)
 | .sl _ l _=>bif l.isEmpty then k none else k (some false)
 | .row _ n=>bif decide (n=0)then k none else k (some false)
 | _=>none

def Ly (neg:Bool):Option Bool→V
 | none => .Fh
 | some r => .bool (bif neg then !r else r)

def ZA {R:Type} (op:BinOp) (a b:V) (k:V→Option R):Option R :=
 match b with
 | .aI =>
  (match op with
   | .eql=>Db a fun r=>k (Ly false r)
   | .neq=>Db a fun r=>k (Ly true r)
   | _=>none)
 | _=>none

def ifK {R:Type} (op:BinOp) (y:Operand) (a b:V) (k:V→Option R):Option R :=
 match y,b,a,op with
 | .const _, .dd, .dd, .eql=>k (.bool true)
 | .const _, .dd, .dd, .neq=>k (.bool false)
 | .const _, .dd, .iface, .eql=>k (.bool false)
 | .const _, .dd, .iface, .neq=>k (.bool true)
 | .const _, .dd, .Lq _ _ _, .eql=>k (.bool false)
 | .const _, .dd, .Lq _ _ _, .neq=>k (.bool true)
 | _,_,_,_=>none

def xG:aA→aA→Bool
 | _, []=>false
 | [],_::_=>true
 | a::x,b::y=>a<b||(a==b&&xG x y)

def tm (op:BinOp) (x y:V) (k:V→Option R):Option R :=
 match op,x,y with
 | .shl, .int i a, .int _ b=>cC (decide (0≤b)) (k (.int i (i.wrap (a*2 ^ (min b.toNat i.bits)))))
 | .shr, .int i a, .int _ b=>cC (decide (0≤b)) (k (.int i (a.fdiv (2 ^ (min b.toNat i.bits)))))
 | op, .int i a, .int j b =>
  if i=j then
   match op with
   | .add=>k (.int i (i.wrap (a+b)))
   | .sub=>k (.int i (i.wrap (a - b)))
   | .mul=>k (.int i (i.wrap (a*b)))
   | .quo=>cC (!decide (b=0)) (k (.int i (i.wrap (a.tdiv b))))
   | .rem=>cC (!decide (b=0)) (k (.int i (a.tmod b)))
   | .and=>k (.int i (i.wrap (BitVec.ofInt i.bits a &&& BitVec.ofInt i.bits b).toNat))
   | .or=>k (.int i (i.wrap (BitVec.ofInt i.bits a ||| BitVec.ofInt i.bits b).toNat))
   | .xor=>k (.int i (i.wrap (BitVec.ofInt i.bits a ^^^ BitVec.ofInt i.bits b).toNat))
   | .eql=>k (.bool (a==b))
   | .neq=>k (.bool (a != b))
   | .lss=>k (.bool (decide (a<b)))
   | .leq=>k (.bool (decide (a≤b)))
   | .gtr=>k (.bool (decide (a>b)))
   | .geq=>k (.bool (decide (a≥b)))
   | _=>none
  else none
 | op, .str a, .str b =>
  match op with
  | .add=>cC (decide (a.length+b.length≤9223372036854775807)) (k (.str (a++b)))
  | .eql=>k (.bool (a==b))
  | .neq=>k (.bool (!(a==b)))
  | .lss=>k (.bool (xG a b))
  | .leq=>k (.bool (xG a b||a==b))
  | .gtr=>k (.bool (!(xG a b||a==b)))
  | .geq=>k (.bool (!(xG a b)))
  | _=>none
 | .eql,a,b=>match eqV a b with|some r=>k (.bool r)|none=>none
 | .neq,a,b=>match eqV a b with|some r=>k (.bool (!r))|none=>none
 | _,_,_=>none

def mF (tt:ca) (t:Nat) (cs:List V) (off:Nat) (k:V→Option R):Option R :=
 if tt.ok t then
  if tt.isAgg t then (if off+(tt.at t).size≤cs.length then k (.agg ((cs.drop off).take (tt.at t).size))else none)
  else (match cs[off]? with|some v=>k v|none=>none)
 else none

def FH (cells:List V):List (Nat×Nat×V)→Option (List V)
 | []=>some cells
 | (off,size,v)::rest =>
  match Ol v with
  | some vs=>if vs.length=size&&off+size≤cells.length then FH (cells.take off++vs++cells.drop (off+size)) rest else none
  | none=>none

def idxOf (i:V) (k:Int→Option R):Option R:=match i with | .int _ n=>k n|_=>none

def yv (v:Option V) (d:Int) (k:Int→Option R):Option R :=
 match v with
 | none=>k d
 | some (.int _ n)=>k n
 | some _=>none

def cU:List V→List V→Bool
 | [], []=>true
 | .int k _::z, .int k' _::c=>decide (k=k')&&cU z c
 | .str _::z, .str _::c=>cU z c
 | .bool _::z, .bool _::c=>cU z c
 | _,_=>false

def Pp (i:TI) (a b:List V):Bool:=i.eq&&cU i.zero a&&cU i.zero b

def Za (tt:ca) (o:Op) (ρ:Operand→V) (k:V→Option R):Option R :=
 match o with
 | .move x=>k (ρ x)
 | .assign x=>k (ρ x)
 | .pick c a b =>
  match ρ c with
  | .bool t =>
   (match ρ a,ρ b with
    | .bool u, .bool v=>k (.bool (bif t then u else v))
    | u,v=>bif t then k u else k v)
  | _=>none
 | .nilCheck x =>
  match ρ x with
  | .ptr i o=>k (.ptr i o)
  | .lX cs=>k (.lX cs)
  | .nu i n j o=>k (.nu i n j o)
  | .func f a b=>k (.func f a b)
  | _=>none
 | .binOp op t x y _ =>
  match ρ x,ρ y with
  | .agg a, .agg b=>if Pp (tt.at t) a b then tm op (.agg a) (.agg b) k else none
  | .bool a, .bool b=>(match (tt.at t).d with | .bool=>tm op (.bool a) (.bool b) k|_=>none)
  | .int i a, .int j b=>tm op (.int i a) (.int j b) k
  | .str a, .str b=>tm op (.str a) (.str b) k
  | a,b=>(match (tt.at t).d with | .ptr _=>Po op a b k | .slice _=>ZA op a b k | .iface=>ifK op y a b k|_=>none)
 | .unOp op _ x =>
  match op,ρ x with
  | .neg, .int i n=>k (.int i (i.wrap (0 - n)))
  | .not, .bool b=>k (.bool (!b))
  | _,_=>none
 | .convert s d x =>
  if !tt.ok s then none else
  match (tt.at d).d,ρ x with
  | .int i, .int _ n=>k (.int i (i.wrap n))
  | .string, .str t=>(match (tt.at s).d with | .string=>k (.str t)|_=>none)
  | _,_=>none
 | .makeInterface t x =>
  match (tt.at t).d,ρ x with
  | .int _, .int i n=>k (.Lq t i n)
  | _,_=>none
 | .fieldAddr s x f =>
  match (tt.at s).d with
  | .struct fs =>
   (match fs[f]? with
    | some (off,t) =>
     if (tt.at t).size=0 || !tt.ok t then none else
     (match ρ x with
     | .ptr i o=>k (.ptr i (o+off))
     | .lX cs=>k (.lX (cs.drop off))
     | .nu i n j o=>k (.nu i n j (o+off))
     | _=>none)
    | none=>none)
  | _=>none
 | .field s x f =>
  match (tt.at s).d,ρ x with
  | .struct fs, .agg cs=>(match fs[f]? with|some (off,t)=>mF tt t cs off k|none=>none)
  | _,_=>none
 | .indexAddr t x i =>
  idxOf (ρ i) fun n =>
  match (tt.at t).d,ρ x with
  | .slice e, .sl T l _=>if T.sz=(tt.at e).size&&tt.ok e then cC (decide (0≤n)&&decide (n<l.length)) (k (.lX (T.cells (l.getD n.toNat T.aC))))else none
  | .slice e, .row id m=>if tt.ok e then cC (decide (0≤n)&&decide (n<m)) (k (.nu id (tt.at e).size n.toNat 0))else none
  | .arr m e, .ptr id o=>if tt.ok e then cC (decide (0≤n)&&decide (n<m)) (k (.ptr id (o+n.toNat*(tt.at e).size)))else none
  | .slice e, .Ku m cs=>if tt.ok e&&decide ((tt.at e).size≠0)&&decide (cs.length=m*(tt.at e).size)then cC (decide (0≤n)&&decide (n<m)) (k (.lX (cs.drop (n.toNat*(tt.at e).size))))else none
  | .arr m e, .lX cs=>if tt.ok e&&decide ((tt.at e).size≠0)&&decide (m*(tt.at e).size≤cs.length)then cC (decide (0≤n)&&decide (n<m)) (k (.lX (cs.drop (n.toNat*(tt.at e).size))))else none
  | _,_=>none
 | .index t x i =>
  idxOf (ρ i) fun n =>
  match (tt.at t).d,ρ x with
  | .string, .str s=>cC (decide (0≤n)&&decide (n<s.length)) (k (.int .u8 (s.getD n.toNat 0).toNat))
  | .arr m e, .agg cs=>cC (decide (0≤n)&&decide (n<m)) (mF tt e cs (n.toNat*(tt.at e).size) k)
  | _,_=>none
 | .slice t x lo hi mx =>
  match mx with
  | some _=>none
  | none =>
   (match (tt.at t).d,ρ x with
    | .string, .str s =>
     yv (hi.map ρ) s.length fun h=>yv (lo.map ρ) 0 fun l =>
     cC (decide (0≤h)&&decide (h≤s.length)) (cC (decide (0≤l)&&decide (l≤h)) (k (.str ((s.drop l.toNat).take (h.toNat - l.toNat)))))
    | .slice e, .sl T s _ =>
     if T.sz=(tt.at e).size&&tt.ok e then
     yv (lo.map ρ) 0 fun l =>
     (match hi with
     | none=>cC (decide (0≤l)&&decide (l≤s.length)) (k (.sl T (s.drop l.toNat) .no))
     | some hi =>
      yv (some (ρ hi)) 0 fun h =>
      cC (decide (0≤h)&&decide (h≤s.length)) (cC (decide (0≤l)&&decide (l≤h)) (k (.sl T ((s.drop l.toNat).take (h.toNat - l.toNat)) .no))))
     else none
    | .slice e, .aI =>
     if !tt.ok e then none else
     yv (hi.map ρ) 0 fun h=>yv (lo.map ρ) 0 fun l=>cC (decide (h=0)&&decide (l=0)) (k .aI)
    | .slice e, .row i n =>
     if !tt.ok e then none else
     yv (hi.map ρ) n fun h=>yv (lo.map ρ) 0 fun l=>cC (decide (0≤h)&&decide (h≤n)) (cC (decide (0≤l)&&decide (l≤h)) (k (.m0 i (tt.at e).size l.toNat (h.toNat - l.toNat))))
    | _,_=>none)
 | .makeFunc (.func f) first cap=>k (.func f (first.toList.map ρ) (cap.toList.map ρ))
 | .extract t i=>match ρ t with | .tuple vs=>(match vs[i]? with|some v=>k v|none=>none)|_=>none
 | .build t parts =>
  match (tt.at t).d with
  | .struct fs =>
   if !fs.all (fun f=>tt.ok f.2) || !tt.ok t||decide (1000000≤(tt.at t).zero.length)then none else
   (match FH (tt.at t).zero (parts.toList.map fun (i,x)=>((fs.getD i (0,0)).1,if i<fs.length then (tt.at (fs.getD i (0,0)).2).size else 1000000,ρ x))with
    | some cs=>k (.agg cs)|none=>none)
  | .arr _ e =>
   if !tt.ok e || !tt.ok t||decide (1000000≤(tt.at t).zero.length)then none else
   (match FH (tt.at t).zero (parts.toList.map fun (i,x)=>(i*(tt.at e).size,(tt.at e).size,ρ x))with
    | some cs=>k (.agg cs)|none=>none)
  | _=>none
 | .call c =>
  match c.callee,c.args.toList with
  | .builtin .len, [x] =>
   (match c.argTypes.toList with
    | [t] =>
     (match (tt.at t).d,ρ x with
     | .string, .str s=>k (.int .i64 s.length)
     | .slice _, .sl _ l _=>k (.int .i64 l.length)
     | .slice _, .Ku n _=>k (.int .i64 n)
     | .slice _, .row _ n=>k (.int .i64 n)
     | .slice _, .aI=>k (.int .i64 0)
     | _,_=>none)
    | _=>none)
  | .builtin .min, [x,y]=>(match ρ x,ρ y with | .int i a, .int j b=>if i=j then k (.int i (min a b))else none|_,_=>none)
  | .builtin .max, [x,y]=>(match ρ x,ρ y with | .int i a, .int j b=>if i=j then k (.int i (max a b))else none|_,_=>none)
  | _,_=>none
 | _=>none

end

def ai.at (h:ai) (i:Nat):aP:=h.getD i .dead

def Tok.kj (ρ:Nat→Option Nat):Tok→Tok
 | .own i=>match ρ i with|some j => .own j|none => .no
 | t=>t

mutual
def V.kj (ρ:Nat→Option Nat):V→V
 | .ptr i o=>match ρ i with|some j => .ptr j o|none => .undef
 | .sl T l t => .sl T l (t.kj ρ)
 | .row i n=>match ρ i with|some j => .row j n|none => .undef
 | .m0 i z q n=>match ρ i with|some j => .m0 j z q n|none => .undef
 | .nu i n k o=>match ρ i with|some j => .nu j n k o|none => .undef
 | .map i=>match ρ i with|some j => .map j|none => .undef
 | .func f a b => .func f (V.tP ρ a) (V.tP ρ b)
 | .agg cs => .agg (V.tP ρ cs)
 | .tuple vs => .tuple (V.tP ρ vs)
 | .lX cs => .lX (V.tP ρ cs)
 | .Ku n cs => .Ku n (V.tP ρ cs)
 | v=>v
def V.tP (ρ:Nat→Option Nat):List V→List V
 | [] => []
 | v::vs=>v.kj ρ::V.tP ρ vs
end

def aP.kj (ρ:Nat→Option Nat):aP→aP
 | .cells cs => .cells (V.tP ρ cs)
 | .qV v => .qV (v.kj ρ)
 | o=>o

mutual
def V.ids:V→List Nat
 | .ptr i _ => [i]
 | .sl _ _ (.own i) => [i]
 | .row i _ => [i]
 | .m0 i _ _ _ => [i]
 | .nu i _ _ _ => [i]
 | .map i => [i]
 | .func _ a b=>V.nv a++V.nv b
 | .agg cs=>V.nv cs
 | .tuple vs=>V.nv vs
 | .lX cs=>V.nv cs
 | .Ku _ cs=>V.nv cs
 | _ => []
def V.nv:List V→List Nat
 | [] => []
 | v::vs=>v.ids++V.nv vs
end

def aP.ids:aP→List Nat
 | .cells cs=>V.nv cs
 | .qV v=>v.ids
 | _ => []

def reach (h:ai):Nat→List Nat→List Nat→List Nat
 | 0,_,seen=>seen
 | _+1, [],seen=>seen
 | n+1,i::todo,seen=>if seen.contains i then reach h n todo seen else reach h n (todo++(h.at i).ids) (seen ++ [i])

def tz (ord:List Nat) (i:Nat):Option Nat:=let p:=ord.idxOf i; if p<ord.length then some p else none

def ai.pick (h:ai) (ord:List Nat):ai:=ord.map fun i=>(h.at i).kj (tz ord)

def jY (ord:List Nat) (n:Nat) (j:Nat):Nat:=if j<ord.length then ord.getD j 0 else n+(j - ord.length)
def ai.u9 (h:ai):List (Nat×aP)→ai
 | []=>h
 | (i,o)::r=>ai.u9 (h.set i o) r
def ai.back (h:ai) (ord:List Nat) (h':ai):ai :=
 let ρ:=fun j=>some (jY ord h.length j)
 ai.u9 h (ord.zip ((h'.take ord.length).map (aP.kj ρ)))++(h'.drop ord.length).map (aP.kj ρ)

section
variable {R:Type}

abbrev Spec (R:Type):=List V→ai→(V→ai→Option R)→Option R

def IP (l:List Int):aA:=l.flatMap fun n=>(Utf8.encode n).data.toList

def qX (tt:ca) (t:Nat):Ty→Bool
 | .str=>(match (tt.at t).d with | .string=>true|_=>false)
 | .int k=>(match (tt.at t).d with | .int k'=>decide (k'=k)|_=>false)
 | _=>false
def va (tt:ca) (t:Nat):Ty→Bool
 | .bool=>(match (tt.at t).d,(tt.at t).zero with | .bool, [.bool false]=>true|_,_=>false)
 | .int k=>(match (tt.at t).d,(tt.at t).zero with | .int _, [.int k' 0]=>decide (k'=k)|_,_=>false)
 | _=>false

def Dc (lim:Option Nat) (i:Nat):Bool:=match lim with|none=>true|some m=>decide (i<m)

def UC (tt:ca) (o:Op) (ρ:Operand→V) (h:ai) (lim:Option Nat) (k:V→Option R):Option R :=
 match o with
 | .load t x =>
  match ρ x with
  | .ptr i o =>
   if Dc lim i then
    match h.at i with
    | .cells cs=>mF tt t cs o k
    | .qV v=>mF tt t [.undef,v] o k
    | _=>none
   else none
  | .lX cs=>mF tt t cs 0 k
  | .nu i sz j o =>
   if Dc lim i then
    match h.at i with
    | .row T l=>if sz=T.sz then cC (decide (j<l.length)) (mF tt t (T.cells (l.getD j T.aC)) o k)else none
    | _=>none
   else none
  | _=>none
 | .lookup t x ix ok =>
  match (tt.at t).d,ρ x with
  | .map kt vt, .map i =>
   if Dc lim i then
    match h.at i with
    | .qW K T l =>
     if qX tt kt K&&va tt vt T then
      match Y9 K (ρ ix)with
      | some kx=>bif ok then k (.tuple [Nv T (pQ K T kx l), .bool (Bl K T kx l)])else k (Nv T (pQ K T kx l))
      | none=>none
     else none
    | _=>none
   else none
  | _,_=>none
 | .convert s d x =>
  match (tt.at d).d,(tt.at s).d,ρ x with
  | .string, .slice e, .row i _ =>
   if Dc lim i then
    match (tt.at e).d,h.at i with
    | .int .u8, .row (.int .u8) l=>k (.str ((l:List Int).map fun n=>UInt8.ofNat n.toNat))
    | _,_=>none
   else none
  | .string, .slice e, .sl T l _ =>
   match (tt.at e).d,T,l with
   | .int .u8, .int .u8,l=>k (.str ((l:List Int).map fun n=>UInt8.ofNat n.toNat))
   | .int .i32, .int .i32,l=>cC (decide (4*l.length≤9223372036854775807)) (k (.str (IP l)))
   | _,_,_=>none
  | .string, .slice e, .aI=>match (tt.at e).d with | .int .u8=>k (.str [])|_=>none
  | _,_,_=>none
 | _=>none

def IQ (s:aA):List (Ty.den (.int .u8)):=(s.map fun b=>(b.toNat:Int):List Int)

def oE (T:Ty):List (List V)→Option (List T.den)
 | []=>some []
 | c::cs=>match T.dec c,oE T cs with|some x,some xs=>some (x::xs)|_,_=>none

def chunks (n:Nat):Nat→List V→List (List V)
 | 0,_ => []
 | m+1,l=>l.take n::chunks n m (l.drop n)

def zS (ρ:Operand→V):Option Operand→Bool
 | none=>true
 | some x=>(match ρ x with | .int _ _=>true|_=>false)

def We (tt:ca) (o:Op) (ρ:Operand→V) (k:aP→(Nat→V)→Option R):Option R :=
 match o with
 | .alloc t=>if (tt.at t).qV then k (.qV .aI) fun i => .ptr i 0 else if tt.ok t then k (.cells (tt.at t).zero) fun i => .ptr i 0 else none
 | .box t x=>match Ol (ρ x)with|some cs=>if tt.ok t&&decide (cs.length=(tt.at t).size)then k (.cells cs) fun i => .ptr i 0 else none|none=>none
 | .buildSlice t len parts =>
  match (tt.at t).d with
  | .slice e =>
   let sz:=(tt.at e).size
   if sz=0||decide (len*sz>4096) || !tt.ok e then none else
   (match FH ((List.replicate len (tt.at e).zero).flatten) (parts.toList.map fun (i,x)=>(i*sz,sz,ρ x)),(tt.at e).ty with
    | some cs,some T =>
     if T.sz=sz then
      if ((tt.at e).Zz&&decide (len=0))=true then k (.row T []) fun i => .row i 0 else
      if ((tt.at e).Zz&&T.DK)=true then (match oE T (chunks sz len cs)with|some l=>k (.row T l) fun i => .row i l.length|none=>none)else
      (match oE T (chunks sz len cs)with|some l=>k .tok fun i => .sl T l (.own i)|none=>k .dead fun _ => .Ku len cs)
     else none
    | some cs,none=>k .dead fun _ => .Ku len cs
    | none,_=>none)
  | _=>none
 | .makeSlice t n c =>
  match (tt.at t).d,ρ n,ρ c with
  | .slice e, .int _ a, .int _ b =>
   (match (tt.at e).ty with
    | some T =>
     (match T.dec (tt.at e).zero with
     | some z=>if T.sz=(tt.at e).size&&tt.ok e then cC (decide (0≤a)&&decide (a=b)&&decide (a*(tt.at e).bytes≤140737488355328)&&decide (a≤140737488355328)) (k (.row T (List.replicate a.toNat z)) fun i => .row i a.toNat)else none
     | none=>none)
    | none=>none)
  | _,_,_=>none
 | .convert s d x =>
  match (tt.at s).d,(tt.at d).d,ρ x with
  | .string, .slice e, .str t =>
   (match (tt.at e).d with
    | .int .u8=>k (.row (.int .u8) (IQ t)) fun i => .row i t.length
    | _=>none)
  | _,_,_=>none
 | .makeMap t rsv =>
  if zS ρ rsv then
  match (tt.at t).d with
  | .map kt vt =>
   (match (tt.at kt).ty,(tt.at vt).ty with
    | some K,some T=>if qX tt kt K&&va tt vt T then k (.qW K T []) fun i => .map i else none
    | _,_=>none)
  | _=>none
  else none
 | .range t x=>match (tt.at t).d,ρ x with | .string, .str s=>k (.iter s 0) fun i => .ptr i 0|_,_=>none
 | _=>none

def vb (cs:List V) (o:Nat) (vs:List V):List V:=cs.take o++vs++cs.drop (o+vs.length)

def JP (T:Ty) (h:ai):V→Option (List T.den)
 | .aI=>some []
 | .sl T' l _=>if e:T'=T then some (e▸l)else none
 | .row i _=>match h.at i with | .row T' l=>if e:T'=T then some (e▸l)else none|_=>none
 | .m0 i z q n=>match h.at i with | .row T' l=>if e:T'=T then some (((e▸l:List T.den).drop q).take n)else none|_=>none
 | .Ku n cs=>if cs.length=n*T.sz then oE T (chunks T.sz n cs)else none
 | .str s=>if e:T = .int .u8 then some (e▸IQ s)else none
 | _=>none

def IS (h:ai):V→Bool
 | .m0 i z q n=>(match h.at i with | .row T l=>decide (z=T.sz)&&decide (q+n≤l.length)|_=>false)
 | _=>true

def o6 (tt:ca) (e:Nat) (s x:V) (h:ai) (id:Nat) (k:V→ai→Option R):Option R :=
 match (tt.at e).ty with
 | some T =>
  if T.sz=(tt.at e).size&&(tt.at e).bytes != 0&&tt.ok e then
  (match JP T h x with
   | some m =>
    let room (n:Nat) (q:Option R):Option R:=cC (decide ((n+m.length)*(tt.at e).bytes≤140737488355328)) q
    (match s with
    | .aI=>room 0 (if (tt.at e).Zz then k (.row id m.length) (h.set id (.row T m))else k (.sl T m (.own id)) (h.set id .tok))
    | .sl T' l tk =>
     if q:T'=T then
      let l':List T.den:=q▸l
      (match tk with
       | .no=>none
       | .nil=>room l.length (k (.sl T (l'++m) (.own id)) (h.set id .tok))
       | .own i=>(match h.at i with | .tok=>room l.length (k (.sl T (l'++m) (.own id)) ((h.set i .dead).set id .tok))|_=>none))
     else none
    | .row i _ =>
     (match h.at i with
      | .row T' l =>
       if q:T'=T then
        let l':List T.den:=q▸l
        room l.length (k (.row id (l'.length+m.length)) ((h.set i .dead).set id (.row T (l'++m))))
       else none
      | _=>none)
    | _=>none)
   | none=>none)
  else none
 | none=>none

def js (tt:ca) (e:Nat) (s x:V) (h:ai) (id:Nat) (k:V→ai→Option R):Option R:=cC (IS h x) (o6 tt e s x h id k)

def wm (s:aA) (pos:Nat):Nat×Nat:=Utf8.decode ⟨s.toArray⟩ pos

def zT (tt:ca) (t:Nat) (v:V) (h:ai) (k:V→ai→Option R):Option R :=
 match (tt.at t).d,v with
 | .arr m e, .ptr i 0 =>
  (match h.at i with
   | .cells cs =>
    (match (tt.at e).ty with
    | some T =>
     if T.sz=(tt.at e).size&&tt.ok e&&decide (cs.length=m*T.sz)&&decide (m≠0)&&decide (m≤4096)then
      match oE T (chunks T.sz m cs)with
      | some l=>k (.sl T l .no) (h.set i .dead)
      | none=>none
     else none
    | none=>none)
   | _=>none)
 | _,_=>none

def Lz (tt:ca) (o:Op) (ρ:Operand→V) (h:ai) (id:Nat) (k:V→ai→Option R):Option R :=
 match o with
 | .slice t x lo hi mx=>bif lo.isNone&&hi.isNone&&mx.isNone then zT tt t (ρ x) h k else none
 | .store t x y =>
  match Ol (ρ y)with
  | none=>none
  | some vs =>
  if tt.ok t&&decide (vs.length=(tt.at t).size)then
   match ρ x with
   | .ptr i o =>
    (match h.at i with
     | .cells cs=>if o+vs.length≤cs.length then k .undef (h.set i (.cells (vb cs o vs)))else none
     | .qV _=>(match o,vs with|1, [v]=>k .undef (h.set i (.qV v))|_,_=>none)
     | _=>none)
   | .nu i sz j o =>
    (match h.at i with
     | .row T l =>
      if sz=T.sz then
      let cs:=T.cells (l.getD j T.aC)
      if o+vs.length≤cs.length then
       (match T.dec (vb cs o vs)with
       | some y=>cC (decide (j<l.length)) (k .undef (h.set i (.row T (l.set j y))))
       | none=>none)
      else none
      else none
     | _=>none)
   | _=>none
  else none
 | .call c =>
  match c.callee,c.args.toList,c.argTypes.toList with
  | .builtin .append, [s,x], [t,xt] =>
   (match (tt.at t).d,(tt.at xt).d with
    | .slice e, .slice _=>js tt e (ρ s) (ρ x) h id k
    | .slice e, .string=>js tt e (ρ s) (ρ x) h id k
    | _,_=>none)
  | _,_,_=>none
 | .mapUpdate t m x y =>
  match (tt.at t).d,ρ m with
  | .map kt vt, .map i =>
   (match h.at i with
    | .qW K T l =>
     if qX tt kt K&&va tt vt T then
      match Y9 K (ρ x),Y9 T (ρ y)with
      | some kx,some vx=>k .undef (h.set i (.qW K T (yu K T kx vx l)))
      | _,_=>none
     else none
    | _=>none)
  | _,_=>none
 | .insert t m x y =>
  match (tt.at t).d,ρ m with
  | .map kt vt, .map i =>
   (match h.at i with
    | .qW K T l =>
     if qX tt kt K&&va tt vt T then
      match Y9 K (ρ x),Y9 T (ρ y)with
      | some kx,some vx=>k .undef (h.set i (.qW K T (yu K T kx vx l)))
      | _,_=>none
     else none
    | _=>none)
  | _,_=>none
 | .next x str =>
  match str,ρ x with
  | true, .ptr i 0 =>
   (match h.at i with
    | .iter s pos=>bif decide (pos<s.length)then k (.tuple [.bool true, .int .i64 pos, .int .i32 (wm s pos).1]) (h.set i (.iter s (pos+(wm s pos).2)))else k (.tuple [.bool false]) h
    | _=>none)
  | _,_=>none
 | _=>none

mutual
def V.shut (h:ai):V→V
 | .sl T l _ => .sl T l .no
 | .row i _=>match h.at i with | .row T l => .sl T l .no|_ => .undef
 | .agg cs => .agg (V.JQ h cs)
 | .tuple vs => .tuple (V.JQ h vs)
 | v=>v
def V.JQ (h:ai):List V→List V
 | [] => []
 | v::vs=>v.shut h::V.JQ h vs
end

def V.Om:V→Bool
 | .int _ _ | .bool _ | .str _ | .gk | .aI | .km | .fB | .dd | .iface | .Lq _ _ _=>true
 | _=>false
def V.UD:V→Bool
 | .tuple vs=>vs.all V.Om
 | .agg vs=>vs.all V.Om
 | v=>v.Om

inductive Cls where
 | P|R|A|W|C|F|X
 deriving DecidableEq

def da (tt:ca):Op→Cls
 | .move _ | .assign _ | .pick _ _ _ | .nilCheck _ | .binOp _ _ _ _ _ | .unOp _ _ _ | .fieldAddr _ _ _ | .field _ _ _ | .indexAddr _ _ _ | .index _ _ _
 | .makeFunc _ _ _ | .extract _ _ | .build _ _ | .makeInterface _ _ => .P
 | .slice t _ _ _ _=>match (tt.at t).d with | .arr _ _ => .W|_ => .P
 | .convert s d _ =>
  match (tt.at s).d,(tt.at d).d with
  | .slice _, .string => .R
  | .string, .slice _ => .A
  | _,_ => .P
 | .load _ _ => .R
 | .lookup _ _ _ _ => .R
 | .alloc _ | .box _ _ | .buildSlice _ _ _ | .makeSlice _ _ _ | .range _ _ | .makeMap _ _ => .A
 | .store _ _ _ => .W
 | .mapUpdate _ _ _ _ => .W
 | .insert _ _ _ _ => .W
 | .next _ str=>bif str then .W else .X
 | .call c=>match c.callee with
  | .builtin .len => .P | .builtin .min => .P | .builtin .max => .P
  | .builtin .append => .W
  | .builtin _ => .X
  | .value _ => .C
  | .invoke _ _ => .X
 | _ => .X

def gM (fr:List V) (dst:Option Nat) (v:V):List V:=match dst with|some d=>fr.set d v|none=>fr

def LA:V→V
 | .sl T l _ => .sl T l .no
 | v=>v

def Bm:V→V
 | .sl T l _ => .sl T l .no
 | .agg cs => .agg (cs.map LA)
 | v=>v

abbrev Env (R:Type):=Nat→Option (Bool×Spec R)

def jt (E:Env R) (o:Op):Bool :=
 match o with
 | .call c=>(match c.callee with | .value (.func g)=>(match E g with|some (b,_)=>b|none=>false) | .value (.tmp _)=>true|_=>false)
 | _=>false

def gl (E:Env R) (o:Op):Bool :=
 match o with
 | .call c=>(match c.callee with | .value (.func g)=>mZ.soft g&&(match E g with|some (false,_)=>true|_=>false)|_=>false)
 | _=>false

def lE:Op→Bool
 | .call c=>(match c.callee with | .builtin .append=>true|_=>false)
 | _=>false

def Sg (base id:Nat):V→Bool | .row i _=>Nat.ble base i&&decide (i<id) | .sl _ _ (.own i)=>decide (i<id)|_=>true
def Sh (id:Nat):V→Bool | .row i _=>decide (i<id) | .m0 i _ _ _=>decide (i<id)|_=>true
def yw (base:Nat) (o:Op) (ρ:Operand→V) (id:Nat):Bool :=
 match o with
 | .call c=>(match c.args.toList with | [s,x]=>Sg base id (ρ s)&&Sh id (ρ x)|_=>true)
 | _=>true
def Qu (drawn:Option Nat) (o:Op) (ρ:Operand→V) (id:Nat):Bool:=match drawn with|none=>true|some b=>yw b o ρ id

def cr (tt:ca) (E:Env R) (o:Op):Cls:=match da tt o with | .C=>bif jt E o then .C else .F|c=>c

def canon (tt:ca) (t:Nat) (v:V):V :=
 match (tt.at t).ty with
 | some T =>
  (match v with
   | .agg cs=>(match T.dec cs with|some x=>if tt.isAgg t then .agg (T.cells x)else v|none=>v)
   | v=>(match T.dec [v]with|some x=>if tt.isAgg t then v else (match T.cells x with | [c]=>c|_=>v)|none=>v))
 | none =>
  (match (tt.at t).d with
   | .slice e=>(match (tt.at e).ty with|some T=>(match zR T v with|some l => .sl T l .no|none=>v)|none=>v)
   | _=>v)

def Gu (tt:ca):List Nat→List V→List V
 | t::ts,v::vs=>canon tt t v::Gu tt ts vs
 | _,vs=>vs

def Wx (sp:Spec R) (vs:List V) (h:ai) (k:V→ai→Option R):Option R :=
 match V.nv vs with
 | []=>sp vs [] fun v h'=>(match h' with | []=>bif v.UD then k v h else none|_::_=>none)
 | _::_=>none

def tA (tt:ca) (E:Env R) (full:Bool) (c:Call) (ρ:Operand→V) (h:ai) (k:V→ai→Option R):Option R :=
 match c.callee with
 | .value f =>
  match ρ f with
  | .func g first cap =>
   let vs:=first++c.args.toList.map ρ++cap
   (match E g with
    | some (true,sp) =>
     let ps:=(first++Gu tt c.argTypes.toList (c.args.toList.map ρ)++cap).map Bm
     (match V.nv ps with
     | []=>sp ps [] fun v h'=>(match h' with | []=>k v h|_::_=>none)
     | _::_=>bif full then Wx sp (V.JQ h ps) h k else none)
    | some (false,sp) =>
     bif full then
      bif mZ.soft g then sp vs h k else
      let ord:=reach h 64 (V.nv vs) []
      sp (V.tP (tz ord) vs) (h.pick ord) fun v h'=>k (v.kj fun j=>some (jY ord h.length j)) (h.back ord h')
     else none
    | none=>none)
  | _=>none
 | _=>none

def uT (tt:ca) (E:Env R) (drawn:Option Nat) (id:Nat) (o:Oper) (st:St) (k:St→Option R):Option R :=
 let ρ:=ev st.fr
 match da tt o.op with
 | .P=>Za tt o.op ρ fun v=>k ⟨gM st.fr o.dst v,st.hp⟩
 | .R=>UC tt o.op ρ st.hp drawn fun v=>k ⟨gM st.fr o.dst v,st.hp⟩
 | .A=>We tt o.op ρ fun ob mk=>k ⟨gM st.fr o.dst (mk id),st.hp.set id ob⟩
 | .W=>bif !Qu drawn o.op ρ id then none else Lz tt o.op ρ st.hp id fun v h=>k ⟨gM st.fr o.dst v,h⟩
 | .C=>match o.op with | .call c=>tA tt E (drawn.isNone || !jt E o.op) c ρ st.hp fun v h=>k ⟨gM st.fr o.dst v,h⟩|_=>none
 | .F=>none
 | .X=>none

def aS (tt:ca) (o:Oper):Bool:=match da tt o.op with | .A=>true | .W=>true|_=>false

def pR (all:List Oper) (o:Oper) (st:St) (run skip:St→Option R):Option R :=
 match o.guard with
 | none=>run st
 | some (j,want) =>
  match ((all[j]?).bind (·.dst))with
  | none=>none
  | some d =>
   match st.fr.getD d .undef with
   | .bool b =>
    bif b then (if want then run ⟨st.fr.set d (.bool true),st.hp⟩else skip ⟨st.fr.set d (.bool true),st.hp⟩)
    else (if want then skip ⟨st.fr.set d (.bool false),st.hp⟩else run ⟨st.fr.set d (.bool false),st.hp⟩)
   | .tuple []=>skip st
   | _=>none

def LB {α β:Type} (l:List α) (k:List α→β):β :=
 List.rec (motive:=fun _=>(List α→β)→β) (fun k=>k []) (fun v _ ih k=>ih fun r=>k (v::r)) l k
theorem zU {α β:Type}:∀(l:List α) (k:List α→β),LB l k=k l
 | [],_=>rfl
 | v::l,k=>zU l fun r=>k (v::r)
def E3 {β:Type} (st:St) (k:St→β):β:=LB st.fr fun fr=>LB st.hp fun hp=>k ⟨fr,hp⟩
theorem Bn {β:Type} (st:St) (k:St→β):E3 st k=k st:=by unfold E3; rw[zU,zU]

def LC (tt:ca) (E:Env R) (drawn:Option Nat) (all:List Oper):List Oper→Nat→St→(St→Option R)→Option R
 | [],_,st,k=>k st
 | o::rest,id,st,k =>
  let id':=if aS tt o then id+1 else id
  pR all o st (fun st=>uT tt E drawn id o st fun st=>E3 st fun st=>LC tt E drawn all rest id' st k)
   (fun st=>E3 ⟨gM st.fr o.dst (.tuple []),st.hp⟩ fun st=>LC tt E drawn all rest id' st k)

def K7 (M:List Nat) (es:List Nat):Nat:=es.foldl (fun m e=>m ||| (Nat.pow 2 e ||| M.getD e 0)) 0

def Bo (o:Oper):List Nat:=(o.after.toList.filter fun e=>Region.binds .any e).map (·.on)

def Ha (ops:List Oper):List Nat:=ops.foldl (init := []) fun M o=>M ++ [K7 M (Bo o)]
def beforeL (n:Nat) (M:List Nat):List (List Nat):=(List.range n).map fun j=>(List.range n).filter fun i=>(M.getD j 0).testBit i

def looks (all:List Oper) (o:Oper):List Nat :=
 (o.op.operands.toList.filterMap fun | .tmp t=>some t|_=>none) ++
 (match o.guard with|some (g,_)=>((all[g]?).bind (·.dst)).toList|none => [])

def tQ (all:List Oper) (x y:Oper):Bool :=
 (match x.dst with|some d => !(looks all y).contains d&&y.dst != some d|none=>true) &&
 (match y.dst with|some d => !(looks all x).contains d|none=>true)

def FI (a b:Cls):Bool :=
 match a,b with
 | .X,_|_, .X=>false
 | .P,_|_, .P=>true
 | .C, .R | .C, .A | .R, .C | .A, .C=>true
 | .R, .R | .R, .A | .A, .R | .A, .A=>true
 | _,_=>false

def tokPair (tt:ca) (E:Env R) (x y:Op):Bool :=
 ((lE x&&(match cr tt E y with | .A | .R=>true|_=>false))||((match cr tt E x with | .R=>true|_=>false)&&lE y)) ||
  ((gl E x&&(match cr tt E y with | .R=>true|_=>false))||((match cr tt E x with | .R=>true|_=>false)&&gl E y))

def IT (tt:ca) (E:Env R) (all:List Oper) (x y:Oper):Bool:=(FI (cr tt E x.op) (cr tt E y.op)||tokPair tt E x.op y.op)&&tQ all x y

def UE (tt:ca) (E:Env R) (o:Op):Bool:=match cr tt E o with | .F=>true|_=>false
def Qv (tt:ca) (E:Env R) (all:List Oper) (x:Oper):Bool:=(match cr tt E x.op with | .R=>true|_=>false)&&all.any fun y=>UE tt E y.op&&tQ all x y
def kn (all:List Oper) (o:Oper):Bool :=
 match o.op with
 | .store _ (.tmp t) _=>o.dst.isNone&&o.guard.isNone&&((all.any fun z=>z.dst==some t&&(match z.op with | .fieldAddr _ _ _=>true|_=>false))||all.all fun z=>z.dst != some t)
 | _=>false
def Pq (all:List Oper) (o:Oper):Bool :=
 match o.op with
 | .store _ (.tmp t) _=>o.dst.isNone&&o.guard.isNone&&all.any fun z=>z.dst==some t&&(match z.op with | .alloc _=>true|_=>false)
 | _=>false
def Pr (all:List Oper) (o:Oper):Bool:=kn all o||Pq all o
def m3 (all:List Oper) (o:Oper):Bool :=
 match o.op with
 | .store _ (.tmp t) _=>o.dst.isNone&&o.guard.isNone&&all.any fun z=>z.dst==some t&&(match z.op with | .indexAddr _ _ _=>true|_=>false)
 | _=>false
def Si (all:List Oper) (x y:Oper):Bool:=(kn all x&&m3 all y)||(m3 all x&&kn all y)
def On (tt:ca) (E:Env R) (all:List Oper) (x:Oper):Bool:=(match cr tt E x.op with | .R=>true|_=>false)&&all.any (Pr all)
def rdA (tt:ca) (E:Env R) (x:Oper):Bool:=match cr tt E x.op with | .R | .A=>true|_=>false
def Qw (tt:ca) (E:Env R) (x y:Oper):Bool := !(lE x.op&&rdA tt E y) && !(rdA tt E x&&lE y.op)
def Wf (tt:ca) (S:Option (Bool×List Nat)) (base:Nat) (o:Oper):Option Nat:=match S with|some (true,_)=>(match da tt o.op with | .W=>none|_=>some base)|_=>some base
def Dd (tt:ca) (E:Env R) (ZB:Option Bool) (all:List Oper) (x y:Oper):Bool :=
 (IT tt E all x y&&(match ZB with|some true=>Qw tt E x y|_=>true))||(match ZB with
  | none=>false
  | some true=>((Qv tt E all x&&UE tt E y.op)||(UE tt E x.op&&(!gl E x.op&&(match da tt y.op with | .A=>true|_=>false)))||Si all x y||(UE tt E x.op&&Qv tt E all y))&&tQ all x y
  | some false=>(On tt E all x&&Pr all y)&&tQ all x y)
def qY (o:Op) (ρ:Operand→V):List Nat:=match o with | .load _ x=>(ρ x).ids | .lookup _ x _ _=>(ρ x).ids | .convert _ _ x=>(ρ x).ids|_ => []
def gu (o:Op) (ρ:Operand→V) (h:ai):List Nat :=
 match o with
 | .call c=>(match c.callee with | .value f=>(match ρ f with | .func _ first cap=>reach h 64 (V.nv (first++c.args.toList.map ρ++cap)) []|_ => [])|_ => [])
 | _ => []
def wo (o:Op) (ρ:Operand→V):List Nat:=match o with | .store _ x _=>(ρ x).ids|_ => []
def Hb (tt:ca) (all:List Oper) (base:Nat) (o:Oper):Nat:=base+((all.takeWhile fun z=>z.dst != o.dst).filter (aS tt)).length
def Gv (tt:ca) (E:Env R) (base:Nat) (S:Option (Bool×List Nat)) (all:List Oper) (o:Oper) (ρ:Operand→V) (h:ai):Bool :=
 match S with
 | none=>true
 | some (false,A) =>
  match da tt o.op with
  | .R => !On tt E all o||(qY o.op ρ).all fun i => !A.contains i
  | .W => !Pr all o||(wo o.op ρ).all fun i=>A.contains i
  | _=>true
 | some (true,A) =>
  match da tt o.op with
  | .R => !Qv tt E all o||(qY o.op ρ).all fun i=>A.contains i
  | .C => !UE tt E o.op||gl E o.op||(Nat.ble (base+(all.filter (aS tt)).length) h.length&&(gu o.op ρ h).all (fun i=>Nat.blt i (Hb tt all base o))&&A.all fun i=>Nat.blt i h.length && !(gu o.op ρ h).contains i)
  | .W=>(!kn all o||(wo o.op ρ).all fun i=>A.contains i)&&(!m3 all o||(wo o.op ρ).all fun i => !A.contains i)
  | _=>true
def Wy (ops:List Oper) (fr:List V):List Nat:=ops.flatMap fun o=>match o.op with | .fieldAddr _ x _=>(ev fr x).ids | .load _ x=>(ev fr x).ids | .store _ x _=>(ev fr x).ids|_ => []

def Wz (tt:ca) (t:Nat):List Oper→Nat→List Nat
 | [],_ => []
 | z::l,id=>bif z.dst==some t then [id]else Wz tt t l (bif aS tt z then id+1 else id)
def K8 (ops:List Oper) (fr:List V):Nat→Operand→List Nat
 | 0,_ => []
 | n+1, .tmp t=>(match ops.find? fun z=>z.dst==some t with|none=>(ev fr (.tmp t)).ids|some z=>(match z.op with | .fieldAddr _ y _=>K8 ops fr n y | .nilCheck y=>K8 ops fr n y | .move y=>K8 ops fr n y|_ => []))
 | _,x=>(ev fr x).ids
def LD (tt:ca) (n:Nat) (ops:List Oper) (fr:List V):List Nat:=ops.flatMap fun o =>
 bif kn ops o then (match o.op with | .store _ (.tmp t) _=>K8 ops fr 9 (.tmp t)|_ => [])
 else bif Pq ops o then (match o.op with | .store _ (.tmp t) _=>Wz tt t ops n|_ => [])else []

def Qx (tt:ca) (E:Env R) (base:Nat) (A:Bool×List Nat) (all:List Oper):List Oper→Nat→St→(St→Option R)→Option R
 | [],_,st,k=>k st
 | o::rest,id,st,k =>
  let id':=if aS tt o then id+1 else id
  pR all o st (fun st=>bif Gv tt E base (some A) all o (ev st.fr) st.hp then uT tt E (Wf tt (some A) base o) id o st fun st=>E3 st fun st=>Qx tt E base A all rest id' st k else none)
   (fun st=>E3 ⟨gM st.fr o.dst (.tuple []),st.hp⟩ fun st=>Qx tt E base A all rest id' st k)

def Bp (tt:ca) (E:Env R) (ZB:Option Bool) (ops:List Oper):Bool :=
 let M:=Ha ops
 (List.range ops.length).all fun j=>(List.range j).all (fun i =>
  (M.getD j 0).testBit i||Dd tt E ZB ops (ops.getD i default) (ops.getD j default)) &&
  (Bo (ops.getD j default)).all (fun i=>Nat.blt i j) &&
  Nat.beq (M.getD j 0) (K7 M (Bo (ops.getD j default)))

def TL (tt:ca) (ops:List Oper):Bool:=ops.any fun o =>
 match o.op with
 | .call c=>(match c.argTypes.toList with
  | t::_=>(match (tt.at t).d with | .slice e=>(tt.at e).Zz&&(match (tt.at e).ty with|some T=>T.DK|none=>false)|_=>false)
  | _=>false)
 | _=>false
def TM (tt:ca) (E:Env R) (ops:List Oper):Bool:=Bp tt E none ops && !(TL tt ops&&Bp tt E (some true) ops)
theorem WA {tt:ca} {E:Env R} {ops:List Oper} (h:TM tt E ops=true):Bp tt E none ops=true:=by
 unfold TM at h
 rw[Bool.and_eq_true]at h
 exact h.1

def Sj (tt:ca) (ops:List Oper) (fr:List V):List Nat :=
 Wy ops fr++bif TL tt ops then ops.flatMap fun o=>match o.op with | .move x=>(ev fr x).ids | .nilCheck x=>(ev fr x).ids|_ => []else []
def E4 (tt:ca) (E:Env R) (ops:List Oper) (draw:Bool) (st:St) (k:St→Option R):Option R :=
 let n:=st.hp.length
 let oc:St:=⟨st.fr,st.hp++List.replicate (ops.filter (aS tt)).length .free⟩
 if draw then (if TM tt E ops then LC tt E (some n) ops ops n oc k else if Bp tt E (some true) ops then Qx tt E n (true,Sj tt ops st.fr) ops ops n oc k else if Bp tt E (some false) ops then Qx tt E n (false,LD tt n ops st.fr) ops ops n oc k else none)
 else LC tt E none ops ops n oc k

def FJ (log:List (Nat×V)) (t:Nat) (d:V):V :=
 List.rec (motive:=fun _=>V) d (fun x _ ih=>cond (Nat.beq x.1 t) x.2 ih) log
def LF {β:Type} (log:List (Nat×V)) (t:Nat) (d:V) (k:V→β):β :=
 List.rec (motive:=fun _=>β) (k d) (fun x _ ih=>cond (Nat.beq x.1 t) (k x.2) ih) log
def Sk {β:Type} (log:List (Nat×V)) (fr:List V) (k:List V→β):β :=
 List.rec (motive:=fun _=>Nat→(List V→β)→β) (fun _ k=>k []) (fun v _ ih i k=>LF log i v fun v'=>ih (i+1) fun r=>k (v'::r)) fr 0 k
def evF (fr:List V) (log:List (Nat×V)) (x:Operand):V:=match x with | .tmp t=>FJ log t (fr.getD t .undef)|x=>ev fr x
def Oo (n:Nat) (log:List (Nat×V)) (dst:Option Nat) (v:V):List (Nat×V):=match dst with|some d=>bif Nat.blt d n then (d,v)::log else log|none=>log

def WB (tt:ca) (E:Env R) (drawn:Option Nat) (id:Nat) (o:Oper) (ρ:Operand→V) (hp:ai) (k:V→ai→Option R):Option R :=
 match da tt o.op with
 | .P=>Za tt o.op ρ fun v=>k v hp
 | .R=>UC tt o.op ρ hp drawn fun v=>k v hp
 | .A=>We tt o.op ρ fun ob mk=>k (mk id) (hp.set id ob)
 | .W=>bif !Qu drawn o.op ρ id then none else Lz tt o.op ρ hp id fun v h=>k v h
 | .C=>match o.op with | .call c=>tA tt E (drawn.isNone || !jt E o.op) c ρ hp fun v h=>k v h|_=>none
 | .F=>none
 | .X=>none

def Sl (all:List Oper) (o:Oper) (fr:List V) (log:List (Nat×V)) (run skip:List (Nat×V)→Option R):Option R :=
 match o.guard with
 | none=>run log
 | some (j,want) =>
  match ((all[j]?).bind (·.dst))with
  | none=>none
  | some d =>
   match FJ log d (fr.getD d .undef)with
   | .bool b =>
    bif b then (if want then run ((d, .bool true)::log)else skip ((d, .bool true)::log))
    else (if want then skip ((d, .bool false)::log)else run ((d, .bool false)::log))
   | .tuple []=>skip log
   | _=>none

def Sm (tt:ca) (E:Env R) (drawn:Option Nat) (all:List Oper) (n:Nat) (fr:List V):List Oper→Nat→List (Nat×V)→ai→(St→Option R)→Option R
 | [],_,log,hp,k=>Sk log fr fun fr=>LB hp fun hp=>k ⟨fr,hp⟩
 | o::rest,id,log,hp,k =>
  let id':=if aS tt o then id+1 else id
  Sl all o fr log (fun log=>WB tt E drawn id o (evF fr log) hp fun v hp=>LB hp fun hp=>Sm tt E drawn all n fr rest id' (Oo n log o.dst v) hp k)
   (fun log=>Sm tt E drawn all n fr rest id' (Oo n log o.dst (.tuple [])) hp k)

def regionF (tt:ca) (E:Env R) (ops:List Oper) (draw:Bool) (st:St) (k:St→Option R):Option R :=
 let n:=st.hp.length
 let hp:=st.hp++List.replicate (ops.filter (aS tt)).length .free
 if draw then (if TM tt E ops then Sm tt E (some n) ops st.fr.length st.fr ops n [] hp k else if Bp tt E (some true) ops then Qx tt E n (true,Sj tt ops st.fr) ops ops n ⟨st.fr,hp⟩ k else if Bp tt E (some false) ops then Qx tt E n (false,LD tt n ops st.fr) ops ops n ⟨st.fr,hp⟩ k else none)
 else Sm tt E none ops st.fr.length st.fr ops n [] hp k

inductive Ex where
 | normal|exit (id:Nat)|goto (l:Nat)|ret

structure Hint where
 live:List Nat
 own:List (Nat×Ty) := []
 rows:List (Nat×Ty) := []
 cells:List (Nat×Nat×Ty×Bool) := []
 drop:List Nat := []
 out:List Nat := []

def Bq (live drop:List Nat) (fr:List V):List V:=fr.zipIdx.map fun (v,i)=>if live.contains i then (if drop.contains i then Bm v else v)else .undef

def Gw:List (Nat×Ty)→St→St
 | [],st=>st
 | (d,T)::r,st =>
  match st.fr.getD d .undef with
  | .aI=>Gw r ⟨st.fr.set d (.sl T [] (.own st.hp.length)),st.hp ++ [.tok]⟩
  | .sl T' l .nil=>Gw r ⟨st.fr.set d (.sl T' l (.own st.hp.length)),st.hp ++ [.tok]⟩
  | _=>Gw r st

def DM:List (Nat×Ty)→St→St
 | [],st=>st
 | (d,T)::r,st =>
  match st.fr.getD d .undef with
  | .aI=>DM r ⟨st.fr.set d (.row st.hp.length 0),st.hp ++ [.row T []]⟩
  | _=>DM r st

def vB (T:Ty) (b:Bool):aP:=bif b then .row T []else .tok
def qZ (T:Ty) (b:Bool) (i:Nat):V:=bif b then .row i 0 else .sl T [] (.own i)

def vK:List (Nat×Nat×Ty×Bool)→St→St
 | [],st=>st
 | (i,o,T,b)::r,st =>
  match st.hp.at i with
  | .cells cs =>
   (match cs.getD o .undef with
    | .aI=>vK r ⟨st.fr,st.hp.set i (.cells (cs.set o (qZ T b st.hp.length))) ++ [vB T b]⟩
    | _=>vK r st)
  | .qV v =>
   (match v with
    | .aI=>vK r ⟨st.fr,st.hp.set i (.qV (qZ T b st.hp.length)) ++ [vB T b]⟩
    | _=>vK r st)
  | _=>vK r st

def St.gc (m:Nat) (st:St):St :=
 let ord:=reach st.hp 256 (List.range m++V.nv st.fr) []
 ⟨V.tP (tz ord) st.fr,st.hp.pick ord⟩

def TN (m:Nat) (h:Hint) (st:St):St:=match h.cells with | []=>st|_::_=>st.gc m
def norm (m:Nat) (h:Hint) (st:St):St:=(vK h.cells (DM h.rows (Gw h.own (TN m h ⟨Bq h.live h.drop st.fr,st.hp⟩)))).gc m

def trim (m:Nat) (h:Hint) (st:St):St:=(⟨Bq h.out [] st.fr,st.hp⟩:St).gc m

abbrev bO (R:Type):=St→(Ex→St→Option R)→Option R

def keyOf:Code→Nat
 | .region id _ _=>id
 | .seq a _=>keyOf a
 | .block _ b=>keyOf b
 | .loop b=>keyOf b
 | .cond _ a _=>keyOf a
 | .scope b=>keyOf b
 | _=>0

def TO (body:bO R):Nat→bO R
 | 0,_,_=>none
 | n+1,st,K=>body st fun e oc=>match e with | .normal=>TO body n oc K|e=>K e oc

def xH (body:bO R) (f:St→St):Nat→bO R
 | 0,_,_=>none
 | n+1,st,K=>body st fun e oc=>match e with | .normal=>xH body f n (f oc) K|e=>K e oc

def IU (a b:Option R):Option R:=open Classical in if a=b then a else none

def fm (tt:ca) (E:Env R) (L:Nat→Option (Hint×bO R)) (m:Nat):Code→bO R
 | .skip,st,K=>K .normal st
 | .region _ ops draw,st,K=>regionF tt E ops.toList draw st fun oc=>K .normal oc
 | .seq a b,st,K=>fm tt E L m a st fun e oc=>match e with | .normal=>fm tt E L m b oc K|e=>K e oc
 | .cond c a b,st,K=>match ev st.fr c with | .bool t=>bif t then fm tt E L m a st K else fm tt E L m b st K | .Fh=>IU (fm tt E L m a st K) (fm tt E L m b st K)|_=>none
 | .block id a,st,K=>fm tt E L m a st fun e oc=>match e with | .exit i=>if i=id then K .normal oc else K (.exit i) oc|e=>K e oc
 | .loop a,st,K =>
  match L (keyOf a)with
  | some (h,ls)=>ls (norm m h st) K
  | none=>TO (fm tt E L m a) 70 st K
 | .exit id,st,K=>K (.exit id) st
 | .ret,st,K=>K .ret st
 | _,_,_=>none

def Qy (tt:ca) (st:St):List ResultVar→(List V→Option R)→Option R
 | [],k=>k []
 | .tmp t::r,k=>Qy tt st r fun vs=>k (st.fr.getD t .undef::vs)
 | .cell a t::r,k =>
  match st.fr.getD a .undef with
  | .ptr i o =>
   (match st.hp.at i with
    | .cells cs=>mF tt t cs o fun v=>Qy tt st r fun vs=>k (v::vs)
    | _=>none)
  | _=>none

def iM (h:ai):List Nat→ai
 | []=>h
 | i::r=>match h.at i with | .row _ _=>iM (h.set i .dead) r|_=>iM h r

def Sn (tt:ca):List Nat→List V→List V
 | t::ts,v::vs=>canon tt t v::Sn tt ts vs
 | _,_ => []

def m4 (h:ai) (m:Nat):List Nat:=(List.range m).filter fun i =>
 (match h.at i with | .row T _=>T.DK|_=>false)&&(List.range m).any fun j=>match h.at j with | .cells cs=>(V.nv cs).contains i|_=>false
def Hc (h:ai) (m:Nat) (ord:List Nat):List Nat :=
 bif (m4 h m).isEmpty || !(ord.all fun i=>Nat.blt i h.length)then ord
 else ord.map (fun i=>bif (m4 h m).contains i then h.length+i else i)++m4 h m

def K9 (tt:ca) (ts:List Nat) (m:Nat) (pP:Bool) (vs:List V) (h:ai) (k:V→ai→Option R):Option R :=
 let ws:=if pP then vs else Sn tt ts (V.JQ h vs)
 let h:=if pP then h else iM h (V.nv vs)
 let ord:=reach h 256 (List.range m++V.nv ws) []
 let ord:=bif pP&&(V.nv ws).isEmpty then Hc h m ord else ord
 k (match V.tP (tz ord) ws with | [v]=>v|l => .tuple l) (h.pick ord)

def funK (tt:ca) (E:Env R) (L:Nat→Option (Hint×bO R)) (pP:Bool) (fn:Func) (c:Code):Spec R :=
 fun args h k =>
  if 200<h.length then none else
  fm tt E L h.length c ⟨args++List.replicate (fn.ntmps - args.length) .undef,h⟩ fun e st =>
   match e with
   | .normal | .ret=>Qy tt st fn.results.toList fun vs=>K9 tt fn.resultTypes.toList h.length pP vs st.hp k
   | _=>none

end
end Go.ad

namespace Go.ad
open Go.RowKit

structure Qz where
 cells:Nat→Nat→Prop
instance:CoeFun Qz fun _=>Nat→Nat→Prop:=⟨Qz.cells⟩

structure eT where
 mX:Nat→Option Nat
 off:Nat→Nat
 /-- cells that are the callers' -/
 ext:Qz

def aP.from_ (o:aP) (f:Nat):Option Nat :=
 match o with
 | .free=>none
 | .dead=>none
 | .tok=>some f
 | _=>some 0

def Used (h:ai) (i:Nat):Prop:=i<h.length∧h.at i ≠ .free

def oF (h:ai) (c:eT) (b x:Nat):Prop:=∃i f,c.mX i=some b∧(h.at i).from_ (c.off i)=some f∧f≤x

def Fi (h:ai) (c:eT) (b x:Nat):Prop:=¬oF h c b x∧¬c.ext b x

def mx:Nat:=9223372036854775807

def So (T:Ty) (o:Nat) (e:TypeId):Prop:=T = .int .u8→o=0∧e=mZ.u8

inductive cd (w:World) (h:ai) (c:eT):V→Value→Prop where
 | undef (v:Value):cd w h c .undef v
 | int {k:IntKind} {n:Int} (hn:k.has n):cd w h c (.int k n) (.int k n)
 | bool (b:Bool):cd w h c (.bool b) (.bool b)
 | str {s:ByteArray} (hl:s.size≤mx):cd w h c (.str s.data.toList) (.string s)
 | gk:cd w h c .gk (.pointer none)
 | ptr {i o:Nat} {v:Value} (hi:Used h i) (hv:∃b,v = .pointer (some ⟨b,o,none⟩)∧(h.at i ≠ .dead→c.mX i=some b)):cd w h c (.ptr i o) v
 | lX {cs:List V} {b o:Nat} (f:Nat→Value) (hc:∀j,j<cs.length→w.cell? ⟨b,o+j,none⟩=some (f j)∧Fi h c b (o+j))
   (hr:∀(j:Nat) (v:V),cs[j]? = some v→cd w h c v (f j)):cd w h c (.lX cs) (.pointer (some ⟨b,o,none⟩))
 | aI:cd w h c .aI (.slice none 0 0)
 | sl {T:Ty} {l:List T.den} {t:Tok} {A:Option Addr} {cap:Nat} (f:Nat→Nat→Value) (eQ:l.length≤cap) (lD:cap≤mx)
   (hc:∀i j,i<l.length→j<T.sz→∃b o,A=some ⟨b,o,none⟩∧w.cell? ⟨b,o+i*T.sz+j,none⟩=some (f i j)∧Fi h c b (o+i*T.sz+j))
   (hr:∀(i j:Nat) (x:T.den) (v:V),l[i]? = some x→(T.cells x)[j]? = some v→cd w h c v (f i j))
   (vL:t = .nil→A=none∧cap=0)
   (fA:∀i,t = .own i→Used h i∧(h.at i = .tok →
    (c.mX i=none∧A=none∧cap=0)∨∃b o arr e fz,c.mX i=some b∧A=some ⟨b,o,none⟩∧c.off i=o+l.length*T.sz ∧
     w.heap[b]? = some (Obj.cells arr e fz)∧o+cap*T.sz≤arr.size∧So T o e)):cd w h c (.sl T l t) (.slice A l.length cap)
 | Ku {n sz:Nat} {cs:List V} {A:Option Addr} (hn:cs.length=n*sz) (lD:n≤mx) (f:Nat→Value)
   (hc:∀j,j<cs.length→∃b o,A=some ⟨b,o,none⟩∧w.cell? ⟨b,o+j,none⟩=some (f j)∧Fi h c b (o+j))
   (hr:∀(j:Nat) (v:V),cs[j]? = some v→cd w h c v (f j)):cd w h c (.Ku n cs) (.slice A n n)
 | row {i n:Nat} {v:Value} (hi:Used h i) (hn:n≤mx) (hv:∃A cap,v = .slice A n cap∧(n≤cap∧cap≤mx∧(0<n→∃a,A=some a))∧∀T l,h.at i = .row T l→n=l.length∧n≤cap∧cap≤mx ∧
    ((c.mX i=none∧A=none∧cap=0)∨∃b arr e fz,c.mX i=some b∧A=some ⟨b,c.off i,none⟩∧w.heap[b]? = some (Obj.cells arr e fz)∧c.off i+cap*T.sz≤arr.size)) :
   cd w h c (.row i n) v
 | m0 {i z q n:Nat} {v:Value} (hi:Used h i) (hn:n≤mx) (hv:∃A cap,v = .slice A n cap∧(n≤cap∧cap≤mx∧(0<n→∃a,A=some a))∧∀T l,h.at i = .row T l→z=T.sz→q≤l.length→l.length≤q+cap ∧
    (q<l.length→∃b arr e fz,c.mX i=some b∧A=some ⟨b,c.off i+q*T.sz,none⟩∧w.heap[b]? = some (Obj.cells arr e fz)∧c.off i+(q+cap)*T.sz≤arr.size)):cd w h c (.m0 i z q n) v
 | nu {i n j o:Nat} {v:Value} (hi:Used h i) (hv:∃a,v = .pointer (some a)∧∀T l,h.at i = .row T l→n=T.sz→j<l.length→∃b,c.mX i=some b∧a=⟨b,c.off i+j*T.sz+o,none⟩) :
   cd w h c (.nu i n j o) v
 | func {f:Nat} {a b:List V} {x y:Array Value} (ha:a.length=x.size) (hb:b.length=y.size)
   (Zb:∀(j:Nat) (v:V) (d:Value),a[j]? = some v→x[j]? = some d→cd w h c v d) (hrb:∀(j:Nat) (v:V) (d:Value),b[j]? = some v→y[j]? = some d→cd w h c v d) :
   cd w h c (.func f a b) (.func (.func f) x y)
 | fB:cd w h c .fB .nilFunc
 | agg {cs:List V} {x:Array Value} (hl:cs.length=x.size) (hr:∀(j:Nat) (v:V) (d:Value),cs[j]? = some v→x[j]? = some d→cd w h c v d):cd w h c (.agg cs) (.agg x)
 | tuple {cs:List V} {x:Array Value} (hl:cs.length=x.size) (hr:∀(j:Nat) (v:V) (d:Value),cs[j]? = some v→x[j]? = some d→cd w h c v d):cd w h c (.tuple cs) (.tuple x)
 | map {i:Nat} {v:Value} (hi:Used h i) (hv:∃b,v = .map (some b)∧(h.at i ≠ .dead→c.mX i=some b)):cd w h c (.map i) v
 | km:cd w h c .km (.map none)
 | dd:cd w h c .dd .nilIface
 | iface (t:TypeId) (v:Value):cd w h c .iface (.iface t v)
 | Lq {t:TypeId} {k:IntKind} {n:Int} (hn:k.has n):cd w h c (.Lq t k n) (.iface t (.int k n))
 | Fh (b:Bool):cd w h c .Fh (.bool b)

def bl (w:World) (h:ai) (c:eT) (cs:List V) (ds:List Value):Prop :=
 cs.length=ds.length∧∀(j:Nat) (v:V) (d:Value),cs[j]? = some v→ds[j]? = some d→cd w h c v d

def iN (w:World) (h:ai) (c:eT) (i:Nat):aP→Prop
 | .free=>True
 | .dead=>True
 | .cells cs=>∃b arr e,c.mX i=some b∧w.heap[b]? = some (Obj.cells arr e (0,0))∧bl w h c cs arr.toList
 | .row T l=>(c.mX i=none∧l = [])∨∃b arr e fz,c.mX i=some b∧w.heap[b]? = some (Obj.cells arr e fz)∧c.off i+l.length*T.sz≤arr.size ∧
   (∀x,(x<arr.size∨T.DK=true)→w.frozen? ⟨b,x,none⟩=false)∧∀(n j:Nat) (x:T.den) (v:V),l[n]? = some x→(T.cells x)[j]? = some v→∃d,arr[c.off i+n*T.sz+j]? = some d∧cd w h c v d
 | .tok=>c.mX i=none∨∃b arr e fz,c.mX i=some b∧w.heap[b]? = some (Obj.cells arr e fz)∧c.off i≤arr.size∧(fz.1=fz.2∨fz.2≤c.off i)
 | .qV v=>∃b p d,c.mX i=some b∧w.heap[b]? = some (Obj.cells #[p,d] mZ.qV (0,0))∧(p = .pointer none∨p = .pointer (some ⟨b,0,none⟩))∧cd w h c v d
 | .iter s pos=>∃b bs,c.mX i=some b∧w.heap[b]? = some (.stringIter bs pos)∧bs.data.toList=s∧bs.size≤mx
 | .qW K T l=>∃b es clock,c.mX i=some b∧w.heap[b]? = some (.map es clock)∧K6 K=true∧T.one=true∧es.size=l.length ∧
   ∀(j:Nat) (x:K.den×T.den) (e:MapEntry),l[j]? = some x→es[j]? = some e→cd w h c (Nv K x.1) e.key∧cd w h c (Nv T x.2) e.val

def aP.live:aP→Prop
 | .free=>False
 | .dead=>False
 | _=>True

def Laid (w:World) (h:ai) (c:eT):Prop:=mZ.UB w∧∀b,mZ.blocks b→b<w.heap.size∧∀x, ¬oF h c b x

structure WF (w:World) (h:ai) (c:eT):Prop where
 uU:∀b x,oF h c b x→¬c.ext b x
 la:∀b x,c.ext b x→b<w.heap.size
 obj:∀i,i<h.length→iN w h c i (h.at i)
 inj:∀i j b,(h.at i).live→(h.at j).live→c.mX i=some b→c.mX j=some b→i=j
 lay:Laid w h c

def aP.dV:aP→aP→Prop
 | .cells cs, .cells ds=>cs.length=ds.length
 | .row T l, .row U m=>T=U∧l.length=m.length
 | .tok, .tok=>True
 | .iter _ _, .iter _ _=>True
 | .qV _, .qV _=>True
 | .qW K T _, .qW K' U _=>K=K'∧T=U
 | _,_=>False

structure Ext (w:World) (h:ai) (c:eT) (w':World) (h':ai) (c':eT):Prop where
 os:w'.os=w.os
 tape:w'.tape=w.tape
 output:w'.output=w.output
 size:w.heap.size≤w'.heap.size
 used:∀i,Used h i→Used h' i
 same:∀i,Used h i→h'.at i ≠ .dead→(h.at i).dV (h'.at i)∧c'.mX i=c.mX i∧c'.off i=c.off i
 cell:∀b x,b<w.heap.size→¬oF h c b x→w'.cell? ⟨b,x,none⟩=w.cell? ⟨b,x,none⟩
 block:∀b,b<w.heap.size→(∀x, ¬oF h c b x)→w'.heap[b]? = w.heap[b]?
 tp:∀b x,b<w.heap.size→oF h' c' b x→oF h c b x
 ext:c'.ext=c.ext
 arr:∀(b:Nat) (arr:Array Value) (e:TypeId) (fz:Nat×Nat),w.heap[b]? = some (Obj.cells arr e fz)→∃(DB:Array Value) (NG:Nat×Nat),w'.heap[b]? = some (Obj.cells DB e NG)∧DB.size=arr.size

theorem Ext.refl (w:World) (h:ai) (c:eT):Ext w h c w h c where
 os:=rfl
 tape:=rfl
 output:=rfl
 size:=Nat.le_refl _
 used:=fun _ hi=>hi
 same:=fun i hi hd=>⟨by have h2:=hi.2; revert hd h2; cases h.at i <;> simp[aP.dV],rfl,rfl⟩
 cell:=fun _ _ _ _=>rfl
 block:=fun _ _ _=>rfl
 tp:=fun _ _ _ ho=>ho
 ext:=rfl
 arr:=fun b arr e fz hb=>⟨arr,fz,hb,rfl⟩

theorem aP.zV {o o':aP} (h:o.dV o'):o ≠ .dead∧o' ≠ .dead:=by
 cases o <;> cases o' <;> simp_all [aP.dV]

theorem aP.UF {a b c:aP} (h:a.dV b) (k:b.dV c):a.dV c:=by
 cases a <;> cases b <;> cases c <;> simp_all [aP.dV]

theorem Ext.trans {w w1 w2:World} {h h1 h2:ai} {c c1 c2:eT} (a:Ext w h c w1 h1 c1) (b:Ext w1 h1 c1 w2 h2 c2):Ext w h c w2 h2 c2 where
 os:=b.os.trans a.os
 tape:=b.tape.trans a.tape
 output:=b.output.trans a.output
 size:=Nat.le_trans a.size b.size
 used:=fun i hi=>b.used i (a.used i hi)
 same:=fun i hi hd=>by
  obtain ⟨s2,e2,f2⟩:=b.same i (a.used i hi) hd
  obtain ⟨s1,e1,f1⟩:=a.same i hi (aP.zV s2).1
  exact ⟨aP.UF s1 s2,e2.trans e1,f2.trans f1⟩
 cell:=fun x y hx ho=>by
  rw[b.cell x y (Nat.lt_of_lt_of_le hx a.size) (fun o=>ho (a.tp x y hx o)),a.cell x y hx ho]
 block:=fun x hx ho=>by
  rw[b.block x (Nat.lt_of_lt_of_le hx a.size) (fun y o=>ho y (a.tp x y hx o)),a.block x hx ho]
 tp:=fun x y hx o=>a.tp x y hx (b.tp x y (Nat.lt_of_lt_of_le hx a.size) o)
 ext:=b.ext.trans a.ext
 arr:=fun x arr e fz hx=>by
  obtain ⟨a1,f1,h1,s1⟩:=a.arr x arr e fz hx
  obtain ⟨a2,f2,h2,s2⟩:=b.arr x a1 e f1 h1
  exact ⟨a2,f2,h2,s2.trans s1⟩

theorem LG {w:World} {b x:Nat} {v:Value} (h:w.cell? ⟨b,x,none⟩=some v):b<w.heap.size :=
 World.block_lt_of_cell? _ _ h

theorem ZC {o o':aP} (h:o.dV o') (e:o' = .tok):o = .tok:=by subst e; cases o <;> simp_all [aP.dV]
theorem Ps {o:aP} {T:Ty} {l:List T.den} (h:o.dV (.row T l)):∃m:List T.den,o = .row T m∧m.length=l.length:=by
 cases o with
 | row U m=>obtain ⟨rfl,e⟩:=h; exact ⟨m,rfl,e⟩
 | _=>simp[aP.dV]at h

section
variable {w w':World} {h h':ai} {c c':eT}

theorem Ext.LH (x:Ext w h c w' h' c') {b o:Nat} {v:Value} (hc:w.cell? ⟨b,o,none⟩=some v) (ho:Fi h c b o) :
  w'.cell? ⟨b,o,none⟩=some v∧Fi h' c' b o :=
 ⟨(x.cell b o (LG hc) ho.1).trans hc,fun k=>ho.1 (x.tp b o (LG hc) k),by rw[x.ext]; exact ho.2⟩

theorem cd.mono (x:Ext w h c w' h' c') {v:V} {d:Value} (r:cd w h c v d):cd w' h' c' v d:=by
 induction r with
 | undef v=>exact .undef v
 | int hn=>exact .int hn
 | bool b=>exact .bool b
 | str hl=>exact .str hl
 | gk=>exact .gk
 | aI=>exact .aI
 | fB=>exact .fB
 | km=>exact .km
 | dd=>exact .dd
 | iface t v=>exact .iface t v
 | Lq hn=>exact .Lq hn
 | Fh b=>exact .Fh b
 | ptr hi hv =>
  obtain ⟨b,hv,hb⟩:=hv
  refine .ptr (x.used _ hi) ⟨b,hv,fun hd => ?_⟩
  obtain ⟨s,e,_⟩:=x.same _ hi hd
  rw[e]
  exact hb (aP.zV s).1
 | map hi hv =>
  obtain ⟨b,hv,hb⟩:=hv
  refine .map (x.used _ hi) ⟨b,hv,fun hd => ?_⟩
  obtain ⟨s,e,_⟩:=x.same _ hi hd
  rw[e]
  exact hb (aP.zV s).1
 | lX f hc _ ih=>exact .lX f (fun j hj=>x.LH (hc j hj).1 (hc j hj).2) ih
 | sl f eQ lD hc _ vL fA ih =>
  refine .sl f eQ lD (fun i j hi hj => ?_) ih vL (fun i ht => ?_)
  ·obtain ⟨b,o,hA,h1,h2⟩:=hc i j hi hj
   exact ⟨b,o,hA,x.LH h1 h2⟩
  ·obtain ⟨hi,ho⟩:=fA i ht
   refine ⟨x.used _ hi,fun LI => ?_⟩
   obtain ⟨s,e,eo⟩:=x.same i hi (by rw[LI]; simp)
   rw[e,eo]
   rcases ho (ZC s LI)with hn|⟨b,o,arr,el,fz,h1,h2,h3,h4,h5⟩
   ·exact .inl hn
   ·obtain ⟨DB,NG,h4',hs⟩:=x.arr b arr el fz h4
    exact .inr ⟨b,o,DB,el,NG,h1,h2,h3,h4',by rw[hs]; exact h5.1,h5.2⟩
 | Ku hn lD f hc _ ih =>
  refine .Ku hn lD f (fun j hj => ?_) ih
  obtain ⟨b,o,hA,h1,h2⟩:=hc j hj
  exact ⟨b,o,hA,x.LH h1 h2⟩
 | row hi hn hv =>
  obtain ⟨A,cap,hv1,hA,hv⟩:=hv
  refine .row (x.used _ hi) hn ⟨A,cap,hv1,hA,fun T l he => ?_⟩
  obtain ⟨s,e,eo⟩:=x.same _ hi (by rw[he]; simp)
  rw[he]at s
  obtain ⟨m,hm,hl⟩:=Ps s
  obtain ⟨Wg,h1,h2,h3⟩:=hv T m hm
  refine ⟨by rw[Wg,hl],h1,h2,?_⟩
  rw[e,eo]
  rcases h3 with h3|⟨b,arr,el,fz,g1,g2,g3,g4⟩
  ·exact .inl h3
  ·obtain ⟨DB,NG,h4',hs⟩:=x.arr b arr el fz g3
   exact .inr ⟨b,DB,el,NG,g1,g2,h4',by rw[hs]; exact g4⟩
 | m0 hi hn hv =>
  obtain ⟨A,cap,hv1,hA,hv⟩:=hv
  refine .m0 (x.used _ hi) hn ⟨A,cap,hv1,hA,fun T l he hz hq => ?_⟩
  obtain ⟨s,e,eo⟩:=x.same _ hi (by rw[he]; simp)
  rw[he]at s
  obtain ⟨m,hm,hl⟩:=Ps s
  rw[e,eo,←hl]
  obtain ⟨g1,g2⟩:=hv T m hm hz (by omega)
  refine ⟨g1,fun dH => ?_⟩
  obtain ⟨b,arr,el,fz,k1,k2,k3,k4⟩:=g2 dH
  obtain ⟨DB,NG,h4',hs⟩:=x.arr b arr el fz k3
  exact ⟨b,DB,el,NG,k1,k2,h4',by rw[hs]; exact k4⟩
 | nu hi hv =>
  obtain ⟨a,ha,hv⟩:=hv
  refine .nu (x.used _ hi) ⟨a,ha,fun T l he hn hj => ?_⟩
  obtain ⟨s,e,eo⟩:=x.same _ hi (by rw[he]; simp)
  rw[he]at s
  obtain ⟨m,hm,hl⟩:=Ps s
  rw[e,eo]
  exact hv T m hm hn (by rw[hl]; exact hj)
 | func ha hb _ _ iha ihb=>exact .func ha hb iha ihb
 | agg hl _ ih=>exact .agg hl ih
 | tuple hl _ ih=>exact .tuple hl ih

theorem bl.mono (x:Ext w h c w' h' c') {cs:List V} {ds:List Value} (r:bl w h c cs ds):bl w' h' c' cs ds :=
 ⟨r.1,fun j v d hv hd=>(r.2 j v d hv hd).mono x⟩

theorem bl.nil:bl w h c [] []:=⟨rfl,fun j v d hv=>by simp at hv⟩
theorem bl.cons {v:V} {d:Value} {cs:List V} {ds:List Value} (r:cd w h c v d) (rs:bl w h c cs ds):bl w h c (v::cs) (d::ds):=by
 refine ⟨by simp[rs.1],fun j u e hu he => ?_⟩
 cases j with
 | zero=>simp at hu he; subst hu; subst he; exact r
 | succ j=>simp at hu he; exact rs.2 j u e hu he
theorem bl.head {v:V} {d:Value} {cs:List V} {ds:List Value} (r:bl w h c (v::cs) (d::ds)):cd w h c v d:=r.2 0 v d rfl rfl
theorem bl.tail {v:V} {d:Value} {cs:List V} {ds:List Value} (r:bl w h c (v::cs) (d::ds)):bl w h c cs ds :=
 ⟨by simpa using r.1,fun j u e hu he=>r.2 (j+1) u e (by simpa using hu) (by simpa using he)⟩
theorem bl.append {a b:List V} {x y:List Value} (r:bl w h c a x) (s:bl w h c b y):bl w h c (a++b) (x++y):=by
 refine ⟨by simp[r.1,s.1],fun j u e hu he => ?_⟩
 have hl:=r.1
 by_cases hj:j<a.length
 ·rw[List.getElem?_append_left hj]at hu
  rw[List.getElem?_append_left (by omega)]at he
  exact r.2 j u e hu he
 ·rw[List.getElem?_append_right (by omega)]at hu
  rw[List.getElem?_append_right (by omega),←hl]at he
  exact s.2 _ u e hu he
theorem bl.take {a:List V} {x:List Value} (r:bl w h c a x) (n:Nat):bl w h c (a.take n) (x.take n):=by
 refine ⟨by simp[r.1],fun j u e hu he => ?_⟩
 rw[List.getElem?_take]at hu he
 split at hu <;> simp_all
 exact r.2 j u e hu he
theorem bl.drop {a:List V} {x:List Value} (r:bl w h c a x) (n:Nat):bl w h c (a.drop n) (x.drop n):=by
 refine ⟨by simp[r.1],fun j u e hu he => ?_⟩
 rw[List.getElem?_drop]at hu he
 exact r.2 _ u e hu he
theorem bl.map {α:Type} {f:α→V} {g:α→Value} (l:List α) (r:∀x∈l,cd w h c (f x) (g x)):bl w h c (l.map f) (l.map g):=by
 induction l with
 | nil=>exact .nil
 | cons x l ih=>exact .cons (r x (by simp)) (ih fun y hy=>r y (by simp[hy]))
theorem bl.getD {a:List V} {x:List Value} (r:bl w h c a x) (j:Nat) (d:Value):cd w h c (a.getD j .undef) (x.getD j d):=by
 by_cases hj:j<a.length
 ·have hx:j<x.length:=by have:=r.1; omega
  exact r.2 j _ _ (by simp[List.getD,List.getElem?_eq_getElem hj]) (by simp[List.getD,List.getElem?_eq_getElem hx])
 ·have:a.getD j .undef = .undef:=by simp[List.getD,List.getElem?_eq_none (Nat.le_of_not_lt hj)]
  rw[this]; exact .undef _
theorem bl.set {a:List V} {x:List Value} (r:bl w h c a x) (j:Nat) {v:V} {d:Value} (rv:cd w h c v d):bl w h c (a.set j v) (x.set j d):=by
 refine ⟨by simp[r.1],fun i u e hu he => ?_⟩
 rw[List.getElem?_set]at hu he
 by_cases tR:j=i
 ·simp only[tR,if_true]at hu he
  split at hu <;> split at he <;> simp_all
 ·simp only[tR,if_false]at hu he
  exact r.2 i u e hu he
theorem bl.Kv (n:Nat) (d:Value):bl w h c (List.replicate n .undef) (List.replicate n d):=by
 refine ⟨by simp,fun j u e hu _ => ?_⟩
 rw[List.getElem?_replicate]at hu
 split at hu <;> simp_all
 subst hu; exact .undef _
end
end Go.ad
end
