/-
  JsonTells: for every input whose bulk is at most 1048576 the law returns true, and each argument reads behind the call as it read before; part 1 of 10 of the proof: an interpreter of the model's code over typed data, proved sound; the functions that the law reaches, printed as Lean functions and tied; the plain law. Own texts laid one behind the other.
-/
import Derived.Calls
import Derived.Test.YtmlkkgfenfdndaaGreatDoorProg
import Derived.Lib.LaidTab
import Derived.Lib.ItoaNum
import Derived.Shelf.Unicode.DecodeSlow
import Derived.Orders
import Derived.KernelRfl
import Derived.Below
set_option linter.unusedSimpArgs false
set_option linter.unnecessarySimpa false
set_option linter.unusedVariables false
set_option linter.unusedSectionVars false
noncomputable section
namespace Go.bb
structure LayT where
 
 u8:Nat
 ng:Nat
 
 soft:Nat→Bool
 blocks:Nat→Prop
 says:World→Prop
 AF:∀w w':World,(∀b,blocks b→w'.heap[b]? = w.heap[b]?)→says w→says w'
def LayT.none:LayT:=⟨5,1000000,fun _=>false,fun _=>False,fun _=>True,fun _ _ _ h=>h⟩
end Go.bb
namespace Go.bb
open Go.Proofs
def laySays (w:World):Prop :=
 Go.Lib.Utf8Tabs 1 2 w∧Go.Lib.TabIs Tryz.prog w "internal/strconv.uint64pow10" .u64 Go.Lib.pow10Tab ∧
  (∃t x,w.cell? ⟨4,0,none⟩=some (.iface t x))∧(∃t x,w.cell? ⟨5,0,none⟩=some (.iface t x))
theorem lay_pow10:Tryz.prog.globalNamed "internal/strconv.uint64pow10" = some 3:=by kernel_rfl
theorem laySays_keep (w w':World) (h:∀b,b<8→w'.heap[b]? = w.heap[b]?) (k:laySays w):laySays w':=by
 have hc:∀b x,b<8→w'.cell? ⟨b,x,none⟩=w.cell? ⟨b,x,none⟩:=fun b x hb=>by simp only[World.cell?,h b hb]
 obtain ⟨⟨k1,k2⟩,k3,k4,k5⟩:=k;refine ⟨⟨fun c W0=>by rw[hc _ _ (by omega)]; exact k1 c W0,fun i hi=>by rw[hc _ _ (by omega),hc _ _ (by omega)]; exact k2 i hi⟩,?_,by rw[hc _ _ (by omega)]; exact k4,by rw[hc _ _ (by omega)]; exact k5⟩;unfold Go.Lib.TabIs at k3 ⊢;rw[←k3];simp only[World.var?,lay_pow10,Option.bind_some,h 3 (by omega)]
def pX:LayT:=⟨5,73,fun g=>Nat.beq g 39,fun b=>b<8,laySays,laySays_keep⟩
end Go.bb
namespace Go.bb
abbrev af:=List UInt8
structure cC where
 au:Int
 exp:Int
def cC.z:cC:=⟨0,0⟩
structure Json where
 kind:Int
 num:cC
 text:af
 names:List af
 items:List Json
def Json.z:Json:=⟨0,cC.z, [], [], []⟩
structure Raw where
 kind:Int
 au:Int
 exp:Int
 text:List Int
 items:List Raw
def Raw.z:Raw:=⟨0,0,0, [], []⟩
structure R1 where
 kind:Int
 au:Int
 exp:Int
 text:List Int
def R1.z:R1:=⟨0,0,0, []⟩
structure Fld where
 name:af
 kind:Int
 low:Int
 high:Int
 free:Bool
def Fld.z:Fld:=⟨[],0,0,0,false⟩
structure ZW where
 topic:af
 data:af
 bent:Bool
def ZW.z:ZW:=⟨[], [],false⟩
structure Token where
 kind:Int
 text:af
 num:cC
 at_:Int
def Token.z:Token:=⟨0, [],cC.z,0⟩
structure Stop where
 node:Int
 seq:Int
 ER:Bool
def Stop.z:Stop:=⟨0,0,false⟩
structure Way where
 TX:Int
 seq:Int
 ER:Bool
def Way.z:Way:=⟨0,0,false⟩
structure Order where
 header:Int
 xA:af
 order:Int
 update:Int
 nodes:List Stop
 Xn:List Way
def Order.z:Order:=⟨0, [],0,0, [], []⟩
structure Edge where
 src:Int
 dst:Int
 cost:Int
def Edge.z:Edge:=⟨0,0,0⟩
structure Jr where
 nodes:Int
 Xn:List Edge
def Jr.z:Jr:=⟨0, []⟩
structure Qb where
 maker:af
 serial:af
 kind:af
def Qb.z:Qb:=⟨[], [], []⟩
structure State where
 header:Int
 boot:Int
 xA:af
 order:Int
 update:Int
 live:Bool
 node:Int
 seq:Int
 driving:Bool
 accepted:Int
def State.z:State:=⟨0,0, [],0,0,false,0,0,false,0⟩
structure Ctl where
 xA:af
 header:Int
 order:Int
 update:Int
 boot:Int
 seen:Int
 path:List Int
 seq:Int
 open_:Bool
 rel:Int
 wait:Bool
 pending:Order
def Ctl.z:Ctl:=⟨[],0,0,0,0,0, [],0,false,0,false,Order.z⟩
structure ZX where
 kind:Int
 i:Int
 k:Int
 by_:Int
 data:af
def ZX.z:ZX:=⟨0,0,0,0, []⟩
structure MZ where
 header:Int
 order:Int
 update:Int
 seq:Int
 from_:Int
 ER:Int
 turns:List Int
def MZ.z:MZ:=⟨0,0,0,0,0,0, []⟩
structure ZY where
 kind:Int
 o:MZ
 data:af
def ZY.z:ZY:=⟨0,MZ.z, []⟩
structure ZZ where
 kind:Int
 n:Int
 turns:List Int
def ZZ.z:ZZ:=⟨0,0, []⟩
structure Z0 where
 a:Int
 b:Int
 c:Int
def Z0.z:Z0:=⟨0,0,0⟩
structure VW where
 a:Int
 b:Int
def VW.z:VW:=⟨0,0⟩
structure Z1 where
 a:cC
 b:cC
def Z1.z:Z1:=⟨cC.z,cC.z⟩
structure Z2 where
 name:af
 home:Int
def Z2.z:Z2:=⟨[],0⟩
structure Job where
 id:Int
 target:Int
 state:Int
 xA:Int
def Job.z:Job:=⟨0,0,0,0⟩
structure Js where
 kind:Int
 nums:List Int
 text:af
def Js.z:Js:=⟨0, [], []⟩
inductive Ty where
 | int (k:IntKind)|bool|str
 | dcm|json|raw|raw3|fld|mail|token|stop|way|order|TX|layout|topic|state|ctl|op17|Vp|ev16|ev18|arr3|Z3|dec2|post|job|record
 deriving DecidableEq
def Ty.den:Ty→Type
 | .int _=>Int | .bool=>Bool | .str=>af
 | .dcm=>cC
 | .json=>Json
 | .raw=>Raw
 | .raw3=>R1
 | .fld=>Fld
 | .mail=>ZW
 | .token=>Token
 | .stop=>Stop
 | .way=>Way
 | .order=>Order
 | .TX=>Edge
 | .layout=>Jr
 | .topic=>Qb
 | .state=>State
 | .ctl=>Ctl
 | .op17=>ZX
 | .Vp=>MZ
 | .ev16=>ZY
 | .ev18=>ZZ
 | .arr3=>Z0
 | .Z3=>VW
 | .dec2=>Z1
 | .post=>Z2
 | .job=>Job
 | .record=>Js
def Ty.br:(T:Ty)→T.den
 | .int _=>(0:Int) | .bool=>false | .str=>([]:af)
 | .dcm=>cC.z
 | .json=>Json.z
 | .raw=>Raw.z
 | .raw3=>R1.z
 | .fld=>Fld.z
 | .mail=>ZW.z
 | .token=>Token.z
 | .stop=>Stop.z
 | .way=>Way.z
 | .order=>Order.z
 | .TX=>Edge.z
 | .layout=>Jr.z
 | .topic=>Qb.z
 | .state=>State.z
 | .ctl=>Ctl.z
 | .op17=>ZX.z
 | .Vp=>MZ.z
 | .ev16=>ZY.z
 | .ev18=>ZZ.z
 | .arr3=>Z0.z
 | .Z3=>VW.z
 | .dec2=>Z1.z
 | .post=>Z2.z
 | .job=>Job.z
 | .record=>Js.z
def Ty.sz:Ty→Nat
 | .int _=>1 | .bool=>1 | .str=>1
 | .dcm=>2
 | .json=>6
 | .raw=>5
 | .raw3=>4
 | .fld=>5
 | .mail=>3
 | .token=>5
 | .stop=>3
 | .way=>3
 | .order=>6
 | .TX=>3
 | .layout=>2
 | .topic=>3
 | .state=>10
 | .ctl=>17
 | .op17=>5
 | .Vp=>7
 | .ev16=>9
 | .ev18=>3
 | .arr3=>3
 | .Z3=>2
 | .dec2=>4
 | .post=>2
 | .job=>4
 | .record=>3
inductive Tok where
 | no|nil|own (id:Nat)
inductive V where
 | undef
 | int (k:IntKind) (n:Int)
 | bool (b:Bool)
 | str (s:af)
 | j4
 | ptr (id off:Nat)
 | AG (cs:List V)
 | cG
 | sl (T:Ty) (l:List T.den) (t:Tok)
 | VX (n:Nat) (cs:List V)
 | row (id:Nat) (n:Nat)
 | Kh (id lo n:Nat)
 | xB (id:Nat) (sz:Nat) (i:Nat) (off:Nat)
 | func (f:Nat) (first cap:List V)
 | jS
 | agg (cs:List V)
 | tuple (vs:List V)
 | map (id:Nat)
 | qj
 | eg
 | iface
 | Q2 (t:Nat) (k:IntKind) (n:Int)
 | PD
def V.flat:V→List V
 | .agg cs=>cs
 | v => [v]
def V.one:V→Bool
 | .undef=>false
 | .agg _=>false
 | .tuple _=>false
 | _=>true
def flatK (v:V):Option (List V) :=
 match v with
 | .agg cs=>if cs.all V.one then some cs else none
 | v=>if v.one then some [v]else none
def Ty.cells:(T:Ty)→T.den→List V
 | .int k,(n:Int) => [.int k n]
 | .bool,(b:Bool) => [.bool b]
 | .str,(s:af) => [.str s]
 | .dcm,(x:cC) => [.int .i64 x.au, .int .i64 x.exp]
 | .json,(x:Json) => [.int .i64 x.kind, .int .i64 x.num.au, .int .i64 x.num.exp, .str x.text, .sl .str x.names .no, .sl .json x.items .no]
 | .raw,(x:Raw) => [.int .i64 x.kind, .int .i64 x.au, .int .i64 x.exp, .sl (.int .i64) x.text .no, .sl .raw x.items .no]
 | .raw3,(x:R1) => [.int .i64 x.kind, .int .i64 x.au, .int .i64 x.exp, .sl (.int .i64) x.text .no]
 | .fld,(x:Fld) => [.str x.name, .int .i64 x.kind, .int .i64 x.low, .int .i64 x.high, .bool x.free]
 | .mail,(x:ZW) => [.str x.topic, .str x.data, .bool x.bent]
 | .token,(x:Token) => [.int .i64 x.kind, .str x.text, .int .i64 x.num.au, .int .i64 x.num.exp, .int .i64 x.at_]
 | .stop,(x:Stop) => [.int .i64 x.node, .int .i64 x.seq, .bool x.ER]
 | .way,(x:Way) => [.int .i64 x.TX, .int .i64 x.seq, .bool x.ER]
 | .order,(x:Order) => [.int .i64 x.header, .str x.xA, .int .i64 x.order, .int .i64 x.update, .sl .stop x.nodes .no, .sl .way x.Xn .no]
 | .TX,(x:Edge) => [.int .i64 x.src, .int .i64 x.dst, .int .i64 x.cost]
 | .layout,(x:Jr) => [.int .i64 x.nodes, .sl .TX x.Xn .no]
 | .topic,(x:Qb) => [.str x.maker, .str x.serial, .str x.kind]
 | .state,(x:State) => [.int .i64 x.header, .int .i64 x.boot, .str x.xA, .int .i64 x.order, .int .i64 x.update, .bool x.live, .int .i64 x.node, .int .i64 x.seq, .bool x.driving, .int .i64 x.accepted]
 | .ctl,(x:Ctl) => [.str x.xA, .int .i64 x.header, .int .i64 x.order, .int .i64 x.update, .int .i64 x.boot, .int .i64 x.seen, .sl (.int .i64) x.path .no, .int .i64 x.seq, .bool x.open_, .int .i64 x.rel, .bool x.wait, .int .i64 x.pending.header, .str x.pending.xA, .int .i64 x.pending.order, .int .i64 x.pending.update, .sl .stop x.pending.nodes .no, .sl .way x.pending.Xn .no]
 | .op17,(x:ZX) => [.int .i64 x.kind, .int .i64 x.i, .int .i64 x.k, .int .u8 x.by_, .str x.data]
 | .Vp,(x:MZ) => [.int .i64 x.header, .int .i64 x.order, .int .i64 x.update, .int .i64 x.seq, .int .i64 x.from_, .int .i64 x.ER, .sl (.int .i64) x.turns .no]
 | .ev16,(x:ZY) => [.int .i64 x.kind, .int .i64 x.o.header, .int .i64 x.o.order, .int .i64 x.o.update, .int .i64 x.o.seq, .int .i64 x.o.from_, .int .i64 x.o.ER, .sl (.int .i64) x.o.turns .no, .str x.data]
 | .ev18,(x:ZZ) => [.int .i64 x.kind, .int .i64 x.n, .sl (.int .i64) x.turns .no]
 | .arr3,(x:Z0) => [.int .i64 x.a, .int .i64 x.b, .int .i64 x.c]
 | .Z3,(x:VW) => [.int .i64 x.a, .int .i64 x.b]
 | .dec2,(x:Z1) => [.int .i64 x.a.au, .int .i64 x.a.exp, .int .i64 x.b.au, .int .i64 x.b.exp]
 | .post,(x:Z2) => [.str x.name, .int .i64 x.home]
 | .job,(x:Job) => [.int .i64 x.id, .int .i64 x.target, .int .i64 x.state, .int .i64 x.xA]
 | .record,(x:Js) => [.int .i64 x.kind, .sl (.int .i64) x.nums .no, .str x.text]
def Ki (T:Ty):V→Option (List T.den)
 | .cG=>some []
 | .sl T' l _=>if h:T'=T then some (h▸l)else none
 | _=>none
def Xo (k:IntKind):List V→Option Int
 | [.int k' n]=>if k'=k then some n else none
 | _=>none
def R2:List V→Option Bool
 | [.bool b]=>some b
 | _=>none
def Xp:List V→Option af
 | [.str s]=>some s
 | _=>none
def decDcm:List V→Option cC
 | [.int .i64 a0, .int .i64 a1]=>some ⟨a0,a1⟩
 | _=>none
def decJson:List V→Option Json
 | [.int .i64 a0, .int .i64 a1, .int .i64 a2, .str a3,a4,a5]=>match Ki .str a4,Ki .json a5 with|some b4,some b5=>some ⟨a0,⟨a1,a2⟩,a3,b4,b5⟩|_,_=>none
 | _=>none
def decRaw:List V→Option Raw
 | [.int .i64 a0, .int .i64 a1, .int .i64 a2,a3,a4]=>match Ki (.int .i64) a3,Ki .raw a4 with|some b3,some b4=>some ⟨a0,a1,a2,b3,b4⟩|_,_=>none
 | _=>none
def decRaw3:List V→Option R1
 | [.int .i64 a0, .int .i64 a1, .int .i64 a2,a3]=>match Ki (.int .i64) a3 with|some b3=>some ⟨a0,a1,a2,b3⟩|_=>none
 | _=>none
def decFld:List V→Option Fld
 | [.str a0, .int .i64 a1, .int .i64 a2, .int .i64 a3, .bool a4]=>some ⟨a0,a1,a2,a3,a4⟩
 | _=>none
def decMail:List V→Option ZW
 | [.str a0, .str a1, .bool a2]=>some ⟨a0,a1,a2⟩
 | _=>none
def Xq:List V→Option Token
 | [.int .i64 a0, .str a1, .int .i64 a2, .int .i64 a3, .int .i64 a4]=>some ⟨a0,a1,⟨a2,a3⟩,a4⟩
 | _=>none
def decStop:List V→Option Stop
 | [.int .i64 a0, .int .i64 a1, .bool a2]=>some ⟨a0,a1,a2⟩
 | _=>none
def decWay:List V→Option Way
 | [.int .i64 a0, .int .i64 a1, .bool a2]=>some ⟨a0,a1,a2⟩
 | _=>none
def Xr:List V→Option Order
 | [.int .i64 a0, .str a1, .int .i64 a2, .int .i64 a3,a4,a5]=>match Ki .stop a4,Ki .way a5 with|some b4,some b5=>some ⟨a0,a1,a2,a3,b4,b5⟩|_,_=>none
 | _=>none
def decEdge:List V→Option Edge
 | [.int .i64 a0, .int .i64 a1, .int .i64 a2]=>some ⟨a0,a1,a2⟩
 | _=>none
def TY:List V→Option Jr
 | [.int .i64 a0,a1]=>match Ki .TX a1 with|some b1=>some ⟨a0,b1⟩|_=>none
 | _=>none
def Xs:List V→Option Qb
 | [.str a0, .str a1, .str a2]=>some ⟨a0,a1,a2⟩
 | _=>none
def Xt:List V→Option State
 | [.int .i64 a0, .int .i64 a1, .str a2, .int .i64 a3, .int .i64 a4, .bool a5, .int .i64 a6, .int .i64 a7, .bool a8, .int .i64 a9]=>some ⟨a0,a1,a2,a3,a4,a5,a6,a7,a8,a9⟩
 | _=>none
def decCtl:List V→Option Ctl
 | [.str a0, .int .i64 a1, .int .i64 a2, .int .i64 a3, .int .i64 a4, .int .i64 a5,a6, .int .i64 a7, .bool a8, .int .i64 a9, .bool a10, .int .i64 a11, .str a12, .int .i64 a13, .int .i64 a14,a15,a16]=>match Ki (.int .i64) a6,Ki .stop a15,Ki .way a16 with|some b6,some b15,some b16=>some ⟨a0,a1,a2,a3,a4,a5,b6,a7,a8,a9,a10,⟨a11,a12,a13,a14,b15,b16⟩⟩|_,_,_=>none
 | _=>none
def decOp17:List V→Option ZX
 | [.int .i64 a0, .int .i64 a1, .int .i64 a2, .int .u8 a3, .str a4]=>some ⟨a0,a1,a2,a3,a4⟩
 | _=>none
def Xu:List V→Option MZ
 | [.int .i64 a0, .int .i64 a1, .int .i64 a2, .int .i64 a3, .int .i64 a4, .int .i64 a5,a6]=>match Ki (.int .i64) a6 with|some b6=>some ⟨a0,a1,a2,a3,a4,a5,b6⟩|_=>none
 | _=>none
def decEv16:List V→Option ZY
 | [.int .i64 a0, .int .i64 a1, .int .i64 a2, .int .i64 a3, .int .i64 a4, .int .i64 a5, .int .i64 a6,a7, .str a8]=>match Ki (.int .i64) a7 with|some b7=>some ⟨a0,⟨a1,a2,a3,a4,a5,a6,b7⟩,a8⟩|_=>none
 | _=>none
def decEv18:List V→Option ZZ
 | [.int .i64 a0, .int .i64 a1,a2]=>match Ki (.int .i64) a2 with|some b2=>some ⟨a0,a1,b2⟩|_=>none
 | _=>none
def decArr3:List V→Option Z0
 | [.int .i64 a0, .int .i64 a1, .int .i64 a2]=>some ⟨a0,a1,a2⟩
 | _=>none
def decArr2:List V→Option VW
 | [.int .i64 a0, .int .i64 a1]=>some ⟨a0,a1⟩
 | _=>none
def decDec2:List V→Option Z1
 | [.int .i64 a0, .int .i64 a1, .int .i64 a2, .int .i64 a3]=>some ⟨⟨a0,a1⟩,⟨a2,a3⟩⟩
 | _=>none
def decPost:List V→Option Z2
 | [.str a0, .int .i64 a1]=>some ⟨a0,a1⟩
 | _=>none
def decJob:List V→Option Job
 | [.int .i64 a0, .int .i64 a1, .int .i64 a2, .int .i64 a3]=>some ⟨a0,a1,a2,a3⟩
 | _=>none
def TZ:List V→Option Js
 | [.int .i64 a0,a1, .str a2]=>match Ki (.int .i64) a1 with|some b1=>some ⟨a0,b1,a2⟩|_=>none
 | _=>none
def Ty.dec:(T:Ty)→List V→Option T.den
 | .int k=>Xo k | .bool=>R2 | .str=>Xp
 | .dcm=>decDcm
 | .json=>decJson
 | .raw=>decRaw
 | .raw3=>decRaw3
 | .fld=>decFld
 | .mail=>decMail
 | .token=>Xq
 | .stop=>decStop
 | .way=>decWay
 | .order=>Xr
 | .TX=>decEdge
 | .layout=>TY
 | .topic=>Xs
 | .state=>Xt
 | .ctl=>decCtl
 | .op17=>decOp17
 | .Vp=>Xu
 | .ev16=>decEv16
 | .ev18=>decEv18
 | .arr3=>decArr3
 | .Z3=>decArr2
 | .dec2=>decDec2
 | .post=>decPost
 | .job=>decJob
 | .record=>TZ
def Ty.one:Ty→Bool
 | .int _=>true
 | .bool=>true
 | .str=>true
 | _=>false
def ZR (T:Ty) (x:T.den):V:=bif T.one then (T.cells x).headD .undef else .agg (T.cells x)
def elD (T:Ty):V→Option T.den
 | .agg cs=>bif T.one then none else T.dec cs
 | v=>bif T.one then T.dec [v]else none
def DI:(K:Ty)→K.den→K.den→Bool
 | .str,(a:af),(b:af)=>a==b
 | .int _,(a:Int),(b:Int)=>a==b
 | .Z3,(a:VW),(b:VW)=>a.a==b.a&&(a.b==b.b&&true)
 | _,_,_=>false
def W1:Ty→Bool
 | .str=>true
 | .int _=>true
 | .Z3=>true
 | _=>false
def ma (K T:Ty) (k:K.den):List (K.den×T.den)→T.den
 | []=>T.br
 | e::r=>bif DI K k e.1 then e.2 else ma K T k r
def Lv (K T:Ty) (k:K.den):List (K.den×T.den)→Bool
 | []=>false
 | e::r=>bif DI K k e.1 then true else Lv K T k r
def B2 (K T:Ty) (k:K.den) (v:T.den):List (K.den×T.den)→List (K.den×T.den)
 | [] => [(k,v)]
 | e::r=>bif DI K k e.1 then (k,v)::r else e::B2 K T k v r
inductive bZ where
 | free
 | dead
 | cells (cs:List V)
 | row (T:Ty) (l:List T.den)
 | tok
 | iter (s:af) (pos:Nat)
 
 | ng (v:V)
 | AH (K T:Ty) (l:List (K.den×T.den))
abbrev aR:=List bZ
structure St where
 fr:List V
 hp:aR
inductive TD where
 | bool|int (k:IntKind)|string|ptr (e:Nat)|slice (e:Nat)|arr (n e:Nat)|map (k e:Nat)|struct (fs:List (Nat×Nat))|func|iface|other
structure TI where
 d:TD
 size:Nat
 bytes:Nat
 zero:List V
 ty:Option Ty
 eq:Bool:=false
 
 rowy:Bool:=false
 
 ng:Bool:=false
abbrev dR:=List TI
def TI.none:TI:=⟨.other,0,0, [], .none,false,false,false⟩
def dR.mode (tt:dR) (rs:List Ty):dR:=tt.map fun i => { i with rowy:=match i.ty with|some T=>rs.contains T|none=>false }
def dR.at (tt:dR) (t:Nat):TI:=tt.getD t TI.none
def dR.ok (tt:dR) (t:Nat):Bool:=match (tt.at t).d with | .other=>false|_=>true
def dR.isAgg (tt:dR) (t:Nat):Bool:=match (tt.at t).d with | .struct _=>true | .arr _ _=>true|_=>false
def inK (k:IntKind) (n:Int):Bool:=decide (k.min≤n)&&decide (n≤k.max)
def N0:Value→V
 | .bool b => .bool b
 | .int k n=>if inK k n then .int k n else .undef
 | .string s=>if s.size≤9223372036854775807 then .str s.data.toList else .undef
 | .pointer .none => .j4
 | .slice .none 0 0 => .cG
 | .nilFunc => .jS
 | .map .none => .qj
 | .nilIface => .eg
 | _ => .undef
def ofConst:Value→V
 | .agg cs => .agg (cs.toList.map N0)
 | v=>N0 v
def ev (fr:List V):Operand→V
 | .tmp t=>fr.getD t .undef
 | .const c=>ofConst c
 | .func f => .func f [] []
 | .global _ => .undef
section
variable {R:Type}
def bB (b:Bool) (k:Option R):Option R:=bif b then k else none
def mF:List V→List V→Option Bool
 | [], []=>some true
 | .int k a::x, .int k' b::y=>if k=k' then (match mF x y with|some r=>some (a==b&&r)|none=>none)else none
 | .str a::x, .str b::y=>match mF x y with|some r=>some (a==b&&r)|none=>none
 | .bool a::x, .bool b::y=>match mF x y with|some r=>some (a==b&&r)|none=>none
 | _,_=>none
def eqV (a b:V):Option Bool :=
 match a,b with
 | .bool x, .bool y=>some (x==y)
 | .agg xs, .agg ys=>mF xs ys
 | _,_=>none
def isNilV:V→Option Bool
 | .j4=>some true
 | .ptr _ _=>some false
 | .AG _=>some false
 | .xB _ _ _ _=>some false
 | _=>none
def ptrK {R:Type} (op:BinOp) (a b:V) (k:V→Option R):Option R :=
 match b with
 | .j4 =>
  (match op,isNilV a with
   | .eql,some r=>k (.bool r)
   | .neq,some r=>k (.bool (!r))
   | _,_=>none)
 | _=>none
def M0 {R:Type} (a:V) (k:Option Bool→Option R):Option R :=
 match a with
 | .cG=>k (some true)
 | .sl _ l _=>bif l.isEmpty then k none else k (some false)
 | .row _ n=>bif decide (n=0)then k none else k (some false)
 | _=>none
def Xv (neg:Bool):Option Bool→V
 | none => .PD
 | some r => .bool (bif neg then !r else r)
def slK {R:Type} (op:BinOp) (a b:V) (k:V→Option R):Option R :=
 match b with
 | .cG =>
  (match op with
   | .eql=>M0 a fun r=>k (Xv false r)
   | .neq=>M0 a fun r=>k (Xv true r)
   | _=>none)
 | _=>none
def ifK {R:Type} (op:BinOp) (y:Operand) (a b:V) (k:V→Option R):Option R :=
 match y,b,a,op with
 | .const _, .eg, .eg, .eql=>k (.bool true)
 | .const _, .eg, .eg, .neq=>k (.bool false)
 | .const _, .eg, .iface, .eql=>k (.bool false)
 | .const _, .eg, .iface, .neq=>k (.bool true)
 | .const _, .eg, .Q2 _ _ _, .eql=>k (.bool false)
 | .const _, .eg, .Q2 _ _ _, .neq=>k (.bool true)
 | _,_,_,_=>none
def IH:af→af→Bool
 | _, []=>false
 | [],_::_=>true
 | a::x,b::y=>a<b||(a==b&&IH x y)
def Du (op:BinOp) (x y:V) (k:V→Option R):Option R :=
 match op,x,y with
 | .shl, .int i a, .int _ b=>bB (decide (0≤b)) (k (.int i (i.wrap (a*2 ^ (min b.toNat i.bits)))))
 | .shr, .int i a, .int _ b=>bB (decide (0≤b)) (k (.int i (a.fdiv (2 ^ (min b.toNat i.bits)))))
 | op, .int i a, .int j b =>
  if i=j then
   match op with
   | .add=>k (.int i (i.wrap (a+b)))
   | .sub=>k (.int i (i.wrap (a - b)))
   | .mul=>k (.int i (i.wrap (a*b)))
   | .quo=>bB (!decide (b=0)) (k (.int i (i.wrap (a.tdiv b))))
   | .rem=>bB (!decide (b=0)) (k (.int i (a.tmod b)))
   | .and=>k (.int i (i.wrap (BitVec.ofInt i.bits a &&& BitVec.ofInt i.bits b).toNat))
   | .or=>k (.int i (i.wrap (BitVec.ofInt i.bits a ||| BitVec.ofInt i.bits b).toNat))
   | .xor=>k (.int i (i.wrap (BitVec.ofInt i.bits a ^^^ BitVec.ofInt i.bits b).toNat))
   | .eql=>k (.bool (a==b))
   | .neq=>k (.bool (a != b))
   | .lss=>k (.bool (decide (a<b)))
   | .leq=>k (.bool (decide (a≤b)))
   | .gtr=>k (.bool (decide (a>b)))
   | .geq=>k (.bool (decide (a≥b)))
   | _=>none
  else none
 | op, .str a, .str b =>
  match op with
  | .add=>bB (decide (a.length+b.length≤9223372036854775807)) (k (.str (a++b)))
  | .eql=>k (.bool (a==b))
  | .neq=>k (.bool (!(a==b)))
  | .lss=>k (.bool (IH a b))
  | .leq=>k (.bool (IH a b||a==b))
  | .gtr=>k (.bool (!(IH a b||a==b)))
  | .geq=>k (.bool (!(IH a b)))
  | _=>none
 | .eql,a,b=>match eqV a b with|some r=>k (.bool r)|none=>none
 | .neq,a,b=>match eqV a b with|some r=>k (.bool (!r))|none=>none
 | _,_,_=>none
def vP (tt:dR) (t:Nat) (cs:List V) (off:Nat) (k:V→Option R):Option R :=
 if tt.ok t then
  if tt.isAgg t then (if off+(tt.at t).size≤cs.length then k (.agg ((cs.drop off).take (tt.at t).size))else none)
  else (match cs[off]? with|some v=>k v|none=>none)
 else none
def Qc (cells:List V):List (Nat×Nat×V)→Option (List V)
 | []=>some cells
 | (off,size,v)::rest =>
  match flatK v with
  | some vs=>if vs.length=size&&off+size≤cells.length then Qc (cells.take off++vs++cells.drop (off+size)) rest else none
  | none=>none
def idxOf (i:V) (k:Int→Option R):Option R:=match i with | .int _ n=>k n|_=>none
def N1 (v:Option V) (d:Int) (k:Int→Option R):Option R :=
 match v with
 | none=>k d
 | some (.int _ n)=>k n
 | some _=>none
def fU:List V→List V→Bool
 | [], []=>true
 | .int k _::z, .int k' _::c=>decide (k=k')&&fU z c
 | .str _::z, .str _::c=>fU z c
 | .bool _::z, .bool _::c=>fU z c
 | _,_=>false
def eqOk (i:TI) (a b:List V):Bool:=i.eq&&fU i.zero a&&fU i.zero b
def opP (tt:dR) (o:Op) (ρ:Operand→V) (k:V→Option R):Option R :=
 match o with
 | .move x=>k (ρ x)
 | .assign x=>k (ρ x)
 | .pick c a b =>
  match ρ c with
  | .bool t =>
   (match ρ a,ρ b with
    | .bool u, .bool v=>k (.bool (bif t then u else v))
    | u,v=>bif t then k u else k v)
  | _=>none
 | .nilCheck x =>
  match ρ x with
  | .ptr i o=>k (.ptr i o)
  | .AG cs=>k (.AG cs)
  | .xB i n j o=>k (.xB i n j o)
  | .func f a b=>k (.func f a b)
  | _=>none
 | .binOp op t x y _ =>
  match ρ x,ρ y with
  | .agg a, .agg b=>if eqOk (tt.at t) a b then Du op (.agg a) (.agg b) k else none
  | .bool a, .bool b=>(match (tt.at t).d with | .bool=>Du op (.bool a) (.bool b) k|_=>none)
  | .int i a, .int j b=>Du op (.int i a) (.int j b) k
  | .str a, .str b=>Du op (.str a) (.str b) k
  | a,b=>(match (tt.at t).d with | .ptr _=>ptrK op a b k | .slice _=>slK op a b k | .iface=>ifK op y a b k|_=>none)
 | .unOp op _ x =>
  match op,ρ x with
  | .neg, .int i n=>k (.int i (i.wrap (0 - n)))
  | .not, .bool b=>k (.bool (!b))
  | _,_=>none
 | .convert s d x =>
  if !tt.ok s then none else
  match (tt.at d).d,ρ x with
  | .int i, .int _ n=>k (.int i (i.wrap n))
  | .string, .str t=>(match (tt.at s).d with | .string=>k (.str t)|_=>none)
  | _,_=>none
 | .makeInterface t x =>
  match (tt.at t).d,ρ x with
  | .int _, .int i n=>k (.Q2 t i n)
  | _,_=>none
 | .fieldAddr s x f =>
  match (tt.at s).d with
  | .struct fs =>
   (match fs[f]? with
    | some (off,t) =>
     if (tt.at t).size=0 || !tt.ok t then none else
     (match ρ x with
     | .ptr i o=>k (.ptr i (o+off))
     | .AG cs=>k (.AG (cs.drop off))
     | .xB i n j o=>k (.xB i n j (o+off))
     | _=>none)
    | none=>none)
  | _=>none
 | .field s x f =>
  match (tt.at s).d,ρ x with
  | .struct fs, .agg cs=>(match fs[f]? with|some (off,t)=>vP tt t cs off k|none=>none)
  | _,_=>none
 | .indexAddr t x i =>
  idxOf (ρ i) fun n =>
  match (tt.at t).d,ρ x with
  | .slice e, .sl T l _=>if T.sz=(tt.at e).size&&tt.ok e then bB (decide (0≤n)&&decide (n<l.length)) (k (.AG (T.cells (l.getD n.toNat T.br))))else none
  | .slice e, .row id m=>if tt.ok e then bB (decide (0≤n)&&decide (n<m)) (k (.xB id (tt.at e).size n.toNat 0))else none
  | .arr m e, .ptr id o=>if tt.ok e then bB (decide (0≤n)&&decide (n<m)) (k (.ptr id (o+n.toNat*(tt.at e).size)))else none
  | .slice e, .VX m cs=>if tt.ok e&&decide ((tt.at e).size≠0)&&decide (cs.length=m*(tt.at e).size)then bB (decide (0≤n)&&decide (n<m)) (k (.AG (cs.drop (n.toNat*(tt.at e).size))))else none
  | _,_=>none
 | .index t x i =>
  idxOf (ρ i) fun n =>
  match (tt.at t).d,ρ x with
  | .string, .str s=>bB (decide (0≤n)&&decide (n<s.length)) (k (.int .u8 (s.getD n.toNat 0).toNat))
  | .arr m e, .agg cs=>bB (decide (0≤n)&&decide (n<m)) (vP tt e cs (n.toNat*(tt.at e).size) k)
  | _,_=>none
 | .slice t x lo hi mx =>
  match mx with
  | some _=>none
  | none =>
   (match (tt.at t).d,ρ x with
    | .string, .str s =>
     N1 (hi.map ρ) s.length fun h=>N1 (lo.map ρ) 0 fun l =>
     bB (decide (0≤h)&&decide (h≤s.length)) (bB (decide (0≤l)&&decide (l≤h)) (k (.str ((s.drop l.toNat).take (h.toNat - l.toNat)))))
    | .slice e, .sl T s _ =>
     if T.sz=(tt.at e).size&&tt.ok e then
     N1 (lo.map ρ) 0 fun l =>
     (match hi with
     | none=>bB (decide (0≤l)&&decide (l≤s.length)) (k (.sl T (s.drop l.toNat) .no))
     | some hi =>
      N1 (some (ρ hi)) 0 fun h =>
      bB (decide (0≤h)&&decide (h≤s.length)) (bB (decide (0≤l)&&decide (l≤h)) (k (.sl T ((s.drop l.toNat).take (h.toNat - l.toNat)) .no))))
     else none
    | .slice e, .cG =>
     if !tt.ok e then none else
     N1 (hi.map ρ) 0 fun h=>N1 (lo.map ρ) 0 fun l=>bB (decide (h=0)&&decide (l=0)) (k .cG)
    | _,_=>none)
 | .makeFunc (.func f) first cap=>k (.func f (first.toList.map ρ) (cap.toList.map ρ))
 | .extract t i=>match ρ t with | .tuple vs=>(match vs[i]? with|some v=>k v|none=>none)|_=>none
 | .build t parts =>
  match (tt.at t).d with
  | .struct fs =>
   if !fs.all (fun f=>tt.ok f.2) || !tt.ok t||decide (1000000≤(tt.at t).zero.length)then none else
   (match Qc (tt.at t).zero (parts.toList.map fun (i,x)=>((fs.getD i (0,0)).1,if i<fs.length then (tt.at (fs.getD i (0,0)).2).size else 1000000,ρ x))with
    | some cs=>k (.agg cs)|none=>none)
  | .arr _ e =>
   if !tt.ok e || !tt.ok t||decide (1000000≤(tt.at t).zero.length)then none else
   (match Qc (tt.at t).zero (parts.toList.map fun (i,x)=>(i*(tt.at e).size,(tt.at e).size,ρ x))with
    | some cs=>k (.agg cs)|none=>none)
  | _=>none
 | .call c =>
  match c.callee,c.args.toList with
  | .builtin .len, [x] =>
   (match c.argTypes.toList with
    | [t] =>
     (match (tt.at t).d,ρ x with
     | .string, .str s=>k (.int .i64 s.length)
     | .slice _, .sl _ l _=>k (.int .i64 l.length)
     | .slice _, .VX n _=>k (.int .i64 n)
     | .slice _, .row _ n=>k (.int .i64 n)
     | .slice _, .cG=>k (.int .i64 0)
     | _,_=>none)
    | _=>none)
  | .builtin .min, [x,y]=>(match ρ x,ρ y with | .int i a, .int j b=>if i=j then k (.int i (min a b))else none|_,_=>none)
  | .builtin .max, [x,y]=>(match ρ x,ρ y with | .int i a, .int j b=>if i=j then k (.int i (max a b))else none|_,_=>none)
  | _,_=>none
 | _=>none
end
def aR.at (h:aR) (i:Nat):bZ:=h.getD i .dead
def Tok.sK (ρ:Nat→Option Nat):Tok→Tok
 | .own i=>match ρ i with|some j => .own j|none => .no
 | t=>t
mutual
def V.sK (ρ:Nat→Option Nat):V→V
 | .ptr i o=>match ρ i with|some j => .ptr j o|none => .undef
 | .sl T l t => .sl T l (t.sK ρ)
 | .row i n=>match ρ i with|some j => .row j n|none => .undef
 | .Kh i q n=>match ρ i with|some j => .Kh j q n|none => .undef
 | .xB i n k o=>match ρ i with|some j => .xB j n k o|none => .undef
 | .map i=>match ρ i with|some j => .map j|none => .undef
 | .func f a b => .func f (V.DQ ρ a) (V.DQ ρ b)
 | .agg cs => .agg (V.DQ ρ cs)
 | .tuple vs => .tuple (V.DQ ρ vs)
 | .AG cs => .AG (V.DQ ρ cs)
 | .VX n cs => .VX n (V.DQ ρ cs)
 | v=>v
def V.DQ (ρ:Nat→Option Nat):List V→List V
 | [] => []
 | v::vs=>v.sK ρ::V.DQ ρ vs
end
def bZ.sK (ρ:Nat→Option Nat):bZ→bZ
 | .cells cs => .cells (V.DQ ρ cs)
 | .ng v => .ng (v.sK ρ)
 | o=>o
mutual
def V.ids:V→List Nat
 | .ptr i _ => [i]
 | .sl _ _ (.own i) => [i]
 | .row i _ => [i]
 | .Kh i _ _ => [i]
 | .xB i _ _ _ => [i]
 | .map i => [i]
 | .func _ a b=>V.wJ a++V.wJ b
 | .agg cs=>V.wJ cs
 | .tuple vs=>V.wJ vs
 | .AG cs=>V.wJ cs
 | .VX _ cs=>V.wJ cs
 | _ => []
def V.wJ:List V→List Nat
 | [] => []
 | v::vs=>v.ids++V.wJ vs
end
def bZ.ids:bZ→List Nat
 | .cells cs=>V.wJ cs
 | .ng v=>v.ids
 | _ => []
def reach (h:aR):Nat→List Nat→List Nat→List Nat
 | 0,_,seen=>seen
 | _+1, [],seen=>seen
 | n+1,i::todo,seen=>if seen.contains i then reach h n todo seen else reach h n (todo++(h.at i).ids) (seen ++ [i])
def DJ (ord:List Nat) (i:Nat):Option Nat:=let p:=ord.idxOf i; if p<ord.length then some p else none
def aR.pick (h:aR) (ord:List Nat):aR:=ord.map fun i=>(h.at i).sK (DJ ord)
def rO (ord:List Nat) (n:Nat) (j:Nat):Nat:=if j<ord.length then ord.getD j 0 else n+(j - ord.length)
def aR.Fq (h:aR):List (Nat×bZ)→aR
 | []=>h
 | (i,o)::r=>aR.Fq (h.set i o) r
def aR.back (h:aR) (ord:List Nat) (h':aR):aR :=
 let ρ:=fun j=>some (rO ord h.length j)
 aR.Fq h (ord.zip ((h'.take ord.length).map (bZ.sK ρ)))++(h'.drop ord.length).map (bZ.sK ρ)
section
variable {R:Type}
abbrev Spec (R:Type):=List V→aR→(V→aR→Option R)→Option R
def qk (l:List Int):af:=l.flatMap fun n=>(Utf8.encode n).data.toList
def B3 (tt:dR) (t:Nat):Ty→Bool
 | .str=>(match (tt.at t).d with | .string=>true|_=>false)
 | .int k=>(match (tt.at t).d with | .int k'=>decide (k'=k)|_=>false)
 | _=>false
def Fs (tt:dR) (t:Nat):Ty→Bool
 | .bool=>(match (tt.at t).d,(tt.at t).zero with | .bool, [.bool false]=>true|_,_=>false)
 | .int k=>(match (tt.at t).d,(tt.at t).zero with | .int _, [.int k' 0]=>decide (k'=k)|_,_=>false)
 | _=>false
def M1 (lim:Option Nat) (i:Nat):Bool:=match lim with|none=>true|some m=>decide (i<m)
def opR (tt:dR) (o:Op) (ρ:Operand→V) (h:aR) (lim:Option Nat) (k:V→Option R):Option R :=
 match o with
 | .load t x =>
  match ρ x with
  | .ptr i o =>
   if M1 lim i then
    match h.at i with
    | .cells cs=>vP tt t cs o k
    | .ng v=>vP tt t [.undef,v] o k
    | _=>none
   else none
  | .AG cs=>vP tt t cs 0 k
  | .xB i sz j o =>
   if M1 lim i then
    match h.at i with
    | .row T l=>if sz=T.sz then bB (decide (j<l.length)) (vP tt t (T.cells (l.getD j T.br)) o k)else none
    | _=>none
   else none
  | _=>none
 | .lookup t x ix ok =>
  match (tt.at t).d,ρ x with
  | .map kt vt, .map i =>
   if M1 lim i then
    match h.at i with
    | .AH K T l =>
     if B3 tt kt K&&Fs tt vt T then
      match elD K (ρ ix)with
      | some kx=>bif ok then k (.tuple [ZR T (ma K T kx l), .bool (Lv K T kx l)])else k (ZR T (ma K T kx l))
      | none=>none
     else none
    | _=>none
   else none
  | _,_=>none
 | .convert s d x =>
  match (tt.at d).d,(tt.at s).d,ρ x with
  | .string, .slice e, .row i _ =>
   if M1 lim i then
    match (tt.at e).d,h.at i with
    | .int .u8, .row (.int .u8) l=>k (.str ((l:List Int).map fun n=>UInt8.ofNat n.toNat))
    | _,_=>none
   else none
  | .string, .slice e, .sl T l _ =>
   match (tt.at e).d,T,l with
   | .int .u8, .int .u8,l=>k (.str ((l:List Int).map fun n=>UInt8.ofNat n.toNat))
   | .int .i32, .int .i32,l=>bB (decide (4*l.length≤9223372036854775807)) (k (.str (qk l)))
   | _,_,_=>none
  | .string, .slice e, .cG=>match (tt.at e).d with | .int .u8=>k (.str [])|_=>none
  | _,_,_=>none
 | _=>none
def Q3 (s:af):List (Ty.den (.int .u8)):=(s.map fun b=>(b.toNat:Int):List Int)
def AI (T:Ty):List (List V)→Option (List T.den)
 | []=>some []
 | c::cs=>match T.dec c,AI T cs with|some x,some xs=>some (x::xs)|_,_=>none
def chunks (n:Nat):Nat→List V→List (List V)
 | 0,_ => []
 | m+1,l=>l.take n::chunks n m (l.drop n)
def Kj (ρ:Operand→V):Option Operand→Bool
 | none=>true
 | some x=>(match ρ x with | .int _ _=>true|_=>false)
def opA (tt:dR) (o:Op) (ρ:Operand→V) (k:bZ→(Nat→V)→Option R):Option R :=
 match o with
 | .alloc t=>if (tt.at t).ng then k (.ng .cG) fun i => .ptr i 0 else if tt.ok t then k (.cells (tt.at t).zero) fun i => .ptr i 0 else none
 | .box t x=>match flatK (ρ x)with|some cs=>if tt.ok t&&decide (cs.length=(tt.at t).size)then k (.cells cs) fun i => .ptr i 0 else none|none=>none
 | .buildSlice t len parts =>
  match (tt.at t).d with
  | .slice e =>
   let sz:=(tt.at e).size
   if sz=0||decide (len*sz>4096) || !tt.ok e then none else
   (match Qc ((List.replicate len (tt.at e).zero).flatten) (parts.toList.map fun (i,x)=>(i*sz,sz,ρ x)),(tt.at e).ty with
    | some cs,some T =>
     if T.sz=sz then
      if ((tt.at e).rowy&&decide (len=0))=true then k (.row T []) fun i => .row i 0 else
      (match AI T (chunks sz len cs)with|some l=>k .tok fun i => .sl T l (.own i)|none=>k .dead fun _ => .VX len cs)
     else none
    | some cs,none=>k .dead fun _ => .VX len cs
    | none,_=>none)
  | _=>none
 | .makeSlice t n c =>
  match (tt.at t).d,ρ n,ρ c with
  | .slice e, .int _ a, .int _ b =>
   (match (tt.at e).ty with
    | some T =>
     (match T.dec (tt.at e).zero with
     | some z=>if T.sz=(tt.at e).size&&tt.ok e then bB (decide (0≤a)&&decide (a=b)&&decide (a*(tt.at e).bytes≤140737488355328)&&decide (a≤140737488355328)) (k (.row T (List.replicate a.toNat z)) fun i => .row i a.toNat)else none
     | none=>none)
    | none=>none)
  | _,_,_=>none
 | .convert s d x =>
  match (tt.at s).d,(tt.at d).d,ρ x with
  | .string, .slice e, .str t =>
   (match (tt.at e).d with
    | .int .u8=>k (.row (.int .u8) (Q3 t)) fun i => .row i t.length
    | _=>none)
  | _,_,_=>none
 | .makeMap t rsv =>
  if Kj ρ rsv then
  match (tt.at t).d with
  | .map kt vt =>
   (match (tt.at kt).ty,(tt.at vt).ty with
    | some K,some T=>if B3 tt kt K&&Fs tt vt T then k (.AH K T []) fun i => .map i else none
    | _,_=>none)
  | _=>none
  else none
 | .range t x=>match (tt.at t).d,ρ x with | .string, .str s=>k (.iter s 0) fun i => .ptr i 0|_,_=>none
 | _=>none
def Ft (cs:List V) (o:Nat) (vs:List V):List V:=cs.take o++vs++cs.drop (o+vs.length)
def Vq (T:Ty) (h:aR):V→Option (List T.den)
 | .cG=>some []
 | .sl T' l _=>if e:T'=T then some (e▸l)else none
 | .row i _=>match h.at i with | .row T' l=>if e:T'=T then some (e▸l)else none|_=>none
 | .VX n cs=>if cs.length=n*T.sz then AI T (chunks T.sz n cs)else none
 | .str s=>if e:T = .int .u8 then some (e▸Q3 s)else none
 | _=>none
def pT (tt:dR) (e:Nat) (s x:V) (h:aR) (id:Nat) (k:V→aR→Option R):Option R :=
 match (tt.at e).ty with
 | some T =>
  if T.sz=(tt.at e).size&&(tt.at e).bytes != 0&&tt.ok e then
  (match Vq T h x with
   | some m =>
    let room (n:Nat) (q:Option R):Option R:=bB (decide ((n+m.length)*(tt.at e).bytes≤140737488355328)) q
    (match s with
    | .cG=>room 0 (if (tt.at e).rowy then k (.row id m.length) (h.set id (.row T m))else k (.sl T m (.own id)) (h.set id .tok))
    | .sl T' l tk =>
     if q:T'=T then
      let l':List T.den:=q▸l
      (match tk with
       | .no=>none
       | .nil=>room l.length (k (.sl T (l'++m) (.own id)) (h.set id .tok))
       | .own i=>(match h.at i with | .tok=>room l.length (k (.sl T (l'++m) (.own id)) ((h.set i .dead).set id .tok))|_=>none))
     else none
    | .row i _ =>
     (match h.at i with
      | .row T' l =>
       if q:T'=T then
        let l':List T.den:=q▸l
        room l.length (k (.row id (l'.length+m.length)) ((h.set i .dead).set id (.row T (l'++m))))
       else none
      | _=>none)
    | _=>none)
   | none=>none)
  else none
 | none=>none
def mS (s:af) (pos:Nat):Nat×Nat:=Utf8.decode ⟨s.toArray⟩ pos
def Kk (tt:dR) (t:Nat) (v:V) (h:aR) (k:V→aR→Option R):Option R :=
 match (tt.at t).d,v with
 | .arr m e, .ptr i 0 =>
  (match h.at i with
   | .cells cs =>
    (match (tt.at e).ty with
    | some T =>
     if T.sz=(tt.at e).size&&tt.ok e&&decide (cs.length=m*T.sz)&&decide (m≠0)&&decide (m≤4096)then
      match AI T (chunks T.sz m cs)with
      | some l=>k (.sl T l .no) (h.set i .dead)
      | none=>none
     else none
    | none=>none)
   | _=>none)
 | _,_=>none
def W2 (tt:dR) (o:Op) (ρ:Operand→V) (h:aR) (id:Nat) (k:V→aR→Option R):Option R :=
 match o with
 | .slice t x lo hi mx=>bif lo.isNone&&hi.isNone&&mx.isNone then Kk tt t (ρ x) h k else none
 | .store t x y =>
  match flatK (ρ y)with
  | none=>none
  | some vs =>
  if tt.ok t&&decide (vs.length=(tt.at t).size)then
   match ρ x with
   | .ptr i o =>
    (match h.at i with
     | .cells cs=>if o+vs.length≤cs.length then k .undef (h.set i (.cells (Ft cs o vs)))else none
     | .ng _=>(match o,vs with|1, [v]=>k .undef (h.set i (.ng v))|_,_=>none)
     | _=>none)
   | .xB i sz j o =>
    (match h.at i with
     | .row T l =>
      if sz=T.sz then
      let cs:=T.cells (l.getD j T.br)
      if o+vs.length≤cs.length then
       (match T.dec (Ft cs o vs)with
       | some y=>bB (decide (j<l.length)) (k .undef (h.set i (.row T (l.set j y))))
       | none=>none)
      else none
      else none
     | _=>none)
   | _=>none
  else none
 | .call c =>
  match c.callee,c.args.toList,c.argTypes.toList with
  | .builtin .append, [s,x], [t,xt] =>
   (match (tt.at t).d,(tt.at xt).d with
    | .slice e, .slice _=>pT tt e (ρ s) (ρ x) h id k
    | .slice e, .string=>pT tt e (ρ s) (ρ x) h id k
    | _,_=>none)
  | _,_,_=>none
 | .mapUpdate t m x y =>
  match (tt.at t).d,ρ m with
  | .map kt vt, .map i =>
   (match h.at i with
    | .AH K T l =>
     if B3 tt kt K&&Fs tt vt T then
      match elD K (ρ x),elD T (ρ y)with
      | some kx,some vx=>k .undef (h.set i (.AH K T (B2 K T kx vx l)))
      | _,_=>none
     else none
    | _=>none)
  | _,_=>none
 | .insert t m x y =>
  match (tt.at t).d,ρ m with
  | .map kt vt, .map i =>
   (match h.at i with
    | .AH K T l =>
     if B3 tt kt K&&Fs tt vt T then
      match elD K (ρ x),elD T (ρ y)with
      | some kx,some vx=>k .undef (h.set i (.AH K T (B2 K T kx vx l)))
      | _,_=>none
     else none
    | _=>none)
  | _,_=>none
 | .next x str =>
  match str,ρ x with
  | true, .ptr i 0 =>
   (match h.at i with
    | .iter s pos=>bif decide (pos<s.length)then k (.tuple [.bool true, .int .i64 pos, .int .i32 (mS s pos).1]) (h.set i (.iter s (pos+(mS s pos).2)))else k (.tuple [.bool false]) h
    | _=>none)
  | _,_=>none
 | _=>none
mutual
def V.shut (h:aR):V→V
 | .sl T l _ => .sl T l .no
 | .row i _=>match h.at i with | .row T l => .sl T l .no|_ => .undef
 | .agg cs => .agg (V.Vr h cs)
 | .tuple vs => .tuple (V.Vr h vs)
 | v=>v
def V.Vr (h:aR):List V→List V
 | [] => []
 | v::vs=>v.shut h::V.Vr h vs
end
def V.scal1:V→Bool
 | .int _ _ | .bool _ | .str _ | .j4 | .cG | .qj | .jS | .eg | .iface | .Q2 _ _ _=>true
 | _=>false
def V.scal:V→Bool
 | .tuple vs=>vs.all V.scal1
 | .agg vs=>vs.all V.scal1
 | v=>v.scal1
inductive Cls where
 | P|R|A|W|C|F|X
 deriving DecidableEq
def gb (tt:dR):Op→Cls
 | .move _ | .assign _ | .pick _ _ _ | .nilCheck _ | .binOp _ _ _ _ _ | .unOp _ _ _ | .fieldAddr _ _ _ | .field _ _ _ | .indexAddr _ _ _ | .index _ _ _
 | .makeFunc _ _ _ | .extract _ _ | .build _ _ | .makeInterface _ _ => .P
 | .slice t _ _ _ _=>match (tt.at t).d with | .arr _ _ => .W|_ => .P
 | .convert s d _ =>
  match (tt.at s).d,(tt.at d).d with
  | .slice _, .string => .R
  | .string, .slice _ => .A
  | _,_ => .P
 | .load _ _ => .R
 | .lookup _ _ _ _ => .R
 | .alloc _ | .box _ _ | .buildSlice _ _ _ | .makeSlice _ _ _ | .range _ _ | .makeMap _ _ => .A
 | .store _ _ _ => .W
 | .mapUpdate _ _ _ _ => .W
 | .insert _ _ _ _ => .W
 | .next _ str=>bif str then .W else .X
 | .call c=>match c.callee with
  | .builtin .len => .P | .builtin .min => .P | .builtin .max => .P
  | .builtin .append => .W
  | .builtin _ => .X
  | .value _ => .C
  | .invoke _ _ => .X
 | _ => .X
def mT (fr:List V) (dst:Option Nat) (v:V):List V:=match dst with|some d=>fr.set d v|none=>fr
def Xw:V→V
 | .sl T l _ => .sl T l .no
 | v=>v
def Lw:V→V
 | .sl T l _ => .sl T l .no
 | .agg cs => .agg (cs.map Xw)
 | v=>v
abbrev Env (R:Type):=Nat→Option (Bool×Spec R)
def pU (E:Env R) (o:Op):Bool :=
 match o with
 | .call c=>(match c.callee with | .value (.func g)=>(match E g with|some (b,_)=>b|none=>false) | .value (.tmp _)=>true|_=>false)
 | _=>false
def mU (E:Env R) (o:Op):Bool :=
 match o with
 | .call c=>(match c.callee with | .value (.func g)=>pX.soft g&&(match E g with|some (false,_)=>true|_=>false)|_=>false)
 | _=>false
def sk:Op→Bool
 | .call c=>(match c.callee with | .builtin .append=>true|_=>false)
 | _=>false
def lowS (id:Nat):V→Bool | .row _ _=>false | .sl _ _ (.own i)=>decide (i<id)|_=>true
def lowX (id:Nat):V→Bool | .row i _=>decide (i<id)|_=>true
def AJ (o:Op) (ρ:Operand→V) (id:Nat):Bool :=
 match o with
 | .call c=>(match c.args.toList with | [s,x]=>lowS id (ρ s)&&lowX id (ρ x)|_=>true)
 | _=>true
def eJ (tt:dR) (E:Env R) (o:Op):Cls:=match gb tt o with | .C=>bif pU E o then .C else .F|c=>c
def canon (tt:dR) (t:Nat) (v:V):V :=
 match (tt.at t).ty with
 | some T =>
  (match v with
   | .agg cs=>(match T.dec cs with|some x=>if tt.isAgg t then .agg (T.cells x)else v|none=>v)
   | v=>(match T.dec [v]with|some x=>if tt.isAgg t then v else (match T.cells x with | [c]=>c|_=>v)|none=>v))
 | none =>
  (match (tt.at t).d with
   | .slice e=>(match (tt.at e).ty with|some T=>(match Ki T v with|some l => .sl T l .no|none=>v)|none=>v)
   | _=>v)
def Q4 (tt:dR):List Nat→List V→List V
 | t::ts,v::vs=>canon tt t v::Q4 tt ts vs
 | _,vs=>vs
def lendK (sp:Spec R) (vs:List V) (h:aR) (k:V→aR→Option R):Option R :=
 match V.wJ vs with
 | []=>sp vs [] fun v h'=>(match h' with | []=>bif v.scal then k v h else none|_::_=>none)
 | _::_=>none
def DK (tt:dR) (E:Env R) (full:Bool) (c:Call) (ρ:Operand→V) (h:aR) (k:V→aR→Option R):Option R :=
 match c.callee with
 | .value f =>
  match ρ f with
  | .func g first cap =>
   let vs:=first++c.args.toList.map ρ++cap
   (match E g with
    | some (true,sp) =>
     let ps:=(first++Q4 tt c.argTypes.toList (c.args.toList.map ρ)++cap).map Lw
     (match V.wJ ps with
     | []=>sp ps [] fun v h'=>(match h' with | []=>k v h|_::_=>none)
     | _::_=>bif full then lendK sp (V.Vr h ps) h k else none)
    | some (false,sp) =>
     bif full then
      bif pX.soft g then sp vs h k else
      let ord:=reach h 64 (V.wJ vs) []
      sp (V.DQ (DJ ord) vs) (h.pick ord) fun v h'=>k (v.sK fun j=>some (rO ord h.length j)) (h.back ord h')
     else none
    | none=>none)
  | _=>none
 | _=>none
def ES (tt:dR) (E:Env R) (drawn:Option Nat) (id:Nat) (o:Oper) (st:St) (k:St→Option R):Option R :=
 let ρ:=ev st.fr
 match gb tt o.op with
 | .P=>opP tt o.op ρ fun v=>k ⟨mT st.fr o.dst v,st.hp⟩
 | .R=>opR tt o.op ρ st.hp drawn fun v=>k ⟨mT st.fr o.dst v,st.hp⟩
 | .A=>opA tt o.op ρ fun ob mk=>k ⟨mT st.fr o.dst (mk id),st.hp.set id ob⟩
 | .W=>bif drawn.isSome && !AJ o.op ρ id then none else W2 tt o.op ρ st.hp id fun v h=>k ⟨mT st.fr o.dst v,h⟩
 | .C=>match o.op with | .call c=>DK tt E (drawn.isNone || !pU E o.op) c ρ st.hp fun v h=>k ⟨mT st.fr o.dst v,h⟩|_=>none
 | .F=>none
 | .X=>none
def cm (tt:dR) (o:Oper):Bool:=match gb tt o.op with | .A=>true | .W=>true|_=>false
def AK (all:List Oper) (o:Oper) (st:St) (run skip:St→Option R):Option R :=
 match o.guard with
 | none=>run st
 | some (j,want) =>
  match ((all[j]?).bind (·.dst))with
  | none=>none
  | some d =>
   match st.fr.getD d .undef with
   | .bool b =>
    bif b then (if want then run ⟨st.fr.set d (.bool true),st.hp⟩else skip ⟨st.fr.set d (.bool true),st.hp⟩)
    else (if want then skip ⟨st.fr.set d (.bool false),st.hp⟩else run ⟨st.fr.set d (.bool false),st.hp⟩)
   | .tuple []=>skip st
   | _=>none
def Xx {α β:Type} (l:List α) (k:List α→β):β :=
 List.rec (motive:=fun _=>(List α→β)→β) (fun k=>k []) (fun v _ ih k=>ih fun r=>k (v::r)) l k
theorem Kl {α β:Type}:∀(l:List α) (k:List α→β),Xx l k=k l
 | [],_=>rfl
 | v::l,k=>Kl l fun r=>k (v::r)
def Pn {β:Type} (st:St) (k:St→β):β:=Xx st.fr fun fr=>Xx st.hp fun hp=>k ⟨fr,hp⟩
theorem Lx {β:Type} (st:St) (k:St→β):Pn st k=k st:=by unfold Pn; rw[Kl,Kl]
def Xy (tt:dR) (E:Env R) (drawn:Option Nat) (all:List Oper):List Oper→Nat→St→(St→Option R)→Option R
 | [],_,st,k=>k st
 | o::rest,id,st,k =>
  let id':=if cm tt o then id+1 else id
  AK all o st (fun st=>ES tt E drawn id o st fun st=>Pn st fun st=>Xy tt E drawn all rest id' st k)
   (fun st=>Pn ⟨mT st.fr o.dst (.tuple []),st.hp⟩ fun st=>Xy tt E drawn all rest id' st k)
def W3 (M:List Nat) (es:List Nat):Nat:=es.foldl (fun m e=>m ||| (Nat.pow 2 e ||| M.getD e 0)) 0
def Ly (o:Oper):List Nat:=(o.after.toList.filter fun e=>Region.binds .any e).map (·.on)
def R3 (ops:List Oper):List Nat:=ops.foldl (init := []) fun M o=>M ++ [W3 M (Ly o)]
def beforeL (n:Nat) (M:List Nat):List (List Nat):=(List.range n).map fun j=>(List.range n).filter fun i=>(M.getD j 0).testBit i
def looks (all:List Oper) (o:Oper):List Nat :=
 (o.op.operands.toList.filterMap fun | .tmp t=>some t|_=>none) ++
 (match o.guard with|some (g,_)=>((all[g]?).bind (·.dst)).toList|none => [])
def DR (all:List Oper) (x y:Oper):Bool :=
 (match x.dst with|some d => !(looks all y).contains d&&y.dst != some d|none=>true) &&
 (match y.dst with|some d => !(looks all x).contains d|none=>true)
def Qd (a b:Cls):Bool :=
 match a,b with
 | .X,_|_, .X=>false
 | .P,_|_, .P=>true
 | .C, .R | .C, .A | .R, .C | .A, .C=>true
 | .R, .R | .R, .A | .A, .R | .A, .A=>true
 | _,_=>false
def tokPair (tt:dR) (E:Env R) (x y:Op):Bool :=
 ((sk x&&(match eJ tt E y with | .A | .R=>true|_=>false))||((match eJ tt E x with | .R=>true|_=>false)&&sk y)) ||
  ((mU E x&&(match eJ tt E y with | .R=>true|_=>false))||((match eJ tt E x with | .R=>true|_=>false)&&mU E y))
def T0 (tt:dR) (E:Env R) (all:List Oper) (x y:Oper):Bool:=(Qd (eJ tt E x.op) (eJ tt E y.op)||tokPair tt E x.op y.op)&&DR all x y
def isF (tt:dR) (E:Env R) (o:Op):Bool:=match eJ tt E o with | .F=>true|_=>false
def farR (tt:dR) (E:Env R) (all:List Oper) (x:Oper):Bool:=(match eJ tt E x.op with | .R=>true|_=>false)&&all.any fun y=>isF tt E y.op&&DR all x y
def kP (all:List Oper) (o:Oper):Bool :=
 match o.op with
 | .store _ (.tmp t) _=>o.dst.isNone&&o.guard.isNone&&((all.any fun z=>z.dst==some t&&(match z.op with | .fieldAddr _ _ _=>true|_=>false))||all.all fun z=>z.dst != some t)
 | _=>false
def u7 (all:List Oper) (o:Oper):Bool :=
 match o.op with
 | .store _ (.tmp t) _=>o.dst.isNone&&o.guard.isNone&&all.any fun z=>z.dst==some t&&(match z.op with | .indexAddr _ _ _=>true|_=>false)
 | _=>false
def farW (all:List Oper) (x y:Oper):Bool:=(kP all x&&u7 all y)||(u7 all x&&kP all y)
def farR2 (tt:dR) (E:Env R) (all:List Oper) (x:Oper):Bool:=(match eJ tt E x.op with | .R=>true|_=>false)&&all.any (kP all)
def rdA (tt:dR) (E:Env R) (x:Oper):Bool:=match eJ tt E x.op with | .R | .A=>true|_=>false
def noApp (tt:dR) (E:Env R) (x y:Oper):Bool := !(sk x.op&&rdA tt E y) && !(rdA tt E x&&sk y.op)
def drS (tt:dR) (S:Option (Bool×List Nat)) (base:Nat) (o:Oper):Option Nat:=match S with|some (true,_)=>(match gb tt o.op with | .W=>none|_=>some base)|_=>some base
def M3 (tt:dR) (E:Env R) (far:Option Bool) (all:List Oper) (x y:Oper):Bool :=
 (T0 tt E all x y&&(match far with|some true=>noApp tt E x y|_=>true))||(match far with
  | none=>false
  | some true=>((farR tt E all x&&isF tt E y.op)||(isF tt E x.op&&(!mU E x.op&&(match gb tt y.op with | .A=>true|_=>false)))||farW all x y)&&DR all x y
  | some false=>(farR2 tt E all x&&kP all y)&&DR all x y)
def B4 (o:Op) (ρ:Operand→V):List Nat:=match o with | .load _ x=>(ρ x).ids | .lookup _ x _ _=>(ρ x).ids | .convert _ _ x=>(ρ x).ids|_ => []
def nh (o:Op) (ρ:Operand→V) (h:aR):List Nat :=
 match o with
 | .call c=>(match c.callee with | .value f=>(match ρ f with | .func _ first cap=>reach h 64 (V.wJ (first++c.args.toList.map ρ++cap)) []|_ => [])|_ => [])
 | _ => []
def Hc (o:Op) (ρ:Operand→V):List Nat:=match o with | .store _ x _=>(ρ x).ids|_ => []
def Q5 (tt:dR) (E:Env R) (base:Nat) (S:Option (Bool×List Nat)) (all:List Oper) (o:Oper) (ρ:Operand→V) (h:aR):Bool :=
 match S with
 | none=>true
 | some (false,A) =>
  match gb tt o.op with
  | .R => !farR2 tt E all o||(B4 o.op ρ).all fun i => !A.contains i
  | .W => !kP all o||(Hc o.op ρ).all fun i=>A.contains i
  | _=>true
 | some (true,A) =>
  match gb tt o.op with
  | .R => !farR tt E all o||(B4 o.op ρ).all fun i=>A.contains i
  | .C => !isF tt E o.op||mU E o.op||(Nat.ble (base+(all.filter (cm tt)).length) h.length&&(nh o.op ρ h).all (fun i=>Nat.blt i base)&&A.all fun i=>Nat.blt i h.length && !(nh o.op ρ h).contains i)
  | .W=>(!kP all o||(Hc o.op ρ).all fun i=>A.contains i)&&(!u7 all o||(Hc o.op ρ).all fun i => !A.contains i)
  | _=>true
def Xz (ops:List Oper) (fr:List V):List Nat:=ops.flatMap fun o=>match o.op with | .fieldAddr _ x _=>(ev fr x).ids | .load _ x=>(ev fr x).ids | .store _ x _=>(ev fr x).ids|_ => []
def XA (ops:List Oper) (fr:List V):List Nat:=ops.flatMap fun o =>
 bif kP ops o then (match o.op with | .store _ (.tmp t) _=>bif (ops.all fun z=>z.dst != some t)then (ev fr (.tmp t)).ids else ops.flatMap (fun z=>bif z.dst==some t then (match z.op with | .fieldAddr _ x _=>(ev fr x).ids|_ => [])else [])|_ => [])else []
def opsS (tt:dR) (E:Env R) (base:Nat) (A:Bool×List Nat) (all:List Oper):List Oper→Nat→St→(St→Option R)→Option R
 | [],_,st,k=>k st
 | o::rest,id,st,k =>
  let id':=if cm tt o then id+1 else id
  AK all o st (fun st=>bif Q5 tt E base (some A) all o (ev st.fr) st.hp then ES tt E (drS tt (some A) base o) id o st fun st=>Pn st fun st=>opsS tt E base A all rest id' st k else none)
   (fun st=>Pn ⟨mT st.fr o.dst (.tuple []),st.hp⟩ fun st=>opsS tt E base A all rest id' st k)
def N2 (tt:dR) (E:Env R) (far:Option Bool) (ops:List Oper):Bool :=
 let M:=R3 ops
 (List.range ops.length).all fun j=>(List.range j).all (fun i =>
  (M.getD j 0).testBit i||M3 tt E far ops (ops.getD i default) (ops.getD j default)) &&
  (Ly (ops.getD j default)).all (fun i=>Nat.blt i j) &&
  Nat.beq (M.getD j 0) (W3 M (Ly (ops.getD j default)))
def Po (tt:dR) (E:Env R) (ops:List Oper) (draw:Bool) (st:St) (k:St→Option R):Option R :=
 let n:=st.hp.length
 let xC:St:=⟨st.fr,st.hp++List.replicate (ops.filter (cm tt)).length .free⟩
 if draw then (if N2 tt E none ops then Xy tt E (some n) ops ops n xC k else if N2 tt E (some true) ops then opsS tt E n (true,Xz ops st.fr) ops ops n xC k else if N2 tt E (some false) ops then opsS tt E n (false,XA ops st.fr) ops ops n xC k else none)
 else Xy tt E none ops ops n xC k
def Qe (log:List (Nat×V)) (t:Nat) (d:V):V :=
 List.rec (motive:=fun _=>V) d (fun x _ ih=>cond (Nat.beq x.1 t) x.2 ih) log
def XB {β:Type} (log:List (Nat×V)) (t:Nat) (d:V) (k:V→β):β :=
 List.rec (motive:=fun _=>β) (k d) (fun x _ ih=>cond (Nat.beq x.1 t) (k x.2) ih) log
def mergeC {β:Type} (log:List (Nat×V)) (fr:List V) (k:List V→β):β :=
 List.rec (motive:=fun _=>Nat→(List V→β)→β) (fun _ k=>k []) (fun v _ ih i k=>XB log i v fun v'=>ih (i+1) fun r=>k (v'::r)) fr 0 k
def evF (fr:List V) (log:List (Nat×V)) (x:Operand):V:=match x with | .tmp t=>Qe log t (fr.getD t .undef)|x=>ev fr x
def pushF (n:Nat) (log:List (Nat×V)) (dst:Option Nat) (v:V):List (Nat×V):=match dst with|some d=>bif Nat.blt d n then (d,v)::log else log|none=>log
def stepF (tt:dR) (E:Env R) (drawn:Option Nat) (id:Nat) (o:Oper) (ρ:Operand→V) (hp:aR) (k:V→aR→Option R):Option R :=
 match gb tt o.op with
 | .P=>opP tt o.op ρ fun v=>k v hp
 | .R=>opR tt o.op ρ hp drawn fun v=>k v hp
 | .A=>opA tt o.op ρ fun ob mk=>k (mk id) (hp.set id ob)
 | .W=>bif drawn.isSome && !AJ o.op ρ id then none else W2 tt o.op ρ hp id fun v h=>k v h
 | .C=>match o.op with | .call c=>DK tt E (drawn.isNone || !pU E o.op) c ρ hp fun v h=>k v h|_=>none
 | .F=>none
 | .X=>none
def guardF (all:List Oper) (o:Oper) (fr:List V) (log:List (Nat×V)) (run skip:List (Nat×V)→Option R):Option R :=
 match o.guard with
 | none=>run log
 | some (j,want) =>
  match ((all[j]?).bind (·.dst))with
  | none=>none
  | some d =>
   match Qe log d (fr.getD d .undef)with
   | .bool b =>
    bif b then (if want then run ((d, .bool true)::log)else skip ((d, .bool true)::log))
    else (if want then skip ((d, .bool false)::log)else run ((d, .bool false)::log))
   | .tuple []=>skip log
   | _=>none
def opsF (tt:dR) (E:Env R) (drawn:Option Nat) (all:List Oper) (n:Nat) (fr:List V):List Oper→Nat→List (Nat×V)→aR→(St→Option R)→Option R
 | [],_,log,hp,k=>mergeC log fr fun fr=>Xx hp fun hp=>k ⟨fr,hp⟩
 | o::rest,id,log,hp,k =>
  let id':=if cm tt o then id+1 else id
  guardF all o fr log (fun log=>stepF tt E drawn id o (evF fr log) hp fun v hp=>Xx hp fun hp=>opsF tt E drawn all n fr rest id' (pushF n log o.dst v) hp k)
   (fun log=>opsF tt E drawn all n fr rest id' (pushF n log o.dst (.tuple [])) hp k)
def regionF (tt:dR) (E:Env R) (ops:List Oper) (draw:Bool) (st:St) (k:St→Option R):Option R :=
 let n:=st.hp.length
 let hp:=st.hp++List.replicate (ops.filter (cm tt)).length .free
 if draw then (if N2 tt E none ops then opsF tt E (some n) ops st.fr.length st.fr ops n [] hp k else if N2 tt E (some true) ops then opsS tt E n (true,Xz ops st.fr) ops ops n ⟨st.fr,hp⟩ k else if N2 tt E (some false) ops then opsS tt E n (false,XA ops st.fr) ops ops n ⟨st.fr,hp⟩ k else none)
 else opsF tt E none ops st.fr.length st.fr ops n [] hp k
inductive Ex where
 | normal|exit (id:Nat)|goto (l:Nat)|ret
structure Hint where
 live:List Nat
 own:List (Nat×Ty) := []
 rows:List (Nat×Ty) := []
 cells:List (Nat×Nat×Ty×Bool) := []
 drop:List Nat := []
 out:List Nat := []
def Lz (live drop:List Nat) (fr:List V):List V:=fr.zipIdx.map fun (v,i)=>if live.contains i then (if drop.contains i then Lw v else v)else .undef
def Q6:List (Nat×Ty)→St→St
 | [],st=>st
 | (d,T)::r,st =>
  match st.fr.getD d .undef with
  | .cG=>Q6 r ⟨st.fr.set d (.sl T [] (.own st.hp.length)),st.hp ++ [.tok]⟩
  | .sl T' l .nil=>Q6 r ⟨st.fr.set d (.sl T' l (.own st.hp.length)),st.hp ++ [.tok]⟩
  | _=>Q6 r st
def N3:List (Nat×Ty)→St→St
 | [],st=>st
 | (d,T)::r,st =>
  match st.fr.getD d .undef with
  | .cG=>N3 r ⟨st.fr.set d (.row st.hp.length 0),st.hp ++ [.row T []]⟩
  | _=>N3 r st
def FU (T:Ty) (b:Bool):bZ:=bif b then .row T []else .tok
def B5 (T:Ty) (b:Bool) (i:Nat):V:=bif b then .row i 0 else .sl T [] (.own i)
def Gq:List (Nat×Nat×Ty×Bool)→St→St
 | [],st=>st
 | (i,o,T,b)::r,st =>
  match st.hp.at i with
  | .cells cs =>
   (match cs.getD o .undef with
    | .cG=>Gq r ⟨st.fr,st.hp.set i (.cells (cs.set o (B5 T b st.hp.length))) ++ [FU T b]⟩
    | _=>Gq r st)
  | .ng v =>
   (match v with
    | .cG=>Gq r ⟨st.fr,st.hp.set i (.ng (B5 T b st.hp.length)) ++ [FU T b]⟩
    | _=>Gq r st)
  | _=>Gq r st
def St.gc (m:Nat) (st:St):St :=
 let ord:=reach st.hp 256 (List.range m++V.wJ st.fr) []
 ⟨V.DQ (DJ ord) st.fr,st.hp.pick ord⟩
def preGc (m:Nat) (h:Hint) (st:St):St:=match h.cells with | []=>st|_::_=>st.gc m
def norm (m:Nat) (h:Hint) (st:St):St:=(Gq h.cells (N3 h.rows (Q6 h.own (preGc m h ⟨Lz h.live h.drop st.fr,st.hp⟩)))).gc m
def trim (m:Nat) (h:Hint) (st:St):St:=(⟨Lz h.out [] st.fr,st.hp⟩:St).gc m
abbrev cF (R:Type):=St→(Ex→St→Option R)→Option R
def keyOf:Code→Nat
 | .region id _ _=>id
 | .seq a _=>keyOf a
 | .block _ b=>keyOf b
 | .loop b=>keyOf b
 | .cond _ a _=>keyOf a
 | .scope b=>keyOf b
 | _=>0
def iterK (body:cF R):Nat→cF R
 | 0,_,_=>none
 | n+1,st,K=>body st fun e xC=>match e with | .normal=>iterK body n xC K|e=>K e xC
def II (body:cF R) (f:St→St):Nat→cF R
 | 0,_,_=>none
 | n+1,st,K=>body st fun e xC=>match e with | .normal=>II body f n (f xC) K|e=>K e xC
def anyT (a b:Option R):Option R:=open Classical in if a=b then a else none
def kQ (tt:dR) (E:Env R) (L:Nat→Option (Hint×cF R)) (m:Nat):Code→cF R
 | .skip,st,K=>K .normal st
 | .region _ ops draw,st,K=>regionF tt E ops.toList draw st fun xC=>K .normal xC
 | .seq a b,st,K=>kQ tt E L m a st fun e xC=>match e with | .normal=>kQ tt E L m b xC K|e=>K e xC
 | .cond c a b,st,K=>match ev st.fr c with | .bool t=>bif t then kQ tt E L m a st K else kQ tt E L m b st K | .PD=>anyT (kQ tt E L m a st K) (kQ tt E L m b st K)|_=>none
 | .block id a,st,K=>kQ tt E L m a st fun e xC=>match e with | .exit i=>if i=id then K .normal xC else K (.exit i) xC|e=>K e xC
 | .loop a,st,K =>
  match L (keyOf a)with
  | some (h,ls)=>ls (norm m h st) K
  | none=>iterK (kQ tt E L m a) 70 st K
 | .exit id,st,K=>K (.exit id) st
 | .ret,st,K=>K .ret st
 | _,_,_=>none
def resK (tt:dR) (st:St):List ResultVar→(List V→Option R)→Option R
 | [],k=>k []
 | .tmp t::r,k=>resK tt st r fun vs=>k (st.fr.getD t .undef::vs)
 | .cell a t::r,k =>
  match st.fr.getD a .undef with
  | .ptr i o =>
   (match st.hp.at i with
    | .cells cs=>vP tt t cs o fun v=>resK tt st r fun vs=>k (v::vs)
    | _=>none)
  | _=>none
def o7 (h:aR):List Nat→aR
 | []=>h
 | i::r=>match h.at i with | .row _ _=>o7 (h.set i .dead) r|_=>o7 h r
def canonL (tt:dR):List Nat→List V→List V
 | t::ts,v::vs=>canon tt t v::canonL tt ts vs
 | _,_ => []
def W4 (tt:dR) (ts:List Nat) (m:Nat) (AF:Bool) (vs:List V) (h:aR) (k:V→aR→Option R):Option R :=
 let ws:=if AF then vs else canonL tt ts (V.Vr h vs)
 let h:=if AF then h else o7 h (V.wJ vs)
 let ord:=reach h 256 (List.range m++V.wJ ws) []
 k (match V.DQ (DJ ord) ws with | [v]=>v|l => .tuple l) (h.pick ord)
def funK (tt:dR) (E:Env R) (L:Nat→Option (Hint×cF R)) (AF:Bool) (fn:Func) (c:Code):Spec R :=
 fun args h k =>
  if 200<h.length then none else
  kQ tt E L h.length c ⟨args++List.replicate (fn.ntmps - args.length) .undef,h⟩ fun e st =>
   match e with
   | .normal | .ret=>resK tt st fn.results.toList fun vs=>W4 tt fn.resultTypes.toList h.length AF vs st.hp k
   | _=>none
end
end Go.bb
namespace Go.bb
open Go.RowKit
structure ExtT where
 cells:Nat→Nat→Prop
instance:CoeFun ExtT fun _=>Nat→Nat→Prop:=⟨ExtT.cells⟩
structure km where
 wH:Nat→Option Nat
 off:Nat→Nat
 
 ext:ExtT
def bZ.from_ (o:bZ) (f:Nat):Option Nat :=
 match o with
 | .free=>none
 | .dead=>none
 | .tok=>some f
 | _=>some 0
def Used (h:aR) (i:Nat):Prop:=i<h.length∧h.at i ≠ .free
def xD (h:aR) (c:km) (b x:Nat):Prop:=∃i f,c.wH i=some b∧(h.at i).from_ (c.off i)=some f∧f≤x
def PE (h:aR) (c:km) (b x:Nat):Prop:=¬xD h c b x∧¬c.ext b x
def mx:Nat:=9223372036854775807
def TokE (T:Ty) (o:Nat) (e:TypeId):Prop:=T = .int .u8→o=0∧e=pX.u8
inductive dQ (w:World) (h:aR) (c:km):V→Value→Prop where
 | undef (v:Value):dQ w h c .undef v
 | int {k:IntKind} {n:Int} (hn:k.has n):dQ w h c (.int k n) (.int k n)
 | bool (b:Bool):dQ w h c (.bool b) (.bool b)
 | str {s:ByteArray} (hl:s.size≤mx):dQ w h c (.str s.data.toList) (.string s)
 | j4:dQ w h c .j4 (.pointer none)
 | ptr {i o:Nat} {v:Value} (hi:Used h i) (hv:∃b,v = .pointer (some ⟨b,o,none⟩)∧(h.at i ≠ .dead→c.wH i=some b)):dQ w h c (.ptr i o) v
 | AG {cs:List V} {b o:Nat} (f:Nat→Value) (hc:∀j,j<cs.length→w.cell? ⟨b,o+j,none⟩=some (f j)∧PE h c b (o+j))
   (hr:∀(j:Nat) (v:V),cs[j]? = some v→dQ w h c v (f j)):dQ w h c (.AG cs) (.pointer (some ⟨b,o,none⟩))
 | cG:dQ w h c .cG (.slice none 0 0)
 | sl {T:Ty} {l:List T.den} {t:Tok} {A:Option Addr} {cap:Nat} (f:Nat→Nat→Value) (lM:l.length≤cap) (wI:cap≤mx)
   (hc:∀i j,i<l.length→j<T.sz→∃b o,A=some ⟨b,o,none⟩∧w.cell? ⟨b,o+i*T.sz+j,none⟩=some (f i j)∧PE h c b (o+i*T.sz+j))
   (hr:∀(i j:Nat) (x:T.den) (v:V),l[i]? = some x→(T.cells x)[j]? = some v→dQ w h c v (f i j))
   (DS:t = .nil→A=none∧cap=0)
   (mG:∀i,t = .own i→Used h i∧(h.at i = .tok →
    (c.wH i=none∧A=none∧cap=0)∨∃b o arr e fz,c.wH i=some b∧A=some ⟨b,o,none⟩∧c.off i=o+l.length*T.sz ∧
     w.heap[b]? = some (Obj.cells arr e fz)∧o+cap*T.sz≤arr.size∧TokE T o e)):dQ w h c (.sl T l t) (.slice A l.length cap)
 | VX {n sz:Nat} {cs:List V} {A:Option Addr} (hn:cs.length=n*sz) (wI:n≤mx) (f:Nat→Value)
   (hc:∀j,j<cs.length→∃b o,A=some ⟨b,o,none⟩∧w.cell? ⟨b,o+j,none⟩=some (f j)∧PE h c b (o+j))
   (hr:∀(j:Nat) (v:V),cs[j]? = some v→dQ w h c v (f j)):dQ w h c (.VX n cs) (.slice A n n)
 | row {i n:Nat} {v:Value} (hi:Used h i) (hn:n≤mx) (hv:∃A cap,v = .slice A n cap∧(0<n→∃a,A=some a)∧∀T l,h.at i = .row T l→n=l.length∧n≤cap∧cap≤mx ∧
    ((c.wH i=none∧A=none∧cap=0)∨∃b arr e fz,c.wH i=some b∧A=some ⟨b,c.off i,none⟩∧w.heap[b]? = some (Obj.cells arr e fz)∧c.off i+cap*T.sz≤arr.size)) :
   dQ w h c (.row i n) v
 | Kh {i q n:Nat} {v:Value} (hi:Used h i) (hn:n≤mx) (hv:∃A cap,v = .slice A n cap∧(0<n→∃a,A=some a)∧∀T l,h.at i = .row T l→q+n≤l.length∧n≤cap∧cap≤mx ∧
    (0<n→∃b,c.wH i=some b∧A=some ⟨b,c.off i+q*T.sz,none⟩)):dQ w h c (.Kh i q n) v
 | xB {i n j o:Nat} {v:Value} (hi:Used h i) (hv:∃a,v = .pointer (some a)∧∀T l,h.at i = .row T l→n=T.sz→j<l.length→∃b,c.wH i=some b∧a=⟨b,c.off i+j*T.sz+o,none⟩) :
   dQ w h c (.xB i n j o) v
 | func {f:Nat} {a b:List V} {x y:Array Value} (ha:a.length=x.size) (hb:b.length=y.size)
   (hra:∀(j:Nat) (v:V) (d:Value),a[j]? = some v→x[j]? = some d→dQ w h c v d) (hrb:∀(j:Nat) (v:V) (d:Value),b[j]? = some v→y[j]? = some d→dQ w h c v d) :
   dQ w h c (.func f a b) (.func (.func f) x y)
 | jS:dQ w h c .jS .nilFunc
 | agg {cs:List V} {x:Array Value} (hl:cs.length=x.size) (hr:∀(j:Nat) (v:V) (d:Value),cs[j]? = some v→x[j]? = some d→dQ w h c v d):dQ w h c (.agg cs) (.agg x)
 | tuple {cs:List V} {x:Array Value} (hl:cs.length=x.size) (hr:∀(j:Nat) (v:V) (d:Value),cs[j]? = some v→x[j]? = some d→dQ w h c v d):dQ w h c (.tuple cs) (.tuple x)
 | map {i:Nat} {v:Value} (hi:Used h i) (hv:∃b,v = .map (some b)∧(h.at i ≠ .dead→c.wH i=some b)):dQ w h c (.map i) v
 | qj:dQ w h c .qj (.map none)
 | eg:dQ w h c .eg .nilIface
 | iface (t:TypeId) (v:Value):dQ w h c .iface (.iface t v)
 | Q2 {t:TypeId} {k:IntKind} {n:Int} (hn:k.has n):dQ w h c (.Q2 t k n) (.iface t (.int k n))
 | PD (b:Bool):dQ w h c .PD (.bool b)
def cN (w:World) (h:aR) (c:km) (cs:List V) (ds:List Value):Prop :=
 cs.length=ds.length∧∀(j:Nat) (v:V) (d:Value),cs[j]? = some v→ds[j]? = some d→dQ w h c v d
def pZ (w:World) (h:aR) (c:km) (i:Nat):bZ→Prop
 | .free=>True
 | .dead=>True
 | .cells cs=>∃b arr e,c.wH i=some b∧w.heap[b]? = some (Obj.cells arr e (0,0))∧cN w h c cs arr.toList
 | .row T l=>(c.wH i=none∧l = [])∨∃b arr e fz,c.wH i=some b∧w.heap[b]? = some (Obj.cells arr e fz)∧c.off i+l.length*T.sz≤arr.size ∧
   (∀x,x<arr.size→w.frozen? ⟨b,x,none⟩=false)∧∀(n j:Nat) (x:T.den) (v:V),l[n]? = some x→(T.cells x)[j]? = some v→∃d,arr[c.off i+n*T.sz+j]? = some d∧dQ w h c v d
 | .tok=>c.wH i=none∨∃b arr e fz,c.wH i=some b∧w.heap[b]? = some (Obj.cells arr e fz)∧c.off i≤arr.size∧(fz.1=fz.2∨fz.2≤c.off i)
 | .ng v=>∃b p d,c.wH i=some b∧w.heap[b]? = some (Obj.cells #[p,d] pX.ng (0,0))∧(p = .pointer none∨p = .pointer (some ⟨b,0,none⟩))∧dQ w h c v d
 | .iter s pos=>∃b bs,c.wH i=some b∧w.heap[b]? = some (.stringIter bs pos)∧bs.data.toList=s∧bs.size≤mx
 | .AH K T l=>∃b es clock,c.wH i=some b∧w.heap[b]? = some (.map es clock)∧W1 K=true∧T.one=true∧es.size=l.length ∧
   ∀(j:Nat) (x:K.den×T.den) (e:MapEntry),l[j]? = some x→es[j]? = some e→dQ w h c (ZR K x.1) e.key∧dQ w h c (ZR T x.2) e.val
def bZ.live:bZ→Prop
 | .free=>False
 | .dead=>False
 | _=>True
def Laid (w:World) (h:aR) (c:km):Prop:=pX.says w∧∀b,pX.blocks b→b<w.heap.size∧∀x, ¬xD h c b x
structure WF (w:World) (h:aR) (c:km):Prop where
 Dv:∀b x,xD h c b x→¬c.ext b x
 sn:∀b x,c.ext b x→b<w.heap.size
 obj:∀i,i<h.length→pZ w h c i (h.at i)
 inj:∀i j b,(h.at i).live→(h.at j).live→c.wH i=some b→c.wH j=some b→i=j
 lay:Laid w h c
def bZ.iW:bZ→bZ→Prop
 | .cells cs, .cells ds=>cs.length=ds.length
 | .row T l, .row U m=>T=U∧l.length=m.length
 | .tok, .tok=>True
 | .iter _ _, .iter _ _=>True
 | .ng _, .ng _=>True
 | .AH K T _, .AH K' U _=>K=K'∧T=U
 | _,_=>False
structure Ext (w:World) (h:aR) (c:km) (w':World) (h':aR) (c':km):Prop where
 os:w'.os=w.os
 tape:w'.tape=w.tape
 output:w'.output=w.output
 size:w.heap.size≤w'.heap.size
 used:∀i,Used h i→Used h' i
 same:∀i,Used h i→h'.at i ≠ .dead→(h.at i).iW (h'.at i)∧c'.wH i=c.wH i∧c'.off i=c.off i
 cell:∀b x,b<w.heap.size→¬xD h c b x→w'.cell? ⟨b,x,none⟩=w.cell? ⟨b,x,none⟩
 block:∀b,b<w.heap.size→(∀x, ¬xD h c b x)→w'.heap[b]? = w.heap[b]?
 BK:∀b x,b<w.heap.size→xD h' c' b x→xD h c b x
 ext:c'.ext=c.ext
 arr:∀(b:Nat) (arr:Array Value) (e:TypeId) (fz:Nat×Nat),w.heap[b]? = some (Obj.cells arr e fz)→∃(N4:Array Value) (PF:Nat×Nat),w'.heap[b]? = some (Obj.cells N4 e PF)∧N4.size=arr.size
theorem Ext.refl (w:World) (h:aR) (c:km):Ext w h c w h c where
 os:=rfl
 tape:=rfl
 output:=rfl
 size:=Nat.le_refl _
 used:=fun _ hi=>hi
 same:=fun i hi hd=>⟨by have h2:=hi.2; revert hd h2; cases h.at i <;> simp[bZ.iW],rfl,rfl⟩
 cell:=fun _ _ _ _=>rfl
 block:=fun _ _ _=>rfl
 BK:=fun _ _ _ ho=>ho
 ext:=rfl
 arr:=fun b arr e fz hb=>⟨arr,fz,hb,rfl⟩
theorem bZ.Km {o o':bZ} (h:o.iW o'):o ≠ .dead∧o' ≠ .dead:=by
 cases o <;> cases o' <;> simp_all [bZ.iW]
theorem bZ.sim_trans {a b c:bZ} (h:a.iW b) (k:b.iW c):a.iW c:=by
 cases a <;> cases b <;> cases c <;> simp_all [bZ.iW]
theorem Ext.trans {w w1 w2:World} {h h1 h2:aR} {c c1 c2:km} (a:Ext w h c w1 h1 c1) (b:Ext w1 h1 c1 w2 h2 c2):Ext w h c w2 h2 c2 where
 os:=b.os.trans a.os
 tape:=b.tape.trans a.tape
 output:=b.output.trans a.output
 size:=Nat.le_trans a.size b.size
 used:=fun i hi=>b.used i (a.used i hi)
 same:=fun i hi hd=>by
  obtain ⟨s2,e2,f2⟩:=b.same i (a.used i hi) hd;obtain ⟨s1,e1,f1⟩:=a.same i hi (bZ.Km s2).1;exact ⟨bZ.sim_trans s1 s2,e2.trans e1,f2.trans f1⟩
 cell:=fun x y hx ho=>by
  rw[b.cell x y (Nat.lt_of_lt_of_le hx a.size) (fun o=>ho (a.BK x y hx o)),a.cell x y hx ho]
 block:=fun x hx ho=>by
  rw[b.block x (Nat.lt_of_lt_of_le hx a.size) (fun y o=>ho y (a.BK x y hx o)),a.block x hx ho]
 BK:=fun x y hx o=>a.BK x y hx (b.BK x y (Nat.lt_of_lt_of_le hx a.size) o)
 ext:=b.ext.trans a.ext
 arr:=fun x arr e fz hx=>by
  obtain ⟨a1,f1,h1,s1⟩:=a.arr x arr e fz hx;obtain ⟨a2,f2,h2,s2⟩:=b.arr x a1 e f1 h1;exact ⟨a2,f2,h2,s2.trans s1⟩
theorem lt_of_cell {w:World} {b x:Nat} {v:Value} (h:w.cell? ⟨b,x,none⟩=some v):b<w.heap.size :=
 World.block_lt_of_cell? _ _ h
theorem sim_tok {o o':bZ} (h:o.iW o') (e:o' = .tok):o = .tok:=by subst e; cases o <;> simp_all [bZ.iW]
theorem sim_row {o:bZ} {T:Ty} {l:List T.den} (h:o.iW (.row T l)):∃m:List T.den,o = .row T m∧m.length=l.length:=by
 cases o with
 | row U m=>obtain ⟨rfl,e⟩:=h; exact ⟨m,rfl,e⟩
 | _=>simp[bZ.iW]at h
section
variable {w w':World} {h h':aR} {c c':km}
theorem Ext.XC (x:Ext w h c w' h' c') {b o:Nat} {v:Value} (hc:w.cell? ⟨b,o,none⟩=some v) (ho:PE h c b o) :
  w'.cell? ⟨b,o,none⟩=some v∧PE h' c' b o :=
 ⟨(x.cell b o (lt_of_cell hc) ho.1).trans hc,fun k=>ho.1 (x.BK b o (lt_of_cell hc) k),by rw[x.ext]; exact ho.2⟩
theorem dQ.mono (x:Ext w h c w' h' c') {v:V} {d:Value} (r:dQ w h c v d):dQ w' h' c' v d:=by
 induction r with
 | undef v=>exact .undef v
 | int hn=>exact .int hn
 | bool b=>exact .bool b
 | str hl=>exact .str hl
 | j4=>exact .j4
 | cG=>exact .cG
 | jS=>exact .jS
 | qj=>exact .qj
 | eg=>exact .eg
 | iface t v=>exact .iface t v
 | Q2 hn=>exact .Q2 hn
 | PD b=>exact .PD b
 | ptr hi hv =>
  obtain ⟨b,hv,hb⟩:=hv;refine .ptr (x.used _ hi) ⟨b,hv,fun hd => ?_⟩;obtain ⟨s,e,_⟩:=x.same _ hi hd;rw[e];exact hb (bZ.Km s).1
 | map hi hv =>
  obtain ⟨b,hv,hb⟩:=hv;refine .map (x.used _ hi) ⟨b,hv,fun hd => ?_⟩;obtain ⟨s,e,_⟩:=x.same _ hi hd;rw[e];exact hb (bZ.Km s).1
 | AG f hc _ ih=>exact .AG f (fun j hj=>x.XC (hc j hj).1 (hc j hj).2) ih
 | sl f lM wI hc _ DS mG ih =>
  refine .sl f lM wI (fun i j hi hj => ?_) ih DS (fun i ht => ?_)
  ·obtain ⟨b,o,hA,h1,h2⟩:=hc i j hi hj;exact ⟨b,o,hA,x.XC h1 h2⟩
  ·obtain ⟨hi,ho⟩:=mG i ht;refine ⟨x.used _ hi,fun T1 => ?_⟩;obtain ⟨s,e,eo⟩:=x.same i hi (by rw[T1]; simp);rw[e,eo];rcases ho (sim_tok s T1)with hn|⟨b,o,arr,el,fz,h1,h2,h3,h4,h5⟩
   ·exact .inl hn
   ·obtain ⟨N4,PF,h4',hs⟩:=x.arr b arr el fz h4;exact .inr ⟨b,o,N4,el,PF,h1,h2,h3,h4',by rw[hs]; exact h5.1,h5.2⟩
 | VX hn wI f hc _ ih =>
  refine .VX hn wI f (fun j hj => ?_) ih;obtain ⟨b,o,hA,h1,h2⟩:=hc j hj;exact ⟨b,o,hA,x.XC h1 h2⟩
 | row hi hn hv =>
  obtain ⟨A,cap,hv1,hA,hv⟩:=hv;refine .row (x.used _ hi) hn ⟨A,cap,hv1,hA,fun T l he => ?_⟩;obtain ⟨s,e,eo⟩:=x.same _ hi (by rw[he]; simp);rw[he]at s;obtain ⟨m,hm,hl⟩:=sim_row s;obtain ⟨hn',h1,h2,h3⟩:=hv T m hm;refine ⟨by rw[hn',hl],h1,h2,?_⟩;rw[e,eo];rcases h3 with h3|⟨b,arr,el,fz,g1,g2,g3,g4⟩
  ·exact .inl h3
  ·obtain ⟨N4,PF,h4',hs⟩:=x.arr b arr el fz g3;exact .inr ⟨b,N4,el,PF,g1,g2,h4',by rw[hs]; exact g4⟩
 | Kh hi hn hv =>
  obtain ⟨A,cap,hv1,hA,hv⟩:=hv;refine .Kh (x.used _ hi) hn ⟨A,cap,hv1,hA,fun T l he => ?_⟩;obtain ⟨s,e,eo⟩:=x.same _ hi (by rw[he]; simp);rw[he]at s;obtain ⟨m,hm,hl⟩:=sim_row s;rw[e,eo,←hl];exact hv T m hm
 | xB hi hv =>
  obtain ⟨a,ha,hv⟩:=hv;refine .xB (x.used _ hi) ⟨a,ha,fun T l he hn hj => ?_⟩;obtain ⟨s,e,eo⟩:=x.same _ hi (by rw[he]; simp);rw[he]at s;obtain ⟨m,hm,hl⟩:=sim_row s;rw[e,eo];exact hv T m hm hn (by rw[hl]; exact hj)
 | func ha hb _ _ iha ihb=>exact .func ha hb iha ihb
 | agg hl _ ih=>exact .agg hl ih
 | tuple hl _ ih=>exact .tuple hl ih
theorem cN.mono (x:Ext w h c w' h' c') {cs:List V} {ds:List Value} (r:cN w h c cs ds):cN w' h' c' cs ds :=
 ⟨r.1,fun j v d hv hd=>(r.2 j v d hv hd).mono x⟩
theorem cN.nil:cN w h c [] []:=⟨rfl,fun j v d hv=>by simp at hv⟩
theorem cN.cons {v:V} {d:Value} {cs:List V} {ds:List Value} (r:dQ w h c v d) (rs:cN w h c cs ds):cN w h c (v::cs) (d::ds):=by
 refine ⟨by simp[rs.1],fun j u e hu he => ?_⟩;cases j with
 | zero=>simp at hu he; subst hu; subst he; exact r
 | succ j=>simp at hu he; exact rs.2 j u e hu he
theorem cN.head {v:V} {d:Value} {cs:List V} {ds:List Value} (r:cN w h c (v::cs) (d::ds)):dQ w h c v d:=r.2 0 v d rfl rfl
theorem cN.tail {v:V} {d:Value} {cs:List V} {ds:List Value} (r:cN w h c (v::cs) (d::ds)):cN w h c cs ds :=
 ⟨by simpa using r.1,fun j u e hu he=>r.2 (j+1) u e (by simpa using hu) (by simpa using he)⟩
theorem cN.append {a b:List V} {x y:List Value} (r:cN w h c a x) (s:cN w h c b y):cN w h c (a++b) (x++y):=by
 refine ⟨by simp[r.1,s.1],fun j u e hu he => ?_⟩;have hl:=r.1;by_cases hj:j<a.length
 ·rw[List.getElem?_append_left hj]at hu;rw[List.getElem?_append_left (by omega)]at he;exact r.2 j u e hu he
 ·rw[List.getElem?_append_right (by omega)]at hu;rw[List.getElem?_append_right (by omega),←hl]at he;exact s.2 _ u e hu he
theorem cN.take {a:List V} {x:List Value} (r:cN w h c a x) (n:Nat):cN w h c (a.take n) (x.take n):=by
 refine ⟨by simp[r.1],fun j u e hu he => ?_⟩;rw[List.getElem?_take]at hu he;split at hu <;> simp_all;exact r.2 j u e hu he
theorem cN.drop {a:List V} {x:List Value} (r:cN w h c a x) (n:Nat):cN w h c (a.drop n) (x.drop n):=by
 refine ⟨by simp[r.1],fun j u e hu he => ?_⟩;rw[List.getElem?_drop]at hu he;exact r.2 _ u e hu he
theorem cN.map {α:Type} {f:α→V} {g:α→Value} (l:List α) (r:∀x∈l,dQ w h c (f x) (g x)):cN w h c (l.map f) (l.map g):=by
 induction l with
 | nil=>exact .nil
 | cons x l ih=>exact .cons (r x (by simp)) (ih fun y hy=>r y (by simp[hy]))
theorem cN.getD {a:List V} {x:List Value} (r:cN w h c a x) (j:Nat) (d:Value):dQ w h c (a.getD j .undef) (x.getD j d):=by
 by_cases hj:j<a.length
 ·have hx:j<x.length:=by have:=r.1; omega
  exact r.2 j _ _ (by simp[List.getD,List.getElem?_eq_getElem hj]) (by simp[List.getD,List.getElem?_eq_getElem hx])
 ·have:a.getD j .undef = .undef:=by simp[List.getD,List.getElem?_eq_none (Nat.le_of_not_lt hj)]
  rw[this]; exact .undef _
theorem cN.set {a:List V} {x:List Value} (r:cN w h c a x) (j:Nat) {v:V} {d:Value} (rv:dQ w h c v d):cN w h c (a.set j v) (x.set j d):=by
 refine ⟨by simp[r.1],fun i u e hu he => ?_⟩;rw[List.getElem?_set]at hu he;by_cases B6:j=i
 ·simp only[B6,if_true]at hu he;split at hu <;> split at he <;> simp_all
 ·simp only[B6,if_false]at hu he;exact r.2 i u e hu he
theorem cN.VY (n:Nat) (d:Value):cN w h c (List.replicate n .undef) (List.replicate n d):=by
 refine ⟨by simp,fun j u e hu _ => ?_⟩;rw[List.getElem?_replicate]at hu;split at hu <;> simp_all;subst hu; exact .undef _
end
end Go.bb
end
