/-
  OrderApart: for every input whose bulk is at most 1048576 the law returns true, and each argument reads behind the call as it read before; part 1 of 10 of the proof: an interpreter of the model's code over typed data, proved sound; the functions that the law reaches, printed as Lean functions and tied; the plain law. Own texts laid one behind the other.
-/
import Derived.JoinedCond
import Derived.Calls
import Derived.Test.YtidfokedcnhahaaGreatDoorProg
import Derived.Lib.LaidTab
import Derived.Lib.ItoaNum
import Derived.Shelf.Unicode.DecodeSlow
import Derived.Orders
import Derived.KernelRfl
import Derived.Below
set_option linter.unusedSimpArgs false
set_option linter.unnecessarySimpa false
set_option linter.unusedVariables false
set_option linter.unusedSectionVars false
noncomputable section
namespace Go.aC
open Go
theorem joined_of {P:Program} {f:FuncId} {fn:Func} {s:ChangeSpec} {c:OpenClaim} (h1:c.wf (OpenSpec.ofChange s)=true) (h2:laidOutB P=true) (h3:mapsRowed P=true)
  (h4:fn.params.all (P.readableRec ·)=true) (h5:namedTie P c.named s.vars=true) (h6:(c.stops == [])=true) (h7:(P.stops == [])=true) (h8:(c.knobs == [])=true) (h9:(P.stopKnobs == [])=true)
  (h10:(c.inPlace==P.inPlace f)=true) (h11:(c.unfollowed==P.unfollowed f)=true) (h12:(c.recurses==P.recurses f)=true) (h13:(c.named==P.varsNamed f)=true)
  (h14:(c.maps==(fn.params.toList++s.plain.varTypes P).any (P.mapsRec ·))=true) (h15:(c.ifaces==(fn.params.toList++s.plain.varTypes P).any (P.ifacesRec ·))=true) (h16:(c.mapsOut==P.mapsAmong fn.resultTypes.toList)=true)
  (h17:(c.loops==(fn.params.toList++s.plain.varTypes P).any (P.loopsFrom ·))=true) (h18:(c.wideKeys==(fn.params.toList++s.plain.varTypes P++fn.resultTypes.toList).any (P.wideKeysFrom ·))=true)
  (h19:s.vars.all (P.varReadable ·)=true) (h20:fn.resultTypes.all (fun t=>P.readableRec t&&decide (t<P.types.size))=true) (h21:(c.ifacesOut==fn.resultTypes.toList.any (P.ifacesRec ·))=true) (h22:(c.loopsOut==fn.resultTypes.toList.any (P.loopsFrom ·))=true)
  (h23:(c.plainKeys==P.plainKeys)=true) (h24:c.shortTexts.isNone=true) (h25:P.stopsHeard=true) (h26:P.mayEnter=true) (h27:(c.lifted==P.liftsFinal)=true) (h28:(P.make==some c.make)=true)
  (h29:(c.kinds==(if c.domain.isEmpty then []else fn.params.toList.map fun t=>match P.underlying t with|some (.int k)=>some k|_=>none))=true) (h30:(c.pinned==c.pinnedBy)=true)
  (h31:(c.veiled==(fn.params.toList++s.plain.varTypes P++fn.resultTypes.toList).any (P.veiledRec ·))=true) (h32:c.veiledFits P fn.params.toList (fn.params.toList++s.plain.varTypes P++fn.resultTypes.toList)=true):joinedFacts P f fn s c=true:=by
 unfold joinedFacts
 simp only[Bool.and_eq_true]
 exact ⟨⟨⟨⟨⟨⟨⟨⟨⟨⟨⟨⟨⟨⟨⟨⟨⟨⟨⟨⟨⟨⟨⟨⟨⟨⟨⟨⟨⟨⟨⟨h1,h2⟩,h3⟩,h4⟩,h5⟩,h6⟩,h7⟩,h8⟩,h9⟩,h10⟩,h11⟩,h12⟩,h13⟩,h14⟩,h15⟩,h16⟩,h17⟩,h18⟩,h19⟩,h20⟩,h21⟩,h22⟩,h23⟩,h24⟩,h25⟩,h26⟩,h27⟩,h28⟩,h29⟩,h30⟩,h31⟩,h32⟩
end Go.aC
namespace Go.aC
structure LayT where
 /-- the types of bytes, and of strings.Builder -/
 u8:Nat
 mB:Nat
 /-- functions whose specs leave the objects as they are -/
 soft:Nat→Bool
 blocks:Nat→Prop
 says:World→Prop
 zR:∀w w':World,(∀b,blocks b→w'.heap[b]? = w.heap[b]?)→says w→says w'
def LayT.none:LayT:=⟨5,1000000,fun _=>false,fun _=>False,fun _=>True,fun _ _ _ h=>h⟩
end Go.aC
namespace Go.aC
open Go.Proofs
def laySays (w:World):Prop :=
 Go.Lib.Utf8Tabs 1 2 w∧Go.Lib.TabIs Tryz.prog w "internal/strconv.uint64pow10" .u64 Go.Lib.pow10Tab ∧
  (∃t x,w.cell? ⟨3,0,none⟩=some (.iface t x))∧(∃t x,w.cell? ⟨4,0,none⟩=some (.iface t x))
theorem lay_pow10:Tryz.prog.globalNamed "internal/strconv.uint64pow10" = some 5:=by kernel_rfl
theorem laySays_keep (w w':World) (h:∀b,b<8→w'.heap[b]? = w.heap[b]?) (k:laySays w):laySays w':=by
 have hc:∀b x,b<8→w'.cell? ⟨b,x,none⟩=w.cell? ⟨b,x,none⟩:=fun b x hb=>by simp only[World.cell?,h b hb]
 obtain ⟨⟨k1,k2⟩,k3,k4,k5⟩:=k
 refine ⟨⟨fun c WU=>by rw[hc _ _ (by omega)]; exact k1 c WU,fun i hi=>by rw[hc _ _ (by omega),hc _ _ (by omega)]; exact k2 i hi⟩,?_,by rw[hc _ _ (by omega)]; exact k4,by rw[hc _ _ (by omega)]; exact k5⟩
 unfold Go.Lib.TabIs at k3 ⊢
 rw[←k3]
 simp only[World.var?,lay_pow10,Option.bind_some,h 5 (by omega)]
def pj:LayT:=⟨5,118,fun g=>Nat.beq g 84,fun b=>b<8,laySays,laySays_keep⟩
end Go.aC
namespace Go.aC
abbrev ah:=List UInt8
structure fv where
 ao:Int
 exp:Int
def fv.z:fv:=⟨0,0⟩
structure Json where
 kind:Int
 num:fv
 text:ah
 names:List ah
 items:List Json
def Json.z:Json:=⟨0,fv.z, [], [], []⟩
structure Raw where
 kind:Int
 ao:Int
 exp:Int
 text:List Int
 items:List Raw
def Raw.z:Raw:=⟨0,0,0, [], []⟩
structure ZO where
 kind:Int
 ao:Int
 exp:Int
 text:List Int
def ZO.z:ZO:=⟨0,0,0, []⟩
structure Fld where
 name:ah
 kind:Int
 low:Int
 high:Int
 free:Bool
def Fld.z:Fld:=⟨[],0,0,0,false⟩
structure ZP where
 topic:ah
 data:ah
 bent:Bool
def ZP.z:ZP:=⟨[], [],false⟩
structure Token where
 kind:Int
 text:ah
 num:fv
 at_:Int
def Token.z:Token:=⟨0, [],fv.z,0⟩
structure Stop where
 node:Int
 seq:Int
 bO:Bool
def Stop.z:Stop:=⟨0,0,false⟩
structure Way where
 yC:Int
 seq:Int
 bO:Bool
def Way.z:Way:=⟨0,0,false⟩
structure Order where
 header:Int
 cO:ah
 order:Int
 update:Int
 nodes:List Stop
 bK:List Way
def Order.z:Order:=⟨0, [],0,0, [], []⟩
structure Edge where
 src:Int
 dst:Int
 cost:Int
def Edge.z:Edge:=⟨0,0,0⟩
structure I4 where
 nodes:Int
 bK:List Edge
def I4.z:I4:=⟨0, []⟩
structure Qn where
 maker:ah
 serial:ah
 kind:ah
def Qn.z:Qn:=⟨[], [], []⟩
structure State where
 header:Int
 boot:Int
 cO:ah
 order:Int
 update:Int
 live:Bool
 node:Int
 seq:Int
 driving:Bool
 accepted:Int
def State.z:State:=⟨0,0, [],0,0,false,0,0,false,0⟩
structure Ctl where
 cO:ah
 header:Int
 order:Int
 update:Int
 boot:Int
 seen:Int
 path:List Int
 seq:Int
 open_:Bool
 rel:Int
 wait:Bool
 pending:Order
def Ctl.z:Ctl:=⟨[],0,0,0,0,0, [],0,false,0,false,Order.z⟩
structure ZQ where
 kind:Int
 i:Int
 k:Int
 by_:Int
 data:ah
def ZQ.z:ZQ:=⟨0,0,0,0, []⟩
structure MN where
 header:Int
 order:Int
 update:Int
 seq:Int
 from_:Int
 bO:Int
 turns:List Int
def MN.z:MN:=⟨0,0,0,0,0,0, []⟩
structure ZR where
 kind:Int
 o:MN
 data:ah
def ZR.z:ZR:=⟨0,MN.z, []⟩
structure ZS where
 kind:Int
 n:Int
 turns:List Int
def ZS.z:ZS:=⟨0,0, []⟩
structure ZT where
 a:Int
 b:Int
 c:Int
def ZT.z:ZT:=⟨0,0,0⟩
structure V2 where
 a:Int
 b:Int
def V2.z:V2:=⟨0,0⟩
structure ZU where
 a:fv
 b:fv
def ZU.z:ZU:=⟨fv.z,fv.z⟩
structure ZV where
 name:ah
 home:Int
def ZV.z:ZV:=⟨[],0⟩
structure Job where
 id:Int
 target:Int
 state:Int
 cO:Int
def Job.z:Job:=⟨0,0,0,0⟩
structure I5 where
 kind:Int
 nums:List Int
 text:ah
def I5.z:I5:=⟨0, [], []⟩
inductive Ty where
 | int (k:IntKind)|bool|str
 | dcm|json|raw|raw3|fld|mail|token|stop|pD|order|yC|layout|topic|state|ctl|op17|Vc|ev16|ev18|arr3|ZW|dec2|post|job|record
 deriving DecidableEq
def Ty.den:Ty→Type
 | .int _=>Int | .bool=>Bool | .str=>ah
 | .dcm=>fv
 | .json=>Json
 | .raw=>Raw
 | .raw3=>ZO
 | .fld=>Fld
 | .mail=>ZP
 | .token=>Token
 | .stop=>Stop
 | .pD=>Way
 | .order=>Order
 | .yC=>Edge
 | .layout=>I4
 | .topic=>Qn
 | .state=>State
 | .ctl=>Ctl
 | .op17=>ZQ
 | .Vc=>MN
 | .ev16=>ZR
 | .ev18=>ZS
 | .arr3=>ZT
 | .ZW=>V2
 | .dec2=>ZU
 | .post=>ZV
 | .job=>Job
 | .record=>I5
def Ty.aZ:(T:Ty)→T.den
 | .int _=>(0:Int) | .bool=>false | .str=>([]:ah)
 | .dcm=>fv.z
 | .json=>Json.z
 | .raw=>Raw.z
 | .raw3=>ZO.z
 | .fld=>Fld.z
 | .mail=>ZP.z
 | .token=>Token.z
 | .stop=>Stop.z
 | .pD=>Way.z
 | .order=>Order.z
 | .yC=>Edge.z
 | .layout=>I4.z
 | .topic=>Qn.z
 | .state=>State.z
 | .ctl=>Ctl.z
 | .op17=>ZQ.z
 | .Vc=>MN.z
 | .ev16=>ZR.z
 | .ev18=>ZS.z
 | .arr3=>ZT.z
 | .ZW=>V2.z
 | .dec2=>ZU.z
 | .post=>ZV.z
 | .job=>Job.z
 | .record=>I5.z
def Ty.sz:Ty→Nat
 | .int _=>1 | .bool=>1 | .str=>1
 | .dcm=>2
 | .json=>6
 | .raw=>5
 | .raw3=>4
 | .fld=>5
 | .mail=>3
 | .token=>5
 | .stop=>3
 | .pD=>3
 | .order=>6
 | .yC=>3
 | .layout=>2
 | .topic=>3
 | .state=>10
 | .ctl=>17
 | .op17=>5
 | .Vc=>7
 | .ev16=>9
 | .ev18=>3
 | .arr3=>3
 | .ZW=>2
 | .dec2=>4
 | .post=>2
 | .job=>4
 | .record=>3
inductive Tok where
 | no|nil|own (id:Nat)
inductive V where
 | undef
 | int (k:IntKind) (n:Int)
 | bool (b:Bool)
 | str (s:ah)
 | ij
 | ptr (id off:Nat)
 | zS (cs:List V)
 | bx
 | sl (T:Ty) (l:List T.den) (t:Tok)
 | V3 (n:Nat) (cs:List V)
 | row (id:Nat) (n:Nat)
 | JU (id lo n:Nat)
 | wQ (id:Nat) (sz:Nat) (i:Nat) (off:Nat)
 | func (f:Nat) (first cap:List V)
 | fj
 | agg (cs:List V)
 | tuple (vs:List V)
 | map (id:Nat)
 | pE
 | dt
 | iface
 | Rb (t:Nat) (k:IntKind) (n:Int)
 | P6
def V.flat:V→List V
 | .agg cs=>cs
 | v => [v]
def V.one:V→Bool
 | .undef=>false
 | .agg _=>false
 | .tuple _=>false
 | _=>true
def flatK (v:V):Option (List V) :=
 match v with
 | .agg cs=>if cs.all V.one then some cs else none
 | v=>if v.one then some [v]else none
def Ty.cells:(T:Ty)→T.den→List V
 | .int k,(n:Int) => [.int k n]
 | .bool,(b:Bool) => [.bool b]
 | .str,(s:ah) => [.str s]
 | .dcm,(x:fv) => [.int .i64 x.ao, .int .i64 x.exp]
 | .json,(x:Json) => [.int .i64 x.kind, .int .i64 x.num.ao, .int .i64 x.num.exp, .str x.text, .sl .str x.names .no, .sl .json x.items .no]
 | .raw,(x:Raw) => [.int .i64 x.kind, .int .i64 x.ao, .int .i64 x.exp, .sl (.int .i64) x.text .no, .sl .raw x.items .no]
 | .raw3,(x:ZO) => [.int .i64 x.kind, .int .i64 x.ao, .int .i64 x.exp, .sl (.int .i64) x.text .no]
 | .fld,(x:Fld) => [.str x.name, .int .i64 x.kind, .int .i64 x.low, .int .i64 x.high, .bool x.free]
 | .mail,(x:ZP) => [.str x.topic, .str x.data, .bool x.bent]
 | .token,(x:Token) => [.int .i64 x.kind, .str x.text, .int .i64 x.num.ao, .int .i64 x.num.exp, .int .i64 x.at_]
 | .stop,(x:Stop) => [.int .i64 x.node, .int .i64 x.seq, .bool x.bO]
 | .pD,(x:Way) => [.int .i64 x.yC, .int .i64 x.seq, .bool x.bO]
 | .order,(x:Order) => [.int .i64 x.header, .str x.cO, .int .i64 x.order, .int .i64 x.update, .sl .stop x.nodes .no, .sl .pD x.bK .no]
 | .yC,(x:Edge) => [.int .i64 x.src, .int .i64 x.dst, .int .i64 x.cost]
 | .layout,(x:I4) => [.int .i64 x.nodes, .sl .yC x.bK .no]
 | .topic,(x:Qn) => [.str x.maker, .str x.serial, .str x.kind]
 | .state,(x:State) => [.int .i64 x.header, .int .i64 x.boot, .str x.cO, .int .i64 x.order, .int .i64 x.update, .bool x.live, .int .i64 x.node, .int .i64 x.seq, .bool x.driving, .int .i64 x.accepted]
 | .ctl,(x:Ctl) => [.str x.cO, .int .i64 x.header, .int .i64 x.order, .int .i64 x.update, .int .i64 x.boot, .int .i64 x.seen, .sl (.int .i64) x.path .no, .int .i64 x.seq, .bool x.open_, .int .i64 x.rel, .bool x.wait, .int .i64 x.pending.header, .str x.pending.cO, .int .i64 x.pending.order, .int .i64 x.pending.update, .sl .stop x.pending.nodes .no, .sl .pD x.pending.bK .no]
 | .op17,(x:ZQ) => [.int .i64 x.kind, .int .i64 x.i, .int .i64 x.k, .int .u8 x.by_, .str x.data]
 | .Vc,(x:MN) => [.int .i64 x.header, .int .i64 x.order, .int .i64 x.update, .int .i64 x.seq, .int .i64 x.from_, .int .i64 x.bO, .sl (.int .i64) x.turns .no]
 | .ev16,(x:ZR) => [.int .i64 x.kind, .int .i64 x.o.header, .int .i64 x.o.order, .int .i64 x.o.update, .int .i64 x.o.seq, .int .i64 x.o.from_, .int .i64 x.o.bO, .sl (.int .i64) x.o.turns .no, .str x.data]
 | .ev18,(x:ZS) => [.int .i64 x.kind, .int .i64 x.n, .sl (.int .i64) x.turns .no]
 | .arr3,(x:ZT) => [.int .i64 x.a, .int .i64 x.b, .int .i64 x.c]
 | .ZW,(x:V2) => [.int .i64 x.a, .int .i64 x.b]
 | .dec2,(x:ZU) => [.int .i64 x.a.ao, .int .i64 x.a.exp, .int .i64 x.b.ao, .int .i64 x.b.exp]
 | .post,(x:ZV) => [.str x.name, .int .i64 x.home]
 | .job,(x:Job) => [.int .i64 x.id, .int .i64 x.target, .int .i64 x.state, .int .i64 x.cO]
 | .record,(x:I5) => [.int .i64 x.kind, .sl (.int .i64) x.nums .no, .str x.text]
def JV (T:Ty):V→Option (List T.den)
 | .bx=>some []
 | .sl T' l _=>if h:T'=T then some (h▸l)else none
 | _=>none
def tA (k:IntKind):List V→Option Int
 | [.int k' n]=>if k'=k then some n else none
 | _=>none
def Sc:List V→Option Bool
 | [.bool b]=>some b
 | _=>none
def Xi:List V→Option ah
 | [.str s]=>some s
 | _=>none
def decDcm:List V→Option fv
 | [.int .i64 a0, .int .i64 a1]=>some ⟨a0,a1⟩
 | _=>none
def decJson:List V→Option Json
 | [.int .i64 a0, .int .i64 a1, .int .i64 a2, .str a3,a4,a5]=>match JV .str a4,JV .json a5 with|some b4,some b5=>some ⟨a0,⟨a1,a2⟩,a3,b4,b5⟩|_,_=>none
 | _=>none
def decRaw:List V→Option Raw
 | [.int .i64 a0, .int .i64 a1, .int .i64 a2,a3,a4]=>match JV (.int .i64) a3,JV .raw a4 with|some b3,some b4=>some ⟨a0,a1,a2,b3,b4⟩|_,_=>none
 | _=>none
def decRaw3:List V→Option ZO
 | [.int .i64 a0, .int .i64 a1, .int .i64 a2,a3]=>match JV (.int .i64) a3 with|some b3=>some ⟨a0,a1,a2,b3⟩|_=>none
 | _=>none
def decFld:List V→Option Fld
 | [.str a0, .int .i64 a1, .int .i64 a2, .int .i64 a3, .bool a4]=>some ⟨a0,a1,a2,a3,a4⟩
 | _=>none
def decMail:List V→Option ZP
 | [.str a0, .str a1, .bool a2]=>some ⟨a0,a1,a2⟩
 | _=>none
def Xj:List V→Option Token
 | [.int .i64 a0, .str a1, .int .i64 a2, .int .i64 a3, .int .i64 a4]=>some ⟨a0,a1,⟨a2,a3⟩,a4⟩
 | _=>none
def decStop:List V→Option Stop
 | [.int .i64 a0, .int .i64 a1, .bool a2]=>some ⟨a0,a1,a2⟩
 | _=>none
def decWay:List V→Option Way
 | [.int .i64 a0, .int .i64 a1, .bool a2]=>some ⟨a0,a1,a2⟩
 | _=>none
def Xk:List V→Option Order
 | [.int .i64 a0, .str a1, .int .i64 a2, .int .i64 a3,a4,a5]=>match JV .stop a4,JV .pD a5 with|some b4,some b5=>some ⟨a0,a1,a2,a3,b4,b5⟩|_,_=>none
 | _=>none
def decEdge:List V→Option Edge
 | [.int .i64 a0, .int .i64 a1, .int .i64 a2]=>some ⟨a0,a1,a2⟩
 | _=>none
def T5:List V→Option I4
 | [.int .i64 a0,a1]=>match JV .yC a1 with|some b1=>some ⟨a0,b1⟩|_=>none
 | _=>none
def Xl:List V→Option Qn
 | [.str a0, .str a1, .str a2]=>some ⟨a0,a1,a2⟩
 | _=>none
def Xm:List V→Option State
 | [.int .i64 a0, .int .i64 a1, .str a2, .int .i64 a3, .int .i64 a4, .bool a5, .int .i64 a6, .int .i64 a7, .bool a8, .int .i64 a9]=>some ⟨a0,a1,a2,a3,a4,a5,a6,a7,a8,a9⟩
 | _=>none
def decCtl:List V→Option Ctl
 | [.str a0, .int .i64 a1, .int .i64 a2, .int .i64 a3, .int .i64 a4, .int .i64 a5,a6, .int .i64 a7, .bool a8, .int .i64 a9, .bool a10, .int .i64 a11, .str a12, .int .i64 a13, .int .i64 a14,a15,a16]=>match JV (.int .i64) a6,JV .stop a15,JV .pD a16 with|some b6,some b15,some b16=>some ⟨a0,a1,a2,a3,a4,a5,b6,a7,a8,a9,a10,⟨a11,a12,a13,a14,b15,b16⟩⟩|_,_,_=>none
 | _=>none
def decOp17:List V→Option ZQ
 | [.int .i64 a0, .int .i64 a1, .int .i64 a2, .int .u8 a3, .str a4]=>some ⟨a0,a1,a2,a3,a4⟩
 | _=>none
def Xn:List V→Option MN
 | [.int .i64 a0, .int .i64 a1, .int .i64 a2, .int .i64 a3, .int .i64 a4, .int .i64 a5,a6]=>match JV (.int .i64) a6 with|some b6=>some ⟨a0,a1,a2,a3,a4,a5,b6⟩|_=>none
 | _=>none
def decEv16:List V→Option ZR
 | [.int .i64 a0, .int .i64 a1, .int .i64 a2, .int .i64 a3, .int .i64 a4, .int .i64 a5, .int .i64 a6,a7, .str a8]=>match JV (.int .i64) a7 with|some b7=>some ⟨a0,⟨a1,a2,a3,a4,a5,a6,b7⟩,a8⟩|_=>none
 | _=>none
def decEv18:List V→Option ZS
 | [.int .i64 a0, .int .i64 a1,a2]=>match JV (.int .i64) a2 with|some b2=>some ⟨a0,a1,b2⟩|_=>none
 | _=>none
def decArr3:List V→Option ZT
 | [.int .i64 a0, .int .i64 a1, .int .i64 a2]=>some ⟨a0,a1,a2⟩
 | _=>none
def decArr2:List V→Option V2
 | [.int .i64 a0, .int .i64 a1]=>some ⟨a0,a1⟩
 | _=>none
def decDec2:List V→Option ZU
 | [.int .i64 a0, .int .i64 a1, .int .i64 a2, .int .i64 a3]=>some ⟨⟨a0,a1⟩,⟨a2,a3⟩⟩
 | _=>none
def decPost:List V→Option ZV
 | [.str a0, .int .i64 a1]=>some ⟨a0,a1⟩
 | _=>none
def decJob:List V→Option Job
 | [.int .i64 a0, .int .i64 a1, .int .i64 a2, .int .i64 a3]=>some ⟨a0,a1,a2,a3⟩
 | _=>none
def T6:List V→Option I5
 | [.int .i64 a0,a1, .str a2]=>match JV (.int .i64) a1 with|some b1=>some ⟨a0,b1,a2⟩|_=>none
 | _=>none
def Ty.dec:(T:Ty)→List V→Option T.den
 | .int k=>tA k | .bool=>Sc | .str=>Xi
 | .dcm=>decDcm
 | .json=>decJson
 | .raw=>decRaw
 | .raw3=>decRaw3
 | .fld=>decFld
 | .mail=>decMail
 | .token=>Xj
 | .stop=>decStop
 | .pD=>decWay
 | .order=>Xk
 | .yC=>decEdge
 | .layout=>T5
 | .topic=>Xl
 | .state=>Xm
 | .ctl=>decCtl
 | .op17=>decOp17
 | .Vc=>Xn
 | .ev16=>decEv16
 | .ev18=>decEv18
 | .arr3=>decArr3
 | .ZW=>decArr2
 | .dec2=>decDec2
 | .post=>decPost
 | .job=>decJob
 | .record=>T6
def Ty.one:Ty→Bool
 | .int _=>true
 | .bool=>true
 | .str=>true
 | _=>false
def ZK (T:Ty) (x:T.den):V:=bif T.one then (T.cells x).headD .undef else .agg (T.cells x)
def elD (T:Ty):V→Option T.den
 | .agg cs=>bif T.one then none else T.dec cs
 | v=>bif T.one then T.dec [v]else none
def CX:(K:Ty)→K.den→K.den→Bool
 | .str,(a:ah),(b:ah)=>a==b
 | .int _,(a:Int),(b:Int)=>a==b
 | .ZW,(a:V2),(b:V2)=>a.a==b.a&&(a.b==b.b&&true)
 | _,_,_=>false
def WV:Ty→Bool
 | .str=>true
 | .int _=>true
 | .ZW=>true
 | _=>false
def ml (K T:Ty) (k:K.den):List (K.den×T.den)→T.den
 | []=>T.aZ
 | e::r=>bif CX K k e.1 then e.2 else ml K T k r
def K6 (K T:Ty) (k:K.den):List (K.den×T.den)→Bool
 | []=>false
 | e::r=>bif CX K k e.1 then true else K6 K T k r
def Bp (K T:Ty) (k:K.den) (v:T.den):List (K.den×T.den)→List (K.den×T.den)
 | [] => [(k,v)]
 | e::r=>bif CX K k e.1 then (k,v)::r else e::Bp K T k v r
inductive bS where
 | free
 | dead
 | cells (cs:List V)
 | row (T:Ty) (l:List T.den)
 | tok
 | iter (s:ah) (pos:Nat)
 /-- a strings.Builder, its buffer -/
 | mB (v:V)
 | zT (K T:Ty) (l:List (K.den×T.den))
abbrev aN:=List bS
structure St where
 fr:List V
 hp:aN
inductive TD where
 | bool|int (k:IntKind)|string|ptr (e:Nat)|slice (e:Nat)|arr (n e:Nat)|map (k e:Nat)|struct (fs:List (Nat×Nat))|func|iface|other
structure TI where
 d:TD
 size:Nat
 bytes:Nat
 zero:List V
 ty:Option Ty
 eq:Bool:=false
 /-- slices of such elements are rows of ours -/
 rowy:Bool:=false
 /-- strings.Builder -/
 mB:Bool:=false
abbrev dj:=List TI
def TI.none:TI:=⟨.other,0,0, [], .none,false,false,false⟩
def dj.mode (tt:dj) (rs:List Ty):dj:=tt.map fun i => { i with rowy:=match i.ty with|some T=>rs.contains T|none=>false }
def dj.at (tt:dj) (t:Nat):TI:=tt.getD t TI.none
def dj.ok (tt:dj) (t:Nat):Bool:=match (tt.at t).d with | .other=>false|_=>true
def dj.isAgg (tt:dj) (t:Nat):Bool:=match (tt.at t).d with | .struct _=>true | .arr _ _=>true|_=>false
def inK (k:IntKind) (n:Int):Bool:=decide (k.min≤n)&&decide (n≤k.max)
def NM:Value→V
 | .bool b => .bool b
 | .int k n=>if inK k n then .int k n else .undef
 | .string s=>if s.size≤9223372036854775807 then .str s.data.toList else .undef
 | .pointer .none => .ij
 | .slice .none 0 0 => .bx
 | .nilFunc => .fj
 | .map .none => .pE
 | .nilIface => .dt
 | _ => .undef
def ofConst:Value→V
 | .agg cs => .agg (cs.toList.map NM)
 | v=>NM v
def ev (fr:List V):Operand→V
 | .tmp t=>fr.getD t .undef
 | .const c=>ofConst c
 | .func f => .func f [] []
 | .global _ => .undef
section
variable {R:Type}
def cb (b:Bool) (k:Option R):Option R:=bif b then k else none
def lu:List V→List V→Option Bool
 | [], []=>some true
 | .int k a::x, .int k' b::y=>if k=k' then (match lu x y with|some r=>some (a==b&&r)|none=>none)else none
 | .str a::x, .str b::y=>match lu x y with|some r=>some (a==b&&r)|none=>none
 | .bool a::x, .bool b::y=>match lu x y with|some r=>some (a==b&&r)|none=>none
 | _,_=>none
def eqV (a b:V):Option Bool :=
 match a,b with
 | .bool x, .bool y=>some (x==y)
 | .agg xs, .agg ys=>lu xs ys
 | _,_=>none
def isNilV:V→Option Bool
 | .ij=>some true
 | .ptr _ _=>some false
 | .zS _=>some false
 | .wQ _ _ _ _=>some false
 | _=>none
def ptrK {R:Type} (op:BinOp) (a b:V) (k:V→Option R):Option R :=
 match b with
 | .ij =>
  (match op,isNilV a with
   | .eql,some r=>k (.bool r)
   | .neq,some r=>k (.bool (!r))
   | _,_=>none)
 | _=>none
def MO {R:Type} (a:V) (k:Option Bool→Option R):Option R :=
 match a with
 | .bx=>k (some true)
 | .sl _ l _=>bif l.isEmpty then k none else k (some false)
 | .row _ n=>bif decide (n=0)then k none else k (some false)
 | _=>none
def Xo (neg:Bool):Option Bool→V
 | none => .P6
 | some r => .bool (bif neg then !r else r)
def slK {R:Type} (op:BinOp) (a b:V) (k:V→Option R):Option R :=
 match b with
 | .bx =>
  (match op with
   | .eql=>MO a fun r=>k (Xo false r)
   | .neq=>MO a fun r=>k (Xo true r)
   | _=>none)
 | _=>none
def ifK {R:Type} (op:BinOp) (y:Operand) (a b:V) (k:V→Option R):Option R :=
 match y,b,a,op with
 | .const _, .dt, .dt, .eql=>k (.bool true)
 | .const _, .dt, .dt, .neq=>k (.bool false)
 | .const _, .dt, .iface, .eql=>k (.bool false)
 | .const _, .dt, .iface, .neq=>k (.bool true)
 | .const _, .dt, .Rb _ _ _, .eql=>k (.bool false)
 | .const _, .dt, .Rb _ _ _, .neq=>k (.bool true)
 | _,_,_,_=>none
def H6:ah→ah→Bool
 | _, []=>false
 | [],_::_=>true
 | a::x,b::y=>a<b||(a==b&&H6 x y)
def CK (op:BinOp) (x y:V) (k:V→Option R):Option R :=
 match op,x,y with
 | .shl, .int i a, .int _ b=>cb (decide (0≤b)) (k (.int i (i.wrap (a*2 ^ (min b.toNat i.bits)))))
 | .shr, .int i a, .int _ b=>cb (decide (0≤b)) (k (.int i (a.fdiv (2 ^ (min b.toNat i.bits)))))
 | op, .int i a, .int j b =>
  if i=j then
   match op with
   | .add=>k (.int i (i.wrap (a+b)))
   | .sub=>k (.int i (i.wrap (a - b)))
   | .mul=>k (.int i (i.wrap (a*b)))
   | .quo=>cb (!decide (b=0)) (k (.int i (i.wrap (a.tdiv b))))
   | .rem=>cb (!decide (b=0)) (k (.int i (a.tmod b)))
   | .and=>k (.int i (i.wrap (BitVec.ofInt i.bits a &&& BitVec.ofInt i.bits b).toNat))
   | .or=>k (.int i (i.wrap (BitVec.ofInt i.bits a ||| BitVec.ofInt i.bits b).toNat))
   | .xor=>k (.int i (i.wrap (BitVec.ofInt i.bits a ^^^ BitVec.ofInt i.bits b).toNat))
   | .eql=>k (.bool (a==b))
   | .neq=>k (.bool (a != b))
   | .lss=>k (.bool (decide (a<b)))
   | .leq=>k (.bool (decide (a≤b)))
   | .gtr=>k (.bool (decide (a>b)))
   | .geq=>k (.bool (decide (a≥b)))
   | _=>none
  else none
 | op, .str a, .str b =>
  match op with
  | .add=>cb (decide (a.length+b.length≤9223372036854775807)) (k (.str (a++b)))
  | .eql=>k (.bool (a==b))
  | .neq=>k (.bool (!(a==b)))
  | .lss=>k (.bool (H6 a b))
  | .leq=>k (.bool (H6 a b||a==b))
  | .gtr=>k (.bool (!(H6 a b||a==b)))
  | .geq=>k (.bool (!(H6 a b)))
  | _=>none
 | .eql,a,b=>match eqV a b with|some r=>k (.bool r)|none=>none
 | .neq,a,b=>match eqV a b with|some r=>k (.bool (!r))|none=>none
 | _,_,_=>none
def vd (tt:dj) (t:Nat) (cs:List V) (off:Nat) (k:V→Option R):Option R :=
 if tt.ok t then
  if tt.isAgg t then (if off+(tt.at t).size≤cs.length then k (.agg ((cs.drop off).take (tt.at t).size))else none)
  else (match cs[off]? with|some v=>k v|none=>none)
 else none
def Qo (cells:List V):List (Nat×Nat×V)→Option (List V)
 | []=>some cells
 | (off,size,v)::rest =>
  match flatK v with
  | some vs=>if vs.length=size&&off+size≤cells.length then Qo (cells.take off++vs++cells.drop (off+size)) rest else none
  | none=>none
def idxOf (i:V) (k:Int→Option R):Option R:=match i with | .int _ n=>k n|_=>none
def NN (v:Option V) (d:Int) (k:Int→Option R):Option R :=
 match v with
 | none=>k d
 | some (.int _ n)=>k n
 | some _=>none
def eS:List V→List V→Bool
 | [], []=>true
 | .int k _::z, .int k' _::c=>decide (k=k')&&eS z c
 | .str _::z, .str _::c=>eS z c
 | .bool _::z, .bool _::c=>eS z c
 | _,_=>false
def eqOk (i:TI) (a b:List V):Bool:=i.eq&&eS i.zero a&&eS i.zero b
def opP (tt:dj) (o:Op) (ρ:Operand→V) (k:V→Option R):Option R :=
 match o with
 | .move x=>k (ρ x)
 | .assign x=>k (ρ x)
 | .pick c a b =>
  match ρ c with
  | .bool t =>
   (match ρ a,ρ b with
    | .bool u, .bool v=>k (.bool (bif t then u else v))
    | u,v=>bif t then k u else k v)
  | _=>none
 | .nilCheck x =>
  match ρ x with
  | .ptr i o=>k (.ptr i o)
  | .zS cs=>k (.zS cs)
  | .wQ i n j o=>k (.wQ i n j o)
  | .func f a b=>k (.func f a b)
  | _=>none
 | .binOp op t x y _ =>
  match ρ x,ρ y with
  | .agg a, .agg b=>if eqOk (tt.at t) a b then CK op (.agg a) (.agg b) k else none
  | .bool a, .bool b=>(match (tt.at t).d with | .bool=>CK op (.bool a) (.bool b) k|_=>none)
  | .int i a, .int j b=>CK op (.int i a) (.int j b) k
  | .str a, .str b=>CK op (.str a) (.str b) k
  | a,b=>(match (tt.at t).d with | .ptr _=>ptrK op a b k | .slice _=>slK op a b k | .iface=>ifK op y a b k|_=>none)
 | .unOp op _ x =>
  match op,ρ x with
  | .neg, .int i n=>k (.int i (i.wrap (0 - n)))
  | .not, .bool b=>k (.bool (!b))
  | _,_=>none
 | .convert s d x =>
  if !tt.ok s then none else
  match (tt.at d).d,ρ x with
  | .int i, .int _ n=>k (.int i (i.wrap n))
  | .string, .str t=>(match (tt.at s).d with | .string=>k (.str t)|_=>none)
  | _,_=>none
 | .makeInterface t x =>
  match (tt.at t).d,ρ x with
  | .int _, .int i n=>k (.Rb t i n)
  | _,_=>none
 | .fieldAddr s x f =>
  match (tt.at s).d with
  | .struct fs =>
   (match fs[f]? with
    | some (off,t) =>
     if (tt.at t).size=0 || !tt.ok t then none else
     (match ρ x with
     | .ptr i o=>k (.ptr i (o+off))
     | .zS cs=>k (.zS (cs.drop off))
     | .wQ i n j o=>k (.wQ i n j (o+off))
     | _=>none)
    | none=>none)
  | _=>none
 | .field s x f =>
  match (tt.at s).d,ρ x with
  | .struct fs, .agg cs=>(match fs[f]? with|some (off,t)=>vd tt t cs off k|none=>none)
  | _,_=>none
 | .indexAddr t x i =>
  idxOf (ρ i) fun n =>
  match (tt.at t).d,ρ x with
  | .slice e, .sl T l _=>if T.sz=(tt.at e).size&&tt.ok e then cb (decide (0≤n)&&decide (n<l.length)) (k (.zS (T.cells (l.getD n.toNat T.aZ))))else none
  | .slice e, .row id m=>if tt.ok e then cb (decide (0≤n)&&decide (n<m)) (k (.wQ id (tt.at e).size n.toNat 0))else none
  | .arr m e, .ptr id o=>if tt.ok e then cb (decide (0≤n)&&decide (n<m)) (k (.ptr id (o+n.toNat*(tt.at e).size)))else none
  | .slice e, .V3 m cs=>if tt.ok e&&decide ((tt.at e).size≠0)&&decide (cs.length=m*(tt.at e).size)then cb (decide (0≤n)&&decide (n<m)) (k (.zS (cs.drop (n.toNat*(tt.at e).size))))else none
  | _,_=>none
 | .index t x i =>
  idxOf (ρ i) fun n =>
  match (tt.at t).d,ρ x with
  | .string, .str s=>cb (decide (0≤n)&&decide (n<s.length)) (k (.int .u8 (s.getD n.toNat 0).toNat))
  | .arr m e, .agg cs=>cb (decide (0≤n)&&decide (n<m)) (vd tt e cs (n.toNat*(tt.at e).size) k)
  | _,_=>none
 | .slice t x lo hi mx =>
  match mx with
  | some _=>none
  | none =>
   (match (tt.at t).d,ρ x with
    | .string, .str s =>
     NN (hi.map ρ) s.length fun h=>NN (lo.map ρ) 0 fun l =>
     cb (decide (0≤h)&&decide (h≤s.length)) (cb (decide (0≤l)&&decide (l≤h)) (k (.str ((s.drop l.toNat).take (h.toNat - l.toNat)))))
    | .slice e, .sl T s _ =>
     if T.sz=(tt.at e).size&&tt.ok e then
     NN (lo.map ρ) 0 fun l =>
     (match hi with
     | none=>cb (decide (0≤l)&&decide (l≤s.length)) (k (.sl T (s.drop l.toNat) .no))
     | some hi =>
      NN (some (ρ hi)) 0 fun h =>
      cb (decide (0≤h)&&decide (h≤s.length)) (cb (decide (0≤l)&&decide (l≤h)) (k (.sl T ((s.drop l.toNat).take (h.toNat - l.toNat)) .no))))
     else none
    | .slice e, .bx =>
     if !tt.ok e then none else
     NN (hi.map ρ) 0 fun h=>NN (lo.map ρ) 0 fun l=>cb (decide (h=0)&&decide (l=0)) (k .bx)
    | _,_=>none)
 | .makeFunc (.func f) first cap=>k (.func f (first.toList.map ρ) (cap.toList.map ρ))
 | .extract t i=>match ρ t with | .tuple vs=>(match vs[i]? with|some v=>k v|none=>none)|_=>none
 | .build t parts =>
  match (tt.at t).d with
  | .struct fs =>
   if !fs.all (fun f=>tt.ok f.2) || !tt.ok t||decide (1000000≤(tt.at t).zero.length)then none else
   (match Qo (tt.at t).zero (parts.toList.map fun (i,x)=>((fs.getD i (0,0)).1,if i<fs.length then (tt.at (fs.getD i (0,0)).2).size else 1000000,ρ x))with
    | some cs=>k (.agg cs)|none=>none)
  | .arr _ e =>
   if !tt.ok e || !tt.ok t||decide (1000000≤(tt.at t).zero.length)then none else
   (match Qo (tt.at t).zero (parts.toList.map fun (i,x)=>(i*(tt.at e).size,(tt.at e).size,ρ x))with
    | some cs=>k (.agg cs)|none=>none)
  | _=>none
 | .call c =>
  match c.callee,c.args.toList with
  | .builtin .len, [x] =>
   (match c.argTypes.toList with
    | [t] =>
     (match (tt.at t).d,ρ x with
     | .string, .str s=>k (.int .i64 s.length)
     | .slice _, .sl _ l _=>k (.int .i64 l.length)
     | .slice _, .V3 n _=>k (.int .i64 n)
     | .slice _, .row _ n=>k (.int .i64 n)
     | .slice _, .bx=>k (.int .i64 0)
     | _,_=>none)
    | _=>none)
  | .builtin .min, [x,y]=>(match ρ x,ρ y with | .int i a, .int j b=>if i=j then k (.int i (min a b))else none|_,_=>none)
  | .builtin .max, [x,y]=>(match ρ x,ρ y with | .int i a, .int j b=>if i=j then k (.int i (max a b))else none|_,_=>none)
  | _,_=>none
 | _=>none
end
def aN.at (h:aN) (i:Nat):bS:=h.getD i .dead
def Tok.rR (ρ:Nat→Option Nat):Tok→Tok
 | .own i=>match ρ i with|some j => .own j|none => .no
 | t=>t
mutual
def V.rR (ρ:Nat→Option Nat):V→V
 | .ptr i o=>match ρ i with|some j => .ptr j o|none => .undef
 | .sl T l t => .sl T l (t.rR ρ)
 | .row i n=>match ρ i with|some j => .row j n|none => .undef
 | .JU i q n=>match ρ i with|some j => .JU j q n|none => .undef
 | .wQ i n k o=>match ρ i with|some j => .wQ j n k o|none => .undef
 | .map i=>match ρ i with|some j => .map j|none => .undef
 | .func f a b => .func f (V.C9 ρ a) (V.C9 ρ b)
 | .agg cs => .agg (V.C9 ρ cs)
 | .tuple vs => .tuple (V.C9 ρ vs)
 | .zS cs => .zS (V.C9 ρ cs)
 | .V3 n cs => .V3 n (V.C9 ρ cs)
 | v=>v
def V.C9 (ρ:Nat→Option Nat):List V→List V
 | [] => []
 | v::vs=>v.rR ρ::V.C9 ρ vs
end
def bS.rR (ρ:Nat→Option Nat):bS→bS
 | .cells cs => .cells (V.C9 ρ cs)
 | .mB v => .mB (v.rR ρ)
 | o=>o
mutual
def V.ids:V→List Nat
 | .ptr i _ => [i]
 | .sl _ _ (.own i) => [i]
 | .row i _ => [i]
 | .JU i _ _ => [i]
 | .wQ i _ _ _ => [i]
 | .map i => [i]
 | .func _ a b=>V.vW a++V.vW b
 | .agg cs=>V.vW cs
 | .tuple vs=>V.vW vs
 | .zS cs=>V.vW cs
 | .V3 _ cs=>V.vW cs
 | _ => []
def V.vW:List V→List Nat
 | [] => []
 | v::vs=>v.ids++V.vW vs
end
def bS.ids:bS→List Nat
 | .cells cs=>V.vW cs
 | .mB v=>v.ids
 | _ => []
def reach (h:aN):Nat→List Nat→List Nat→List Nat
 | 0,_,seen=>seen
 | _+1, [],seen=>seen
 | n+1,i::todo,seen=>if seen.contains i then reach h n todo seen else reach h n (todo++(h.at i).ids) (seen ++ [i])
def CY (ord:List Nat) (i:Nat):Option Nat:=let p:=ord.idxOf i; if p<ord.length then some p else none
def aN.pick (h:aN) (ord:List Nat):aN:=ord.map fun i=>(h.at i).rR (CY ord)
def qI (ord:List Nat) (n:Nat) (j:Nat):Nat:=if j<ord.length then ord.getD j 0 else n+(j - ord.length)
def aN.EO (h:aN):List (Nat×bS)→aN
 | []=>h
 | (i,o)::r=>aN.EO (h.set i o) r
def aN.back (h:aN) (ord:List Nat) (h':aN):aN :=
 let ρ:=fun j=>some (qI ord h.length j)
 aN.EO h (ord.zip ((h'.take ord.length).map (bS.rR ρ)))++(h'.drop ord.length).map (bS.rR ρ)
section
variable {R:Type}
abbrev Spec (R:Type):=List V→aN→(V→aN→Option R)→Option R
def T7 (l:List Int):ah:=l.flatMap fun n=>(Utf8.encode n).data.toList
def Bq (tt:dj) (t:Nat):Ty→Bool
 | .str=>(match (tt.at t).d with | .string=>true|_=>false)
 | .int k=>(match (tt.at t).d with | .int k'=>decide (k'=k)|_=>false)
 | _=>false
def EP (tt:dj) (t:Nat):Ty→Bool
 | .bool=>(match (tt.at t).d,(tt.at t).zero with | .bool, [.bool false]=>true|_,_=>false)
 | .int k=>(match (tt.at t).d,(tt.at t).zero with | .int _, [.int k' 0]=>decide (k'=k)|_,_=>false)
 | _=>false
def MP (lim:Option Nat) (i:Nat):Bool:=match lim with|none=>true|some m=>decide (i<m)
def opR (tt:dj) (o:Op) (ρ:Operand→V) (h:aN) (lim:Option Nat) (k:V→Option R):Option R :=
 match o with
 | .load t x =>
  match ρ x with
  | .ptr i o =>
   if MP lim i then
    match h.at i with
    | .cells cs=>vd tt t cs o k
    | .mB v=>vd tt t [.undef,v] o k
    | _=>none
   else none
  | .zS cs=>vd tt t cs 0 k
  | .wQ i sz j o =>
   if MP lim i then
    match h.at i with
    | .row T l=>if sz=T.sz then cb (decide (j<l.length)) (vd tt t (T.cells (l.getD j T.aZ)) o k)else none
    | _=>none
   else none
  | _=>none
 | .lookup t x ix ok =>
  match (tt.at t).d,ρ x with
  | .map kt vt, .map i =>
   if MP lim i then
    match h.at i with
    | .zT K T l =>
     if Bq tt kt K&&EP tt vt T then
      match elD K (ρ ix)with
      | some kx=>bif ok then k (.tuple [ZK T (ml K T kx l), .bool (K6 K T kx l)])else k (ZK T (ml K T kx l))
      | none=>none
     else none
    | _=>none
   else none
  | _,_=>none
 | .convert s d x =>
  match (tt.at d).d,(tt.at s).d,ρ x with
  | .string, .slice e, .row i _ =>
   if MP lim i then
    match (tt.at e).d,h.at i with
    | .int .u8, .row (.int .u8) l=>k (.str ((l:List Int).map fun n=>UInt8.ofNat n.toNat))
    | _,_=>none
   else none
  | .string, .slice e, .sl T l _ =>
   match (tt.at e).d,T,l with
   | .int .u8, .int .u8,l=>k (.str ((l:List Int).map fun n=>UInt8.ofNat n.toNat))
   | .int .i32, .int .i32,l=>cb (decide (4*l.length≤9223372036854775807)) (k (.str (T7 l)))
   | _,_,_=>none
  | .string, .slice e, .bx=>match (tt.at e).d with | .int .u8=>k (.str [])|_=>none
  | _,_,_=>none
 | _=>none
def Rc (s:ah):List (Ty.den (.int .u8)):=(s.map fun b=>(b.toNat:Int):List Int)
def zU (T:Ty):List (List V)→Option (List T.den)
 | []=>some []
 | c::cs=>match T.dec c,zU T cs with|some x,some xs=>some (x::xs)|_,_=>none
def chunks (n:Nat):Nat→List V→List (List V)
 | 0,_ => []
 | m+1,l=>l.take n::chunks n m (l.drop n)
def JW (ρ:Operand→V):Option Operand→Bool
 | none=>true
 | some x=>(match ρ x with | .int _ _=>true|_=>false)
def opA (tt:dj) (o:Op) (ρ:Operand→V) (k:bS→(Nat→V)→Option R):Option R :=
 match o with
 | .alloc t=>if (tt.at t).mB then k (.mB .bx) fun i => .ptr i 0 else if tt.ok t then k (.cells (tt.at t).zero) fun i => .ptr i 0 else none
 | .box t x=>match flatK (ρ x)with|some cs=>if tt.ok t&&decide (cs.length=(tt.at t).size)then k (.cells cs) fun i => .ptr i 0 else none|none=>none
 | .buildSlice t len parts =>
  match (tt.at t).d with
  | .slice e =>
   let sz:=(tt.at e).size
   if sz=0||decide (len*sz>4096) || !tt.ok e then none else
   (match Qo ((List.replicate len (tt.at e).zero).flatten) (parts.toList.map fun (i,x)=>(i*sz,sz,ρ x)),(tt.at e).ty with
    | some cs,some T =>
     if T.sz=sz then
      if ((tt.at e).rowy&&decide (len=0))=true then k (.row T []) fun i => .row i 0 else
      (match zU T (chunks sz len cs)with|some l=>k .tok fun i => .sl T l (.own i)|none=>k .dead fun _ => .V3 len cs)
     else none
    | some cs,none=>k .dead fun _ => .V3 len cs
    | none,_=>none)
  | _=>none
 | .makeSlice t n c =>
  match (tt.at t).d,ρ n,ρ c with
  | .slice e, .int _ a, .int _ b =>
   (match (tt.at e).ty with
    | some T =>
     (match T.dec (tt.at e).zero with
     | some z=>if T.sz=(tt.at e).size&&tt.ok e then cb (decide (0≤a)&&decide (a=b)&&decide (a*(tt.at e).bytes≤140737488355328)&&decide (a≤140737488355328)) (k (.row T (List.replicate a.toNat z)) fun i => .row i a.toNat)else none
     | none=>none)
    | none=>none)
  | _,_,_=>none
 | .convert s d x =>
  match (tt.at s).d,(tt.at d).d,ρ x with
  | .string, .slice e, .str t =>
   (match (tt.at e).d with
    | .int .u8=>k (.row (.int .u8) (Rc t)) fun i => .row i t.length
    | _=>none)
  | _,_,_=>none
 | .makeMap t rsv =>
  if JW ρ rsv then
  match (tt.at t).d with
  | .map kt vt =>
   (match (tt.at kt).ty,(tt.at vt).ty with
    | some K,some T=>if Bq tt kt K&&EP tt vt T then k (.zT K T []) fun i => .map i else none
    | _,_=>none)
  | _=>none
  else none
 | .range t x=>match (tt.at t).d,ρ x with | .string, .str s=>k (.iter s 0) fun i => .ptr i 0|_,_=>none
 | _=>none
def ER (cs:List V) (o:Nat) (vs:List V):List V:=cs.take o++vs++cs.drop (o+vs.length)
def Vd (T:Ty) (h:aN):V→Option (List T.den)
 | .bx=>some []
 | .sl T' l _=>if e:T'=T then some (e▸l)else none
 | .row i _=>match h.at i with | .row T' l=>if e:T'=T then some (e▸l)else none|_=>none
 | .V3 n cs=>if cs.length=n*T.sz then zU T (chunks T.sz n cs)else none
 | .str s=>if e:T = .int .u8 then some (e▸Rc s)else none
 | _=>none
def pb (tt:dj) (e:Nat) (s x:V) (h:aN) (id:Nat) (k:V→aN→Option R):Option R :=
 match (tt.at e).ty with
 | some T =>
  if T.sz=(tt.at e).size&&(tt.at e).bytes != 0&&tt.ok e then
  (match Vd T h x with
   | some m =>
    let room (n:Nat) (q:Option R):Option R:=cb (decide ((n+m.length)*(tt.at e).bytes≤140737488355328)) q
    (match s with
    | .bx=>room 0 (if (tt.at e).rowy then k (.row id m.length) (h.set id (.row T m))else k (.sl T m (.own id)) (h.set id .tok))
    | .sl T' l tk =>
     if q:T'=T then
      let l':List T.den:=q▸l
      (match tk with
       | .no=>none
       | .nil=>room l.length (k (.sl T (l'++m) (.own id)) (h.set id .tok))
       | .own i=>(match h.at i with | .tok=>room l.length (k (.sl T (l'++m) (.own id)) ((h.set i .dead).set id .tok))|_=>none))
     else none
    | .row i _ =>
     (match h.at i with
      | .row T' l =>
       if q:T'=T then
        let l':List T.den:=q▸l
        room l.length (k (.row id (l'.length+m.length)) ((h.set i .dead).set id (.row T (l'++m))))
       else none
      | _=>none)
    | _=>none)
   | none=>none)
  else none
 | none=>none
def mm (s:ah) (pos:Nat):Nat×Nat:=Utf8.decode ⟨s.toArray⟩ pos
def JX (tt:dj) (t:Nat) (v:V) (h:aN) (k:V→aN→Option R):Option R :=
 match (tt.at t).d,v with
 | .arr m e, .ptr i 0 =>
  (match h.at i with
   | .cells cs =>
    (match (tt.at e).ty with
    | some T =>
     if T.sz=(tt.at e).size&&tt.ok e&&decide (cs.length=m*T.sz)&&decide (m≠0)&&decide (m≤4096)then
      match zU T (chunks T.sz m cs)with
      | some l=>k (.sl T l .no) (h.set i .dead)
      | none=>none
     else none
    | none=>none)
   | _=>none)
 | _,_=>none
def WW (tt:dj) (o:Op) (ρ:Operand→V) (h:aN) (id:Nat) (k:V→aN→Option R):Option R :=
 match o with
 | .slice t x lo hi mx=>bif lo.isNone&&hi.isNone&&mx.isNone then JX tt t (ρ x) h k else none
 | .store t x y =>
  match flatK (ρ y)with
  | none=>none
  | some vs =>
  if tt.ok t&&decide (vs.length=(tt.at t).size)then
   match ρ x with
   | .ptr i o =>
    (match h.at i with
     | .cells cs=>if o+vs.length≤cs.length then k .undef (h.set i (.cells (ER cs o vs)))else none
     | .mB _=>(match o,vs with|1, [v]=>k .undef (h.set i (.mB v))|_,_=>none)
     | _=>none)
   | .wQ i sz j o =>
    (match h.at i with
     | .row T l =>
      if sz=T.sz then
      let cs:=T.cells (l.getD j T.aZ)
      if o+vs.length≤cs.length then
       (match T.dec (ER cs o vs)with
       | some y=>cb (decide (j<l.length)) (k .undef (h.set i (.row T (l.set j y))))
       | none=>none)
      else none
      else none
     | _=>none)
   | _=>none
  else none
 | .call c =>
  match c.callee,c.args.toList,c.argTypes.toList with
  | .builtin .append, [s,x], [t,xt] =>
   (match (tt.at t).d,(tt.at xt).d with
    | .slice e, .slice _=>pb tt e (ρ s) (ρ x) h id k
    | .slice e, .string=>pb tt e (ρ s) (ρ x) h id k
    | _,_=>none)
  | _,_,_=>none
 | .mapUpdate t m x y =>
  match (tt.at t).d,ρ m with
  | .map kt vt, .map i =>
   (match h.at i with
    | .zT K T l =>
     if Bq tt kt K&&EP tt vt T then
      match elD K (ρ x),elD T (ρ y)with
      | some kx,some vx=>k .undef (h.set i (.zT K T (Bp K T kx vx l)))
      | _,_=>none
     else none
    | _=>none)
  | _,_=>none
 | .insert t m x y =>
  match (tt.at t).d,ρ m with
  | .map kt vt, .map i =>
   (match h.at i with
    | .zT K T l =>
     if Bq tt kt K&&EP tt vt T then
      match elD K (ρ x),elD T (ρ y)with
      | some kx,some vx=>k .undef (h.set i (.zT K T (Bp K T kx vx l)))
      | _,_=>none
     else none
    | _=>none)
  | _,_=>none
 | .next x str =>
  match str,ρ x with
  | true, .ptr i 0 =>
   (match h.at i with
    | .iter s pos=>bif decide (pos<s.length)then k (.tuple [.bool true, .int .i64 pos, .int .i32 (mm s pos).1]) (h.set i (.iter s (pos+(mm s pos).2)))else k (.tuple [.bool false]) h
    | _=>none)
  | _,_=>none
 | _=>none
mutual
def V.shut (h:aN):V→V
 | .sl T l _ => .sl T l .no
 | .row i _=>match h.at i with | .row T l => .sl T l .no|_ => .undef
 | .agg cs => .agg (V.Ve h cs)
 | .tuple vs => .tuple (V.Ve h vs)
 | v=>v
def V.Ve (h:aN):List V→List V
 | [] => []
 | v::vs=>v.shut h::V.Ve h vs
end
def V.scal1:V→Bool
 | .int _ _ | .bool _ | .str _ | .ij | .bx | .pE | .fj | .dt | .iface | .Rb _ _ _=>true
 | _=>false
def V.scal:V→Bool
 | .tuple vs=>vs.all V.scal1
 | .agg vs=>vs.all V.scal1
 | v=>v.scal1
inductive Cls where
 | P|R|A|W|C|F|X
 deriving DecidableEq
def ff (tt:dj):Op→Cls
 | .move _ | .assign _ | .pick _ _ _ | .nilCheck _ | .binOp _ _ _ _ _ | .unOp _ _ _ | .fieldAddr _ _ _ | .field _ _ _ | .indexAddr _ _ _ | .index _ _ _
 | .makeFunc _ _ _ | .extract _ _ | .build _ _ | .makeInterface _ _ => .P
 | .slice t _ _ _ _=>match (tt.at t).d with | .arr _ _ => .W|_ => .P
 | .convert s d _ =>
  match (tt.at s).d,(tt.at d).d with
  | .slice _, .string => .R
  | .string, .slice _ => .A
  | _,_ => .P
 | .load _ _ => .R
 | .lookup _ _ _ _ => .R
 | .alloc _ | .box _ _ | .buildSlice _ _ _ | .makeSlice _ _ _ | .range _ _ | .makeMap _ _ => .A
 | .store _ _ _ => .W
 | .mapUpdate _ _ _ _ => .W
 | .insert _ _ _ _ => .W
 | .next _ str=>bif str then .W else .X
 | .call c=>match c.callee with
  | .builtin .len => .P | .builtin .min => .P | .builtin .max => .P
  | .builtin .append => .W
  | .builtin _ => .X
  | .value _ => .C
  | .invoke _ _ => .X
 | _ => .X
def mn (fr:List V) (dst:Option Nat) (v:V):List V:=match dst with|some d=>fr.set d v|none=>fr
def Xp:V→V
 | .sl T l _ => .sl T l .no
 | v=>v
def K7:V→V
 | .sl T l _ => .sl T l .no
 | .agg cs => .agg (cs.map Xp)
 | v=>v
abbrev Env (R:Type):=Nat→Option (Bool×Spec R)
def pc (E:Env R) (o:Op):Bool :=
 match o with
 | .call c=>(match c.callee with | .value (.func g)=>(match E g with|some (b,_)=>b|none=>false) | .value (.tmp _)=>true|_=>false)
 | _=>false
def mo (E:Env R) (o:Op):Bool :=
 match o with
 | .call c=>(match c.callee with | .value (.func g)=>pj.soft g&&(match E g with|some (false,_)=>true|_=>false)|_=>false)
 | _=>false
def rA:Op→Bool
 | .call c=>(match c.callee with | .builtin .append=>true|_=>false)
 | _=>false
def lowS (id:Nat):V→Bool | .row _ _=>false | .sl _ _ (.own i)=>decide (i<id)|_=>true
def lowX (id:Nat):V→Bool | .row i _=>decide (i<id)|_=>true
def zV (o:Op) (ρ:Operand→V) (id:Nat):Bool :=
 match o with
 | .call c=>(match c.args.toList with | [s,x]=>lowS id (ρ s)&&lowX id (ρ x)|_=>true)
 | _=>true
def dC (tt:dj) (E:Env R) (o:Op):Cls:=match ff tt o with | .C=>bif pc E o then .C else .F|c=>c
def canon (tt:dj) (t:Nat) (v:V):V :=
 match (tt.at t).ty with
 | some T =>
  (match v with
   | .agg cs=>(match T.dec cs with|some x=>if tt.isAgg t then .agg (T.cells x)else v|none=>v)
   | v=>(match T.dec [v]with|some x=>if tt.isAgg t then v else (match T.cells x with | [c]=>c|_=>v)|none=>v))
 | none =>
  (match (tt.at t).d with
   | .slice e=>(match (tt.at e).ty with|some T=>(match JV T v with|some l => .sl T l .no|none=>v)|none=>v)
   | _=>v)
def Rd (tt:dj):List Nat→List V→List V
 | t::ts,v::vs=>canon tt t v::Rd tt ts vs
 | _,vs=>vs
def lendK (sp:Spec R) (vs:List V) (h:aN) (k:V→aN→Option R):Option R :=
 match V.vW vs with
 | []=>sp vs [] fun v h'=>(match h' with | []=>bif v.scal then k v h else none|_::_=>none)
 | _::_=>none
def CZ (tt:dj) (E:Env R) (full:Bool) (c:Call) (ρ:Operand→V) (h:aN) (k:V→aN→Option R):Option R :=
 match c.callee with
 | .value f =>
  match ρ f with
  | .func g first cap =>
   let vs:=first++c.args.toList.map ρ++cap
   (match E g with
    | some (true,sp) =>
     let ps:=(first++Rd tt c.argTypes.toList (c.args.toList.map ρ)++cap).map K7
     (match V.vW ps with
     | []=>sp ps [] fun v h'=>(match h' with | []=>k v h|_::_=>none)
     | _::_=>bif full then lendK sp (V.Ve h ps) h k else none)
    | some (false,sp) =>
     bif full then
      bif pj.soft g then sp vs h k else
      let ord:=reach h 64 (V.vW vs) []
      sp (V.C9 (CY ord) vs) (h.pick ord) fun v h'=>k (v.rR fun j=>some (qI ord h.length j)) (h.back ord h')
     else none
    | none=>none)
  | _=>none
 | _=>none
def Ea (tt:dj) (E:Env R) (drawn:Option Nat) (id:Nat) (o:Oper) (st:St) (k:St→Option R):Option R :=
 let ρ:=ev st.fr
 match ff tt o.op with
 | .P=>opP tt o.op ρ fun v=>k ⟨mn st.fr o.dst v,st.hp⟩
 | .R=>opR tt o.op ρ st.hp drawn fun v=>k ⟨mn st.fr o.dst v,st.hp⟩
 | .A=>opA tt o.op ρ fun ob mk=>k ⟨mn st.fr o.dst (mk id),st.hp.set id ob⟩
 | .W=>bif drawn.isSome && !zV o.op ρ id then none else WW tt o.op ρ st.hp id fun v h=>k ⟨mn st.fr o.dst v,h⟩
 | .C=>match o.op with | .call c=>CZ tt E (drawn.isNone || !pc E o.op) c ρ st.hp fun v h=>k ⟨mn st.fr o.dst v,h⟩|_=>none
 | .F=>none
 | .X=>none
def bV (tt:dj) (o:Oper):Bool:=match ff tt o.op with | .A=>true | .W=>true|_=>false
def zW (all:List Oper) (o:Oper) (st:St) (run skip:St→Option R):Option R :=
 match o.guard with
 | none=>run st
 | some (j,want) =>
  match ((all[j]?).bind (·.dst))with
  | none=>none
  | some d =>
   match st.fr.getD d .undef with
   | .bool b =>
    bif b then (if want then run ⟨st.fr.set d (.bool true),st.hp⟩else skip ⟨st.fr.set d (.bool true),st.hp⟩)
    else (if want then skip ⟨st.fr.set d (.bool false),st.hp⟩else run ⟨st.fr.set d (.bool false),st.hp⟩)
   | .tuple []=>skip st
   | _=>none
def Xq {α β:Type} (l:List α) (k:List α→β):β :=
 List.rec (motive:=fun _=>(List α→β)→β) (fun k=>k []) (fun v _ ih k=>ih fun r=>k (v::r)) l k
theorem JY {α β:Type}:∀(l:List α) (k:List α→β),Xq l k=k l
 | [],_=>rfl
 | v::l,k=>JY l fun r=>k (v::r)
def PD {β:Type} (st:St) (k:St→β):β:=Xq st.fr fun fr=>Xq st.hp fun hp=>k ⟨fr,hp⟩
theorem K8 {β:Type} (st:St) (k:St→β):PD st k=k st:=by unfold PD; rw[JY,JY]
def Xr (tt:dj) (E:Env R) (drawn:Option Nat) (all:List Oper):List Oper→Nat→St→(St→Option R)→Option R
 | [],_,st,k=>k st
 | o::rest,id,st,k =>
  let id':=if bV tt o then id+1 else id
  zW all o st (fun st=>Ea tt E drawn id o st fun st=>PD st fun st=>Xr tt E drawn all rest id' st k)
   (fun st=>PD ⟨mn st.fr o.dst (.tuple []),st.hp⟩ fun st=>Xr tt E drawn all rest id' st k)
def WX (M:List Nat) (es:List Nat):Nat:=es.foldl (fun m e=>m ||| (Nat.pow 2 e ||| M.getD e 0)) 0
def K9 (o:Oper):List Nat:=(o.after.toList.filter fun e=>Region.binds .any e).map (·.on)
def Sd (ops:List Oper):List Nat:=ops.foldl (init := []) fun M o=>M ++ [WX M (K9 o)]
def beforeL (n:Nat) (M:List Nat):List (List Nat):=(List.range n).map fun j=>(List.range n).filter fun i=>(M.getD j 0).testBit i
def looks (all:List Oper) (o:Oper):List Nat :=
 (o.op.operands.toList.filterMap fun | .tmp t=>some t|_=>none) ++
 (match o.guard with|some (g,_)=>((all[g]?).bind (·.dst)).toList|none => [])
def Da (all:List Oper) (x y:Oper):Bool :=
 (match x.dst with|some d => !(looks all y).contains d&&y.dst != some d|none=>true) &&
 (match y.dst with|some d => !(looks all x).contains d|none=>true)
def Qp (a b:Cls):Bool :=
 match a,b with
 | .X,_|_, .X=>false
 | .P,_|_, .P=>true
 | .C, .R | .C, .A | .R, .C | .A, .C=>true
 | .R, .R | .R, .A | .A, .R | .A, .A=>true
 | _,_=>false
def tokPair (tt:dj) (E:Env R) (x y:Op):Bool :=
 ((rA x&&(match dC tt E y with | .A | .R=>true|_=>false))||((match dC tt E x with | .R=>true|_=>false)&&rA y)) ||
  ((mo E x&&(match dC tt E y with | .R=>true|_=>false))||((match dC tt E x with | .R=>true|_=>false)&&mo E y))
def T8 (tt:dj) (E:Env R) (all:List Oper) (x y:Oper):Bool:=(Qp (dC tt E x.op) (dC tt E y.op)||tokPair tt E x.op y.op)&&Da all x y
def isF (tt:dj) (E:Env R) (o:Op):Bool:=match dC tt E o with | .F=>true|_=>false
def farR (tt:dj) (E:Env R) (all:List Oper) (x:Oper):Bool:=(match dC tt E x.op with | .R=>true|_=>false)&&all.any fun y=>isF tt E y.op&&Da all x y
def rX (all:List Oper) (o:Oper):Bool :=
 match o.op with
 | .store _ (.tmp t) _=>o.dst.isNone&&o.guard.isNone&&((all.any fun z=>z.dst==some t&&(match z.op with | .fieldAddr _ _ _=>true|_=>false))||all.all fun z=>z.dst != some t)
 | _=>false
def viaMade (all:List Oper) (o:Oper):Bool :=
 match o.op with
 | .store _ (.tmp t) _=>o.dst.isNone&&o.guard.isNone&&all.any fun z=>z.dst==some t&&(match z.op with | .alloc _=>true|_=>false)
 | _=>false
def viaS (all:List Oper) (o:Oper):Bool:=rX all o||viaMade all o
def vX (all:List Oper) (o:Oper):Bool :=
 match o.op with
 | .store _ (.tmp t) _=>o.dst.isNone&&o.guard.isNone&&all.any fun z=>z.dst==some t&&(match z.op with | .indexAddr _ _ _=>true|_=>false)
 | _=>false
def farW (all:List Oper) (x y:Oper):Bool:=(rX all x&&vX all y)||(vX all x&&rX all y)
def farR2 (tt:dj) (E:Env R) (all:List Oper) (x:Oper):Bool:=(match dC tt E x.op with | .R=>true|_=>false)&&all.any (viaS all)
def rdA (tt:dj) (E:Env R) (x:Oper):Bool:=match dC tt E x.op with | .R | .A=>true|_=>false
def noApp (tt:dj) (E:Env R) (x y:Oper):Bool := !(rA x.op&&rdA tt E y) && !(rdA tt E x&&rA y.op)
def drS (tt:dj) (S:Option (Bool×List Nat)) (base:Nat) (o:Oper):Option Nat:=match S with|some (true,_)=>(match ff tt o.op with | .W=>none|_=>some base)|_=>some base
def MQ (tt:dj) (E:Env R) (far:Option Bool) (all:List Oper) (x y:Oper):Bool :=
 (T8 tt E all x y&&(match far with|some true=>noApp tt E x y|_=>true))||(match far with
  | none=>false
  | some true=>((farR tt E all x&&isF tt E y.op)||(isF tt E x.op&&(!mo E x.op&&(match ff tt y.op with | .A=>true|_=>false)))||farW all x y||(isF tt E x.op&&farR tt E all y))&&Da all x y
  | some false=>(farR2 tt E all x&&viaS all y)&&Da all x y)
def Br (o:Op) (ρ:Operand→V):List Nat:=match o with | .load _ x=>(ρ x).ids | .lookup _ x _ _=>(ρ x).ids | .convert _ _ x=>(ρ x).ids|_ => []
def mD (o:Op) (ρ:Operand→V) (h:aN):List Nat :=
 match o with
 | .call c=>(match c.callee with | .value f=>(match ρ f with | .func _ first cap=>reach h 64 (V.vW (first++c.args.toList.map ρ++cap)) []|_ => [])|_ => [])
 | _ => []
def GB (o:Op) (ρ:Operand→V):List Nat:=match o with | .store _ x _=>(ρ x).ids|_ => []
def Re (tt:dj) (E:Env R) (base:Nat) (S:Option (Bool×List Nat)) (all:List Oper) (o:Oper) (ρ:Operand→V) (h:aN):Bool :=
 match S with
 | none=>true
 | some (false,A) =>
  match ff tt o.op with
  | .R => !farR2 tt E all o||(Br o.op ρ).all fun i => !A.contains i
  | .W => !viaS all o||(GB o.op ρ).all fun i=>A.contains i
  | _=>true
 | some (true,A) =>
  match ff tt o.op with
  | .R => !farR tt E all o||(Br o.op ρ).all fun i=>A.contains i
  | .C => !isF tt E o.op||mo E o.op||(Nat.ble (base+(all.filter (bV tt)).length) h.length&&(mD o.op ρ h).all (fun i=>Nat.blt i base)&&A.all fun i=>Nat.blt i h.length && !(mD o.op ρ h).contains i)
  | .W=>(!rX all o||(GB o.op ρ).all fun i=>A.contains i)&&(!vX all o||(GB o.op ρ).all fun i => !A.contains i)
  | _=>true
def Xs (ops:List Oper) (fr:List V):List Nat:=ops.flatMap fun o=>match o.op with | .fieldAddr _ x _=>(ev fr x).ids | .load _ x=>(ev fr x).ids | .store _ x _=>(ev fr x).ids|_ => []
def madeAt (tt:dj) (t:Nat):List Oper→Nat→List Nat
 | [],_ => []
 | z::l,id=>bif z.dst==some t then [id]else madeAt tt t l (bif bV tt z then id+1 else id)
def Xt (tt:dj) (n:Nat) (ops:List Oper) (fr:List V):List Nat:=ops.flatMap fun o =>
 bif rX ops o then (match o.op with | .store _ (.tmp t) _=>bif (ops.all fun z=>z.dst != some t)then (ev fr (.tmp t)).ids else ops.flatMap (fun z=>bif z.dst==some t then (match z.op with | .fieldAddr _ x _=>(ev fr x).ids|_ => [])else [])|_ => [])
 else bif viaMade ops o then (match o.op with | .store _ (.tmp t) _=>madeAt tt t ops n|_ => [])else []
def opsS (tt:dj) (E:Env R) (base:Nat) (A:Bool×List Nat) (all:List Oper):List Oper→Nat→St→(St→Option R)→Option R
 | [],_,st,k=>k st
 | o::rest,id,st,k =>
  let id':=if bV tt o then id+1 else id
  zW all o st (fun st=>bif Re tt E base (some A) all o (ev st.fr) st.hp then Ea tt E (drS tt (some A) base o) id o st fun st=>PD st fun st=>opsS tt E base A all rest id' st k else none)
   (fun st=>PD ⟨mn st.fr o.dst (.tuple []),st.hp⟩ fun st=>opsS tt E base A all rest id' st k)
def NO (tt:dj) (E:Env R) (far:Option Bool) (ops:List Oper):Bool :=
 let M:=Sd ops
 (List.range ops.length).all fun j=>(List.range j).all (fun i =>
  (M.getD j 0).testBit i||MQ tt E far ops (ops.getD i default) (ops.getD j default)) &&
  (K9 (ops.getD j default)).all (fun i=>Nat.blt i j) &&
  Nat.beq (M.getD j 0) (WX M (K9 (ops.getD j default)))
def PE (tt:dj) (E:Env R) (ops:List Oper) (draw:Bool) (st:St) (k:St→Option R):Option R :=
 let n:=st.hp.length
 let wR:St:=⟨st.fr,st.hp++List.replicate (ops.filter (bV tt)).length .free⟩
 if draw then (if NO tt E none ops then Xr tt E (some n) ops ops n wR k else if NO tt E (some true) ops then opsS tt E n (true,Xs ops st.fr) ops ops n wR k else if NO tt E (some false) ops then opsS tt E n (false,Xt tt n ops st.fr) ops ops n wR k else none)
 else Xr tt E none ops ops n wR k
def Qq (log:List (Nat×V)) (t:Nat) (d:V):V :=
 List.rec (motive:=fun _=>V) d (fun x _ ih=>cond (Nat.beq x.1 t) x.2 ih) log
def Xu {β:Type} (log:List (Nat×V)) (t:Nat) (d:V) (k:V→β):β :=
 List.rec (motive:=fun _=>β) (k d) (fun x _ ih=>cond (Nat.beq x.1 t) (k x.2) ih) log
def mergeC {β:Type} (log:List (Nat×V)) (fr:List V) (k:List V→β):β :=
 List.rec (motive:=fun _=>Nat→(List V→β)→β) (fun _ k=>k []) (fun v _ ih i k=>Xu log i v fun v'=>ih (i+1) fun r=>k (v'::r)) fr 0 k
def evF (fr:List V) (log:List (Nat×V)) (x:Operand):V:=match x with | .tmp t=>Qq log t (fr.getD t .undef)|x=>ev fr x
def pushF (n:Nat) (log:List (Nat×V)) (dst:Option Nat) (v:V):List (Nat×V):=match dst with|some d=>bif Nat.blt d n then (d,v)::log else log|none=>log
def stepF (tt:dj) (E:Env R) (drawn:Option Nat) (id:Nat) (o:Oper) (ρ:Operand→V) (hp:aN) (k:V→aN→Option R):Option R :=
 match ff tt o.op with
 | .P=>opP tt o.op ρ fun v=>k v hp
 | .R=>opR tt o.op ρ hp drawn fun v=>k v hp
 | .A=>opA tt o.op ρ fun ob mk=>k (mk id) (hp.set id ob)
 | .W=>bif drawn.isSome && !zV o.op ρ id then none else WW tt o.op ρ hp id fun v h=>k v h
 | .C=>match o.op with | .call c=>CZ tt E (drawn.isNone || !pc E o.op) c ρ hp fun v h=>k v h|_=>none
 | .F=>none
 | .X=>none
def guardF (all:List Oper) (o:Oper) (fr:List V) (log:List (Nat×V)) (run skip:List (Nat×V)→Option R):Option R :=
 match o.guard with
 | none=>run log
 | some (j,want) =>
  match ((all[j]?).bind (·.dst))with
  | none=>none
  | some d =>
   match Qq log d (fr.getD d .undef)with
   | .bool b =>
    bif b then (if want then run ((d, .bool true)::log)else skip ((d, .bool true)::log))
    else (if want then skip ((d, .bool false)::log)else run ((d, .bool false)::log))
   | .tuple []=>skip log
   | _=>none
def opsF (tt:dj) (E:Env R) (drawn:Option Nat) (all:List Oper) (n:Nat) (fr:List V):List Oper→Nat→List (Nat×V)→aN→(St→Option R)→Option R
 | [],_,log,hp,k=>mergeC log fr fun fr=>Xq hp fun hp=>k ⟨fr,hp⟩
 | o::rest,id,log,hp,k =>
  let id':=if bV tt o then id+1 else id
  guardF all o fr log (fun log=>stepF tt E drawn id o (evF fr log) hp fun v hp=>Xq hp fun hp=>opsF tt E drawn all n fr rest id' (pushF n log o.dst v) hp k)
   (fun log=>opsF tt E drawn all n fr rest id' (pushF n log o.dst (.tuple [])) hp k)
def regionF (tt:dj) (E:Env R) (ops:List Oper) (draw:Bool) (st:St) (k:St→Option R):Option R :=
 let n:=st.hp.length
 let hp:=st.hp++List.replicate (ops.filter (bV tt)).length .free
 if draw then (if NO tt E none ops then opsF tt E (some n) ops st.fr.length st.fr ops n [] hp k else if NO tt E (some true) ops then opsS tt E n (true,Xs ops st.fr) ops ops n ⟨st.fr,hp⟩ k else if NO tt E (some false) ops then opsS tt E n (false,Xt tt n ops st.fr) ops ops n ⟨st.fr,hp⟩ k else none)
 else opsF tt E none ops st.fr.length st.fr ops n [] hp k
inductive Ex where
 | normal|exit (id:Nat)|goto (l:Nat)|ret
structure Hint where
 live:List Nat
 own:List (Nat×Ty) := []
 rows:List (Nat×Ty) := []
 cells:List (Nat×Nat×Ty×Bool) := []
 drop:List Nat := []
 out:List Nat := []
def La (live drop:List Nat) (fr:List V):List V:=fr.zipIdx.map fun (v,i)=>if live.contains i then (if drop.contains i then K7 v else v)else .undef
def Rf:List (Nat×Ty)→St→St
 | [],st=>st
 | (d,T)::r,st =>
  match st.fr.getD d .undef with
  | .bx=>Rf r ⟨st.fr.set d (.sl T [] (.own st.hp.length)),st.hp ++ [.tok]⟩
  | .sl T' l .nil=>Rf r ⟨st.fr.set d (.sl T' l (.own st.hp.length)),st.hp ++ [.tok]⟩
  | _=>Rf r st
def NP:List (Nat×Ty)→St→St
 | [],st=>st
 | (d,T)::r,st =>
  match st.fr.getD d .undef with
  | .bx=>NP r ⟨st.fr.set d (.row st.hp.length 0),st.hp ++ [.row T []]⟩
  | _=>NP r st
def Fq (T:Ty) (b:Bool):bS:=bif b then .row T []else .tok
def Bs (T:Ty) (b:Bool) (i:Nat):V:=bif b then .row i 0 else .sl T [] (.own i)
def FL:List (Nat×Nat×Ty×Bool)→St→St
 | [],st=>st
 | (i,o,T,b)::r,st =>
  match st.hp.at i with
  | .cells cs =>
   (match cs.getD o .undef with
    | .bx=>FL r ⟨st.fr,st.hp.set i (.cells (cs.set o (Bs T b st.hp.length))) ++ [Fq T b]⟩
    | _=>FL r st)
  | .mB v =>
   (match v with
    | .bx=>FL r ⟨st.fr,st.hp.set i (.mB (Bs T b st.hp.length)) ++ [Fq T b]⟩
    | _=>FL r st)
  | _=>FL r st
def St.gc (m:Nat) (st:St):St :=
 let ord:=reach st.hp 256 (List.range m++V.vW st.fr) []
 ⟨V.C9 (CY ord) st.fr,st.hp.pick ord⟩
def preGc (m:Nat) (h:Hint) (st:St):St:=match h.cells with | []=>st|_::_=>st.gc m
def norm (m:Nat) (h:Hint) (st:St):St:=(FL h.cells (NP h.rows (Rf h.own (preGc m h ⟨La h.live h.drop st.fr,st.hp⟩)))).gc m
def trim (m:Nat) (h:Hint) (st:St):St:=(⟨La h.out [] st.fr,st.hp⟩:St).gc m
abbrev cL (R:Type):=St→(Ex→St→Option R)→Option R
def keyOf:Code→Nat
 | .region id _ _=>id
 | .seq a _=>keyOf a
 | .block _ b=>keyOf b
 | .loop b=>keyOf b
 | .cond _ a _=>keyOf a
 | .scope b=>keyOf b
 | _=>0
def iterK (body:cL R):Nat→cL R
 | 0,_,_=>none
 | n+1,st,K=>body st fun e wR=>match e with | .normal=>iterK body n wR K|e=>K e wR
def H7 (body:cL R) (f:St→St):Nat→cL R
 | 0,_,_=>none
 | n+1,st,K=>body st fun e wR=>match e with | .normal=>H7 body f n (f wR) K|e=>K e wR
def anyT (a b:Option R):Option R:=open Classical in if a=b then a else none
def kk (tt:dj) (E:Env R) (L:Nat→Option (Hint×cL R)) (m:Nat):Code→cL R
 | .skip,st,K=>K .normal st
 | .region _ ops draw,st,K=>regionF tt E ops.toList draw st fun wR=>K .normal wR
 | .seq a b,st,K=>kk tt E L m a st fun e wR=>match e with | .normal=>kk tt E L m b wR K|e=>K e wR
 | .cond c a b,st,K=>match ev st.fr c with | .bool t=>bif t then kk tt E L m a st K else kk tt E L m b st K | .P6=>anyT (kk tt E L m a st K) (kk tt E L m b st K)|_=>none
 | .block id a,st,K=>kk tt E L m a st fun e wR=>match e with | .exit i=>if i=id then K .normal wR else K (.exit i) wR|e=>K e wR
 | .loop a,st,K =>
  match L (keyOf a)with
  | some (h,ls)=>ls (norm m h st) K
  | none=>iterK (kk tt E L m a) 70 st K
 | .exit id,st,K=>K (.exit id) st
 | .ret,st,K=>K .ret st
 | _,_,_=>none
def resK (tt:dj) (st:St):List ResultVar→(List V→Option R)→Option R
 | [],k=>k []
 | .tmp t::r,k=>resK tt st r fun vs=>k (st.fr.getD t .undef::vs)
 | .cell a t::r,k =>
  match st.fr.getD a .undef with
  | .ptr i o =>
   (match st.hp.at i with
    | .cells cs=>vd tt t cs o fun v=>resK tt st r fun vs=>k (v::vs)
    | _=>none)
  | _=>none
def oC (h:aN):List Nat→aN
 | []=>h
 | i::r=>match h.at i with | .row _ _=>oC (h.set i .dead) r|_=>oC h r
def canonL (tt:dj):List Nat→List V→List V
 | t::ts,v::vs=>canon tt t v::canonL tt ts vs
 | _,_ => []
def WY (tt:dj) (ts:List Nat) (m:Nat) (zR:Bool) (vs:List V) (h:aN) (k:V→aN→Option R):Option R :=
 let ws:=if zR then vs else canonL tt ts (V.Ve h vs)
 let h:=if zR then h else oC h (V.vW vs)
 let ord:=reach h 256 (List.range m++V.vW ws) []
 k (match V.C9 (CY ord) ws with | [v]=>v|l => .tuple l) (h.pick ord)
def funK (tt:dj) (E:Env R) (L:Nat→Option (Hint×cL R)) (zR:Bool) (fn:Func) (c:Code):Spec R :=
 fun args h k =>
  if 200<h.length then none else
  kk tt E L h.length c ⟨args++List.replicate (fn.ntmps - args.length) .undef,h⟩ fun e st =>
   match e with
   | .normal | .ret=>resK tt st fn.results.toList fun vs=>WY tt fn.resultTypes.toList h.length zR vs st.hp k
   | _=>none
end
end Go.aC
namespace Go.aC
open Go.RowKit
structure ExtT where
 cells:Nat→Nat→Prop
instance:CoeFun ExtT fun _=>Nat→Nat→Prop:=⟨ExtT.cells⟩
structure jS where
 vU:Nat→Option Nat
 off:Nat→Nat
 /-- cells that are the callers' -/
 ext:ExtT
def bS.from_ (o:bS) (f:Nat):Option Nat :=
 match o with
 | .free=>none
 | .dead=>none
 | .tok=>some f
 | _=>some 0
def Used (h:aN) (i:Nat):Prop:=i<h.length∧h.at i ≠ .free
def wS (h:aN) (c:jS) (b x:Nat):Prop:=∃i f,c.vU i=some b∧(h.at i).from_ (c.off i)=some f∧f≤x
def P7 (h:aN) (c:jS) (b x:Nat):Prop:=¬wS h c b x∧¬c.ext b x
def mx:Nat:=9223372036854775807
def TokE (T:Ty) (o:Nat) (e:TypeId):Prop:=T = .int .u8→o=0∧e=pj.u8
inductive dn (w:World) (h:aN) (c:jS):V→Value→Prop where
 | undef (v:Value):dn w h c .undef v
 | int {k:IntKind} {n:Int} (hn:k.has n):dn w h c (.int k n) (.int k n)
 | bool (b:Bool):dn w h c (.bool b) (.bool b)
 | str {s:ByteArray} (hl:s.size≤mx):dn w h c (.str s.data.toList) (.string s)
 | ij:dn w h c .ij (.pointer none)
 | ptr {i o:Nat} {v:Value} (hi:Used h i) (hv:∃b,v = .pointer (some ⟨b,o,none⟩)∧(h.at i ≠ .dead→c.vU i=some b)):dn w h c (.ptr i o) v
 | zS {cs:List V} {b o:Nat} (f:Nat→Value) (hc:∀j,j<cs.length→w.cell? ⟨b,o+j,none⟩=some (f j)∧P7 h c b (o+j))
   (hr:∀(j:Nat) (v:V),cs[j]? = some v→dn w h c v (f j)):dn w h c (.zS cs) (.pointer (some ⟨b,o,none⟩))
 | bx:dn w h c .bx (.slice none 0 0)
 | sl {T:Ty} {l:List T.den} {t:Tok} {A:Option Addr} {cap:Nat} (f:Nat→Nat→Value) (lg:l.length≤cap) (vV:cap≤mx)
   (hc:∀i j,i<l.length→j<T.sz→∃b o,A=some ⟨b,o,none⟩∧w.cell? ⟨b,o+i*T.sz+j,none⟩=some (f i j)∧P7 h c b (o+i*T.sz+j))
   (hr:∀(i j:Nat) (x:T.den) (v:V),l[i]? = some x→(T.cells x)[j]? = some v→dn w h c v (f i j))
   (Db:t = .nil→A=none∧cap=0)
   (l0:∀i,t = .own i→Used h i∧(h.at i = .tok →
    (c.vU i=none∧A=none∧cap=0)∨∃b o arr e fz,c.vU i=some b∧A=some ⟨b,o,none⟩∧c.off i=o+l.length*T.sz ∧
     w.heap[b]? = some (Obj.cells arr e fz)∧o+cap*T.sz≤arr.size∧TokE T o e)):dn w h c (.sl T l t) (.slice A l.length cap)
 | V3 {n sz:Nat} {cs:List V} {A:Option Addr} (hn:cs.length=n*sz) (vV:n≤mx) (f:Nat→Value)
   (hc:∀j,j<cs.length→∃b o,A=some ⟨b,o,none⟩∧w.cell? ⟨b,o+j,none⟩=some (f j)∧P7 h c b (o+j))
   (hr:∀(j:Nat) (v:V),cs[j]? = some v→dn w h c v (f j)):dn w h c (.V3 n cs) (.slice A n n)
 | row {i n:Nat} {v:Value} (hi:Used h i) (hn:n≤mx) (hv:∃A cap,v = .slice A n cap∧(0<n→∃a,A=some a)∧∀T l,h.at i = .row T l→n=l.length∧n≤cap∧cap≤mx ∧
    ((c.vU i=none∧A=none∧cap=0)∨∃b arr e fz,c.vU i=some b∧A=some ⟨b,c.off i,none⟩∧w.heap[b]? = some (Obj.cells arr e fz)∧c.off i+cap*T.sz≤arr.size)) :
   dn w h c (.row i n) v
 | JU {i q n:Nat} {v:Value} (hi:Used h i) (hn:n≤mx) (hv:∃A cap,v = .slice A n cap∧(0<n→∃a,A=some a)∧∀T l,h.at i = .row T l→q+n≤l.length∧n≤cap∧cap≤mx ∧
    (0<n→∃b,c.vU i=some b∧A=some ⟨b,c.off i+q*T.sz,none⟩)):dn w h c (.JU i q n) v
 | wQ {i n j o:Nat} {v:Value} (hi:Used h i) (hv:∃a,v = .pointer (some a)∧∀T l,h.at i = .row T l→n=T.sz→j<l.length→∃b,c.vU i=some b∧a=⟨b,c.off i+j*T.sz+o,none⟩) :
   dn w h c (.wQ i n j o) v
 | func {f:Nat} {a b:List V} {x y:Array Value} (ha:a.length=x.size) (hb:b.length=y.size)
   (hra:∀(j:Nat) (v:V) (d:Value),a[j]? = some v→x[j]? = some d→dn w h c v d) (hrb:∀(j:Nat) (v:V) (d:Value),b[j]? = some v→y[j]? = some d→dn w h c v d) :
   dn w h c (.func f a b) (.func (.func f) x y)
 | fj:dn w h c .fj .nilFunc
 | agg {cs:List V} {x:Array Value} (hl:cs.length=x.size) (hr:∀(j:Nat) (v:V) (d:Value),cs[j]? = some v→x[j]? = some d→dn w h c v d):dn w h c (.agg cs) (.agg x)
 | tuple {cs:List V} {x:Array Value} (hl:cs.length=x.size) (hr:∀(j:Nat) (v:V) (d:Value),cs[j]? = some v→x[j]? = some d→dn w h c v d):dn w h c (.tuple cs) (.tuple x)
 | map {i:Nat} {v:Value} (hi:Used h i) (hv:∃b,v = .map (some b)∧(h.at i ≠ .dead→c.vU i=some b)):dn w h c (.map i) v
 | pE:dn w h c .pE (.map none)
 | dt:dn w h c .dt .nilIface
 | iface (t:TypeId) (v:Value):dn w h c .iface (.iface t v)
 | Rb {t:TypeId} {k:IntKind} {n:Int} (hn:k.has n):dn w h c (.Rb t k n) (.iface t (.int k n))
 | P6 (b:Bool):dn w h c .P6 (.bool b)
def cv (w:World) (h:aN) (c:jS) (cs:List V) (ds:List Value):Prop :=
 cs.length=ds.length∧∀(j:Nat) (v:V) (d:Value),cs[j]? = some v→ds[j]? = some d→dn w h c v d
def pk (w:World) (h:aN) (c:jS) (i:Nat):bS→Prop
 | .free=>True
 | .dead=>True
 | .cells cs=>∃b arr e,c.vU i=some b∧w.heap[b]? = some (Obj.cells arr e (0,0))∧cv w h c cs arr.toList
 | .row T l=>(c.vU i=none∧l = [])∨∃b arr e fz,c.vU i=some b∧w.heap[b]? = some (Obj.cells arr e fz)∧c.off i+l.length*T.sz≤arr.size ∧
   (∀x,x<arr.size→w.frozen? ⟨b,x,none⟩=false)∧∀(n j:Nat) (x:T.den) (v:V),l[n]? = some x→(T.cells x)[j]? = some v→∃d,arr[c.off i+n*T.sz+j]? = some d∧dn w h c v d
 | .tok=>c.vU i=none∨∃b arr e fz,c.vU i=some b∧w.heap[b]? = some (Obj.cells arr e fz)∧c.off i≤arr.size∧(fz.1=fz.2∨fz.2≤c.off i)
 | .mB v=>∃b p d,c.vU i=some b∧w.heap[b]? = some (Obj.cells #[p,d] pj.mB (0,0))∧(p = .pointer none∨p = .pointer (some ⟨b,0,none⟩))∧dn w h c v d
 | .iter s pos=>∃b bs,c.vU i=some b∧w.heap[b]? = some (.stringIter bs pos)∧bs.data.toList=s∧bs.size≤mx
 | .zT K T l=>∃b es clock,c.vU i=some b∧w.heap[b]? = some (.map es clock)∧WV K=true∧T.one=true∧es.size=l.length ∧
   ∀(j:Nat) (x:K.den×T.den) (e:MapEntry),l[j]? = some x→es[j]? = some e→dn w h c (ZK K x.1) e.key∧dn w h c (ZK T x.2) e.val
def bS.live:bS→Prop
 | .free=>False
 | .dead=>False
 | _=>True
def Laid (w:World) (h:aN) (c:jS):Prop:=pj.says w∧∀b,pj.blocks b→b<w.heap.size∧∀x, ¬wS h c b x
structure WF (w:World) (h:aN) (c:jS):Prop where
 CL:∀b x,wS h c b x→¬c.ext b x
 rB:∀b x,c.ext b x→b<w.heap.size
 obj:∀i,i<h.length→pk w h c i (h.at i)
 inj:∀i j b,(h.at i).live→(h.at j).live→c.vU i=some b→c.vU j=some b→i=j
 lay:Laid w h c
def bS.iB:bS→bS→Prop
 | .cells cs, .cells ds=>cs.length=ds.length
 | .row T l, .row U m=>T=U∧l.length=m.length
 | .tok, .tok=>True
 | .iter _ _, .iter _ _=>True
 | .mB _, .mB _=>True
 | .zT K T _, .zT K' U _=>K=K'∧T=U
 | _,_=>False
structure Ext (w:World) (h:aN) (c:jS) (w':World) (h':aN) (c':jS):Prop where
 os:w'.os=w.os
 tape:w'.tape=w.tape
 output:w'.output=w.output
 size:w.heap.size≤w'.heap.size
 used:∀i,Used h i→Used h' i
 same:∀i,Used h i→h'.at i ≠ .dead→(h.at i).iB (h'.at i)∧c'.vU i=c.vU i∧c'.off i=c.off i
 cell:∀b x,b<w.heap.size→¬wS h c b x→w'.cell? ⟨b,x,none⟩=w.cell? ⟨b,x,none⟩
 block:∀b,b<w.heap.size→(∀x, ¬wS h c b x)→w'.heap[b]? = w.heap[b]?
 A9:∀b x,b<w.heap.size→wS h' c' b x→wS h c b x
 ext:c'.ext=c.ext
 arr:∀(b:Nat) (arr:Array Value) (e:TypeId) (fz:Nat×Nat),w.heap[b]? = some (Obj.cells arr e fz)→∃(NQ:Array Value) (P8:Nat×Nat),w'.heap[b]? = some (Obj.cells NQ e P8)∧NQ.size=arr.size
theorem Ext.refl (w:World) (h:aN) (c:jS):Ext w h c w h c where
 os:=rfl
 tape:=rfl
 output:=rfl
 size:=Nat.le_refl _
 used:=fun _ hi=>hi
 same:=fun i hi hd=>⟨by have h2:=hi.2; revert hd h2; cases h.at i <;> simp[bS.iB],rfl,rfl⟩
 cell:=fun _ _ _ _=>rfl
 block:=fun _ _ _=>rfl
 A9:=fun _ _ _ ho=>ho
 ext:=rfl
 arr:=fun b arr e fz hb=>⟨arr,fz,hb,rfl⟩
theorem bS.JZ {o o':bS} (h:o.iB o'):o ≠ .dead∧o' ≠ .dead:=by
 cases o <;> cases o' <;> simp_all [bS.iB]
theorem bS.sim_trans {a b c:bS} (h:a.iB b) (k:b.iB c):a.iB c:=by
 cases a <;> cases b <;> cases c <;> simp_all [bS.iB]
theorem Ext.trans {w w1 w2:World} {h h1 h2:aN} {c c1 c2:jS} (a:Ext w h c w1 h1 c1) (b:Ext w1 h1 c1 w2 h2 c2):Ext w h c w2 h2 c2 where
 os:=b.os.trans a.os
 tape:=b.tape.trans a.tape
 output:=b.output.trans a.output
 size:=Nat.le_trans a.size b.size
 used:=fun i hi=>b.used i (a.used i hi)
 same:=fun i hi hd=>by
  obtain ⟨s2,e2,f2⟩:=b.same i (a.used i hi) hd
  obtain ⟨s1,e1,f1⟩:=a.same i hi (bS.JZ s2).1
  exact ⟨bS.sim_trans s1 s2,e2.trans e1,f2.trans f1⟩
 cell:=fun x y hx ho=>by
  rw[b.cell x y (Nat.lt_of_lt_of_le hx a.size) (fun o=>ho (a.A9 x y hx o)),a.cell x y hx ho]
 block:=fun x hx ho=>by
  rw[b.block x (Nat.lt_of_lt_of_le hx a.size) (fun y o=>ho y (a.A9 x y hx o)),a.block x hx ho]
 A9:=fun x y hx o=>a.A9 x y hx (b.A9 x y (Nat.lt_of_lt_of_le hx a.size) o)
 ext:=b.ext.trans a.ext
 arr:=fun x arr e fz hx=>by
  obtain ⟨a1,f1,h1,s1⟩:=a.arr x arr e fz hx
  obtain ⟨a2,f2,h2,s2⟩:=b.arr x a1 e f1 h1
  exact ⟨a2,f2,h2,s2.trans s1⟩
theorem lt_of_cell {w:World} {b x:Nat} {v:Value} (h:w.cell? ⟨b,x,none⟩=some v):b<w.heap.size :=
 World.block_lt_of_cell? _ _ h
theorem sim_tok {o o':bS} (h:o.iB o') (e:o' = .tok):o = .tok:=by subst e; cases o <;> simp_all [bS.iB]
theorem sim_row {o:bS} {T:Ty} {l:List T.den} (h:o.iB (.row T l)):∃m:List T.den,o = .row T m∧m.length=l.length:=by
 cases o with
 | row U m=>obtain ⟨rfl,e⟩:=h; exact ⟨m,rfl,e⟩
 | _=>simp[bS.iB]at h
section
variable {w w':World} {h h':aN} {c c':jS}
theorem Ext.Xv (x:Ext w h c w' h' c') {b o:Nat} {v:Value} (hc:w.cell? ⟨b,o,none⟩=some v) (ho:P7 h c b o) :
  w'.cell? ⟨b,o,none⟩=some v∧P7 h' c' b o :=
 ⟨(x.cell b o (lt_of_cell hc) ho.1).trans hc,fun k=>ho.1 (x.A9 b o (lt_of_cell hc) k),by rw[x.ext]; exact ho.2⟩
theorem dn.mono (x:Ext w h c w' h' c') {v:V} {d:Value} (r:dn w h c v d):dn w' h' c' v d:=by
 induction r with
 | undef v=>exact .undef v
 | int hn=>exact .int hn
 | bool b=>exact .bool b
 | str hl=>exact .str hl
 | ij=>exact .ij
 | bx=>exact .bx
 | fj=>exact .fj
 | pE=>exact .pE
 | dt=>exact .dt
 | iface t v=>exact .iface t v
 | Rb hn=>exact .Rb hn
 | P6 b=>exact .P6 b
 | ptr hi hv =>
  obtain ⟨b,hv,hb⟩:=hv
  refine .ptr (x.used _ hi) ⟨b,hv,fun hd => ?_⟩
  obtain ⟨s,e,_⟩:=x.same _ hi hd
  rw[e]
  exact hb (bS.JZ s).1
 | map hi hv =>
  obtain ⟨b,hv,hb⟩:=hv
  refine .map (x.used _ hi) ⟨b,hv,fun hd => ?_⟩
  obtain ⟨s,e,_⟩:=x.same _ hi hd
  rw[e]
  exact hb (bS.JZ s).1
 | zS f hc _ ih=>exact .zS f (fun j hj=>x.Xv (hc j hj).1 (hc j hj).2) ih
 | sl f lg vV hc _ Db l0 ih =>
  refine .sl f lg vV (fun i j hi hj => ?_) ih Db (fun i ht => ?_)
  ·obtain ⟨b,o,hA,h1,h2⟩:=hc i j hi hj
   exact ⟨b,o,hA,x.Xv h1 h2⟩
  ·obtain ⟨hi,ho⟩:=l0 i ht
   refine ⟨x.used _ hi,fun Xw => ?_⟩
   obtain ⟨s,e,eo⟩:=x.same i hi (by rw[Xw]; simp)
   rw[e,eo]
   rcases ho (sim_tok s Xw)with hn|⟨b,o,arr,el,fz,h1,h2,h3,h4,h5⟩
   ·exact .inl hn
   ·obtain ⟨NQ,P8,h4',hs⟩:=x.arr b arr el fz h4
    exact .inr ⟨b,o,NQ,el,P8,h1,h2,h3,h4',by rw[hs]; exact h5.1,h5.2⟩
 | V3 hn vV f hc _ ih =>
  refine .V3 hn vV f (fun j hj => ?_) ih
  obtain ⟨b,o,hA,h1,h2⟩:=hc j hj
  exact ⟨b,o,hA,x.Xv h1 h2⟩
 | row hi hn hv =>
  obtain ⟨A,cap,hv1,hA,hv⟩:=hv
  refine .row (x.used _ hi) hn ⟨A,cap,hv1,hA,fun T l he => ?_⟩
  obtain ⟨s,e,eo⟩:=x.same _ hi (by rw[he]; simp)
  rw[he]at s
  obtain ⟨m,hm,hl⟩:=sim_row s
  obtain ⟨hn',h1,h2,h3⟩:=hv T m hm
  refine ⟨by rw[hn',hl],h1,h2,?_⟩
  rw[e,eo]
  rcases h3 with h3|⟨b,arr,el,fz,g1,g2,g3,g4⟩
  ·exact .inl h3
  ·obtain ⟨NQ,P8,h4',hs⟩:=x.arr b arr el fz g3
   exact .inr ⟨b,NQ,el,P8,g1,g2,h4',by rw[hs]; exact g4⟩
 | JU hi hn hv =>
  obtain ⟨A,cap,hv1,hA,hv⟩:=hv
  refine .JU (x.used _ hi) hn ⟨A,cap,hv1,hA,fun T l he => ?_⟩
  obtain ⟨s,e,eo⟩:=x.same _ hi (by rw[he]; simp)
  rw[he]at s
  obtain ⟨m,hm,hl⟩:=sim_row s
  rw[e,eo,←hl]
  exact hv T m hm
 | wQ hi hv =>
  obtain ⟨a,ha,hv⟩:=hv
  refine .wQ (x.used _ hi) ⟨a,ha,fun T l he hn hj => ?_⟩
  obtain ⟨s,e,eo⟩:=x.same _ hi (by rw[he]; simp)
  rw[he]at s
  obtain ⟨m,hm,hl⟩:=sim_row s
  rw[e,eo]
  exact hv T m hm hn (by rw[hl]; exact hj)
 | func ha hb _ _ iha ihb=>exact .func ha hb iha ihb
 | agg hl _ ih=>exact .agg hl ih
 | tuple hl _ ih=>exact .tuple hl ih
theorem cv.mono (x:Ext w h c w' h' c') {cs:List V} {ds:List Value} (r:cv w h c cs ds):cv w' h' c' cs ds :=
 ⟨r.1,fun j v d hv hd=>(r.2 j v d hv hd).mono x⟩
theorem cv.nil:cv w h c [] []:=⟨rfl,fun j v d hv=>by simp at hv⟩
theorem cv.cons {v:V} {d:Value} {cs:List V} {ds:List Value} (r:dn w h c v d) (rs:cv w h c cs ds):cv w h c (v::cs) (d::ds):=by
 refine ⟨by simp[rs.1],fun j u e hu he => ?_⟩
 cases j with
 | zero=>simp at hu he; subst hu; subst he; exact r
 | succ j=>simp at hu he; exact rs.2 j u e hu he
theorem cv.head {v:V} {d:Value} {cs:List V} {ds:List Value} (r:cv w h c (v::cs) (d::ds)):dn w h c v d:=r.2 0 v d rfl rfl
theorem cv.tail {v:V} {d:Value} {cs:List V} {ds:List Value} (r:cv w h c (v::cs) (d::ds)):cv w h c cs ds :=
 ⟨by simpa using r.1,fun j u e hu he=>r.2 (j+1) u e (by simpa using hu) (by simpa using he)⟩
theorem cv.append {a b:List V} {x y:List Value} (r:cv w h c a x) (s:cv w h c b y):cv w h c (a++b) (x++y):=by
 refine ⟨by simp[r.1,s.1],fun j u e hu he => ?_⟩
 have hl:=r.1
 by_cases hj:j<a.length
 ·rw[List.getElem?_append_left hj]at hu
  rw[List.getElem?_append_left (by omega)]at he
  exact r.2 j u e hu he
 ·rw[List.getElem?_append_right (by omega)]at hu
  rw[List.getElem?_append_right (by omega),←hl]at he
  exact s.2 _ u e hu he
theorem cv.take {a:List V} {x:List Value} (r:cv w h c a x) (n:Nat):cv w h c (a.take n) (x.take n):=by
 refine ⟨by simp[r.1],fun j u e hu he => ?_⟩
 rw[List.getElem?_take]at hu he
 split at hu <;> simp_all
 exact r.2 j u e hu he
theorem cv.drop {a:List V} {x:List Value} (r:cv w h c a x) (n:Nat):cv w h c (a.drop n) (x.drop n):=by
 refine ⟨by simp[r.1],fun j u e hu he => ?_⟩
 rw[List.getElem?_drop]at hu he
 exact r.2 _ u e hu he
theorem cv.map {α:Type} {f:α→V} {g:α→Value} (l:List α) (r:∀x∈l,dn w h c (f x) (g x)):cv w h c (l.map f) (l.map g):=by
 induction l with
 | nil=>exact .nil
 | cons x l ih=>exact .cons (r x (by simp)) (ih fun y hy=>r y (by simp[hy]))
theorem cv.getD {a:List V} {x:List Value} (r:cv w h c a x) (j:Nat) (d:Value):dn w h c (a.getD j .undef) (x.getD j d):=by
 by_cases hj:j<a.length
 ·have hx:j<x.length:=by have:=r.1; omega
  exact r.2 j _ _ (by simp[List.getD,List.getElem?_eq_getElem hj]) (by simp[List.getD,List.getElem?_eq_getElem hx])
 ·have:a.getD j .undef = .undef:=by simp[List.getD,List.getElem?_eq_none (Nat.le_of_not_lt hj)]
  rw[this]; exact .undef _
theorem cv.set {a:List V} {x:List Value} (r:cv w h c a x) (j:Nat) {v:V} {d:Value} (rv:dn w h c v d):cv w h c (a.set j v) (x.set j d):=by
 refine ⟨by simp[r.1],fun i u e hu he => ?_⟩
 rw[List.getElem?_set]at hu he
 by_cases AL:j=i
 ·simp only[AL,if_true]at hu he
  split at hu <;> split at he <;> simp_all
 ·simp only[AL,if_false]at hu he
  exact r.2 i u e hu he
theorem cv.V4 (n:Nat) (d:Value):cv w h c (List.replicate n .undef) (List.replicate n d):=by
 refine ⟨by simp,fun j u e hu _ => ?_⟩
 rw[List.getElem?_replicate]at hu
 split at hu <;> simp_all
 subst hu; exact .undef _
end
end Go.aC
end
