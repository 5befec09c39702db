/-
  JsonWords: for every input whose bulk is at most 1048576 the law returns true, and each argument reads behind the call as it read before; part 1 of 9 of the proof: an interpreter of the model's code over typed data, proved sound; the functions that the law reaches, printed as Lean functions and tied; the plain law. Own texts laid one behind the other.
-/
import Derived.Calls
import Derived.Test.YtmlkkgfenfdndaaGreatDoorProg
import Derived.Lib.LaidTab
import Derived.Lib.ItoaNum
import Derived.Shelf.Unicode.DecodeSlow
import Derived.Orders
import Derived.KernelRfl
import Derived.Below
set_option linter.unusedSimpArgs false
set_option linter.unnecessarySimpa false
set_option linter.unusedVariables false
set_option linter.unusedSectionVars false
noncomputable section
namespace Go.aG
structure LayT where
 /-- the types of bytes, and of strings.Builder -/
 u8:Nat
 oG:Nat
 /-- functions whose specs leave the objects as they are -/
 soft:Nat→Bool
 blocks:Nat→Prop
 says:World→Prop
 zC:∀w w':World,(∀b,blocks b→w'.heap[b]? = w.heap[b]?)→says w→says w'
def LayT.none:LayT:=⟨5,1000000,fun _=>false,fun _=>False,fun _=>True,fun _ _ _ h=>h⟩
end Go.aG
namespace Go.aG
open Go.Proofs
def Xd (w:World):Prop :=
 Go.Lib.Utf8Tabs 1 2 w∧Go.Lib.TabIs Tryz.prog w "internal/strconv.uint64pow10" .u64 Go.Lib.pow10Tab ∧
  (∃t x,w.cell? ⟨4,0,none⟩=some (.iface t x))∧(∃t x,w.cell? ⟨5,0,none⟩=some (.iface t x))
theorem Wc:Tryz.prog.globalNamed "internal/strconv.uint64pow10" = some 3:=by kernel_rfl
theorem Xe (w w':World) (h:∀b,b<8→w'.heap[b]? = w.heap[b]?) (k:Xd w):Xd w':=by
 have hc:∀b x,b<8→w'.cell? ⟨b,x,none⟩=w.cell? ⟨b,x,none⟩:=fun b x hb=>by simp only[World.cell?,h b hb]
 obtain ⟨⟨k1,k2⟩,k3,k4,k5⟩:=k
 refine ⟨⟨fun c SV=>by rw[hc _ _ (by omega)]; exact k1 c SV,fun i hi=>by rw[hc _ _ (by omega),hc _ _ (by omega)]; exact k2 i hi⟩,?_,by rw[hc _ _ (by omega)]; exact k4,by rw[hc _ _ (by omega)]; exact k5⟩
 unfold Go.Lib.TabIs at k3 ⊢
 rw[←k3]
 simp only[World.var?,Wc,Option.bind_some,h 3 (by omega)]
def qT:LayT:=⟨5,73,fun g=>Nat.beq g 39,fun b=>b<8,Xd,Xe⟩
end Go.aG
namespace Go.aG
abbrev ah:=List UInt8
structure dH where
 aF:Int
 exp:Int
def dH.z:dH:=⟨0,0⟩
structure Json where
 kind:Int
 num:dH
 text:ah
 names:List ah
 items:List Json
def Json.z:Json:=⟨0,dH.z, [], [], []⟩
structure Raw where
 kind:Int
 aF:Int
 exp:Int
 text:List Int
 items:List Raw
def Raw.z:Raw:=⟨0,0,0, [], []⟩
structure OJ where
 kind:Int
 aF:Int
 exp:Int
 text:List Int
def OJ.z:OJ:=⟨0,0,0, []⟩
structure Fld where
 name:ah
 kind:Int
 low:Int
 high:Int
 free:Bool
def Fld.z:Fld:=⟨[],0,0,0,false⟩
structure Vw where
 topic:ah
 data:ah
 bent:Bool
def Vw.z:Vw:=⟨[], [],false⟩
structure Token where
 kind:Int
 text:ah
 num:dH
 at_:Int
def Token.z:Token:=⟨0, [],dH.z,0⟩
structure Stop where
 node:Int
 seq:Int
 DB:Bool
def Stop.z:Stop:=⟨0,0,false⟩
structure Way where
 Qm:Int
 seq:Int
 DB:Bool
def Way.z:Way:=⟨0,0,false⟩
structure Order where
 header:Int
 wU:ah
 order:Int
 update:Int
 nodes:List Stop
 Tg:List Way
def Order.z:Order:=⟨0, [],0,0, [], []⟩
structure Edge where
 src:Int
 dst:Int
 cost:Int
def Edge.z:Edge:=⟨0,0,0⟩
structure GY where
 nodes:Int
 Tg:List Edge
def GY.z:GY:=⟨0, []⟩
structure Na where
 maker:ah
 serial:ah
 kind:ah
def Na.z:Na:=⟨[], [], []⟩
structure State where
 header:Int
 boot:Int
 wU:ah
 order:Int
 update:Int
 live:Bool
 node:Int
 seq:Int
 driving:Bool
 accepted:Int
def State.z:State:=⟨0,0, [],0,0,false,0,0,false,0⟩
structure Ctl where
 wU:ah
 header:Int
 order:Int
 update:Int
 boot:Int
 seen:Int
 path:List Int
 seq:Int
 open_:Bool
 rel:Int
 wait:Bool
 pending:Order
def Ctl.z:Ctl:=⟨[],0,0,0,0,0, [],0,false,0,false,Order.z⟩
structure Vx where
 kind:Int
 i:Int
 k:Int
 by_:Int
 data:ah
def Vx.z:Vx:=⟨0,0,0,0, []⟩
structure JP where
 header:Int
 order:Int
 update:Int
 seq:Int
 from_:Int
 DB:Int
 turns:List Int
def JP.z:JP:=⟨0,0,0,0,0,0, []⟩
structure Vy where
 kind:Int
 o:JP
 data:ah
def Vy.z:Vy:=⟨0,JP.z, []⟩
structure Vz where
 kind:Int
 n:Int
 turns:List Int
def Vz.z:Vz:=⟨0,0, []⟩
structure VA where
 a:Int
 b:Int
 c:Int
def VA.z:VA:=⟨0,0,0⟩
structure RZ where
 a:Int
 b:Int
def RZ.z:RZ:=⟨0,0⟩
structure VB where
 a:dH
 b:dH
def VB.z:VB:=⟨dH.z,dH.z⟩
structure VC where
 name:ah
 home:Int
def VC.z:VC:=⟨[],0⟩
structure Job where
 id:Int
 target:Int
 state:Int
 wU:Int
def Job.z:Job:=⟨0,0,0,0⟩
structure GZ where
 kind:Int
 nums:List Int
 text:ah
def GZ.z:GZ:=⟨0, [], []⟩
inductive Ty where
 | int (k:IntKind)|bool|str
 | dcm|json|raw|Xf|fld|YQ|token|stop|way|order|Qm|layout|topic|state|ctl|YR|Rp|YS|YT|YU|VD|YV|post|job|record
 deriving DecidableEq
def Ty.den:Ty→Type
 | .int _=>Int | .bool=>Bool | .str=>ah
 | .dcm=>dH
 | .json=>Json
 | .raw=>Raw
 | .Xf=>OJ
 | .fld=>Fld
 | .YQ=>Vw
 | .token=>Token
 | .stop=>Stop
 | .way=>Way
 | .order=>Order
 | .Qm=>Edge
 | .layout=>GY
 | .topic=>Na
 | .state=>State
 | .ctl=>Ctl
 | .YR=>Vx
 | .Rp=>JP
 | .YS=>Vy
 | .YT=>Vz
 | .YU=>VA
 | .VD=>RZ
 | .YV=>VB
 | .post=>VC
 | .job=>Job
 | .record=>GZ
def Ty.bU:(T:Ty)→T.den
 | .int _=>(0:Int) | .bool=>false | .str=>([]:ah)
 | .dcm=>dH.z
 | .json=>Json.z
 | .raw=>Raw.z
 | .Xf=>OJ.z
 | .fld=>Fld.z
 | .YQ=>Vw.z
 | .token=>Token.z
 | .stop=>Stop.z
 | .way=>Way.z
 | .order=>Order.z
 | .Qm=>Edge.z
 | .layout=>GY.z
 | .topic=>Na.z
 | .state=>State.z
 | .ctl=>Ctl.z
 | .YR=>Vx.z
 | .Rp=>JP.z
 | .YS=>Vy.z
 | .YT=>Vz.z
 | .YU=>VA.z
 | .VD=>RZ.z
 | .YV=>VB.z
 | .post=>VC.z
 | .job=>Job.z
 | .record=>GZ.z
def Ty.sz:Ty→Nat
 | .int _=>1 | .bool=>1 | .str=>1
 | .dcm=>2
 | .json=>6
 | .raw=>5
 | .Xf=>4
 | .fld=>5
 | .YQ=>3
 | .token=>5
 | .stop=>3
 | .way=>3
 | .order=>6
 | .Qm=>3
 | .layout=>2
 | .topic=>3
 | .state=>10
 | .ctl=>17
 | .YR=>5
 | .Rp=>7
 | .YS=>9
 | .YT=>3
 | .YU=>3
 | .VD=>2
 | .YV=>4
 | .post=>2
 | .job=>4
 | .record=>3
inductive Tok where
  | no|nil|own (id:Nat)
inductive V where
  | undef
  | int (k:IntKind) (n:Int)
  | bool (b:Bool)
  | str (s:ah)
  | fM
  | ptr (id off:Nat)
  | zD (cs:List V)
  | cV
  | sl (T:Ty) (l:List T.den) (t:Tok)
  | R0 (n:Nat) (cs:List V)
  | row (id:Nat) (n:Nat)
  | HG (id lo n:Nat)
  | wV (id:Nat) (sz:Nat) (i:Nat) (off:Nat)
  | func (f:Nat) (first cap:List V)
  | bg
  | agg (cs:List V)
  | tuple (vs:List V)
  | map (id:Nat)
  | qU
  | eg
  | iface
  | NU (t:Nat) (k:IntKind) (n:Int)
  | Ms
def V.flat:V→List V
  | .agg cs=>cs
  | v => [v]
def V.one:V→Bool
  | .undef=>false
  | .agg _=>false
  | .tuple _=>false
  | _=>true
def Wd (v:V):Option (List V) :=
  match v with
  | .agg cs=>if cs.all V.one then some cs else none
  | v=>if v.one then some [v]else none
def Ty.cells:(T:Ty)→T.den→List V
  | .int k,(n:Int) => [.int k n]
  | .bool,(b:Bool) => [.bool b]
  | .str,(s:ah) => [.str s]
  | .dcm,(x:dH) => [.int .i64 x.aF, .int .i64 x.exp]
  | .json,(x:Json) => [.int .i64 x.kind, .int .i64 x.num.aF, .int .i64 x.num.exp, .str x.text, .sl .str x.names .no, .sl .json x.items .no]
  | .raw,(x:Raw) => [.int .i64 x.kind, .int .i64 x.aF, .int .i64 x.exp, .sl (.int .i64) x.text .no, .sl .raw x.items .no]
  | .Xf,(x:OJ) => [.int .i64 x.kind, .int .i64 x.aF, .int .i64 x.exp, .sl (.int .i64) x.text .no]
  | .fld,(x:Fld) => [.str x.name, .int .i64 x.kind, .int .i64 x.low, .int .i64 x.high, .bool x.free]
  | .YQ,(x:Vw) => [.str x.topic, .str x.data, .bool x.bent]
  | .token,(x:Token) => [.int .i64 x.kind, .str x.text, .int .i64 x.num.aF, .int .i64 x.num.exp, .int .i64 x.at_]
  | .stop,(x:Stop) => [.int .i64 x.node, .int .i64 x.seq, .bool x.DB]
  | .way,(x:Way) => [.int .i64 x.Qm, .int .i64 x.seq, .bool x.DB]
  | .order,(x:Order) => [.int .i64 x.header, .str x.wU, .int .i64 x.order, .int .i64 x.update, .sl .stop x.nodes .no, .sl .way x.Tg .no]
  | .Qm,(x:Edge) => [.int .i64 x.src, .int .i64 x.dst, .int .i64 x.cost]
  | .layout,(x:GY) => [.int .i64 x.nodes, .sl .Qm x.Tg .no]
  | .topic,(x:Na) => [.str x.maker, .str x.serial, .str x.kind]
  | .state,(x:State) => [.int .i64 x.header, .int .i64 x.boot, .str x.wU, .int .i64 x.order, .int .i64 x.update, .bool x.live, .int .i64 x.node, .int .i64 x.seq, .bool x.driving, .int .i64 x.accepted]
  | .ctl,(x:Ctl) => [.str x.wU, .int .i64 x.header, .int .i64 x.order, .int .i64 x.update, .int .i64 x.boot, .int .i64 x.seen, .sl (.int .i64) x.path .no, .int .i64 x.seq, .bool x.open_, .int .i64 x.rel, .bool x.wait, .int .i64 x.pending.header, .str x.pending.wU, .int .i64 x.pending.order, .int .i64 x.pending.update, .sl .stop x.pending.nodes .no, .sl .way x.pending.Tg .no]
  | .YR,(x:Vx) => [.int .i64 x.kind, .int .i64 x.i, .int .i64 x.k, .int .u8 x.by_, .str x.data]
  | .Rp,(x:JP) => [.int .i64 x.header, .int .i64 x.order, .int .i64 x.update, .int .i64 x.seq, .int .i64 x.from_, .int .i64 x.DB, .sl (.int .i64) x.turns .no]
  | .YS,(x:Vy) => [.int .i64 x.kind, .int .i64 x.o.header, .int .i64 x.o.order, .int .i64 x.o.update, .int .i64 x.o.seq, .int .i64 x.o.from_, .int .i64 x.o.DB, .sl (.int .i64) x.o.turns .no, .str x.data]
  | .YT,(x:Vz) => [.int .i64 x.kind, .int .i64 x.n, .sl (.int .i64) x.turns .no]
  | .YU,(x:VA) => [.int .i64 x.a, .int .i64 x.b, .int .i64 x.c]
  | .VD,(x:RZ) => [.int .i64 x.a, .int .i64 x.b]
  | .YV,(x:VB) => [.int .i64 x.a.aF, .int .i64 x.a.exp, .int .i64 x.b.aF, .int .i64 x.b.exp]
  | .post,(x:VC) => [.str x.name, .int .i64 x.home]
  | .job,(x:Job) => [.int .i64 x.id, .int .i64 x.target, .int .i64 x.state, .int .i64 x.wU]
  | .record,(x:GZ) => [.int .i64 x.kind, .sl (.int .i64) x.nums .no, .str x.text]
def HH (T:Ty):V→Option (List T.den)
  | .cV=>some []
  | .sl T' l _=>if h:T'=T then some (h▸l)else none
  | _=>none
def Th (k:IntKind):List V→Option Int
  | [.int k' n]=>if k'=k then some n else none
  | _=>none
def OK:List V→Option Bool
  | [.bool b]=>some b
  | _=>none
def Ti:List V→Option ah
  | [.str s]=>some s
  | _=>none
def decDcm:List V→Option dH
  | [.int .i64 a0, .int .i64 a1]=>some ⟨a0,a1⟩
  | _=>none
def Xg:List V→Option Json
  | [.int .i64 a0, .int .i64 a1, .int .i64 a2, .str a3,a4,a5]=>match HH .str a4,HH .json a5 with|some b4,some b5=>some ⟨a0,⟨a1,a2⟩,a3,b4,b5⟩|_,_=>none
  | _=>none
def decRaw:List V→Option Raw
  | [.int .i64 a0, .int .i64 a1, .int .i64 a2,a3,a4]=>match HH (.int .i64) a3,HH .raw a4 with|some b3,some b4=>some ⟨a0,a1,a2,b3,b4⟩|_,_=>none
  | _=>none
def Xh:List V→Option OJ
  | [.int .i64 a0, .int .i64 a1, .int .i64 a2,a3]=>match HH (.int .i64) a3 with|some b3=>some ⟨a0,a1,a2,b3⟩|_=>none
  | _=>none
def decFld:List V→Option Fld
  | [.str a0, .int .i64 a1, .int .i64 a2, .int .i64 a3, .bool a4]=>some ⟨a0,a1,a2,a3,a4⟩
  | _=>none
def Xi:List V→Option Vw
  | [.str a0, .str a1, .bool a2]=>some ⟨a0,a1,a2⟩
  | _=>none
def Tj:List V→Option Token
  | [.int .i64 a0, .str a1, .int .i64 a2, .int .i64 a3, .int .i64 a4]=>some ⟨a0,a1,⟨a2,a3⟩,a4⟩
  | _=>none
def Xj:List V→Option Stop
  | [.int .i64 a0, .int .i64 a1, .bool a2]=>some ⟨a0,a1,a2⟩
  | _=>none
def decWay:List V→Option Way
  | [.int .i64 a0, .int .i64 a1, .bool a2]=>some ⟨a0,a1,a2⟩
  | _=>none
def Tk:List V→Option Order
  | [.int .i64 a0, .str a1, .int .i64 a2, .int .i64 a3,a4,a5]=>match HH .stop a4,HH .way a5 with|some b4,some b5=>some ⟨a0,a1,a2,a3,b4,b5⟩|_,_=>none
  | _=>none
def Xk:List V→Option Edge
  | [.int .i64 a0, .int .i64 a1, .int .i64 a2]=>some ⟨a0,a1,a2⟩
  | _=>none
def Qn:List V→Option GY
  | [.int .i64 a0,a1]=>match HH .Qm a1 with|some b1=>some ⟨a0,b1⟩|_=>none
  | _=>none
def Tl:List V→Option Na
  | [.str a0, .str a1, .str a2]=>some ⟨a0,a1,a2⟩
  | _=>none
def Tm:List V→Option State
  | [.int .i64 a0, .int .i64 a1, .str a2, .int .i64 a3, .int .i64 a4, .bool a5, .int .i64 a6, .int .i64 a7, .bool a8, .int .i64 a9]=>some ⟨a0,a1,a2,a3,a4,a5,a6,a7,a8,a9⟩
  | _=>none
def decCtl:List V→Option Ctl
  | [.str a0, .int .i64 a1, .int .i64 a2, .int .i64 a3, .int .i64 a4, .int .i64 a5,a6, .int .i64 a7, .bool a8, .int .i64 a9, .bool a10, .int .i64 a11, .str a12, .int .i64 a13, .int .i64 a14,a15,a16]=>match HH (.int .i64) a6,HH .stop a15,HH .way a16 with|some b6,some b15,some b16=>some ⟨a0,a1,a2,a3,a4,a5,b6,a7,a8,a9,a10,⟨a11,a12,a13,a14,b15,b16⟩⟩|_,_,_=>none
  | _=>none
def Xl:List V→Option Vx
  | [.int .i64 a0, .int .i64 a1, .int .i64 a2, .int .u8 a3, .str a4]=>some ⟨a0,a1,a2,a3,a4⟩
  | _=>none
def Tn:List V→Option JP
  | [.int .i64 a0, .int .i64 a1, .int .i64 a2, .int .i64 a3, .int .i64 a4, .int .i64 a5,a6]=>match HH (.int .i64) a6 with|some b6=>some ⟨a0,a1,a2,a3,a4,a5,b6⟩|_=>none
  | _=>none
def Xm:List V→Option Vy
  | [.int .i64 a0, .int .i64 a1, .int .i64 a2, .int .i64 a3, .int .i64 a4, .int .i64 a5, .int .i64 a6,a7, .str a8]=>match HH (.int .i64) a7 with|some b7=>some ⟨a0,⟨a1,a2,a3,a4,a5,a6,b7⟩,a8⟩|_=>none
  | _=>none
def Xn:List V→Option Vz
  | [.int .i64 a0, .int .i64 a1,a2]=>match HH (.int .i64) a2 with|some b2=>some ⟨a0,a1,b2⟩|_=>none
  | _=>none
def Xo:List V→Option VA
  | [.int .i64 a0, .int .i64 a1, .int .i64 a2]=>some ⟨a0,a1,a2⟩
  | _=>none
def Xp:List V→Option RZ
  | [.int .i64 a0, .int .i64 a1]=>some ⟨a0,a1⟩
  | _=>none
def Xq:List V→Option VB
  | [.int .i64 a0, .int .i64 a1, .int .i64 a2, .int .i64 a3]=>some ⟨⟨a0,a1⟩,⟨a2,a3⟩⟩
  | _=>none
def Xr:List V→Option VC
  | [.str a0, .int .i64 a1]=>some ⟨a0,a1⟩
  | _=>none
def decJob:List V→Option Job
  | [.int .i64 a0, .int .i64 a1, .int .i64 a2, .int .i64 a3]=>some ⟨a0,a1,a2,a3⟩
  | _=>none
def Qo:List V→Option GZ
  | [.int .i64 a0,a1, .str a2]=>match HH (.int .i64) a1 with|some b1=>some ⟨a0,b1,a2⟩|_=>none
  | _=>none
def Ty.dec:(T:Ty)→List V→Option T.den
  | .int k=>Th k | .bool=>OK | .str=>Ti
  | .dcm=>decDcm
  | .json=>Xg
  | .raw=>decRaw
  | .Xf=>Xh
  | .fld=>decFld
  | .YQ=>Xi
  | .token=>Tj
  | .stop=>Xj
  | .way=>decWay
  | .order=>Tk
  | .Qm=>Xk
  | .layout=>Qn
  | .topic=>Tl
  | .state=>Tm
  | .ctl=>decCtl
  | .YR=>Xl
  | .Rp=>Tn
  | .YS=>Xm
  | .YT=>Xn
  | .YU=>Xo
  | .VD=>Xp
  | .YV=>Xq
  | .post=>Xr
  | .job=>decJob
  | .record=>Qo
def Ty.one:Ty→Bool
  | .int _=>true
  | .bool=>true
  | .str=>true
  | _=>false
def Vr (T:Ty) (x:T.den):V:=bif T.one then (T.cells x).headD .undef else .agg (T.cells x)
def elD (T:Ty):V→Option T.den
  | .agg cs=>bif T.one then none else T.dec cs
  | v=>bif T.one then T.dec [v]else none
def JQ:(K:Ty)→K.den→K.den→Bool
  | .str,(a:ah),(b:ah)=>a==b
  | .int _,(a:Int),(b:Int)=>a==b
  | .VD,(a:RZ),(b:RZ)=>a.a==b.a&&(a.b==b.b&&true)
  | _,_,_=>false
def SW:Ty→Bool
  | .str=>true
  | .int _=>true
  | .VD=>true
  | _=>false
def sf (K T:Ty) (k:K.den):List (K.den × T.den)→T.den
  | []=>T.bU
  | e::r=>bif JQ K k e.1 then e.2 else sf K T k r
def Iw (K T:Ty) (k:K.den):List (K.den × T.den)→Bool
  | []=>false
  | e::r=>bif JQ K k e.1 then true else Iw K T k r
def FG (K T:Ty) (k:K.den) (v:T.den):List (K.den × T.den)→List (K.den × T.den)
  | [] => [(k,v)]
  | e::r=>bif JQ K k e.1 then (k,v)::r else e::FG K T k v r
inductive cj where
  | free
  | dead
  | cells (cs:List V)
  | row (T:Ty) (l:List T.den)
  | tok
  | iter (s:ah) (pos:Nat)
  /-- a strings.Builder, its buffer -/
  | oG (v:V)
  | zE (K T:Ty) (l:List (K.den × T.den))
abbrev aO:=List cj
structure St where
  fr:List V
  hp:aO
inductive TD where
  | bool|int (k:IntKind)|string|ptr (e:Nat)|slice (e:Nat)|arr (n e:Nat)|map (k e:Nat)|struct (fs:List (Nat × Nat))|func|iface|other
structure TI where
  d:TD
  size:Nat
  bytes:Nat
  zero:List V
  ty:Option Ty
  eq:Bool:=false
  /-- slices of such elements are rows of ours -/
  rowy:Bool:=false
  /-- strings.Builder -/
  oG:Bool:=false
abbrev eF:=List TI
def TI.none:TI:=⟨.other,0,0, [], .none,false,false,false⟩
def eF.mode (tt:eF) (rs:List Ty):eF:=tt.map fun i => { i with rowy:=match i.ty with|some T=>rs.contains T|none=>false }
def eF.at (tt:eF) (t:Nat):TI:=tt.getD t TI.none
def eF.ok (tt:eF) (t:Nat):Bool:=match (tt.at t).d with | .other=>false|_=>true
def eF.isAgg (tt:eF) (t:Nat):Bool:=match (tt.at t).d with | .struct _=>true | .arr _ _=>true|_=>false
def inK (k:IntKind) (n:Int):Bool:=decide (k.min≤n)&&decide (n≤k.max)
def K2:Value→V
  | .bool b => .bool b
  | .int k n=>if inK k n then .int k n else .undef
  | .string s=>if s.size≤9223372036854775807 then .str s.data.toList else .undef
  | .pointer .none => .fM
  | .slice .none 0 0 => .cV
  | .nilFunc => .bg
  | .map .none => .qU
  | .nilIface => .eg
  | _ => .undef
def ofConst:Value→V
  | .agg cs => .agg (cs.toList.map K2)
  | v=>K2 v
def ev (fr:List V):Operand→V
  | .tmp t=>fr.getD t .undef
  | .const c=>ofConst c
  | .func f => .func f [] []
  | .global _ => .undef
section
variable {R:Type}
def cu (b:Bool) (k:Option R):Option R:=bif b then k else none
def oi:List V→List V→Option Bool
  | [], []=>some true
  | .int k a::x, .int k' b::y=>if k=k' then (match oi x y with|some r=>some (a==b&&r)|none=>none)else none
  | .str a::x, .str b::y=>match oi x y with|some r=>some (a==b&&r)|none=>none
  | .bool a::x, .bool b::y=>match oi x y with|some r=>some (a==b&&r)|none=>none
  | _,_=>none
def eqV (a b:V):Option Bool :=
  match a,b with
  | .bool x, .bool y=>some (x==y)
  | .agg xs, .agg ys=>oi xs ys
  | _,_=>none
def isNilV:V→Option Bool
  | .fM=>some true
  | .ptr _ _=>some false
  | .zD _=>some false
  | .wV _ _ _ _=>some false
  | _=>none
def Xs {R:Type} (op:BinOp) (a b:V) (k:V→Option R):Option R :=
  match b with
  | .fM =>
    (match op,isNilV a with
     | .eql,some r=>k (.bool r)
     | .neq,some r=>k (.bool (!r))
     | _,_=>none)
  | _=>none
def JR {R:Type} (a:V) (k:Option Bool→Option R):Option R :=
  match a with
  | .cV=>k (some true)
  | .sl _ l _=>bif l.isEmpty then k none else k (some false)
  | .row _ n=>bif decide (n=0)then k none else k (some false)
  | _=>none
def To (neg:Bool):Option Bool→V
  | none => .Ms
  | some r => .bool (bif neg then !r else r)
def slK {R:Type} (op:BinOp) (a b:V) (k:V→Option R):Option R :=
  match b with
  | .cV =>
    (match op with
     | .eql=>JR a fun r=>k (To false r)
     | .neq=>JR a fun r=>k (To true r)
     | _=>none)
  | _=>none
def ifK {R:Type} (op:BinOp) (y:Operand) (a b:V) (k:V→Option R):Option R :=
  match y,b,a,op with
  | .const _, .eg, .eg, .eql=>k (.bool true)
  | .const _, .eg, .eg, .neq=>k (.bool false)
  | .const _, .eg, .iface, .eql=>k (.bool false)
  | .const _, .eg, .iface, .neq=>k (.bool true)
  | .const _, .eg, .NU _ _ _, .eql=>k (.bool false)
  | .const _, .eg, .NU _ _ _, .neq=>k (.bool true)
  | _,_,_,_=>none
def GB:ah→ah→Bool
  | _, []=>false
  | [],_::_=>true
  | a::x,b::y=>a<b||(a==b&&GB x y)
def Cb (op:BinOp) (x y:V) (k:V→Option R):Option R :=
  match op,x,y with
  | .shl, .int i a, .int _ b=>cu (decide (0≤b)) (k (.int i (i.wrap (a*2 ^ (min b.toNat i.bits)))))
  | .shr, .int i a, .int _ b=>cu (decide (0≤b)) (k (.int i (a.fdiv (2 ^ (min b.toNat i.bits)))))
  | op, .int i a, .int j b =>
    if i=j then
      match op with
      | .add=>k (.int i (i.wrap (a+b)))
      | .sub=>k (.int i (i.wrap (a - b)))
      | .mul=>k (.int i (i.wrap (a*b)))
      | .quo=>cu (!decide (b=0)) (k (.int i (i.wrap (a.tdiv b))))
      | .rem=>cu (!decide (b=0)) (k (.int i (a.tmod b)))
      | .and=>k (.int i (i.wrap (BitVec.ofInt i.bits a &&& BitVec.ofInt i.bits b).toNat))
      | .or=>k (.int i (i.wrap (BitVec.ofInt i.bits a ||| BitVec.ofInt i.bits b).toNat))
      | .xor=>k (.int i (i.wrap (BitVec.ofInt i.bits a ^^^ BitVec.ofInt i.bits b).toNat))
      | .eql=>k (.bool (a==b))
      | .neq=>k (.bool (a != b))
      | .lss=>k (.bool (decide (a<b)))
      | .leq=>k (.bool (decide (a≤b)))
      | .gtr=>k (.bool (decide (a>b)))
      | .geq=>k (.bool (decide (a≥b)))
      | _=>none
    else none
  | op, .str a, .str b =>
    match op with
    | .add=>cu (decide (a.length+b.length≤9223372036854775807)) (k (.str (a++b)))
    | .eql=>k (.bool (a==b))
    | .neq=>k (.bool (!(a==b)))
    | .lss=>k (.bool (GB a b))
    | .leq=>k (.bool (GB a b||a==b))
    | .gtr=>k (.bool (!(GB a b||a==b)))
    | .geq=>k (.bool (!(GB a b)))
    | _=>none
  | .eql,a,b=>match eqV a b with|some r=>k (.bool r)|none=>none
  | .neq,a,b=>match eqV a b with|some r=>k (.bool (!r))|none=>none
  | _,_,_=>none
def vC (tt:eF) (t:Nat) (cs:List V) (off:Nat) (k:V→Option R):Option R :=
  if tt.ok t then
    if tt.isAgg t then (if off+(tt.at t).size≤cs.length then k (.agg ((cs.drop off).take (tt.at t).size))else none)
    else (match cs[off]? with|some v=>k v|none=>none)
  else none
def Nb (cells:List V):List (Nat × Nat × V)→Option (List V)
  | []=>some cells
  | (off,size,v)::rest =>
    match Wd v with
    | some vs=>if vs.length=size&&off+size≤cells.length then Nb (cells.take off++vs++cells.drop (off+size)) rest else none
    | none=>none
def idxOf (i:V) (k:Int→Option R):Option R:=match i with | .int _ n=>k n|_=>none
def K3 (v:Option V) (d:Int) (k:Int→Option R):Option R :=
  match v with
  | none=>k d
  | some (.int _ n)=>k n
  | some _=>none
def gk:List V→List V→Bool
  | [], []=>true
  | .int k _::z, .int k' _::c=>decide (k=k')&&gk z c
  | .str _::z, .str _::c=>gk z c
  | .bool _::z, .bool _::c=>gk z c
  | _,_=>false
def Xt (i:TI) (a b:List V):Bool:=i.eq&&gk i.zero a&&gk i.zero b
def opP (tt:eF) (o:Op) (ρ:Operand→V) (k:V→Option R):Option R :=
  match o with
  | .move x=>k (ρ x)
  | .assign x=>k (ρ x)
  | .pick c a b =>
    match ρ c with
    | .bool t =>
      (match ρ a,ρ b with
       | .bool u, .bool v=>k (.bool (bif t then u else v))
       | u,v=>bif t then k u else k v)
    | _=>none
  | .nilCheck x =>
    match ρ x with
    | .ptr i o=>k (.ptr i o)
    | .zD cs=>k (.zD cs)
    | .wV i n j o=>k (.wV i n j o)
    | .func f a b=>k (.func f a b)
    | _=>none
  | .binOp op t x y _ =>
    match ρ x,ρ y with
    | .agg a, .agg b=>if Xt (tt.at t) a b then Cb op (.agg a) (.agg b) k else none
    | .bool a, .bool b=>(match (tt.at t).d with | .bool=>Cb op (.bool a) (.bool b) k|_=>none)
    | .int i a, .int j b=>Cb op (.int i a) (.int j b) k
    | .str a, .str b=>Cb op (.str a) (.str b) k
    | a,b=>(match (tt.at t).d with | .ptr _=>Xs op a b k | .slice _=>slK op a b k | .iface=>ifK op y a b k|_=>none)
  | .unOp op _ x =>
    match op,ρ x with
    | .neg, .int i n=>k (.int i (i.wrap (0 - n)))
    | .not, .bool b=>k (.bool (!b))
    | _,_=>none
  | .convert s d x =>
    if !tt.ok s then none else
    match (tt.at d).d,ρ x with
    | .int i, .int _ n=>k (.int i (i.wrap n))
    | .string, .str t=>(match (tt.at s).d with | .string=>k (.str t)|_=>none)
    | _,_=>none
  | .makeInterface t x =>
    match (tt.at t).d,ρ x with
    | .int _, .int i n=>k (.NU t i n)
    | _,_=>none
  | .fieldAddr s x f =>
    match (tt.at s).d with
    | .struct fs =>
      (match fs[f]? with
       | some (off,t) =>
         if (tt.at t).size=0 || !tt.ok t then none else
         (match ρ x with
          | .ptr i o=>k (.ptr i (o+off))
          | .zD cs=>k (.zD (cs.drop off))
          | .wV i n j o=>k (.wV i n j (o+off))
          | _=>none)
       | none=>none)
    | _=>none
  | .field s x f =>
    match (tt.at s).d,ρ x with
    | .struct fs, .agg cs=>(match fs[f]? with|some (off,t)=>vC tt t cs off k|none=>none)
    | _,_=>none
  | .indexAddr t x i =>
    idxOf (ρ i) fun n =>
    match (tt.at t).d,ρ x with
    | .slice e, .sl T l _=>if T.sz=(tt.at e).size&&tt.ok e then cu (decide (0≤n)&&decide (n<l.length)) (k (.zD (T.cells (l.getD n.toNat T.bU))))else none
    | .slice e, .row id m=>if tt.ok e then cu (decide (0≤n)&&decide (n<m)) (k (.wV id (tt.at e).size n.toNat 0))else none
    | .arr m e, .ptr id o=>if tt.ok e then cu (decide (0≤n)&&decide (n<m)) (k (.ptr id (o+n.toNat*(tt.at e).size)))else none
    | .slice e, .R0 m cs=>if tt.ok e&&decide ((tt.at e).size≠0)&&decide (cs.length=m*(tt.at e).size)then cu (decide (0≤n)&&decide (n<m)) (k (.zD (cs.drop (n.toNat*(tt.at e).size))))else none
    | _,_=>none
  | .index t x i =>
    idxOf (ρ i) fun n =>
    match (tt.at t).d,ρ x with
    | .string, .str s=>cu (decide (0≤n)&&decide (n<s.length)) (k (.int .u8 (s.getD n.toNat 0).toNat))
    | .arr m e, .agg cs=>cu (decide (0≤n)&&decide (n<m)) (vC tt e cs (n.toNat*(tt.at e).size) k)
    | _,_=>none
  | .slice t x lo hi mx =>
    match mx with
    | some _=>none
    | none =>
      (match (tt.at t).d,ρ x with
       | .string, .str s =>
         K3 (hi.map ρ) s.length fun h=>K3 (lo.map ρ) 0 fun l =>
         cu (decide (0≤h)&&decide (h≤s.length)) (cu (decide (0≤l)&&decide (l≤h)) (k (.str ((s.drop l.toNat).take (h.toNat - l.toNat)))))
       | .slice e, .sl T s _ =>
         if T.sz=(tt.at e).size&&tt.ok e then
         K3 (lo.map ρ) 0 fun l =>
         (match hi with
          | none=>cu (decide (0≤l)&&decide (l≤s.length)) (k (.sl T (s.drop l.toNat) .no))
          | some hi =>
            K3 (some (ρ hi)) 0 fun h =>
            cu (decide (0≤h)&&decide (h≤s.length)) (cu (decide (0≤l)&&decide (l≤h)) (k (.sl T ((s.drop l.toNat).take (h.toNat - l.toNat)) .no))))
         else none
       | .slice e, .cV =>
         if !tt.ok e then none else
         K3 (hi.map ρ) 0 fun h=>K3 (lo.map ρ) 0 fun l=>cu (decide (h=0)&&decide (l=0)) (k .cV)
       | _,_=>none)
  | .makeFunc (.func f) first cap=>k (.func f (first.toList.map ρ) (cap.toList.map ρ))
  | .extract t i=>match ρ t with | .tuple vs=>(match vs[i]? with|some v=>k v|none=>none)|_=>none
  | .build t parts =>
    match (tt.at t).d with
    | .struct fs =>
      if !fs.all (fun f=>tt.ok f.2) || !tt.ok t||decide (1000000≤(tt.at t).zero.length)then none else
      (match Nb (tt.at t).zero (parts.toList.map fun (i,x)=>((fs.getD i (0,0)).1,if i<fs.length then (tt.at (fs.getD i (0,0)).2).size else 1000000,ρ x))with
       | some cs=>k (.agg cs)|none=>none)
    | .arr _ e =>
      if !tt.ok e || !tt.ok t||decide (1000000≤(tt.at t).zero.length)then none else
      (match Nb (tt.at t).zero (parts.toList.map fun (i,x)=>(i*(tt.at e).size,(tt.at e).size,ρ x))with
       | some cs=>k (.agg cs)|none=>none)
    | _=>none
  | .call c =>
    match c.callee,c.args.toList with
    | .builtin .len, [x] =>
      (match c.argTypes.toList with
       | [t] =>
         (match (tt.at t).d,ρ x with
          | .string, .str s=>k (.int .i64 s.length)
          | .slice _, .sl _ l _=>k (.int .i64 l.length)
          | .slice _, .R0 n _=>k (.int .i64 n)
          | .slice _, .row _ n=>k (.int .i64 n)
          | .slice _, .cV=>k (.int .i64 0)
          | _,_=>none)
       | _=>none)
    | .builtin .min, [x,y]=>(match ρ x,ρ y with | .int i a, .int j b=>if i=j then k (.int i (min a b))else none|_,_=>none)
    | .builtin .max, [x,y]=>(match ρ x,ρ y with | .int i a, .int j b=>if i=j then k (.int i (max a b))else none|_,_=>none)
    | _,_=>none
  | _=>none
end
def aO.at (h:aO) (i:Nat):cj:=h.getD i .dead
def Tok.sV (ρ:Nat→Option Nat):Tok→Tok
  | .own i=>match ρ i with|some j => .own j|none => .no
  | t=>t
mutual
def V.sV (ρ:Nat→Option Nat):V→V
  | .ptr i o=>match ρ i with|some j => .ptr j o|none => .undef
  | .sl T l t => .sl T l (t.sV ρ)
  | .row i n=>match ρ i with|some j => .row j n|none => .undef
  | .HG i q n=>match ρ i with|some j => .HG j q n|none => .undef
  | .wV i n k o=>match ρ i with|some j => .wV j n k o|none => .undef
  | .map i=>match ρ i with|some j => .map j|none => .undef
  | .func f a b => .func f (V.Cq ρ a) (V.Cq ρ b)
  | .agg cs => .agg (V.Cq ρ cs)
  | .tuple vs => .tuple (V.Cq ρ vs)
  | .zD cs => .zD (V.Cq ρ cs)
  | .R0 n cs => .R0 n (V.Cq ρ cs)
  | v=>v
def V.Cq (ρ:Nat→Option Nat):List V→List V
  | [] => []
  | v::vs=>v.sV ρ::V.Cq ρ vs
end
def cj.sV (ρ:Nat→Option Nat):cj→cj
  | .cells cs => .cells (V.Cq ρ cs)
  | .oG v => .oG (v.sV ρ)
  | o=>o
mutual
def V.ids:V→List Nat
  | .ptr i _ => [i]
  | .sl _ _ (.own i) => [i]
  | .row i _ => [i]
  | .HG i _ _ => [i]
  | .wV i _ _ _ => [i]
  | .map i => [i]
  | .func _ a b=>V.wm a++V.wm b
  | .agg cs=>V.wm cs
  | .tuple vs=>V.wm vs
  | .zD cs=>V.wm cs
  | .R0 _ cs=>V.wm cs
  | _ => []
def V.wm:List V→List Nat
  | [] => []
  | v::vs=>v.ids++V.wm vs
end
def cj.ids:cj→List Nat
  | .cells cs=>V.wm cs
  | .oG v=>v.ids
  | _ => []
def reach (h:aO):Nat→List Nat→List Nat→List Nat
  | 0,_,seen=>seen
  | _+1, [],seen=>seen
  | n+1,i::todo,seen=>if seen.contains i then reach h n todo seen else reach h n (todo++(h.at i).ids) (seen ++ [i])
def Cl (ord:List Nat) (i:Nat):Option Nat:=let p:=ord.idxOf i; if p<ord.length then some p else none
def aO.pick (h:aO) (ord:List Nat):aO:=ord.map fun i=>(h.at i).sV (Cl ord)
def si (ord:List Nat) (n:Nat) (j:Nat):Nat:=if j<ord.length then ord.getD j 0 else n+(j - ord.length)
def aO.D6 (h:aO):List (Nat × cj)→aO
  | []=>h
  | (i,o)::r=>aO.D6 (h.set i o) r
def aO.back (h:aO) (ord:List Nat) (h':aO):aO :=
  let ρ:=fun j=>some (si ord h.length j)
  aO.D6 h (ord.zip ((h'.take ord.length).map (cj.sV ρ)))++(h'.drop ord.length).map (cj.sV ρ)
section
variable {R:Type}
abbrev Spec (R:Type):=List V→aO→(V→aO→Option R)→Option R
def D7 (l:List Int):ah:=l.flatMap fun n=>(Utf8.encode n).data.toList
def A7 (tt:eF) (t:Nat):Ty→Bool
  | .str=>(match (tt.at t).d with | .string=>true|_=>false)
  | .int k=>(match (tt.at t).d with | .int k'=>decide (k'=k)|_=>false)
  | _=>false
def D8 (tt:eF) (t:Nat):Ty→Bool
  | .bool=>(match (tt.at t).d,(tt.at t).zero with | .bool, [.bool false]=>true|_,_=>false)
  | .int k=>(match (tt.at t).d,(tt.at t).zero with | .int _, [.int k' 0]=>decide (k'=k)|_,_=>false)
  | _=>false
def JS (lim:Option Nat) (i:Nat):Bool:=match lim with|none=>true|some m=>decide (i<m)
def opR (tt:eF) (o:Op) (ρ:Operand→V) (h:aO) (lim:Option Nat) (k:V→Option R):Option R :=
  match o with
  | .load t x =>
    match ρ x with
    | .ptr i o =>
      if JS lim i then
        match h.at i with
        | .cells cs=>vC tt t cs o k
        | .oG v=>vC tt t [.undef,v] o k
        | _=>none
      else none
    | .zD cs=>vC tt t cs 0 k
    | .wV i sz j o =>
      if JS lim i then
        match h.at i with
        | .row T l=>if sz=T.sz then cu (decide (j<l.length)) (vC tt t (T.cells (l.getD j T.bU)) o k)else none
        | _=>none
      else none
    | _=>none
  | .lookup t x ix ok =>
    match (tt.at t).d,ρ x with
    | .map kt vt, .map i =>
      if JS lim i then
        match h.at i with
        | .zE K T l =>
          if A7 tt kt K&&D8 tt vt T then
            match elD K (ρ ix)with
            | some kx=>bif ok then k (.tuple [Vr T (sf K T kx l), .bool (Iw K T kx l)])else k (Vr T (sf K T kx l))
            | none=>none
          else none
        | _=>none
      else none
    | _,_=>none
  | .convert s d x =>
    match (tt.at d).d,(tt.at s).d,ρ x with
    | .string, .slice e, .row i _ =>
      if JS lim i then
        match (tt.at e).d,h.at i with
        | .int .u8, .row (.int .u8) l=>k (.str ((l:List Int).map fun n=>UInt8.ofNat n.toNat))
        | _,_=>none
      else none
    | .string, .slice e, .sl T l _ =>
      match (tt.at e).d,T,l with
      | .int .u8, .int .u8,l=>k (.str ((l:List Int).map fun n=>UInt8.ofNat n.toNat))
      | .int .i32, .int .i32,l=>cu (decide (4*l.length≤9223372036854775807)) (k (.str (D7 l)))
      | _,_,_=>none
    | .string, .slice e, .cV=>match (tt.at e).d with | .int .u8=>k (.str [])|_=>none
    | _,_,_=>none
  | _=>none
def NV (s:ah):List (Ty.den (.int .u8)):=(s.map fun b=>(b.toNat:Int):List Int)
def zF (T:Ty):List (List V)→Option (List T.den)
  | []=>some []
  | c::cs=>match T.dec c,zF T cs with|some x,some xs=>some (x::xs)|_,_=>none
def chunks (n:Nat):Nat→List V→List (List V)
  | 0,_ => []
  | m+1,l=>l.take n::chunks n m (l.drop n)
def HI (ρ:Operand→V):Option Operand→Bool
  | none=>true
  | some x=>(match ρ x with | .int _ _=>true|_=>false)
def opA (tt:eF) (o:Op) (ρ:Operand→V) (k:cj→(Nat→V)→Option R):Option R :=
  match o with
  | .alloc t=>if (tt.at t).oG then k (.oG .cV) fun i => .ptr i 0 else if tt.ok t then k (.cells (tt.at t).zero) fun i => .ptr i 0 else none
  | .box t x=>match Wd (ρ x)with|some cs=>if tt.ok t&&decide (cs.length=(tt.at t).size)then k (.cells cs) fun i => .ptr i 0 else none|none=>none
  | .buildSlice t len parts =>
    match (tt.at t).d with
    | .slice e =>
      let sz:=(tt.at e).size
      if sz=0||decide (len*sz>4096) || !tt.ok e then none else
      (match Nb ((List.replicate len (tt.at e).zero).flatten) (parts.toList.map fun (i,x)=>(i*sz,sz,ρ x)),(tt.at e).ty with
       | some cs,some T =>
         if T.sz=sz then
           if ((tt.at e).rowy&&decide (len=0))=true then k (.row T []) fun i => .row i 0 else
           (match zF T (chunks sz len cs)with|some l=>k .tok fun i => .sl T l (.own i)|none=>k .dead fun _ => .R0 len cs)
         else none
       | some cs,none=>k .dead fun _ => .R0 len cs
       | none,_=>none)
    | _=>none
  | .makeSlice t n c =>
    match (tt.at t).d,ρ n,ρ c with
    | .slice e, .int _ a, .int _ b =>
      (match (tt.at e).ty with
       | some T =>
         (match T.dec (tt.at e).zero with
          | some z=>if T.sz=(tt.at e).size&&tt.ok e then cu (decide (0≤a)&&decide (a=b)&&decide (a*(tt.at e).bytes≤140737488355328)&&decide (a≤140737488355328)) (k (.row T (List.replicate a.toNat z)) fun i => .row i a.toNat)else none
          | none=>none)
       | none=>none)
    | _,_,_=>none
  | .convert s d x =>
    match (tt.at s).d,(tt.at d).d,ρ x with
    | .string, .slice e, .str t =>
      (match (tt.at e).d with
       | .int .u8=>k (.row (.int .u8) (NV t)) fun i => .row i t.length
       | _=>none)
    | _,_,_=>none
  | .makeMap t rsv =>
    if HI ρ rsv then
    match (tt.at t).d with
    | .map kt vt =>
      (match (tt.at kt).ty,(tt.at vt).ty with
       | some K,some T=>if A7 tt kt K&&D8 tt vt T then k (.zE K T []) fun i => .map i else none
       | _,_=>none)
    | _=>none
    else none
  | .range t x=>match (tt.at t).d,ρ x with | .string, .str s=>k (.iter s 0) fun i => .ptr i 0|_,_=>none
  | _=>none
def D9 (cs:List V) (o:Nat) (vs:List V):List V:=cs.take o++vs++cs.drop (o+vs.length)
def Rq (T:Ty) (h:aO):V→Option (List T.den)
  | .cV=>some []
  | .sl T' l _=>if e:T'=T then some (e▸l)else none
  | .row i _=>match h.at i with | .row T' l=>if e:T'=T then some (e▸l)else none|_=>none
  | .R0 n cs=>if cs.length=n*T.sz then zF T (chunks T.sz n cs)else none
  | .str s=>if e:T = .int .u8 then some (e▸NV s)else none
  | _=>none
def qD (tt:eF) (e:Nat) (s x:V) (h:aO) (id:Nat) (k:V→aO→Option R):Option R :=
  match (tt.at e).ty with
  | some T =>
    if T.sz=(tt.at e).size&&(tt.at e).bytes != 0&&tt.ok e then
    (match Rq T h x with
     | some m =>
       let room (n:Nat) (q:Option R):Option R:=cu (decide ((n+m.length)*(tt.at e).bytes≤140737488355328)) q
       (match s with
        | .cV=>room 0 (if (tt.at e).rowy then k (.row id m.length) (h.set id (.row T m))else k (.sl T m (.own id)) (h.set id .tok))
        | .sl T' l tk =>
          if q:T'=T then
            let l':List T.den:=q▸l
            (match tk with
             | .no=>none
             | .nil=>room l.length (k (.sl T (l'++m) (.own id)) (h.set id .tok))
             | .own i=>(match h.at i with | .tok=>room l.length (k (.sl T (l'++m) (.own id)) ((h.set i .dead).set id .tok))|_=>none))
          else none
        | .row i _ =>
          (match h.at i with
           | .row T' l =>
             if q:T'=T then
               let l':List T.den:=q▸l
               room l.length (k (.row id (l'.length+m.length)) ((h.set i .dead).set id (.row T (l'++m))))
             else none
           | _=>none)
        | _=>none)
     | none=>none)
    else none
  | none=>none
def qf (s:ah) (pos:Nat):Nat × Nat:=Utf8.decode ⟨s.toArray⟩ pos
def HJ (tt:eF) (t:Nat) (v:V) (h:aO) (k:V→aO→Option R):Option R :=
  match (tt.at t).d,v with
  | .arr m e, .ptr i 0 =>
    (match h.at i with
     | .cells cs =>
       (match (tt.at e).ty with
        | some T =>
          if T.sz=(tt.at e).size&&tt.ok e&&decide (cs.length=m*T.sz)&&decide (m≠0)&&decide (m≤4096)then
            match zF T (chunks T.sz m cs)with
            | some l=>k (.sl T l .no) (h.set i .dead)
            | none=>none
          else none
        | none=>none)
     | _=>none)
  | _,_=>none
def SX (tt:eF) (o:Op) (ρ:Operand→V) (h:aO) (id:Nat) (k:V→aO→Option R):Option R :=
  match o with
  | .slice t x lo hi mx=>bif lo.isNone&&hi.isNone&&mx.isNone then HJ tt t (ρ x) h k else none
  | .store t x y =>
    match Wd (ρ y)with
    | none=>none
    | some vs =>
    if tt.ok t&&decide (vs.length=(tt.at t).size)then
      match ρ x with
      | .ptr i o =>
        (match h.at i with
         | .cells cs=>if o+vs.length≤cs.length then k .undef (h.set i (.cells (D9 cs o vs)))else none
         | .oG _=>(match o,vs with|1, [v]=>k .undef (h.set i (.oG v))|_,_=>none)
         | _=>none)
      | .wV i sz j o =>
        (match h.at i with
         | .row T l =>
           if sz=T.sz then
           let cs:=T.cells (l.getD j T.bU)
           if o+vs.length≤cs.length then
             (match T.dec (D9 cs o vs)with
              | some y=>cu (decide (j<l.length)) (k .undef (h.set i (.row T (l.set j y))))
              | none=>none)
           else none
           else none
         | _=>none)
      | _=>none
    else none
  | .call c =>
    match c.callee,c.args.toList,c.argTypes.toList with
    | .builtin .append, [s,x], [t,xt] =>
      (match (tt.at t).d,(tt.at xt).d with
       | .slice e, .slice _=>qD tt e (ρ s) (ρ x) h id k
       | .slice e, .string=>qD tt e (ρ s) (ρ x) h id k
       | _,_=>none)
    | _,_,_=>none
  | .mapUpdate t m x y =>
    match (tt.at t).d,ρ m with
    | .map kt vt, .map i =>
      (match h.at i with
       | .zE K T l =>
         if A7 tt kt K&&D8 tt vt T then
           match elD K (ρ x),elD T (ρ y)with
           | some kx,some vx=>k .undef (h.set i (.zE K T (FG K T kx vx l)))
           | _,_=>none
         else none
       | _=>none)
    | _,_=>none
  | .insert t m x y =>
    match (tt.at t).d,ρ m with
    | .map kt vt, .map i =>
      (match h.at i with
       | .zE K T l =>
         if A7 tt kt K&&D8 tt vt T then
           match elD K (ρ x),elD T (ρ y)with
           | some kx,some vx=>k .undef (h.set i (.zE K T (FG K T kx vx l)))
           | _,_=>none
         else none
       | _=>none)
    | _,_=>none
  | .next x str =>
    match str,ρ x with
    | true, .ptr i 0 =>
      (match h.at i with
       | .iter s pos=>bif decide (pos<s.length)then k (.tuple [.bool true, .int .i64 pos, .int .i32 (qf s pos).1]) (h.set i (.iter s (pos+(qf s pos).2)))else k (.tuple [.bool false]) h
       | _=>none)
    | _,_=>none
  | _=>none
mutual
def V.shut (h:aO):V→V
  | .sl T l _ => .sl T l .no
  | .row i _=>match h.at i with | .row T l => .sl T l .no|_ => .undef
  | .agg cs => .agg (V.Rr h cs)
  | .tuple vs => .tuple (V.Rr h vs)
  | v=>v
def V.Rr (h:aO):List V→List V
  | [] => []
  | v::vs=>v.shut h::V.Rr h vs
end
def V.We:V→Bool
  | .int _ _ | .bool _ | .str _ | .fM | .cV | .qU | .bg | .eg | .iface | .NU _ _ _=>true
  | _=>false
def V.scal:V→Bool
  | .tuple vs=>vs.all V.We
  | .agg vs=>vs.all V.We
  | v=>v.We
inductive Cls where
  | P|R|A|W|C|F|X
  deriving DecidableEq
def gv (tt:eF):Op→Cls
  | .move _ | .assign _ | .pick _ _ _ | .nilCheck _ | .binOp _ _ _ _ _ | .unOp _ _ _ | .fieldAddr _ _ _ | .field _ _ _ | .indexAddr _ _ _ | .index _ _ _
  | .makeFunc _ _ _ | .extract _ _ | .build _ _ | .makeInterface _ _ => .P
  | .slice t _ _ _ _=>match (tt.at t).d with | .arr _ _ => .W|_ => .P
  | .convert s d _ =>
    match (tt.at s).d,(tt.at d).d with
    | .slice _, .string => .R
    | .string, .slice _ => .A
    | _,_ => .P
  | .load _ _ => .R
  | .lookup _ _ _ _ => .R
  | .alloc _ | .box _ _ | .buildSlice _ _ _ | .makeSlice _ _ _ | .range _ _ | .makeMap _ _ => .A
  | .store _ _ _ => .W
  | .mapUpdate _ _ _ _ => .W
  | .insert _ _ _ _ => .W
  | .next _ str=>bif str then .W else .X
  | .call c=>match c.callee with
    | .builtin .len => .P | .builtin .min => .P | .builtin .max => .P
    | .builtin .append => .W
    | .builtin _ => .X
    | .value _ => .C
    | .invoke _ _ => .X
  | _ => .X
def ow (fr:List V) (dst:Option Nat) (v:V):List V:=match dst with|some d=>fr.set d v|none=>fr
def Tp:V→V
  | .sl T l _ => .sl T l .no
  | v=>v
def Ix:V→V
  | .sl T l _ => .sl T l .no
  | .agg cs => .agg (cs.map Tp)
  | v=>v
abbrev Env (R:Type):=Nat→Option (Bool × Spec R)
def qE (E:Env R) (o:Op):Bool :=
  match o with
  | .call c=>(match c.callee with | .value (.func g)=>(match E g with|some (b,_)=>b|none=>false) | .value (.tmp _)=>true|_=>false)
  | _=>false
def ox (E:Env R) (o:Op):Bool :=
  match o with
  | .call c=>(match c.callee with | .value (.func g)=>qT.soft g&&(match E g with|some (false,_)=>true|_=>false)|_=>false)
  | _=>false
def sK:Op→Bool
  | .call c=>(match c.callee with | .builtin .append=>true|_=>false)
  | _=>false
def lowS (id:Nat):V→Bool | .row _ _=>false | .sl _ _ (.own i)=>decide (i<id)|_=>true
def lowX (id:Nat):V→Bool | .row i _=>decide (i<id)|_=>true
def zG (o:Op) (ρ:Operand→V) (id:Nat):Bool :=
  match o with
  | .call c=>(match c.args.toList with | [s,x]=>lowS id (ρ s)&&lowX id (ρ x)|_=>true)
  | _=>true
def fc (tt:eF) (E:Env R) (o:Op):Cls:=match gv tt o with | .C=>bif qE E o then .C else .F|c=>c
def canon (tt:eF) (t:Nat) (v:V):V :=
  match (tt.at t).ty with
  | some T =>
    (match v with
     | .agg cs=>(match T.dec cs with|some x=>if tt.isAgg t then .agg (T.cells x)else v|none=>v)
     | v=>(match T.dec [v]with|some x=>if tt.isAgg t then v else (match T.cells x with | [c]=>c|_=>v)|none=>v))
  | none =>
    (match (tt.at t).d with
     | .slice e=>(match (tt.at e).ty with|some T=>(match HH T v with|some l => .sl T l .no|none=>v)|none=>v)
     | _=>v)
def NW (tt:eF):List Nat→List V→List V
  | t::ts,v::vs=>canon tt t v::NW tt ts vs
  | _,vs=>vs
def lendK (sp:Spec R) (vs:List V) (h:aO) (k:V→aO→Option R):Option R :=
  match V.wm vs with
  | []=>sp vs [] fun v h'=>(match h' with | []=>bif v.scal then k v h else none|_::_=>none)
  | _::_=>none
def Cm (tt:eF) (E:Env R) (full:Bool) (c:Call) (ρ:Operand→V) (h:aO) (k:V→aO→Option R):Option R :=
  match c.callee with
  | .value f =>
    match ρ f with
    | .func g first cap =>
      let vs:=first++c.args.toList.map ρ++cap
      (match E g with
       | some (true,sp) =>
         let ps:=(first++NW tt c.argTypes.toList (c.args.toList.map ρ)++cap).map Ix
         (match V.wm ps with
          | []=>sp ps [] fun v h'=>(match h' with | []=>k v h|_::_=>none)
          | _::_=>bif full then lendK sp (V.Rr h ps) h k else none)
       | some (false,sp) =>
         bif full then
           bif qT.soft g then sp vs h k else
           let ord:=reach h 64 (V.wm vs) []
           sp (V.Cq (Cl ord) vs) (h.pick ord) fun v h'=>k (v.sV fun j=>some (si ord h.length j)) (h.back ord h')
         else none
       | none=>none)
    | _=>none
  | _=>none
def DC (tt:eF) (E:Env R) (drawn:Option Nat) (id:Nat) (o:Oper) (st:St) (k:St→Option R):Option R :=
  let ρ:=ev st.fr
  match gv tt o.op with
  | .P=>opP tt o.op ρ fun v=>k ⟨ow st.fr o.dst v,st.hp⟩
  | .R=>opR tt o.op ρ st.hp drawn fun v=>k ⟨ow st.fr o.dst v,st.hp⟩
  | .A=>opA tt o.op ρ fun ob mk=>k ⟨ow st.fr o.dst (mk id),st.hp.set id ob⟩
  | .W=>bif drawn.isSome && !zG o.op ρ id then none else SX tt o.op ρ st.hp id fun v h=>k ⟨ow st.fr o.dst v,h⟩
  | .C=>match o.op with | .call c=>Cm tt E (drawn.isNone || !qE E o.op) c ρ st.hp fun v h=>k ⟨ow st.fr o.dst v,h⟩|_=>none
  | .F=>none
  | .X=>none
def cw (tt:eF) (o:Oper):Bool:=match gv tt o.op with | .A=>true | .W=>true|_=>false
def zH (all:List Oper) (o:Oper) (st:St) (run skip:St→Option R):Option R :=
  match o.guard with
  | none=>run st
  | some (j,want) =>
    match ((all[j]?).bind (·.dst))with
    | none=>none
    | some d =>
      match st.fr.getD d .undef with
      | .bool b =>
        bif b then (if want then run ⟨st.fr.set d (.bool true),st.hp⟩else skip ⟨st.fr.set d (.bool true),st.hp⟩)
        else (if want then skip ⟨st.fr.set d (.bool false),st.hp⟩else run ⟨st.fr.set d (.bool false),st.hp⟩)
      | .tuple []=>skip st
      | _=>none
def Tq {α β:Type} (l:List α) (k:List α→β):β :=
  List.rec (motive:=fun _=>(List α→β)→β) (fun k=>k []) (fun v _ ih k=>ih fun r=>k (v::r)) l k
theorem HK {α β:Type}:∀(l:List α) (k:List α→β),Tq l k=k l
  | [],_=>rfl
  | v::l,k=>HK l fun r=>k (v::r)
def Mb {β:Type} (st:St) (k:St→β):β:=Tq st.fr fun fr=>Tq st.hp fun hp=>k ⟨fr,hp⟩
theorem Iy {β:Type} (st:St) (k:St→β):Mb st k=k st:=by unfold Mb; rw[HK,HK]
def Tr (tt:eF) (E:Env R) (drawn:Option Nat) (all:List Oper):List Oper→Nat→St→(St→Option R)→Option R
  | [],_,st,k=>k st
  | o::rest,id,st,k =>
    let id':=if cw tt o then id+1 else id
    zH all o st (fun st=>DC tt E drawn id o st fun st=>Mb st fun st=>Tr tt E drawn all rest id' st k)
      (fun st=>Mb ⟨ow st.fr o.dst (.tuple []),st.hp⟩ fun st=>Tr tt E drawn all rest id' st k)
def SY (M:List Nat) (es:List Nat):Nat:=es.foldl (fun m e=>m ||| (Nat.pow 2 e ||| M.getD e 0)) 0
def Iz (o:Oper):List Nat:=(o.after.toList.filter fun e=>Region.binds .any e).map (·.on)
def OL (ops:List Oper):List Nat:=ops.foldl (init := []) fun M o=>M ++ [SY M (Iz o)]
def beforeL (n:Nat) (M:List Nat):List (List Nat):=(List.range n).map fun j=>(List.range n).filter fun i=>(M.getD j 0).testBit i
def looks (all:List Oper) (o:Oper):List Nat :=
  (o.op.operands.toList.filterMap fun | .tmp t=>some t|_=>none) ++
  (match o.guard with|some (g,_)=>((all[g]?).bind (·.dst)).toList|none => [])
def Cr (all:List Oper) (x y:Oper):Bool :=
  (match x.dst with|some d => !(looks all y).contains d&&y.dst != some d|none=>true) &&
  (match y.dst with|some d => !(looks all x).contains d|none=>true)
def Nc (a b:Cls):Bool :=
  match a,b with
  | .X,_|_, .X=>false
  | .P,_|_, .P=>true
  | .C, .R | .C, .A | .R, .C | .A, .C=>true
  | .R, .R | .R, .A | .A, .R | .A, .A=>true
  | _,_=>false
def tokPair (tt:eF) (E:Env R) (x y:Op):Bool :=
  ((sK x&&(match fc tt E y with | .A | .R=>true|_=>false))||((match fc tt E x with | .R=>true|_=>false)&&sK y)) ||
    ((ox E x&&(match fc tt E y with | .R=>true|_=>false))||((match fc tt E x with | .R=>true|_=>false)&&ox E y))
def Qp (tt:eF) (E:Env R) (all:List Oper) (x y:Oper):Bool:=(Nc (fc tt E x.op) (fc tt E y.op)||tokPair tt E x.op y.op)&&Cr all x y
def isF (tt:eF) (E:Env R) (o:Op):Bool:=match fc tt E o with | .F=>true|_=>false
def farR (tt:eF) (E:Env R) (all:List Oper) (x:Oper):Bool:=(match fc tt E x.op with | .R=>true|_=>false)&&all.any fun y=>isF tt E y.op&&Cr all x y
def mh (all:List Oper) (o:Oper):Bool :=
  match o.op with
  | .store _ (.tmp t) _=>o.dst.isNone&&o.guard.isNone&&((all.any fun z=>z.dst==some t&&(match z.op with | .fieldAddr _ _ _=>true|_=>false))||all.all fun z=>z.dst != some t)
  | _=>false
def uP (all:List Oper) (o:Oper):Bool :=
  match o.op with
  | .store _ (.tmp t) _=>o.dst.isNone&&o.guard.isNone&&all.any fun z=>z.dst==some t&&(match z.op with | .indexAddr _ _ _=>true|_=>false)
  | _=>false
def farW (all:List Oper) (x y:Oper):Bool:=(mh all x&&uP all y)||(uP all x&&mh all y)
def Wf (tt:eF) (E:Env R) (all:List Oper) (x:Oper):Bool:=(match fc tt E x.op with | .R=>true|_=>false)&&all.any (mh all)
def rdA (tt:eF) (E:Env R) (x:Oper):Bool:=match fc tt E x.op with | .R | .A=>true|_=>false
def YW (tt:eF) (E:Env R) (x y:Oper):Bool := !(sK x.op&&rdA tt E y) && !(rdA tt E x&&sK y.op)
def drS (tt:eF) (S:Option (Bool × List Nat)) (base:Nat) (o:Oper):Option Nat:=match S with|some (true,_)=>(match gv tt o.op with | .W=>none|_=>some base)|_=>some base
def JT (tt:eF) (E:Env R) (far:Option Bool) (all:List Oper) (x y:Oper):Bool :=
  (Qp tt E all x y&&(match far with|some true=>YW tt E x y|_=>true))||(match far with
    | none=>false
    | some true=>((farR tt E all x&&isF tt E y.op)||(isF tt E x.op&&(!ox E x.op&&(match gv tt y.op with | .A=>true|_=>false)))||farW all x y)&&Cr all x y
    | some false=>(Wf tt E all x&&mh all y)&&Cr all x y)
def A8 (o:Op) (ρ:Operand→V):List Nat:=match o with | .load _ x=>(ρ x).ids | .lookup _ x _ _=>(ρ x).ids | .convert _ _ x=>(ρ x).ids|_ => []
def oH (o:Op) (ρ:Operand→V) (h:aO):List Nat :=
  match o with
  | .call c=>(match c.callee with | .value f=>(match ρ f with | .func _ first cap=>reach h 64 (V.wm (first++c.args.toList.map ρ++cap)) []|_ => [])|_ => [])
  | _ => []
def FH (o:Op) (ρ:Operand→V):List Nat:=match o with | .store _ x _=>(ρ x).ids|_ => []
def NX (tt:eF) (E:Env R) (base:Nat) (S:Option (Bool × List Nat)) (all:List Oper) (o:Oper) (ρ:Operand→V) (h:aO):Bool :=
  match S with
  | none=>true
  | some (false,A) =>
    match gv tt o.op with
    | .R => !Wf tt E all o||(A8 o.op ρ).all fun i => !A.contains i
    | .W => !mh all o||(FH o.op ρ).all fun i=>A.contains i
    | _=>true
  | some (true,A) =>
    match gv tt o.op with
    | .R => !farR tt E all o||(A8 o.op ρ).all fun i=>A.contains i
    | .C => !isF tt E o.op||ox E o.op||(Nat.ble (base+(all.filter (cw tt)).length) h.length&&(oH o.op ρ h).all (fun i=>Nat.blt i base)&&A.all fun i=>Nat.blt i h.length && !(oH o.op ρ h).contains i)
    | .W=>(!mh all o||(FH o.op ρ).all fun i=>A.contains i)&&(!uP all o||(FH o.op ρ).all fun i => !A.contains i)
    | _=>true
def Ts (ops:List Oper) (fr:List V):List Nat:=ops.flatMap fun o=>match o.op with | .fieldAddr _ x _=>(ev fr x).ids | .load _ x=>(ev fr x).ids | .store _ x _=>(ev fr x).ids|_ => []
def Tt (ops:List Oper) (fr:List V):List Nat:=ops.flatMap fun o =>
  bif mh ops o then (match o.op with | .store _ (.tmp t) _=>bif (ops.all fun z=>z.dst != some t)then (ev fr (.tmp t)).ids else ops.flatMap (fun z=>bif z.dst==some t then (match z.op with | .fieldAddr _ x _=>(ev fr x).ids|_ => [])else [])|_ => [])else []
def YX (tt:eF) (E:Env R) (base:Nat) (A:Bool × List Nat) (all:List Oper):List Oper→Nat→St→(St→Option R)→Option R
  | [],_,st,k=>k st
  | o::rest,id,st,k =>
    let id':=if cw tt o then id+1 else id
    zH all o st (fun st=>bif NX tt E base (some A) all o (ev st.fr) st.hp then DC tt E (drS tt (some A) base o) id o st fun st=>Mb st fun st=>YX tt E base A all rest id' st k else none)
      (fun st=>Mb ⟨ow st.fr o.dst (.tuple []),st.hp⟩ fun st=>YX tt E base A all rest id' st k)
def K4 (tt:eF) (E:Env R) (far:Option Bool) (ops:List Oper):Bool :=
  let M:=OL ops
  (List.range ops.length).all fun j=>(List.range j).all (fun i =>
    (M.getD j 0).testBit i||JT tt E far ops (ops.getD i default) (ops.getD j default)) &&
    (Iz (ops.getD j default)).all (fun i=>Nat.blt i j) &&
    Nat.beq (M.getD j 0) (SY M (Iz (ops.getD j default)))
def Mc (tt:eF) (E:Env R) (ops:List Oper) (draw:Bool) (st:St) (k:St→Option R):Option R :=
  let n:=st.hp.length
  let wW:St:=⟨st.fr,st.hp++List.replicate (ops.filter (cw tt)).length .free⟩
  if draw then (if K4 tt E none ops then Tr tt E (some n) ops ops n wW k else if K4 tt E (some true) ops then YX tt E n (true,Ts ops st.fr) ops ops n wW k else if K4 tt E (some false) ops then YX tt E n (false,Tt ops st.fr) ops ops n wW k else none)
  else Tr tt E none ops ops n wW k
def Nd (log:List (Nat × V)) (t:Nat) (d:V):V :=
  List.rec (motive:=fun _=>V) d (fun x _ ih=>cond (Nat.beq x.1 t) x.2 ih) log
def Tu {β:Type} (log:List (Nat × V)) (t:Nat) (d:V) (k:V→β):β :=
  List.rec (motive:=fun _=>β) (k d) (fun x _ ih=>cond (Nat.beq x.1 t) (k x.2) ih) log
def mergeC {β:Type} (log:List (Nat × V)) (fr:List V) (k:List V→β):β :=
  List.rec (motive:=fun _=>Nat→(List V→β)→β) (fun _ k=>k []) (fun v _ ih i k=>Tu log i v fun v'=>ih (i+1) fun r=>k (v'::r)) fr 0 k
def evF (fr:List V) (log:List (Nat × V)) (x:Operand):V:=match x with | .tmp t=>Nd log t (fr.getD t .undef)|x=>ev fr x
def Wg (n:Nat) (log:List (Nat × V)) (dst:Option Nat) (v:V):List (Nat × V):=match dst with|some d=>bif Nat.blt d n then (d,v)::log else log|none=>log
def stepF (tt:eF) (E:Env R) (drawn:Option Nat) (id:Nat) (o:Oper) (ρ:Operand→V) (hp:aO) (k:V→aO→Option R):Option R :=
  match gv tt o.op with
  | .P=>opP tt o.op ρ fun v=>k v hp
  | .R=>opR tt o.op ρ hp drawn fun v=>k v hp
  | .A=>opA tt o.op ρ fun ob mk=>k (mk id) (hp.set id ob)
  | .W=>bif drawn.isSome && !zG o.op ρ id then none else SX tt o.op ρ hp id fun v h=>k v h
  | .C=>match o.op with | .call c=>Cm tt E (drawn.isNone || !qE E o.op) c ρ hp fun v h=>k v h|_=>none
  | .F=>none
  | .X=>none
def guardF (all:List Oper) (o:Oper) (fr:List V) (log:List (Nat × V)) (run skip:List (Nat × V)→Option R):Option R :=
  match o.guard with
  | none=>run log
  | some (j,want) =>
    match ((all[j]?).bind (·.dst))with
    | none=>none
    | some d =>
      match Nd log d (fr.getD d .undef)with
      | .bool b =>
        bif b then (if want then run ((d, .bool true)::log)else skip ((d, .bool true)::log))
        else (if want then skip ((d, .bool false)::log)else run ((d, .bool false)::log))
      | .tuple []=>skip log
      | _=>none
def opsF (tt:eF) (E:Env R) (drawn:Option Nat) (all:List Oper) (n:Nat) (fr:List V):List Oper→Nat→List (Nat × V)→aO→(St→Option R)→Option R
  | [],_,log,hp,k=>mergeC log fr fun fr=>Tq hp fun hp=>k ⟨fr,hp⟩
  | o::rest,id,log,hp,k =>
    let id':=if cw tt o then id+1 else id
    guardF all o fr log (fun log=>stepF tt E drawn id o (evF fr log) hp fun v hp=>Tq hp fun hp=>opsF tt E drawn all n fr rest id' (Wg n log o.dst v) hp k)
      (fun log=>opsF tt E drawn all n fr rest id' (Wg n log o.dst (.tuple [])) hp k)
def regionF (tt:eF) (E:Env R) (ops:List Oper) (draw:Bool) (st:St) (k:St→Option R):Option R :=
  let n:=st.hp.length
  let hp:=st.hp++List.replicate (ops.filter (cw tt)).length .free
  if draw then (if K4 tt E none ops then opsF tt E (some n) ops st.fr.length st.fr ops n [] hp k else if K4 tt E (some true) ops then YX tt E n (true,Ts ops st.fr) ops ops n ⟨st.fr,hp⟩ k else if K4 tt E (some false) ops then YX tt E n (false,Tt ops st.fr) ops ops n ⟨st.fr,hp⟩ k else none)
  else opsF tt E none ops st.fr.length st.fr ops n [] hp k
inductive Ex where
  | normal|exit (id:Nat)|goto (l:Nat)|ret
structure Hint where
  live:List Nat
  own:List (Nat × Ty) := []
  rows:List (Nat × Ty) := []
  cells:List (Nat × Nat × Ty × Bool) := []
  drop:List Nat := []
  out:List Nat := []
def IA (live drop:List Nat) (fr:List V):List V:=fr.zipIdx.map fun (v,i)=>if live.contains i then (if drop.contains i then Ix v else v)else .undef
def NY:List (Nat × Ty)→St→St
  | [],st=>st
  | (d,T)::r,st =>
    match st.fr.getD d .undef with
    | .cV=>NY r ⟨st.fr.set d (.sl T [] (.own st.hp.length)),st.hp ++ [.tok]⟩
    | .sl T' l .nil=>NY r ⟨st.fr.set d (.sl T' l (.own st.hp.length)),st.hp ++ [.tok]⟩
    | _=>NY r st
def K5:List (Nat × Ty)→St→St
  | [],st=>st
  | (d,T)::r,st =>
    match st.fr.getD d .undef with
    | .cV=>K5 r ⟨st.fr.set d (.row st.hp.length 0),st.hp ++ [.row T []]⟩
    | _=>K5 r st
def EF (T:Ty) (b:Bool):cj:=bif b then .row T []else .tok
def A9 (T:Ty) (b:Bool) (i:Nat):V:=bif b then .row i 0 else .sl T [] (.own i)
def EX:List (Nat × Nat × Ty × Bool)→St→St
  | [],st=>st
  | (i,o,T,b)::r,st =>
    match st.hp.at i with
    | .cells cs =>
      (match cs.getD o .undef with
       | .cV=>EX r ⟨st.fr,st.hp.set i (.cells (cs.set o (A9 T b st.hp.length))) ++ [EF T b]⟩
       | _=>EX r st)
    | .oG v =>
      (match v with
       | .cV=>EX r ⟨st.fr,st.hp.set i (.oG (A9 T b st.hp.length)) ++ [EF T b]⟩
       | _=>EX r st)
    | _=>EX r st
def St.gc (m:Nat) (st:St):St :=
  let ord:=reach st.hp 256 (List.range m++V.wm st.fr) []
  ⟨V.Cq (Cl ord) st.fr,st.hp.pick ord⟩
def preGc (m:Nat) (h:Hint) (st:St):St:=match h.cells with | []=>st|_::_=>st.gc m
def norm (m:Nat) (h:Hint) (st:St):St:=(EX h.cells (K5 h.rows (NY h.own (preGc m h ⟨IA h.live h.drop st.fr,st.hp⟩)))).gc m
def trim (m:Nat) (h:Hint) (st:St):St:=(⟨IA h.out [] st.fr,st.hp⟩:St).gc m
abbrev dC (R:Type):=St→(Ex→St→Option R)→Option R
def keyOf:Code→Nat
  | .region id _ _=>id
  | .seq a _=>keyOf a
  | .block _ b=>keyOf b
  | .loop b=>keyOf b
  | .cond _ a _=>keyOf a
  | .scope b=>keyOf b
  | _=>0
def iterK (body:dC R):Nat→dC R
  | 0,_,_=>none
  | n+1,st,K=>body st fun e wW=>match e with | .normal=>iterK body n wW K|e=>K e wW
def GC (body:dC R) (f:St→St):Nat→dC R
  | 0,_,_=>none
  | n+1,st,K=>body st fun e wW=>match e with | .normal=>GC body f n (f wW) K|e=>K e wW
def anyT (a b:Option R):Option R:=open Classical in if a=b then a else none
def mj (tt:eF) (E:Env R) (L:Nat→Option (Hint × dC R)) (m:Nat):Code→dC R
  | .skip,st,K=>K .normal st
  | .region _ ops draw,st,K=>regionF tt E ops.toList draw st fun wW=>K .normal wW
  | .seq a b,st,K=>mj tt E L m a st fun e wW=>match e with | .normal=>mj tt E L m b wW K|e=>K e wW
  | .cond c a b,st,K=>match ev st.fr c with | .bool t=>bif t then mj tt E L m a st K else mj tt E L m b st K | .Ms=>anyT (mj tt E L m a st K) (mj tt E L m b st K)|_=>none
  | .block id a,st,K=>mj tt E L m a st fun e wW=>match e with | .exit i=>if i=id then K .normal wW else K (.exit i) wW|e=>K e wW
  | .loop a,st,K =>
    match L (keyOf a)with
    | some (h,ls)=>ls (norm m h st) K
    | none=>iterK (mj tt E L m a) 70 st K
  | .exit id,st,K=>K (.exit id) st
  | .ret,st,K=>K .ret st
  | _,_,_=>none
def YY (tt:eF) (st:St):List ResultVar→(List V→Option R)→Option R
  | [],k=>k []
  | .tmp t::r,k=>YY tt st r fun vs=>k (st.fr.getD t .undef::vs)
  | .cell a t::r,k =>
    match st.fr.getD a .undef with
    | .ptr i o =>
      (match st.hp.at i with
       | .cells cs=>vC tt t cs o fun v=>YY tt st r fun vs=>k (v::vs)
       | _=>none)
    | _=>none
def qg (h:aO):List Nat→aO
  | []=>h
  | i::r=>match h.at i with | .row _ _=>qg (h.set i .dead) r|_=>qg h r
def canonL (tt:eF):List Nat→List V→List V
  | t::ts,v::vs=>canon tt t v::canonL tt ts vs
  | _,_ => []
def SZ (tt:eF) (ts:List Nat) (m:Nat) (zC:Bool) (vs:List V) (h:aO) (k:V→aO→Option R):Option R :=
  let ws:=if zC then vs else canonL tt ts (V.Rr h vs)
  let h:=if zC then h else qg h (V.wm vs)
  let ord:=reach h 256 (List.range m++V.wm ws) []
  k (match V.Cq (Cl ord) ws with | [v]=>v|l => .tuple l) (h.pick ord)
def funK (tt:eF) (E:Env R) (L:Nat→Option (Hint × dC R)) (zC:Bool) (fn:Func) (c:Code):Spec R :=
  fun args h k =>
    if 200<h.length then none else
    mj tt E L h.length c ⟨args++List.replicate (fn.ntmps - args.length) .undef,h⟩ fun e st =>
      match e with
      | .normal | .ret=>YY tt st fn.results.toList fun vs=>SZ tt fn.resultTypes.toList h.length zC vs st.hp k
      | _=>none
end
end Go.aG
namespace Go.aG
open Go.RowKit
structure YZ where
 cells:Nat→Nat→Prop
instance:CoeFun YZ fun _=>Nat→Nat→Prop:=⟨YZ.cells⟩
structure lj where
 wi:Nat→Option Nat
 off:Nat→Nat
 /-- cells that are the callers' -/
 ext:YZ
def cj.from_ (o:cj) (f:Nat):Option Nat :=
 match o with
 | .free=>none
 | .dead=>none
 | .tok=>some f
 | _=>some 0
def Used (h:aO) (i:Nat):Prop:=i<h.length∧h.at i ≠ .free
def wX (h:aO) (c:lj) (b x:Nat):Prop:=∃i f,c.wi i=some b∧(h.at i).from_ (c.off i)=some f∧f≤x
def Mt (h:aO) (c:lj) (b x:Nat):Prop:=¬wX h c b x∧¬c.ext b x
def mx:Nat:=9223372036854775807
def TokE (T:Ty) (o:Nat) (e:TypeId):Prop:=T = .int .u8→o=0∧e=qT.u8
inductive eG (w:World) (h:aO) (c:lj):V→Value→Prop where
 | undef (v:Value):eG w h c .undef v
 | int {k:IntKind} {n:Int} (hn:k.has n):eG w h c (.int k n) (.int k n)
 | bool (b:Bool):eG w h c (.bool b) (.bool b)
 | str {s:ByteArray} (hl:s.size≤mx):eG w h c (.str s.data.toList) (.string s)
 | fM:eG w h c .fM (.pointer none)
 | ptr {i o:Nat} {v:Value} (hi:Used h i) (hv:∃b,v = .pointer (some ⟨b,o,none⟩)∧(h.at i ≠ .dead→c.wi i=some b)):eG w h c (.ptr i o) v
 | zD {cs:List V} {b o:Nat} (f:Nat→Value) (hc:∀j,j<cs.length→w.cell? ⟨b,o+j,none⟩=some (f j)∧Mt h c b (o+j))
   (hr:∀(j:Nat) (v:V),cs[j]? = some v→eG w h c v (f j)):eG w h c (.zD cs) (.pointer (some ⟨b,o,none⟩))
 | cV:eG w h c .cV (.slice none 0 0)
 | sl {T:Ty} {l:List T.den} {t:Tok} {A:Option Addr} {cap:Nat} (f:Nat→Nat→Value) (ni:l.length≤cap) (wj:cap≤mx)
   (hc:∀i j,i<l.length→j<T.sz→∃b o,A=some ⟨b,o,none⟩∧w.cell? ⟨b,o+i*T.sz+j,none⟩=some (f i j)∧Mt h c b (o+i*T.sz+j))
   (hr:∀(i j:Nat) (x:T.den) (v:V),l[i]? = some x→(T.cells x)[j]? = some v→eG w h c v (f i j))
   (DE:t = .nil→A=none∧cap=0)
   (oj:∀i,t = .own i→Used h i∧(h.at i = .tok →
    (c.wi i=none∧A=none∧cap=0)∨∃b o arr e fz,c.wi i=some b∧A=some ⟨b,o,none⟩∧c.off i=o+l.length*T.sz ∧
     w.heap[b]? = some (Obj.cells arr e fz)∧o+cap*T.sz≤arr.size∧TokE T o e)):eG w h c (.sl T l t) (.slice A l.length cap)
 | R0 {n sz:Nat} {cs:List V} {A:Option Addr} (hn:cs.length=n*sz) (wj:n≤mx) (f:Nat→Value)
   (hc:∀j,j<cs.length→∃b o,A=some ⟨b,o,none⟩∧w.cell? ⟨b,o+j,none⟩=some (f j)∧Mt h c b (o+j))
   (hr:∀(j:Nat) (v:V),cs[j]? = some v→eG w h c v (f j)):eG w h c (.R0 n cs) (.slice A n n)
 | row {i n:Nat} {v:Value} (hi:Used h i) (hn:n≤mx) (hv:∃A cap,v = .slice A n cap∧(0<n→∃a,A=some a)∧∀T l,h.at i = .row T l→n=l.length∧n≤cap∧cap≤mx ∧
    ((c.wi i=none∧A=none∧cap=0)∨∃b arr e fz,c.wi i=some b∧A=some ⟨b,c.off i,none⟩∧w.heap[b]? = some (Obj.cells arr e fz)∧c.off i+cap*T.sz≤arr.size)) :
   eG w h c (.row i n) v
 | HG {i q n:Nat} {v:Value} (hi:Used h i) (hn:n≤mx) (hv:∃A cap,v = .slice A n cap∧(0<n→∃a,A=some a)∧∀T l,h.at i = .row T l→q+n≤l.length∧n≤cap∧cap≤mx ∧
    (0<n→∃b,c.wi i=some b∧A=some ⟨b,c.off i+q*T.sz,none⟩)):eG w h c (.HG i q n) v
 | wV {i n j o:Nat} {v:Value} (hi:Used h i) (hv:∃a,v = .pointer (some a)∧∀T l,h.at i = .row T l→n=T.sz→j<l.length→∃b,c.wi i=some b∧a=⟨b,c.off i+j*T.sz+o,none⟩) :
   eG w h c (.wV i n j o) v
 | func {f:Nat} {a b:List V} {x y:Array Value} (ha:a.length=x.size) (hb:b.length=y.size)
   (hra:∀(j:Nat) (v:V) (d:Value),a[j]? = some v→x[j]? = some d→eG w h c v d) (hrb:∀(j:Nat) (v:V) (d:Value),b[j]? = some v→y[j]? = some d→eG w h c v d) :
   eG w h c (.func f a b) (.func (.func f) x y)
 | bg:eG w h c .bg .nilFunc
 | agg {cs:List V} {x:Array Value} (hl:cs.length=x.size) (hr:∀(j:Nat) (v:V) (d:Value),cs[j]? = some v→x[j]? = some d→eG w h c v d):eG w h c (.agg cs) (.agg x)
 | tuple {cs:List V} {x:Array Value} (hl:cs.length=x.size) (hr:∀(j:Nat) (v:V) (d:Value),cs[j]? = some v→x[j]? = some d→eG w h c v d):eG w h c (.tuple cs) (.tuple x)
 | map {i:Nat} {v:Value} (hi:Used h i) (hv:∃b,v = .map (some b)∧(h.at i ≠ .dead→c.wi i=some b)):eG w h c (.map i) v
 | qU:eG w h c .qU (.map none)
 | eg:eG w h c .eg .nilIface
 | iface (t:TypeId) (v:Value):eG w h c .iface (.iface t v)
 | NU {t:TypeId} {k:IntKind} {n:Int} (hn:k.has n):eG w h c (.NU t k n) (.iface t (.int k n))
 | Ms (b:Bool):eG w h c .Ms (.bool b)
def cT (w:World) (h:aO) (c:lj) (cs:List V) (ds:List Value):Prop :=
 cs.length=ds.length∧∀(j:Nat) (v:V) (d:Value),cs[j]? = some v→ds[j]? = some d→eG w h c v d
def qM (w:World) (h:aO) (c:lj) (i:Nat):cj→Prop
 | .free=>True
 | .dead=>True
 | .cells cs=>∃b arr e,c.wi i=some b∧w.heap[b]? = some (Obj.cells arr e (0,0))∧cT w h c cs arr.toList
 | .row T l=>(c.wi i=none∧l = [])∨∃b arr e fz,c.wi i=some b∧w.heap[b]? = some (Obj.cells arr e fz)∧c.off i+l.length*T.sz≤arr.size ∧
   (∀x,x<arr.size→w.frozen? ⟨b,x,none⟩=false)∧∀(n j:Nat) (x:T.den) (v:V),l[n]? = some x→(T.cells x)[j]? = some v→∃d,arr[c.off i+n*T.sz+j]? = some d∧eG w h c v d
 | .tok=>c.wi i=none∨∃b arr e fz,c.wi i=some b∧w.heap[b]? = some (Obj.cells arr e fz)∧c.off i≤arr.size∧(fz.1=fz.2∨fz.2≤c.off i)
 | .oG v=>∃b p d,c.wi i=some b∧w.heap[b]? = some (Obj.cells #[p,d] qT.oG (0,0))∧(p = .pointer none∨p = .pointer (some ⟨b,0,none⟩))∧eG w h c v d
 | .iter s pos=>∃b bs,c.wi i=some b∧w.heap[b]? = some (.stringIter bs pos)∧bs.data.toList=s∧bs.size≤mx
 | .zE K T l=>∃b es clock,c.wi i=some b∧w.heap[b]? = some (.map es clock)∧SW K=true∧T.one=true∧es.size=l.length ∧
   ∀(j:Nat) (x:K.den × T.den) (e:MapEntry),l[j]? = some x→es[j]? = some e→eG w h c (Vr K x.1) e.key∧eG w h c (Vr T x.2) e.val
def cj.live:cj→Prop
 | .free=>False
 | .dead=>False
 | _=>True
def Laid (w:World) (h:aO) (c:lj):Prop:=qT.says w∧∀b,qT.blocks b→b<w.heap.size∧∀x, ¬wX h c b x
structure WF (w:World) (h:aO) (c:lj):Prop where
 Cc:∀b x,wX h c b x→¬c.ext b x
 sL:∀b x,c.ext b x→b<w.heap.size
 obj:∀i,i<h.length→qM w h c i (h.at i)
 inj:∀i j b,(h.at i).live→(h.at j).live→c.wi i=some b→c.wi j=some b→i=j
 lay:Laid w h c
def cj.jz:cj→cj→Prop
 | .cells cs, .cells ds=>cs.length=ds.length
 | .row T l, .row U m=>T=U∧l.length=m.length
 | .tok, .tok=>True
 | .iter _ _, .iter _ _=>True
 | .oG _, .oG _=>True
 | .zE K T _, .zE K' U _=>K=K'∧T=U
 | _,_=>False
structure Ext (w:World) (h:aO) (c:lj) (w':World) (h':aO) (c':lj):Prop where
 os:w'.os=w.os
 tape:w'.tape=w.tape
 output:w'.output=w.output
 size:w.heap.size≤w'.heap.size
 used:∀i,Used h i→Used h' i
 same:∀i,Used h i→h'.at i ≠ .dead→(h.at i).jz (h'.at i)∧c'.wi i=c.wi i∧c'.off i=c.off i
 cell:∀b x,b<w.heap.size→¬wX h c b x→w'.cell? ⟨b,x,none⟩=w.cell? ⟨b,x,none⟩
 block:∀b,b<w.heap.size→(∀x, ¬wX h c b x)→w'.heap[b]? = w.heap[b]?
 AP:∀b x,b<w.heap.size→wX h' c' b x→wX h c b x
 ext:c'.ext=c.ext
 arr:∀(b:Nat) (arr:Array Value) (e:TypeId) (fz:Nat × Nat),w.heap[b]? = some (Obj.cells arr e fz)→∃(K6:Array Value) (Mu:Nat × Nat),w'.heap[b]? = some (Obj.cells K6 e Mu)∧K6.size=arr.size
theorem Ext.refl (w:World) (h:aO) (c:lj):Ext w h c w h c where
 os:=rfl
 tape:=rfl
 output:=rfl
 size:=Nat.le_refl _
 used:=fun _ hi=>hi
 same:=fun i hi hd=>⟨by have h2:=hi.2; revert hd h2; cases h.at i <;> simp[cj.jz],rfl,rfl⟩
 cell:=fun _ _ _ _=>rfl
 block:=fun _ _ _=>rfl
 AP:=fun _ _ _ ho=>ho
 ext:=rfl
 arr:=fun b arr e fz hb=>⟨arr,fz,hb,rfl⟩
theorem cj.HL {o o':cj} (h:o.jz o'):o ≠ .dead∧o' ≠ .dead:=by
 cases o <;> cases o' <;> simp_all [cj.jz]
theorem cj.sim_trans {a b c:cj} (h:a.jz b) (k:b.jz c):a.jz c:=by
 cases a <;> cases b <;> cases c <;> simp_all [cj.jz]
theorem Ext.trans {w w1 w2:World} {h h1 h2:aO} {c c1 c2:lj} (a:Ext w h c w1 h1 c1) (b:Ext w1 h1 c1 w2 h2 c2):Ext w h c w2 h2 c2 where
 os:=b.os.trans a.os
 tape:=b.tape.trans a.tape
 output:=b.output.trans a.output
 size:=Nat.le_trans a.size b.size
 used:=fun i hi=>b.used i (a.used i hi)
 same:=fun i hi hd=>by
  obtain ⟨s2,e2,f2⟩:=b.same i (a.used i hi) hd
  obtain ⟨s1,e1,f1⟩:=a.same i hi (cj.HL s2).1
  exact ⟨cj.sim_trans s1 s2,e2.trans e1,f2.trans f1⟩
 cell:=fun x y hx ho=>by
  rw[b.cell x y (Nat.lt_of_lt_of_le hx a.size) (fun o=>ho (a.AP x y hx o)),a.cell x y hx ho]
 block:=fun x hx ho=>by
  rw[b.block x (Nat.lt_of_lt_of_le hx a.size) (fun y o=>ho y (a.AP x y hx o)),a.block x hx ho]
 AP:=fun x y hx o=>a.AP x y hx (b.AP x y (Nat.lt_of_lt_of_le hx a.size) o)
 ext:=b.ext.trans a.ext
 arr:=fun x arr e fz hx=>by
  obtain ⟨a1,f1,h1,s1⟩:=a.arr x arr e fz hx
  obtain ⟨a2,f2,h2,s2⟩:=b.arr x a1 e f1 h1
  exact ⟨a2,f2,h2,s2.trans s1⟩
theorem lt_of_cell {w:World} {b x:Nat} {v:Value} (h:w.cell? ⟨b,x,none⟩=some v):b<w.heap.size :=
 World.block_lt_of_cell? _ _ h
theorem sim_tok {o o':cj} (h:o.jz o') (e:o' = .tok):o = .tok:=by subst e; cases o <;> simp_all [cj.jz]
theorem Xu {o:cj} {T:Ty} {l:List T.den} (h:o.jz (.row T l)):∃m:List T.den,o = .row T m∧m.length=l.length:=by
 cases o with
 | row U m=>obtain ⟨rfl,e⟩:=h; exact ⟨m,rfl,e⟩
 | _=>simp[cj.jz]at h
section
variable {w w':World} {h h':aO} {c c':lj}
theorem Ext.Tv (x:Ext w h c w' h' c') {b o:Nat} {v:Value} (hc:w.cell? ⟨b,o,none⟩=some v) (ho:Mt h c b o) :
  w'.cell? ⟨b,o,none⟩=some v∧Mt h' c' b o :=
 ⟨(x.cell b o (lt_of_cell hc) ho.1).trans hc,fun k=>ho.1 (x.AP b o (lt_of_cell hc) k),by rw[x.ext]; exact ho.2⟩
theorem eG.mono (x:Ext w h c w' h' c') {v:V} {d:Value} (r:eG w h c v d):eG w' h' c' v d:=by
 induction r with
 | undef v=>exact .undef v
 | int hn=>exact .int hn
 | bool b=>exact .bool b
 | str hl=>exact .str hl
 | fM=>exact .fM
 | cV=>exact .cV
 | bg=>exact .bg
 | qU=>exact .qU
 | eg=>exact .eg
 | iface t v=>exact .iface t v
 | NU hn=>exact .NU hn
 | Ms b=>exact .Ms b
 | ptr hi hv =>
  obtain ⟨b,hv,hb⟩:=hv
  refine .ptr (x.used _ hi) ⟨b,hv,fun hd => ?_⟩
  obtain ⟨s,e,_⟩:=x.same _ hi hd
  rw[e]
  exact hb (cj.HL s).1
 | map hi hv =>
  obtain ⟨b,hv,hb⟩:=hv
  refine .map (x.used _ hi) ⟨b,hv,fun hd => ?_⟩
  obtain ⟨s,e,_⟩:=x.same _ hi hd
  rw[e]
  exact hb (cj.HL s).1
 | zD f hc _ ih=>exact .zD f (fun j hj=>x.Tv (hc j hj).1 (hc j hj).2) ih
 | sl f ni wj hc _ DE oj ih =>
  refine .sl f ni wj (fun i j hi hj => ?_) ih DE (fun i ht => ?_)
  ·obtain ⟨b,o,hA,h1,h2⟩:=hc i j hi hj
   exact ⟨b,o,hA,x.Tv h1 h2⟩
  ·obtain ⟨hi,ho⟩:=oj i ht
   refine ⟨x.used _ hi,fun Qq => ?_⟩
   obtain ⟨s,e,eo⟩:=x.same i hi (by rw[Qq]; simp)
   rw[e,eo]
   rcases ho (sim_tok s Qq)with hn|⟨b,o,arr,el,fz,h1,h2,h3,h4,h5⟩
   ·exact .inl hn
   ·obtain ⟨K6,Mu,h4',hs⟩:=x.arr b arr el fz h4
    exact .inr ⟨b,o,K6,el,Mu,h1,h2,h3,h4',by rw[hs]; exact h5.1,h5.2⟩
 | R0 hn wj f hc _ ih =>
  refine .R0 hn wj f (fun j hj => ?_) ih
  obtain ⟨b,o,hA,h1,h2⟩:=hc j hj
  exact ⟨b,o,hA,x.Tv h1 h2⟩
 | row hi hn hv =>
  obtain ⟨A,cap,hv1,hA,hv⟩:=hv
  refine .row (x.used _ hi) hn ⟨A,cap,hv1,hA,fun T l he => ?_⟩
  obtain ⟨s,e,eo⟩:=x.same _ hi (by rw[he]; simp)
  rw[he]at s
  obtain ⟨m,hm,hl⟩:=Xu s
  obtain ⟨YH,h1,h2,h3⟩:=hv T m hm
  refine ⟨by rw[YH,hl],h1,h2,?_⟩
  rw[e,eo]
  rcases h3 with h3|⟨b,arr,el,fz,g1,g2,g3,g4⟩
  ·exact .inl h3
  ·obtain ⟨K6,Mu,h4',hs⟩:=x.arr b arr el fz g3
   exact .inr ⟨b,K6,el,Mu,g1,g2,h4',by rw[hs]; exact g4⟩
 | HG hi hn hv =>
  obtain ⟨A,cap,hv1,hA,hv⟩:=hv
  refine .HG (x.used _ hi) hn ⟨A,cap,hv1,hA,fun T l he => ?_⟩
  obtain ⟨s,e,eo⟩:=x.same _ hi (by rw[he]; simp)
  rw[he]at s
  obtain ⟨m,hm,hl⟩:=Xu s
  rw[e,eo,←hl]
  exact hv T m hm
 | wV hi hv =>
  obtain ⟨a,ha,hv⟩:=hv
  refine .wV (x.used _ hi) ⟨a,ha,fun T l he hn hj => ?_⟩
  obtain ⟨s,e,eo⟩:=x.same _ hi (by rw[he]; simp)
  rw[he]at s
  obtain ⟨m,hm,hl⟩:=Xu s
  rw[e,eo]
  exact hv T m hm hn (by rw[hl]; exact hj)
 | func ha hb _ _ iha ihb=>exact .func ha hb iha ihb
 | agg hl _ ih=>exact .agg hl ih
 | tuple hl _ ih=>exact .tuple hl ih
theorem cT.mono (x:Ext w h c w' h' c') {cs:List V} {ds:List Value} (r:cT w h c cs ds):cT w' h' c' cs ds :=
 ⟨r.1,fun j v d hv hd=>(r.2 j v d hv hd).mono x⟩
theorem cT.nil:cT w h c [] []:=⟨rfl,fun j v d hv=>by simp at hv⟩
theorem cT.cons {v:V} {d:Value} {cs:List V} {ds:List Value} (r:eG w h c v d) (rs:cT w h c cs ds):cT w h c (v::cs) (d::ds):=by
 refine ⟨by simp[rs.1],fun j u e hu he => ?_⟩
 cases j with
 | zero=>simp at hu he; subst hu; subst he; exact r
 | succ j=>simp at hu he; exact rs.2 j u e hu he
theorem cT.head {v:V} {d:Value} {cs:List V} {ds:List Value} (r:cT w h c (v::cs) (d::ds)):eG w h c v d:=r.2 0 v d rfl rfl
theorem cT.tail {v:V} {d:Value} {cs:List V} {ds:List Value} (r:cT w h c (v::cs) (d::ds)):cT w h c cs ds :=
 ⟨by simpa using r.1,fun j u e hu he=>r.2 (j+1) u e (by simpa using hu) (by simpa using he)⟩
theorem cT.append {a b:List V} {x y:List Value} (r:cT w h c a x) (s:cT w h c b y):cT w h c (a++b) (x++y):=by
 refine ⟨by simp[r.1,s.1],fun j u e hu he => ?_⟩
 have hl:=r.1
 by_cases hj:j<a.length
 ·rw[List.getElem?_append_left hj]at hu
  rw[List.getElem?_append_left (by omega)]at he
  exact r.2 j u e hu he
 ·rw[List.getElem?_append_right (by omega)]at hu
  rw[List.getElem?_append_right (by omega),←hl]at he
  exact s.2 _ u e hu he
theorem cT.take {a:List V} {x:List Value} (r:cT w h c a x) (n:Nat):cT w h c (a.take n) (x.take n):=by
 refine ⟨by simp[r.1],fun j u e hu he => ?_⟩
 rw[List.getElem?_take]at hu he
 split at hu <;> simp_all
 exact r.2 j u e hu he
theorem cT.drop {a:List V} {x:List Value} (r:cT w h c a x) (n:Nat):cT w h c (a.drop n) (x.drop n):=by
 refine ⟨by simp[r.1],fun j u e hu he => ?_⟩
 rw[List.getElem?_drop]at hu he
 exact r.2 _ u e hu he
theorem cT.map {α:Type} {f:α→V} {g:α→Value} (l:List α) (r:∀x∈l,eG w h c (f x) (g x)):cT w h c (l.map f) (l.map g):=by
 induction l with
 | nil=>exact .nil
 | cons x l ih=>exact .cons (r x (by simp)) (ih fun y hy=>r y (by simp[hy]))
theorem cT.getD {a:List V} {x:List Value} (r:cT w h c a x) (j:Nat) (d:Value):eG w h c (a.getD j .undef) (x.getD j d):=by
 by_cases hj:j<a.length
 ·have hx:j<x.length:=by have:=r.1; omega
  exact r.2 j _ _ (by simp[List.getD,List.getElem?_eq_getElem hj]) (by simp[List.getD,List.getElem?_eq_getElem hx])
 ·have:a.getD j .undef = .undef:=by simp[List.getD,List.getElem?_eq_none (Nat.le_of_not_lt hj)]
  rw[this]; exact .undef _
theorem cT.set {a:List V} {x:List Value} (r:cT w h c a x) (j:Nat) {v:V} {d:Value} (rv:eG w h c v d):cT w h c (a.set j v) (x.set j d):=by
 refine ⟨by simp[r.1],fun i u e hu he => ?_⟩
 rw[List.getElem?_set]at hu he
 by_cases Ba:j=i
 ·simp only[Ba,if_true]at hu he
  split at hu <;> split at he <;> simp_all
 ·simp only[Ba,if_false]at hu he
  exact r.2 i u e hu he
theorem cT.R1 (n:Nat) (d:Value):cT w h c (List.replicate n .undef) (List.replicate n d):=by
 refine ⟨by simp,fun j u e hu _ => ?_⟩
 rw[List.getElem?_replicate]at hu
 split at hu <;> simp_all
 subst hu; exact .undef _
end
end Go.aG
end
