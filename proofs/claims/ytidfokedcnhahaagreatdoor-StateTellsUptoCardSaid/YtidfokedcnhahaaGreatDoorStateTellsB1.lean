/-
  StateTells: for every input whose bulk is at most 1048576 the law returns true, and each argument reads behind the call as it read before; part 1 of 10 of the proof: an interpreter of the model's code over typed data, proved sound; the functions that the law reaches, printed as Lean functions and tied; the plain law. Own texts laid one behind the other.
-/
import Derived.JoinedCond
import Derived.Calls
import Derived.Test.YtidfokedcnhahaaGreatDoorProg
import Derived.Lib.LaidTab
import Derived.Lib.ItoaNum
import Derived.Shelf.Unicode.DecodeSlow
import Derived.Orders
import Derived.KernelRfl
import Derived.Below
set_option linter.unusedSimpArgs false
set_option linter.unusedVariables false
open BitVec renaming ofInt->aJ
open Bool renaming and_eq_true->bF
open Go.Obj renaming cells->xu
open Go.Proofs.Tryz renaming prog->ao
open Go.Region renaming binds->ZJ
open Go.Utf8 renaming decode->FK
open List renaming getD->ca,range->jZ,rec->Ja,replicate->jx
open Nat renaming beq->kY,blt->xr,le_of_not_lt->FL,le_refl->cD,le_trans->pw,lt_of_lt_of_le->xw
open Option renaming bind_some->sj
open UInt8 renaming ofNat->bl
noncomputable section
namespace Go.ak
open Go
theorem aol {P:Program} {f:FuncId} {fn:Func} {s:ChangeSpec} {c:OpenClaim} (h1:c.wf (OpenSpec.ofChange s)=true) (h2:laidOutB P=true) (h3:mapsRowed P=true)
  (h4:fn.params.all (P.readableRec ·)=true) (h5:namedTie P c.named s.vars=true) (h6:(c.stops==[])=true) (h7:(P.stops==[])=true) (h8:(c.knobs==[])=true) (h9:(P.stopKnobs==[])=true)
  (oL:(c.inPlace==P.inPlace f)=true) (h11:(c.unfollowed==P.unfollowed f)=true) (qE:(c.recurses==P.recurses f)=true) (qF:(c.named==P.varsNamed f)=true)
  (h14:(c.maps==(fn.params.toList++s.plain.varTypes P).any (P.mapsRec ·))=true) (h15:(c.ifaces==(fn.params.toList++s.plain.varTypes P).any (P.ifacesRec ·))=true) (lv:(c.mapsOut==P.mapsAmong fn.resultTypes.toList)=true)
  (Jo:(c.loops==(fn.params.toList++s.plain.varTypes P).any (P.loopsFrom ·))=true) (F1:(c.wideKeys==(fn.params.toList++s.plain.varTypes P++fn.resultTypes.toList).any (P.wideKeysFrom ·))=true)
  (h19:s.vars.all (P.varReadable ·)=true) (h20:fn.resultTypes.all (fun t=>P.readableRec t&&decide (t<P.types.size))=true) (h21:(c.ifacesOut==fn.resultTypes.toList.any (P.ifacesRec ·))=true) (h22:(c.loopsOut==fn.resultTypes.toList.any (P.loopsFrom ·))=true)
  (h23:(c.plainKeys==P.plainKeys)=true) (h24:c.shortTexts.isNone=true) (h25:P.stopsHeard=true) (h26:P.mayEnter=true) (h27:(c.lifted==P.liftsFinal)=true) (h28:(P.make==some c.make)=true)
  (h29:(c.kinds==(if c.domain.isEmpty then []else fn.params.toList.map fun t=>match P.underlying t with|some (.int k)=>some k|_=>none))=true) (h30:(c.pinned==c.pinnedBy)=true)
  (h31:(c.veiled==(fn.params.toList++s.plain.varTypes P++fn.resultTypes.toList).any (P.veiledRec ·))=true) (lx:c.veiledFits P fn.params.toList (fn.params.toList++s.plain.varTypes P++fn.resultTypes.toList)=true):joinedFacts P f fn s c=true:=by
 unfold joinedFacts;simp only[bF];exact⟨⟨⟨⟨⟨⟨⟨⟨⟨⟨⟨⟨⟨⟨⟨⟨⟨⟨⟨⟨⟨⟨⟨⟨⟨⟨⟨⟨⟨⟨⟨h1,h2⟩,h3⟩,h4⟩,h5⟩,h6⟩,h7⟩,h8⟩,h9⟩,oL⟩,h11⟩,qE⟩,qF⟩,h14⟩,h15⟩,lv⟩,Jo⟩,F1⟩,h19⟩,h20⟩,h21⟩,h22⟩,h23⟩,h24⟩,h25⟩,h26⟩,h27⟩,h28⟩,h29⟩,h30⟩,h31⟩,lx⟩
end Go.ak
namespace Go.ak
structure PY where
 
 u8:Nat
 bA:Nat
 
 soft:Nat->Bool
 blocks:Nat->Prop
 Du:World->Prop
 eQ:∀w w':World,(∀b,blocks b->w'.heap[b]? = w.heap[b]?)->Du w->Du w'
def PY.none:PY:=⟨5,1000000,fun _=>false,fun _=>False,fun _=>True,fun _ _ _ h=>h⟩
end Go.ak
namespace Go.ak
open Go.Proofs
def PZ (w:World):Prop:=
 Go.Lib.Utf8Tabs 1 2 w/\Go.Lib.TabIs ao w "internal/strconv.uint64pow10" .u64 Go.Lib.pow10Tab /\
  (∃t x,w.cell? ⟨3,0,none⟩=some (.iface t x))/\(∃t x,w.cell? ⟨4,0,none⟩=some (.iface t x))
theorem Z5:ao.globalNamed "internal/strconv.uint64pow10" = some 5:=by kernel_rfl
theorem aom (w w':World) (h:∀b,b<8->w'.heap[b]? = w.heap[b]?) (k:PZ w):PZ w':=by
 have hc:∀b x,b<8->w'.cell? ⟨b,x,none⟩=w.cell? ⟨b,x,none⟩:=fun b x hb=>by simp only[World.cell?,h b hb]
 obtain ⟨⟨k1,k2⟩,k3,k4,k5⟩:=k;refine⟨⟨fun c jz=>by rw[hc _ _ (by omega)]; exact k1 c jz,fun i hi=>by rw[hc _ _ (by omega),hc _ _ (by omega)]; exact k2 i hi⟩,?_,by rw[hc _ _ (by omega)]; exact k4,by rw[hc _ _ (by omega)]; exact k5⟩;unfold Go.Lib.TabIs at k3 ⊢;rw[<-k3];simp only[World.var?,Z5,sj,h 5 (by omega)]
def dL:PY:=⟨5,118,fun g=>kY g 84,fun b=>b<8,PZ,aom⟩
end Go.ak
namespace Go.ak
abbrev ad:=List UInt8
structure au where
 aj:Int
 exp:Int
def au.z:au:=⟨0,0⟩
structure Json where
 kind:Int
 num:au
 text:ad
 names:List ad
 items:List Json
def Json.z:Json:=⟨0,au.z,[],[],[]⟩
structure Raw where
 kind:Int
 aj:Int
 exp:Int
 text:List Int
 items:List Raw
def Raw.z:Raw:=⟨0,0,0,[],[]⟩
structure vn where
 kind:Int
 aj:Int
 exp:Int
 text:List Int
def vn.z:vn:=⟨0,0,0,[]⟩
structure vo where
 name:ad
 kind:Int
 low:Int
 high:Int
 free:Bool
def vo.z:vo:=⟨[],0,0,0,false⟩
structure vp where
 topic:ad
 data:ad
 aon:Bool
def vp.z:vp:=⟨[],[],false⟩
structure Token where
 kind:Int
 text:ad
 num:au
 at_:Int
def Token.z:Token:=⟨0,[],au.z,0⟩
structure Stop where
 node:Int
 seq:Int
 tF:Bool
def Stop.z:Stop:=⟨0,0,false⟩
structure Way where
 pB:Int
 seq:Int
 tF:Bool
def Way.z:Way:=⟨0,0,false⟩
structure Order where
 header:Int
 bW:ad
 order:Int
 update:Int
 nodes:List Stop
 pC:List Way
def Order.z:Order:=⟨0,[],0,0,[],[]⟩
structure Edge where
 src:Int
 dst:Int
 cost:Int
def Edge.z:Edge:=⟨0,0,0⟩
structure vq where
 nodes:Int
 pC:List Edge
def vq.z:vq:=⟨0,[]⟩
structure vu where
 Z6:ad
 Z7:ad
 kind:ad
def vu.z:vu:=⟨[],[],[]⟩
structure State where
 header:Int
 bC:Int
 bW:ad
 order:Int
 update:Int
 live:Bool
 node:Int
 seq:Int
 cB:Bool
 accepted:Int
def State.z:State:=⟨0,0,[],0,0,false,0,0,false,0⟩
structure vv where
 bW:ad
 header:Int
 order:Int
 update:Int
 bC:Int
 seen:Int
 path:List Int
 seq:Int
 open_:Bool
 rel:Int
 wait:Bool
 pending:Order
def vv.z:vv:=⟨[],0,0,0,0,0,[],0,false,0,false,Order.z⟩
structure vw where
 kind:Int
 i:Int
 k:Int
 Z8:Int
 data:ad
def vw.z:vw:=⟨0,0,0,0,[]⟩
structure sr where
 header:Int
 order:Int
 update:Int
 seq:Int
 from_:Int
 tF:Int
 turns:List Int
def sr.z:sr:=⟨0,0,0,0,0,0,[]⟩
structure vy where
 kind:Int
 o:sr
 data:ad
def vy.z:vy:=⟨0,sr.z,[]⟩
structure vz where
 kind:Int
 n:Int
 turns:List Int
def vz.z:vz:=⟨0,0,[]⟩
structure vA where
 a:Int
 b:Int
 c:Int
def vA.z:vA:=⟨0,0,0⟩
structure ss where
 a:Int
 b:Int
def ss.z:ss:=⟨0,0⟩
structure vB where
 a:au
 b:au
def vB.z:vB:=⟨au.z,au.z⟩
structure vC where
 name:ad
 home:Int
def vC.z:vC:=⟨[],0⟩
structure vD where
 id:Int
 target:Int
 state:Int
 bW:Int
def vD.z:vD:=⟨0,0,0,0⟩
structure vE where
 kind:Int
 Z9:List Int
 text:ad
def vE.z:vE:=⟨0,[],[]⟩
inductive Ty where
 | int (k:IntKind)|bool|str
 | xD|json|raw|zG|zH|xE|token|stop|oM|order|pB|layout|topic|state|zI|zJ|zK|zM|zN|zO|vF|zP|post|zQ|record
 deriving DecidableEq
def Ty.den:Ty->Type
 | .int _=>Int | .bool=>Bool | .str=>ad
 | .xD=>au
 | .json=>Json
 | .raw=>Raw
 | .zG=>vn
 | .zH=>vo
 | .xE=>vp
 | .token=>Token
 | .stop=>Stop
 | .oM=>Way
 | .order=>Order
 | .pB=>Edge
 | .layout=>vq
 | .topic=>vu
 | .state=>State
 | .zI=>vv
 | .zJ=>vw
 | .zK=>sr
 | .zM=>vy
 | .zN=>vz
 | .zO=>vA
 | .vF=>ss
 | .zP=>vB
 | .post=>vC
 | .zQ=>vD
 | .record=>vE
def Ty.az:(T:Ty)->T.den
 | .int _=>(0:Int) | .bool=>false | .str=>([]:ad)
 | .xD=>au.z
 | .json=>Json.z
 | .raw=>Raw.z
 | .zG=>vn.z
 | .zH=>vo.z
 | .xE=>vp.z
 | .token=>Token.z
 | .stop=>Stop.z
 | .oM=>Way.z
 | .order=>Order.z
 | .pB=>Edge.z
 | .layout=>vq.z
 | .topic=>vu.z
 | .state=>State.z
 | .zI=>vv.z
 | .zJ=>vw.z
 | .zK=>sr.z
 | .zM=>vy.z
 | .zN=>vz.z
 | .zO=>vA.z
 | .vF=>ss.z
 | .zP=>vB.z
 | .post=>vC.z
 | .zQ=>vD.z
 | .record=>vE.z
def Ty.sz:Ty->Nat
 | .int _=>1 | .bool=>1 | .str=>1
 | .xD=>2
 | .json=>6
 | .raw=>5
 | .zG=>4
 | .zH=>5
 | .xE=>3
 | .token=>5
 | .stop=>3
 | .oM=>3
 | .order=>6
 | .pB=>3
 | .layout=>2
 | .topic=>3
 | .state=>10
 | .zI=>17
 | .zJ=>5
 | .zK=>7
 | .zM=>9
 | .zN=>3
 | .zO=>3
 | .vF=>2
 | .zP=>4
 | .post=>2
 | .zQ=>4
 | .record=>3
inductive Tok where
 | no|nil|own (id:Nat)
inductive V where
 | undef
 | int (k:IntKind) (n:Int)
 | bool (b:Bool)
 | str (s:ad)
 | fp
 | ptr (id off:Nat)
 | fg (cs:List V)
 | bk
 | sl (T:Ty) (l:List T.den) (t:Tok)
 | jg (n:Nat) (cs:List V)
 | row (id:Nat) (n:Nat)
 | j0 (id sz lo n:Nat)
 | fH (id:Nat) (sz:Nat) (i:Nat) (off:Nat)
 | func (f:Nat) (first cap:List V)
 | fy
 | agg (cs:List V)
 | tuple (vs:List V)
 | map (id:Nat)
 | kB
 | eR
 | iface
 | gh (t:Nat) (k:IntKind) (n:Int)
 | nS
def V.flat:V->List V
 | .agg cs=>cs
 | v=>[v]
def V.one:V->Bool
 | .undef=>false
 | .agg _=>false
 | .tuple _=>false
 | _=>true
def Dv (v:V):Option (List V):=
 match v with
 | .agg cs=>if cs.all V.one then some cs else none
 | v=>if v.one then some [v]else none
def Ty.cells:(T:Ty)->T.den->List V
 | .int k,(n:Int)=>[.int k n]
 | .bool,(b:Bool)=>[.bool b]
 | .str,(s:ad)=>[.str s]
 | .xD,(x:au)=>[.int .i64 x.aj,.int .i64 x.exp]
 | .json,(x:Json)=>[.int .i64 x.kind,.int .i64 x.num.aj,.int .i64 x.num.exp,.str x.text,.sl .str x.names .no,.sl .json x.items .no]
 | .raw,(x:Raw)=>[.int .i64 x.kind,.int .i64 x.aj,.int .i64 x.exp,.sl (.int .i64) x.text .no,.sl .raw x.items .no]
 | .zG,(x:vn)=>[.int .i64 x.kind,.int .i64 x.aj,.int .i64 x.exp,.sl (.int .i64) x.text .no]
 | .zH,(x:vo)=>[.str x.name,.int .i64 x.kind,.int .i64 x.low,.int .i64 x.high,.bool x.free]
 | .xE,(x:vp)=>[.str x.topic,.str x.data,.bool x.aon]
 | .token,(x:Token)=>[.int .i64 x.kind,.str x.text,.int .i64 x.num.aj,.int .i64 x.num.exp,.int .i64 x.at_]
 | .stop,(x:Stop)=>[.int .i64 x.node,.int .i64 x.seq,.bool x.tF]
 | .oM,(x:Way)=>[.int .i64 x.pB,.int .i64 x.seq,.bool x.tF]
 | .order,(x:Order)=>[.int .i64 x.header,.str x.bW,.int .i64 x.order,.int .i64 x.update,.sl .stop x.nodes .no,.sl .oM x.pC .no]
 | .pB,(x:Edge)=>[.int .i64 x.src,.int .i64 x.dst,.int .i64 x.cost]
 | .layout,(x:vq)=>[.int .i64 x.nodes,.sl .pB x.pC .no]
 | .topic,(x:vu)=>[.str x.Z6,.str x.Z7,.str x.kind]
 | .state,(x:State)=>[.int .i64 x.header,.int .i64 x.bC,.str x.bW,.int .i64 x.order,.int .i64 x.update,.bool x.live,.int .i64 x.node,.int .i64 x.seq,.bool x.cB,.int .i64 x.accepted]
 | .zI,(x:vv)=>[.str x.bW,.int .i64 x.header,.int .i64 x.order,.int .i64 x.update,.int .i64 x.bC,.int .i64 x.seen,.sl (.int .i64) x.path .no,.int .i64 x.seq,.bool x.open_,.int .i64 x.rel,.bool x.wait,.int .i64 x.pending.header,.str x.pending.bW,.int .i64 x.pending.order,.int .i64 x.pending.update,.sl .stop x.pending.nodes .no,.sl .oM x.pending.pC .no]
 | .zJ,(x:vw)=>[.int .i64 x.kind,.int .i64 x.i,.int .i64 x.k,.int .u8 x.Z8,.str x.data]
 | .zK,(x:sr)=>[.int .i64 x.header,.int .i64 x.order,.int .i64 x.update,.int .i64 x.seq,.int .i64 x.from_,.int .i64 x.tF,.sl (.int .i64) x.turns .no]
 | .zM,(x:vy)=>[.int .i64 x.kind,.int .i64 x.o.header,.int .i64 x.o.order,.int .i64 x.o.update,.int .i64 x.o.seq,.int .i64 x.o.from_,.int .i64 x.o.tF,.sl (.int .i64) x.o.turns .no,.str x.data]
 | .zN,(x:vz)=>[.int .i64 x.kind,.int .i64 x.n,.sl (.int .i64) x.turns .no]
 | .zO,(x:vA)=>[.int .i64 x.a,.int .i64 x.b,.int .i64 x.c]
 | .vF,(x:ss)=>[.int .i64 x.a,.int .i64 x.b]
 | .zP,(x:vB)=>[.int .i64 x.a.aj,.int .i64 x.a.exp,.int .i64 x.b.aj,.int .i64 x.b.exp]
 | .post,(x:vC)=>[.str x.name,.int .i64 x.home]
 | .zQ,(x:vD)=>[.int .i64 x.id,.int .i64 x.target,.int .i64 x.state,.int .i64 x.bW]
 | .record,(x:vE)=>[.int .i64 x.kind,.sl (.int .i64) x.Z9 .no,.str x.text]
def ly (T:Ty):V->Option (List T.den)
 | .bk=>some []
 | .sl T' l _=>if h:T'=T then some (h▸l)else none
 | _=>none
def iQ (k:IntKind):List V->Option Int
 | [.int k' n]=>if k'=k then some n else none
 | _=>none
def F2:List V->Option Bool
 | [.bool b]=>some b
 | _=>none
def F3:List V->Option ad
 | [.str s]=>some s
 | _=>none
def P0:List V->Option au
 | [.int .i64 a0,.int .i64 a1]=>some ⟨a0,a1⟩
 | _=>none
def P1:List V->Option Json
 | [.int .i64 a0,.int .i64 a1,.int .i64 a2,.str a3,a4,a5]=>match ly .str a4,ly .json a5 with|some b4,some b5=>some ⟨a0,⟨a1,a2⟩,a3,b4,b5⟩|_,_=>none
 | _=>none
def P2:List V->Option Raw
 | [.int .i64 a0,.int .i64 a1,.int .i64 a2,a3,a4]=>match ly (.int .i64) a3,ly .raw a4 with|some b3,some b4=>some ⟨a0,a1,a2,b3,b4⟩|_,_=>none
 | _=>none
def P3:List V->Option vn
 | [.int .i64 a0,.int .i64 a1,.int .i64 a2,a3]=>match ly (.int .i64) a3 with|some b3=>some ⟨a0,a1,a2,b3⟩|_=>none
 | _=>none
def P4:List V->Option vo
 | [.str a0,.int .i64 a1,.int .i64 a2,.int .i64 a3,.bool a4]=>some ⟨a0,a1,a2,a3,a4⟩
 | _=>none
def P5:List V->Option vp
 | [.str a0,.str a1,.bool a2]=>some ⟨a0,a1,a2⟩
 | _=>none
def P6:List V->Option Token
 | [.int .i64 a0,.str a1,.int .i64 a2,.int .i64 a3,.int .i64 a4]=>some ⟨a0,a1,⟨a2,a3⟩,a4⟩
 | _=>none
def P7:List V->Option Stop
 | [.int .i64 a0,.int .i64 a1,.bool a2]=>some ⟨a0,a1,a2⟩
 | _=>none
def P8:List V->Option Way
 | [.int .i64 a0,.int .i64 a1,.bool a2]=>some ⟨a0,a1,a2⟩
 | _=>none
def P9:List V->Option Order
 | [.int .i64 a0,.str a1,.int .i64 a2,.int .i64 a3,a4,a5]=>match ly .stop a4,ly .oM a5 with|some b4,some b5=>some ⟨a0,a1,a2,a3,b4,b5⟩|_,_=>none
 | _=>none
def Qa:List V->Option Edge
 | [.int .i64 a0,.int .i64 a1,.int .i64 a2]=>some ⟨a0,a1,a2⟩
 | _=>none
def Qb:List V->Option vq
 | [.int .i64 a0,a1]=>match ly .pB a1 with|some b1=>some ⟨a0,b1⟩|_=>none
 | _=>none
def Qc:List V->Option vu
 | [.str a0,.str a1,.str a2]=>some ⟨a0,a1,a2⟩
 | _=>none
def Qd:List V->Option State
 | [.int .i64 a0,.int .i64 a1,.str a2,.int .i64 a3,.int .i64 a4,.bool a5,.int .i64 a6,.int .i64 a7,.bool a8,.int .i64 a9]=>some ⟨a0,a1,a2,a3,a4,a5,a6,a7,a8,a9⟩
 | _=>none
def Qe:List V->Option vv
 | [.str a0,.int .i64 a1,.int .i64 a2,.int .i64 a3,.int .i64 a4,.int .i64 a5,a6,.int .i64 a7,.bool a8,.int .i64 a9,.bool a10,.int .i64 a11,.str a12,.int .i64 a13,.int .i64 a14,Jp,a16]=>match ly (.int .i64) a6,ly .stop Jp,ly .oM a16 with|some b6,some b15,some Bl=>some ⟨a0,a1,a2,a3,a4,a5,b6,a7,a8,a9,a10,⟨a11,a12,a13,a14,b15,Bl⟩⟩|_,_,_=>none
 | _=>none
def Qf:List V->Option vw
 | [.int .i64 a0,.int .i64 a1,.int .i64 a2,.int .u8 a3,.str a4]=>some ⟨a0,a1,a2,a3,a4⟩
 | _=>none
def Qg:List V->Option sr
 | [.int .i64 a0,.int .i64 a1,.int .i64 a2,.int .i64 a3,.int .i64 a4,.int .i64 a5,a6]=>match ly (.int .i64) a6 with|some b6=>some ⟨a0,a1,a2,a3,a4,a5,b6⟩|_=>none
 | _=>none
def Qh:List V->Option vy
 | [.int .i64 a0,.int .i64 a1,.int .i64 a2,.int .i64 a3,.int .i64 a4,.int .i64 a5,.int .i64 a6,a7,.str a8]=>match ly (.int .i64) a7 with|some b7=>some ⟨a0,⟨a1,a2,a3,a4,a5,a6,b7⟩,a8⟩|_=>none
 | _=>none
def Qi:List V->Option vz
 | [.int .i64 a0,.int .i64 a1,a2]=>match ly (.int .i64) a2 with|some b2=>some ⟨a0,a1,b2⟩|_=>none
 | _=>none
def Qj:List V->Option vA
 | [.int .i64 a0,.int .i64 a1,.int .i64 a2]=>some ⟨a0,a1,a2⟩
 | _=>none
def Qk:List V->Option ss
 | [.int .i64 a0,.int .i64 a1]=>some ⟨a0,a1⟩
 | _=>none
def Ql:List V->Option vB
 | [.int .i64 a0,.int .i64 a1,.int .i64 a2,.int .i64 a3]=>some ⟨⟨a0,a1⟩,⟨a2,a3⟩⟩
 | _=>none
def Qm:List V->Option vC
 | [.str a0,.int .i64 a1]=>some ⟨a0,a1⟩
 | _=>none
def Qn:List V->Option vD
 | [.int .i64 a0,.int .i64 a1,.int .i64 a2,.int .i64 a3]=>some ⟨a0,a1,a2,a3⟩
 | _=>none
def Qo:List V->Option vE
 | [.int .i64 a0,a1,.str a2]=>match ly (.int .i64) a1 with|some b1=>some ⟨a0,b1,a2⟩|_=>none
 | _=>none
def Ty.dec:(T:Ty)->List V->Option T.den
 | .int k=>iQ k | .bool=>F2 | .str=>F3
 | .xD=>P0
 | .json=>P1
 | .raw=>P2
 | .zG=>P3
 | .zH=>P4
 | .xE=>P5
 | .token=>P6
 | .stop=>P7
 | .oM=>P8
 | .order=>P9
 | .pB=>Qa
 | .layout=>Qb
 | .topic=>Qc
 | .state=>Qd
 | .zI=>Qe
 | .zJ=>Qf
 | .zK=>Qg
 | .zM=>Qh
 | .zN=>Qi
 | .zO=>Qj
 | .vF=>Qk
 | .zP=>Ql
 | .post=>Qm
 | .zQ=>Qn
 | .record=>Qo
def Ty.zR:Ty->Bool
 | .xE=>true
 | _=>false
def Ty.one:Ty->Bool
 | .int _=>true
 | .bool=>true
 | .str=>true
 | _=>false
def kC (T:Ty) (x:T.den):V:=bif T.one then(T.cells x).headD .undef else .agg (T.cells x)
def vG (T:Ty):V->Option T.den
 | .agg cs=>bif T.one then none else T.dec cs
 | v=>bif T.one then T.dec [v]else none
def mr:(K:Ty)->K.den->K.den->Bool
 | .str,(a:ad),(b:ad)=>a==b
 | .int _,(a:Int),(b:Int)=>a==b
 | .vF,(a:ss),(b:ss)=>a.a==b.a&&(a.b==b.b&&true)
 | _,_,_=>false
def Jq:Ty->Bool
 | .str=>true
 | .int _=>true
 | .vF=>true
 | _=>false
def iu (K T:Ty) (k:K.den):List (K.den×T.den)->T.den
 | []=>T.az
 | e::r=>bif mr K k e.1 then e.2 else iu K T k r
def xF (K T:Ty) (k:K.den):List (K.den×T.den)->Bool
 | []=>false
 | e::r=>bif mr K k e.1 then true else xF K T k r
def pD (K T:Ty) (k:K.den) (v:T.den):List (K.den×T.den)->List (K.den×T.den)
 | []=>[(k,v)]
 | e::r=>bif mr K k e.1 then(k,v)::r else e::pD K T k v r
inductive aI where
 | free
 | dead
 | cells (cs:List V)
 | row (T:Ty) (l:List T.den)
 | tok
 | iter (s:ad) (pos:Nat)
 
 | bA (v:V)
 | gi (K T:Ty) (l:List (K.den×T.den))
abbrev aq:=List aI
structure St where
 fr:List V
 hp:aq
inductive TD where
 | bool|int (k:IntKind)|string|ptr (e:Nat)|slice (e:Nat)|arr (n e:Nat)|map (k e:Nat)|struct (fs:List (Nat×Nat))|func|iface|other
structure TI where
 d:TD
 size:Nat
 bytes:Nat
 zero:List V
 ty:Option Ty
 eq:Bool:=false
 
 Dw:Bool:=false
 
 bA:Bool:=false
abbrev aZ:=List TI
def TI.none:TI:=⟨.other,0,0,[],.none,false,false,false⟩
def aZ.mode (tt:aZ) (rs:List Ty):aZ:=tt.map fun i => { i with Dw:=match i.ty with|some T=>rs.contains T|none=>false }
def aZ.at (tt:aZ) (t:Nat):TI:=tt.getD t TI.none
def aZ.ok (tt:aZ) (t:Nat):Bool:=match (tt.at t).d with | .other=>false|_=>true
def aZ.isAgg (tt:aZ) (t:Nat):Bool:=match (tt.at t).d with | .struct _=>true | .arr _ _=>true|_=>false
def inK (k:IntKind) (n:Int):Bool:=decide (k.min<=n)&&decide (n<=k.max)
def F4:Value->V
 | .bool b=>.bool b
 | .int k n=>if inK k n then .int k n else .undef
 | .string s=>if s.size<=9223372036854775807 then .str s.data.toList else .undef
 | .pointer .none=>.fp
 | .slice .none 0 0=>.bk
 | .nilFunc=>.fy
 | .map .none=>.kB
 | .nilIface=>.eR
 | _=>.undef
def ofConst:Value->V
 | .agg cs=>.agg (cs.toList.map F4)
 | v=>F4 v
def ev (fr:List V):Operand->V
 | .tmp t=>fr.getD t .undef
 | .const c=>ofConst c
 | .func f=>.func f [] []
 | .global _=>.undef
section
variable {R:Type}
def ag (b:Bool) (k:Option R):Option R:=bif b then k else none
def kD:List V->List V->Option Bool
 | [],[]=>some true
 | .int k a::x,.int k' b::y=>if k=k' then(match kD x y with|some r=>some (a==b&&r)|none=>none)else none
 | .str a::x,.str b::y=>match kD x y with|some r=>some (a==b&&r)|none=>none
 | .bool a::x,.bool b::y=>match kD x y with|some r=>some (a==b&&r)|none=>none
 | _,_=>none
def Jr (a b:V):Option Bool:=
 match a,b with
 | .bool x,.bool y=>some (x==y)
 | .agg xs,.agg ys=>kD xs ys
 | _,_=>none
def Qp:V->Option Bool
 | .fp=>some true
 | .ptr _ _=>some false
 | .fg _=>some false
 | .fH _ _ _ _=>some false
 | _=>none
def xG {R:Type} (op:BinOp) (a b:V) (k:V->Option R):Option R:=
 match b with
 | .fp=>
  (match op,Qp a with
   | .eql,some r=>k (.bool r)
   | .neq,some r=>k (.bool (!r))
   | _,_=>none)
 | _=>none
def su {R:Type} (a:V) (k:Option Bool->Option R):Option R:=
 match a with
 | .bk=>k (some true)
 | .sl _ l _=>bif l.isEmpty then k none else k (some false)
 | .row _ n=>bif decide (n=0)then k none else k (some false)
 | _=>none
def F5 (neg:Bool):Option Bool->V
 | none=>.nS
 | some r=>.bool (bif neg then !r else r)
def xH {R:Type} (op:BinOp) (a b:V) (k:V->Option R):Option R:=
 match b with
 | .bk=>
  (match op with
   | .eql=>su a fun r=>k (F5 false r)
   | .neq=>su a fun r=>k (F5 true r)
   | _=>none)
 | _=>none
def zS {R:Type} (op:BinOp) (y:Operand) (a b:V) (k:V->Option R):Option R:=
 match y,b,a,op with
 | .const _,.eR,.eR,.eql=>k (.bool true)
 | .const _,.eR,.eR,.neq=>k (.bool false)
 | .const _,.eR,.iface,.eql=>k (.bool false)
 | .const _,.eR,.iface,.neq=>k (.bool true)
 | .const _,.eR,.gh _ _ _,.eql=>k (.bool false)
 | .const _,.eR,.gh _ _ _,.neq=>k (.bool true)
 | _,_,_,_=>none
def zT:ad->ad->Bool
 | _,[]=>false
 | [],_::_=>true
 | a::x,b::y=>a<b||(a==b&&zT x y)
def hJ (op:BinOp) (x y:V) (k:V->Option R):Option R:=
 match op,x,y with
 | .shl,.int i a,.int _ b=>ag (decide (0<=b)) (k (.int i (i.wrap (a*2 ^ (min b.toNat i.bits)))))
 | .shr,.int i a,.int _ b=>ag (decide (0<=b)) (k (.int i (a.fdiv (2 ^ (min b.toNat i.bits)))))
 | op,.int i a,.int j b=>
  if i=j then
   match op with
   | .add=>k (.int i (i.wrap (a+b)))
   | .sub=>k (.int i (i.wrap (a - b)))
   | .mul=>k (.int i (i.wrap (a*b)))
   | .quo=>ag (!decide (b=0)) (k (.int i (i.wrap (a.tdiv b))))
   | .rem=>ag (!decide (b=0)) (k (.int i (a.tmod b)))
   | .and=>k (.int i (i.wrap (aJ i.bits a&&&aJ i.bits b).toNat))
   | .or=>k (.int i (i.wrap (aJ i.bits a ||| aJ i.bits b).toNat))
   | .xor=>k (.int i (i.wrap (aJ i.bits a^^^aJ i.bits b).toNat))
   | .eql=>k (.bool (a==b))
   | .neq=>k (.bool (a != b))
   | .lss=>k (.bool (decide (a<b)))
   | .leq=>k (.bool (decide (a<=b)))
   | .gtr=>k (.bool (decide (a>b)))
   | .geq=>k (.bool (decide (a>=b)))
   | _=>none
  else none
 | op,.str a,.str b=>
  match op with
  | .add=>ag (decide (a.length+b.length<=9223372036854775807)) (k (.str (a++b)))
  | .eql=>k (.bool (a==b))
  | .neq=>k (.bool (!(a==b)))
  | .lss=>k (.bool (zT a b))
  | .leq=>k (.bool (zT a b||a==b))
  | .gtr=>k (.bool (!(zT a b||a==b)))
  | .geq=>k (.bool (!(zT a b)))
  | _=>none
 | .eql,a,b=>match Jr a b with|some r=>k (.bool r)|none=>none
 | .neq,a,b=>match Jr a b with|some r=>k (.bool (!r))|none=>none
 | _,_,_=>none
def jA (tt:aZ) (t:Nat) (cs:List V) (off:Nat) (k:V->Option R):Option R:=
 if tt.ok t then
  if tt.isAgg t then(if off+(tt.at t).size<=cs.length then k (.agg ((cs.drop off).take (tt.at t).size))else none)
  else(match cs[off]? with|some v=>k v|none=>none)
 else none
def vH (cells:List V):List (Nat×Nat×V)->Option (List V)
 | []=>some cells
 | (off,size,v)::rest=>
  match Dv v with
  | some vs=>if vs.length=size&&off+size<=cells.length then vH (cells.take off++vs++cells.drop (off+size)) rest else none
  | none=>none
def idxOf (i:V) (k:Int->Option R):Option R:=match i with | .int _ n=>k n|_=>none
def kZ (v:Option V) (d:Int) (k:Int->Option R):Option R:=
 match v with
 | none=>k d
 | some (.int _ n)=>k n
 | some _=>none
def fc:List V->List V->Bool
 | [],[]=>true
 | .int k _::z,.int k' _::c=>decide (k=k')&&fc z c
 | .str _::z,.str _::c=>fc z c
 | .bool _::z,.bool _::c=>fc z c
 | _,_=>false
def xI (i:TI) (a b:List V):Bool:=i.eq&&fc i.zero a&&fc i.zero b
def vI (tt:aZ) (o:Op) (ρ:Operand->V) (k:V->Option R):Option R:=
 match o with
 | .move x=>k (ρ x)
 | .assign x=>k (ρ x)
 | .pick c a b=>
  match ρ c with
  | .bool t=>
   (match ρ a,ρ b with
    | .bool u,.bool v=>k (.bool (bif t then u else v))
    | u,v=>bif t then k u else k v)
  | _=>none
 | .nilCheck x=>
  match ρ x with
  | .ptr i o=>k (.ptr i o)
  | .fg cs=>k (.fg cs)
  | .fH i n j o=>k (.fH i n j o)
  | .func f a b=>k (.func f a b)
  | _=>none
 | .binOp op t x y _=>
  match ρ x,ρ y with
  | .agg a,.agg b=>if xI (tt.at t) a b then hJ op (.agg a) (.agg b) k else none
  | .bool a,.bool b=>(match (tt.at t).d with | .bool=>hJ op (.bool a) (.bool b) k|_=>none)
  | .int i a,.int j b=>hJ op (.int i a) (.int j b) k
  | .str a,.str b=>hJ op (.str a) (.str b) k
  | a,b=>(match (tt.at t).d with | .ptr _=>xG op a b k | .slice _=>xH op a b k | .iface=>zS op y a b k|_=>none)
 | .unOp op _ x=>
  match op,ρ x with
  | .neg,.int i n=>k (.int i (i.wrap (0 - n)))
  | .not,.bool b=>k (.bool (!b))
  | _,_=>none
 | .convert s d x=>
  if !tt.ok s then none else
  match (tt.at d).d,ρ x with
  | .int i,.int _ n=>k (.int i (i.wrap n))
  | .string,.str t=>(match (tt.at s).d with | .string=>k (.str t)|_=>none)
  | _,_=>none
 | .makeInterface t x=>
  match (tt.at t).d,ρ x with
  | .int _,.int i n=>k (.gh t i n)
  | _,_=>none
 | .fieldAddr s x f=>
  match (tt.at s).d with
  | .struct fs=>
   (match fs[f]? with
    | some (off,t)=>
     if(tt.at t).size=0||!tt.ok t then none else
     (match ρ x with
     | .ptr i o=>k (.ptr i (o+off))
     | .fg cs=>k (.fg (cs.drop off))
     | .fH i n j o=>k (.fH i n j (o+off))
     | _=>none)
    | none=>none)
  | _=>none
 | .field s x f=>
  match (tt.at s).d,ρ x with
  | .struct fs,.agg cs=>(match fs[f]? with|some (off,t)=>jA tt t cs off k|none=>none)
  | _,_=>none
 | .indexAddr t x i=>
  idxOf (ρ i) fun n=>
  match (tt.at t).d,ρ x with
  | .slice e,.sl T l _=>if T.sz=(tt.at e).size&&tt.ok e then ag (decide (0<=n)&&decide (n<l.length)) (k (.fg (T.cells (l.getD n.toNat T.az))))else none
  | .slice e,.row id m=>if tt.ok e then ag (decide (0<=n)&&decide (n<m)) (k (.fH id (tt.at e).size n.toNat 0))else none
  | .arr m e,.ptr id o=>if tt.ok e then ag (decide (0<=n)&&decide (n<m)) (k (.ptr id (o+n.toNat*(tt.at e).size)))else none
  | .slice e,.jg m cs=>if tt.ok e&&decide ((tt.at e).size≠0)&&decide (cs.length=m*(tt.at e).size)then ag (decide (0<=n)&&decide (n<m)) (k (.fg (cs.drop (n.toNat*(tt.at e).size))))else none
  | .arr m e,.fg cs=>if tt.ok e&&decide ((tt.at e).size≠0)&&decide (m*(tt.at e).size<=cs.length)then ag (decide (0<=n)&&decide (n<m)) (k (.fg (cs.drop (n.toNat*(tt.at e).size))))else none
  | _,_=>none
 | .index t x i=>
  idxOf (ρ i) fun n=>
  match (tt.at t).d,ρ x with
  | .string,.str s=>ag (decide (0<=n)&&decide (n<s.length)) (k (.int .u8 (s.getD n.toNat 0).toNat))
  | .arr m e,.agg cs=>ag (decide (0<=n)&&decide (n<m)) (jA tt e cs (n.toNat*(tt.at e).size) k)
  | _,_=>none
 | .slice t x lo hi mx=>
  match mx with
  | some _=>none
  | none=>
   (match (tt.at t).d,ρ x with
    | .string,.str s=>
     kZ (hi.map ρ) s.length fun h=>kZ (lo.map ρ) 0 fun l=>
     ag (decide (0<=h)&&decide (h<=s.length)) (ag (decide (0<=l)&&decide (l<=h)) (k (.str ((s.drop l.toNat).take (h.toNat - l.toNat)))))
    | .slice e,.sl T s _=>
     if T.sz=(tt.at e).size&&tt.ok e then
     kZ (lo.map ρ) 0 fun l=>
     (match hi with
     | none=>ag (decide (0<=l)&&decide (l<=s.length)) (k (.sl T (s.drop l.toNat) .no))
     | some hi=>
      kZ (some (ρ hi)) 0 fun h=>
      ag (decide (0<=h)&&decide (h<=s.length)) (ag (decide (0<=l)&&decide (l<=h)) (k (.sl T ((s.drop l.toNat).take (h.toNat - l.toNat)) .no))))
     else none
    | .slice e,.bk=>
     if !tt.ok e then none else
     kZ (hi.map ρ) 0 fun h=>kZ (lo.map ρ) 0 fun l=>ag (decide (h=0)&&decide (l=0)) (k .bk)
    | .slice e,.row i n=>
     if !tt.ok e then none else
     kZ (hi.map ρ) n fun h=>kZ (lo.map ρ) 0 fun l=>ag (decide (0<=h)&&decide (h<=n)) (ag (decide (0<=l)&&decide (l<=h)) (k (.j0 i (tt.at e).size l.toNat (h.toNat - l.toNat))))
    | _,_=>none)
 | .makeFunc (.func f) first cap=>k (.func f (first.toList.map ρ) (cap.toList.map ρ))
 | .extract t i=>match ρ t with | .tuple vs=>(match vs[i]? with|some v=>k v|none=>none)|_=>none
 | .build t parts=>
  match (tt.at t).d with
  | .struct fs=>
   if !fs.all (fun f=>tt.ok f.2)||!tt.ok t||decide (1000000<=(tt.at t).zero.length)then none else
   (match vH (tt.at t).zero (parts.toList.map fun(i,x)=>((fs.getD i (0,0)).1,if i<fs.length then(tt.at (fs.getD i (0,0)).2).size else 1000000,ρ x))with
    | some cs=>k (.agg cs)|none=>none)
  | .arr _ e=>
   if !tt.ok e||!tt.ok t||decide (1000000<=(tt.at t).zero.length)then none else
   (match vH (tt.at t).zero (parts.toList.map fun(i,x)=>(i*(tt.at e).size,(tt.at e).size,ρ x))with
    | some cs=>k (.agg cs)|none=>none)
  | _=>none
 | .call c=>
  match c.callee,c.args.toList with
  | .builtin .len,[x]=>
   (match c.argTypes.toList with
    | [t]=>
     (match (tt.at t).d,ρ x with
     | .string,.str s=>k (.int .i64 s.length)
     | .slice _,.sl _ l _=>k (.int .i64 l.length)
     | .slice _,.jg n _=>k (.int .i64 n)
     | .slice _,.row _ n=>k (.int .i64 n)
     | .slice _,.bk=>k (.int .i64 0)
     | _,_=>none)
    | _=>none)
  | .builtin .min,[x,y]=>(match ρ x,ρ y with | .int i a,.int j b=>if i=j then k (.int i (min a b))else none|_,_=>none)
  | .builtin .max,[x,y]=>(match ρ x,ρ y with | .int i a,.int j b=>if i=j then k (.int i (max a b))else none|_,_=>none)
  | _,_=>none
 | _=>none
end
def aq.at (h:aq) (i:Nat):aI:=h.getD i .dead
def Tok.bO (ρ:Nat->Option Nat):Tok->Tok
 | .own i=>match ρ i with|some j=>.own j|none=>.no
 | t=>t
mutual
def V.bO (ρ:Nat->Option Nat):V->V
 | .ptr i o=>match ρ i with|some j=>.ptr j o|none=>.undef
 | .sl T l t=>.sl T l (t.bO ρ)
 | .row i n=>match ρ i with|some j=>.row j n|none=>.undef
 | .j0 i z q n=>match ρ i with|some j=>.j0 j z q n|none=>.undef
 | .fH i n k o=>match ρ i with|some j=>.fH j n k o|none=>.undef
 | .map i=>match ρ i with|some j=>.map j|none=>.undef
 | .func f a b=>.func f (V.iv ρ a) (V.iv ρ b)
 | .agg cs=>.agg (V.iv ρ cs)
 | .tuple vs=>.tuple (V.iv ρ vs)
 | .fg cs=>.fg (V.iv ρ cs)
 | .jg n cs=>.jg n (V.iv ρ cs)
 | v=>v
def V.iv (ρ:Nat->Option Nat):List V->List V
 | []=>[]
 | v::vs=>v.bO ρ::V.iv ρ vs
end
def aI.bO (ρ:Nat->Option Nat):aI->aI
 | .cells cs=>.cells (V.iv ρ cs)
 | .bA v=>.bA (v.bO ρ)
 | o=>o
mutual
def V.ids:V->List Nat
 | .ptr i _=>[i]
 | .sl _ _ (.own i)=>[i]
 | .row i _=>[i]
 | .j0 i _ _ _=>[i]
 | .fH i _ _ _=>[i]
 | .map i=>[i]
 | .func _ a b=>V.fI a++V.fI b
 | .agg cs=>V.fI cs
 | .tuple vs=>V.fI vs
 | .fg cs=>V.fI cs
 | .jg _ cs=>V.fI cs
 | _=>[]
def V.fI:List V->List Nat
 | []=>[]
 | v::vs=>v.ids++V.fI vs
end
def aI.ids:aI->List Nat
 | .cells cs=>V.fI cs
 | .bA v=>v.ids
 | _=>[]
def reach (h:aq):Nat->List Nat->List Nat->List Nat
 | 0,_,seen=>seen
 | _+1,[],seen=>seen
 | n+1,i::todo,seen=>if seen.contains i then reach h n todo seen else reach h n (todo++(h.at i).ids) (seen++[i])
def mu (ord:List Nat) (i:Nat):Option Nat:=let p:=ord.idxOf i; if p<ord.length then some p else none
def aq.pick (h:aq) (ord:List Nat):aq:=ord.map fun i=>(h.at i).bO (mu ord)
def k6 (ord:List Nat) (n:Nat) (j:Nat):Nat:=if j<ord.length then ord.getD j 0 else n+(j - ord.length)
def aq.sv (h:aq):List (Nat×aI)->aq
 | []=>h
 | (i,o)::r=>aq.sv (h.set i o) r
def aq.back (h:aq) (ord:List Nat) (h':aq):aq:=
 let ρ:=fun j=>some (k6 ord h.length j)
 aq.sv h (ord.zip ((h'.take ord.length).map (aI.bO ρ)))++(h'.drop ord.length).map (aI.bO ρ)
section
variable {R:Type}
abbrev Spec (R:Type):=List V->aq->(V->aq->Option R)->Option R
def Dx (l:List Int):ad:=l.flatMap fun n=>(Utf8.encode n).data.toList
def tG (tt:aZ) (t:Nat):Ty->Bool
 | .str=>(match (tt.at t).d with | .string=>true|_=>false)
 | .int k=>(match (tt.at t).d with | .int k'=>decide (k'=k)|_=>false)
 | _=>false
def sw (tt:aZ) (t:Nat):Ty->Bool
 | .bool=>(match (tt.at t).d,(tt.at t).zero with | .bool,[.bool false]=>true|_,_=>false)
 | .int k=>(match (tt.at t).d,(tt.at t).zero with | .int _,[.int k' 0]=>decide (k'=k)|_,_=>false)
 | _=>false
def sA (lim:Option Nat) (i:Nat):Bool:=match lim with|none=>true|some m=>decide (i<m)
def qG (tt:aZ) (o:Op) (ρ:Operand->V) (h:aq) (lim:Option Nat) (k:V->Option R):Option R:=
 match o with
 | .load t x=>
  match ρ x with
  | .ptr i o=>
   if sA lim i then
    match h.at i with
    | .cells cs=>jA tt t cs o k
    | .bA v=>jA tt t [.undef,v] o k
    | _=>none
   else none
  | .fg cs=>jA tt t cs 0 k
  | .fH i sz j o=>
   if sA lim i then
    match h.at i with
    | .row T l=>if sz=T.sz then ag (decide (j<l.length)) (jA tt t (T.cells (l.getD j T.az)) o k)else none
    | _=>none
   else none
  | _=>none
 | .lookup t x ix ok=>
  match (tt.at t).d,ρ x with
  | .map kt vt,.map i=>
   if sA lim i then
    match h.at i with
    | .gi K T l=>
     if tG tt kt K&&sw tt vt T then
      match vG K (ρ ix)with
      | some kx=>bif ok then k (.tuple [kC T (iu K T kx l),.bool (xF K T kx l)])else k (kC T (iu K T kx l))
      | none=>none
     else none
    | _=>none
   else none
  | _,_=>none
 | .convert s d x=>
  match (tt.at d).d,(tt.at s).d,ρ x with
  | .string,.slice e,.row i _=>
   if sA lim i then
    match (tt.at e).d,h.at i with
    | .int .u8,.row (.int .u8) l=>k (.str ((l:List Int).map fun n=>bl n.toNat))
    | _,_=>none
   else none
  | .string,.slice e,.sl T l _=>
   match (tt.at e).d,T,l with
   | .int .u8,.int .u8,l=>k (.str ((l:List Int).map fun n=>bl n.toNat))
   | .int .i32,.int .i32,l=>ag (decide (4*l.length<=9223372036854775807)) (k (.str (Dx l)))
   | _,_,_=>none
  | .string,.slice e,.bk=>match (tt.at e).d with | .int .u8=>k (.str [])|_=>none
  | _,_,_=>none
 | _=>none
def Bm (s:ad):List (Ty.den (.int .u8)):=(s.map fun b=>(b.toNat:Int):List Int)
def nT (T:Ty):List (List V)->Option (List T.den)
 | []=>some []
 | c::cs=>match T.dec c,nT T cs with|some x,some xs=>some (x::xs)|_,_=>none
def chunks (n:Nat):Nat->List V->List (List V)
 | 0,_=>[]
 | m+1,l=>l.take n::chunks n m (l.drop n)
def F6 (ρ:Operand->V):Option Operand->Bool
 | none=>true
 | some x=>(match ρ x with | .int _ _=>true|_=>false)
def sB (tt:aZ) (o:Op) (ρ:Operand->V) (k:aI->(Nat->V)->Option R):Option R:=
 match o with
 | .alloc t=>if(tt.at t).bA then k (.bA .bk) fun i=>.ptr i 0 else if tt.ok t then k (.cells (tt.at t).zero) fun i=>.ptr i 0 else none
 | .box t x=>match Dv (ρ x)with|some cs=>if tt.ok t&&decide (cs.length=(tt.at t).size)then k (.cells cs) fun i=>.ptr i 0 else none|none=>none
 | .buildSlice t len parts=>
  match (tt.at t).d with
  | .slice e=>
   let sz:=(tt.at e).size
   if sz=0||decide (len*sz>4096)||!tt.ok e then none else
   (match vH ((jx len (tt.at e).zero).flatten) (parts.toList.map fun(i,x)=>(i*sz,sz,ρ x)),(tt.at e).ty with
    | some cs,some T=>
     if T.sz=sz then
      if((tt.at e).Dw&&decide (len=0))=true then k (.row T []) fun i=>.row i 0 else
      if((tt.at e).Dw&&T.zR)=true then(match nT T (chunks sz len cs)with|some l=>k (.row T l) fun i=>.row i l.length|none=>none)else
      (match nT T (chunks sz len cs)with|some l=>k .tok fun i=>.sl T l (.own i)|none=>k .dead fun _=>.jg len cs)
     else none
    | some cs,none=>k .dead fun _=>.jg len cs
    | none,_=>none)
  | _=>none
 | .makeSlice t n c=>
  match (tt.at t).d,ρ n,ρ c with
  | .slice e,.int _ a,.int _ b=>
   (match (tt.at e).ty with
    | some T=>
     (match T.dec (tt.at e).zero with
     | some z=>if T.sz=(tt.at e).size&&tt.ok e then ag (decide (0<=a)&&decide (a=b)&&decide (a*(tt.at e).bytes<=140737488355328)&&decide (a<=140737488355328)) (k (.row T (jx a.toNat z)) fun i=>.row i a.toNat)else none
     | none=>none)
    | none=>none)
  | _,_,_=>none
 | .convert s d x=>
  match (tt.at s).d,(tt.at d).d,ρ x with
  | .string,.slice e,.str t=>
   (match (tt.at e).d with
    | .int .u8=>k (.row (.int .u8) (Bm t)) fun i=>.row i t.length
    | _=>none)
  | _,_,_=>none
 | .makeMap t zU=>
  if F6 ρ zU then
  match (tt.at t).d with
  | .map kt vt=>
   (match (tt.at kt).ty,(tt.at vt).ty with
    | some K,some T=>if tG tt kt K&&sw tt vt T then k (.gi K T []) fun i=>.map i else none
    | _,_=>none)
  | _=>none
  else none
 | .range t x=>match (tt.at t).d,ρ x with | .string,.str s=>k (.iter s 0) fun i=>.ptr i 0|_,_=>none
 | _=>none
def sC (cs:List V) (o:Nat) (vs:List V):List V:=cs.take o++vs++cs.drop (o+vs.length)
def zV (T:Ty) (h:aq):V->Option (List T.den)
 | .bk=>some []
 | .sl T' l _=>if e:T'=T then some (e▸l)else none
 | .row i _=>match h.at i with | .row T' l=>if e:T'=T then some (e▸l)else none|_=>none
 | .j0 i z q n=>match h.at i with | .row T' l=>if e:T'=T then some (((e▸l:List T.den).drop q).take n)else none|_=>none
 | .jg n cs=>if cs.length=n*T.sz then nT T (chunks T.sz n cs)else none
 | .str s=>if e:T=.int .u8 then some (e▸Bm s)else none
 | _=>none
def Dy (h:aq):V->Bool
 | .j0 i z q n=>(match h.at i with | .row T l=>decide (z=T.sz)&&decide (q+n<=l.length)|_=>false)
 | _=>true
def vJ (tt:aZ) (e:Nat) (s x:V) (h:aq) (id:Nat) (k:V->aq->Option R):Option R:=
 match (tt.at e).ty with
 | some T=>
  if T.sz=(tt.at e).size&&(tt.at e).bytes != 0&&tt.ok e then
  (match zV T h x with
   | some m=>
    let room (n:Nat) (q:Option R):Option R:=ag (decide ((n+m.length)*(tt.at e).bytes<=140737488355328)) q
    (match s with
    | .bk=>room 0 (if(tt.at e).Dw then k (.row id m.length) (h.set id (.row T m))else k (.sl T m (.own id)) (h.set id .tok))
    | .sl T' l tk=>
     if q:T'=T then
      let l':List T.den:=q▸l
      (match tk with
       | .no=>none
       | .nil=>room l.length (k (.sl T (l'++m) (.own id)) (h.set id .tok))
       | .own i=>(match h.at i with | .tok=>room l.length (k (.sl T (l'++m) (.own id)) ((h.set i .dead).set id .tok))|_=>none))
     else none
    | .row i _=>
     (match h.at i with
      | .row T' l=>
       if q:T'=T then
        let l':List T.den:=q▸l
        room l.length (k (.row id (l'.length+m.length)) ((h.set i .dead).set id (.row T (l'++m))))
       else none
      | _=>none)
    | _=>none)
   | none=>none)
  else none
 | none=>none
def mv (tt:aZ) (e:Nat) (s x:V) (h:aq) (id:Nat) (k:V->aq->Option R):Option R:=ag (Dy h x) (vJ tt e s x h id k)
def iR (s:ad) (pos:Nat):Nat×Nat:=FK ⟨s.toArray⟩ pos
def F7 (tt:aZ) (t:Nat) (v:V) (h:aq) (k:V->aq->Option R):Option R:=
 match (tt.at t).d,v with
 | .arr m e,.ptr i 0=>
  (match h.at i with
   | .cells cs=>
    (match (tt.at e).ty with
    | some T=>
     if T.sz=(tt.at e).size&&tt.ok e&&decide (cs.length=m*T.sz)&&decide (m≠0)&&decide (m<=4096)then
      match nT T (chunks T.sz m cs)with
      | some l=>k (.sl T l .no) (h.set i .dead)
      | none=>none
     else none
    | none=>none)
   | _=>none)
 | _,_=>none
def j4 (tt:aZ) (o:Op) (ρ:Operand->V) (h:aq) (id:Nat) (k:V->aq->Option R):Option R:=
 match o with
 | .slice t x lo hi mx=>bif lo.isNone&&hi.isNone&&mx.isNone then F7 tt t (ρ x) h k else none
 | .store t x y=>
  match Dv (ρ y)with
  | none=>none
  | some vs=>
  if tt.ok t&&decide (vs.length=(tt.at t).size)then
   match ρ x with
   | .ptr i o=>
    (match h.at i with
     | .cells cs=>if o+vs.length<=cs.length then k .undef (h.set i (.cells (sC cs o vs)))else none
     | .bA _=>(match o,vs with|1,[v]=>k .undef (h.set i (.bA v))|_,_=>none)
     | _=>none)
   | .fH i sz j o=>
    (match h.at i with
     | .row T l=>
      if sz=T.sz then
      let cs:=T.cells (l.getD j T.az)
      if o+vs.length<=cs.length then
       (match T.dec (sC cs o vs)with
       | some y=>ag (decide (j<l.length)) (k .undef (h.set i (.row T (l.set j y))))
       | none=>none)
      else none
      else none
     | _=>none)
   | _=>none
  else none
 | .call c=>
  match c.callee,c.args.toList,c.argTypes.toList with
  | .builtin .append,[s,x],[t,xt]=>
   (match (tt.at t).d,(tt.at xt).d with
    | .slice e,.slice _=>mv tt e (ρ s) (ρ x) h id k
    | .slice e,.string=>mv tt e (ρ s) (ρ x) h id k
    | _,_=>none)
  | _,_,_=>none
 | .mapUpdate t m x y=>
  match (tt.at t).d,ρ m with
  | .map kt vt,.map i=>
   (match h.at i with
    | .gi K T l=>
     if tG tt kt K&&sw tt vt T then
      match vG K (ρ x),vG T (ρ y)with
      | some kx,some vx=>k .undef (h.set i (.gi K T (pD K T kx vx l)))
      | _,_=>none
     else none
    | _=>none)
  | _,_=>none
 | .insert t m x y=>
  match (tt.at t).d,ρ m with
  | .map kt vt,.map i=>
   (match h.at i with
    | .gi K T l=>
     if tG tt kt K&&sw tt vt T then
      match vG K (ρ x),vG T (ρ y)with
      | some kx,some vx=>k .undef (h.set i (.gi K T (pD K T kx vx l)))
      | _,_=>none
     else none
    | _=>none)
  | _,_=>none
 | .next x str=>
  match str,ρ x with
  | true,.ptr i 0=>
   (match h.at i with
    | .iter s pos=>bif decide (pos<s.length)then k (.tuple [.bool true,.int .i64 pos,.int .i32 (iR s pos).1]) (h.set i (.iter s (pos+(iR s pos).2)))else k (.tuple [.bool false]) h
    | _=>none)
  | _,_=>none
 | _=>none
mutual
def V.shut (h:aq):V->V
 | .sl T l _=>.sl T l .no
 | .row i _=>match h.at i with | .row T l=>.sl T l .no|_=>.undef
 | .agg cs=>.agg (V.zW h cs)
 | .tuple vs=>.tuple (V.zW h vs)
 | v=>v
def V.zW (h:aq):List V->List V
 | []=>[]
 | v::vs=>v.shut h::V.zW h vs
end
def V.Dz:V->Bool
 | .int _ _ | .bool _ | .str _ | .fp | .bk | .kB | .fy | .eR | .iface | .gh _ _ _=>true
 | _=>false
def V.DA:V->Bool
 | .tuple vs=>vs.all V.Dz
 | .agg vs=>vs.all V.Dz
 | v=>v.Dz
inductive DB where
 | P|R|A|W|C|F|X
 deriving DecidableEq
def cK (tt:aZ):Op->DB
 | .move _ | .assign _ | .pick _ _ _ | .nilCheck _ | .binOp _ _ _ _ _ | .unOp _ _ _ | .fieldAddr _ _ _ | .field _ _ _ | .indexAddr _ _ _ | .index _ _ _
 | .makeFunc _ _ _ | .extract _ _ | .build _ _ | .makeInterface _ _=>.P
 | .slice t _ _ _ _=>match (tt.at t).d with | .arr _ _=>.W|_=>.P
 | .convert s d _=>
  match (tt.at s).d,(tt.at d).d with
  | .slice _,.string=>.R
  | .string,.slice _=>.A
  | _,_=>.P
 | .load _ _=>.R
 | .lookup _ _ _ _=>.R
 | .alloc _ | .box _ _ | .buildSlice _ _ _ | .makeSlice _ _ _ | .range _ _ | .makeMap _ _=>.A
 | .store _ _ _=>.W
 | .mapUpdate _ _ _ _=>.W
 | .insert _ _ _ _=>.W
 | .next _ str=>bif str then .W else .X
 | .call c=>match c.callee with
  | .builtin .len=>.P | .builtin .min=>.P | .builtin .max=>.P
  | .builtin .append=>.W
  | .builtin _=>.X
  | .value _=>.C
  | .invoke _ _=>.X
 | _=>.X
def dd (fr:List V) (dst:Option Nat) (v:V):List V:=match dst with|some d=>fr.set d v|none=>fr
def Qq:V->V
 | .sl T l _=>.sl T l .no
 | v=>v
def Bn:V->V
 | .sl T l _=>.sl T l .no
 | .agg cs=>.agg (cs.map Qq)
 | v=>v
abbrev Env (R:Type):=Nat->Option (Bool×Spec R)
def mw (E:Env R) (o:Op):Bool:=
 match o with
 | .call c=>(match c.callee with | .value (.func g)=>(match E g with|some (b,_)=>b|none=>false) | .value (.tmp _)=>true|_=>false)
 | _=>false
def iS (E:Env R) (o:Op):Bool:=
 match o with
 | .call c=>(match c.callee with | .value (.func g)=>dL.soft g&&(match E g with|some (false,_)=>true|_=>false)|_=>false)
 | _=>false
def jh:Op->Bool
 | .call c=>(match c.callee with | .builtin .append=>true|_=>false)
 | _=>false
def Bo (base id:Nat):V->Bool | .row i _=>Nat.ble base i&&decide (i<id) | .sl _ _ (.own i)=>decide (i<id)|_=>true
def Bp (id:Nat):V->Bool | .row i _=>decide (i<id) | .j0 i _ _ _=>decide (i<id)|_=>true
def vK (base:Nat) (o:Op) (ρ:Operand->V) (id:Nat):Bool:=
 match o with
 | .call c=>(match c.args.toList with | [s,x]=>Bo base id (ρ s)&&Bp id (ρ x)|_=>true)
 | _=>true
def zX (drawn:Option Nat) (o:Op) (ρ:Operand->V) (id:Nat):Bool:=match drawn with|none=>true|some b=>vK b o ρ id
def cb (tt:aZ) (E:Env R) (o:Op):DB:=match cK tt o with | .C=>bif mw E o then .C else .F|c=>c
def canon (tt:aZ) (t:Nat) (v:V):V:=
 match (tt.at t).ty with
 | some T=>
  (match v with
   | .agg cs=>(match T.dec cs with|some x=>if tt.isAgg t then .agg (T.cells x)else v|none=>v)
   | v=>(match T.dec [v]with|some x=>if tt.isAgg t then v else(match T.cells x with | [c]=>c|_=>v)|none=>v))
 | none=>
  (match (tt.at t).d with
   | .slice e=>(match (tt.at e).ty with|some T=>(match ly T v with|some l=>.sl T l .no|none=>v)|none=>v)
   | _=>v)
def Bq (tt:aZ):List Nat->List V->List V
 | t::ts,v::vs=>canon tt t v::Bq tt ts vs
 | _,vs=>vs
def Qr (sp:Spec R) (vs:List V) (h:aq) (k:V->aq->Option R):Option R:=
 match V.fI vs with
 | []=>sp vs [] fun v h'=>(match h' with | []=>bif v.DA then k v h else none|_::_=>none)
 | _::_=>none
def my (tt:aZ) (E:Env R) (full:Bool) (c:Call) (ρ:Operand->V) (h:aq) (k:V->aq->Option R):Option R:=
 match c.callee with
 | .value f=>
  match ρ f with
  | .func g first cap=>
   let vs:=first++c.args.toList.map ρ++cap
   (match E g with
    | some (true,sp)=>
     let ps:=(first++Bq tt c.argTypes.toList (c.args.toList.map ρ)++cap).map Bn
     (match V.fI ps with
     | []=>sp ps [] fun v h'=>(match h' with | []=>k v h|_::_=>none)
     | _::_=>bif full then Qr sp (V.zW h ps) h k else none)
    | some (false,sp)=>
     bif full then
      bif dL.soft g then sp vs h k else
      let ord:=reach h 64 (V.fI vs) []
      sp (V.iv (mu ord) vs) (h.pick ord) fun v h'=>k (v.bO fun j=>some (k6 ord h.length j)) (h.back ord h')
     else none
    | none=>none)
  | _=>none
 | _=>none
def mW (tt:aZ) (E:Env R) (drawn:Option Nat) (id:Nat) (o:Oper) (st:St) (k:St->Option R):Option R:=
 let ρ:=ev st.fr
 match cK tt o.op with
 | .P=>vI tt o.op ρ fun v=>k ⟨dd st.fr o.dst v,st.hp⟩
 | .R=>qG tt o.op ρ st.hp drawn fun v=>k ⟨dd st.fr o.dst v,st.hp⟩
 | .A=>sB tt o.op ρ fun ob mk=>k ⟨dd st.fr o.dst (mk id),st.hp.set id ob⟩
 | .W=>bif !zX drawn o.op ρ id then none else j4 tt o.op ρ st.hp id fun v h=>k ⟨dd st.fr o.dst v,h⟩
 | .C=>match o.op with | .call c=>my tt E (drawn.isNone||!mw E o.op) c ρ st.hp fun v h=>k ⟨dd st.fr o.dst v,h⟩|_=>none
 | .F=>none
 | .X=>none
def cq (tt:aZ) (o:Oper):Bool:=match cK tt o.op with | .A=>true | .W=>true|_=>false
def oN (all:List Oper) (o:Oper) (st:St) (run skip:St->Option R):Option R:=
 match o.guard with
 | none=>run st
 | some (j,want)=>
  match ((all[j]?).bind (·.dst))with
  | none=>none
  | some d=>
   match st.fr.getD d .undef with
   | .bool b=>
    bif b then(if want then run ⟨st.fr.set d (.bool true),st.hp⟩else skip ⟨st.fr.set d (.bool true),st.hp⟩)
    else(if want then skip ⟨st.fr.set d (.bool false),st.hp⟩else run ⟨st.fr.set d (.bool false),st.hp⟩)
   | .tuple []=>skip st
   | _=>none
def F8 {α β:Type} (l:List α) (k:List α->β):β:=
 Ja (motive:=fun _=>(List α->β)->β) (fun k=>k []) (fun v _ ih k=>ih fun r=>k (v::r)) l k
theorem F9 {α β:Type}:∀(l:List α) (k:List α->β),F8 l k=k l
 | [],_=>rfl
 | v::l,k=>F9 l fun r=>k (v::r)
def DC {β:Type} (st:St) (k:St->β):β:=F8 st.fr fun fr=>F8 st.hp fun hp=>k ⟨fr,hp⟩
theorem Js {β:Type} (st:St) (k:St->β):DC st k=k st:=by unfold DC; rw[F9,F9]
def tH (tt:aZ) (E:Env R) (drawn:Option Nat) (all:List Oper):List Oper->Nat->St->(St->Option R)->Option R
 | [],_,st,k=>k st
 | o::rest,id,st,k=>
  let zY:=if cq tt o then id+1 else id
  oN all o st (fun st=>mW tt E drawn id o st fun st=>DC st fun st=>tH tt E drawn all rest zY st k)
   (fun st=>DC ⟨dd st.fr o.dst (.tuple []),st.hp⟩ fun st=>tH tt E drawn all rest zY st k)
def Jt (M:List Nat) (es:List Nat):Nat:=es.foldl (fun m e=>m ||| (Nat.pow 2 e ||| M.getD e 0)) 0
def Br (o:Oper):List Nat:=(o.after.toList.filter fun e=>ZJ .any e).map (·.on)
def Ga (ops:List Oper):List Nat:=ops.foldl (init:=[]) fun M o=>M++[Jt M (Br o)]
def beforeL (n:Nat) (M:List Nat):List (List Nat):=(jZ n).map fun j=>(jZ n).filter fun i=>(M.getD j 0).testBit i
def looks (all:List Oper) (o:Oper):List Nat:=
 (o.op.operands.toList.filterMap fun | .tmp t=>some t|_=>none) ++
 (match o.guard with|some (g,_)=>((all[g]?).bind (·.dst)).toList|none=>[])
def qH (all:List Oper) (x y:Oper):Bool:=
 (match x.dst with|some d => !(looks all y).contains d&&y.dst != some d|none=>true) &&
 (match y.dst with|some d => !(looks all x).contains d|none=>true)
def vL (a b:DB):Bool:=
 match a,b with
 | .X,_|_,.X=>false
 | .P,_|_,.P=>true
 | .C,.R | .C,.A | .R,.C | .A,.C=>true
 | .R,.R | .R,.A | .A,.R | .A,.A=>true
 | _,_=>false
def tokPair (tt:aZ) (E:Env R) (x y:Op):Bool:=
 ((jh x&&(match cb tt E y with | .A | .R=>true|_=>false))||((match cb tt E x with | .R=>true|_=>false)&&jh y)) ||
  ((iS E x&&(match cb tt E y with | .R=>true|_=>false))||((match cb tt E x with | .R=>true|_=>false)&&iS E y))
def DE (tt:aZ) (E:Env R) (all:List Oper) (x y:Oper):Bool:=(vL (cb tt E x.op) (cb tt E y.op)||tokPair tt E x.op y.op)&&qH all x y
def qI (tt:aZ) (E:Env R) (o:Op):Bool:=match cb tt E o with | .F=>true|_=>false
def zZ (tt:aZ) (E:Env R) (all:List Oper) (x:Oper):Bool:=(match cb tt E x.op with | .R=>true|_=>false)&&all.any fun y=>qI tt E y.op&&qH all x y
def qJ (all:List Oper) (o:Oper):Bool:=
 match o.op with
 | .store _ (.tmp t) _=>o.dst.isNone&&o.guard.isNone&&((all.any fun z=>z.dst==some t&&(match z.op with | .fieldAddr _ _ _=>true|_=>false))||all.all fun z=>z.dst != some t)
 | _=>false
def Qs (all:List Oper) (o:Oper):Bool:=
 match o.op with
 | .store _ (.tmp t) _=>o.dst.isNone&&o.guard.isNone&&all.any fun z=>z.dst==some t&&(match z.op with | .alloc _=>true|_=>false)
 | _=>false
def xJ (all:List Oper) (o:Oper):Bool:=qJ all o||Qs all o
def tI (all:List Oper) (o:Oper):Bool:=
 match o.op with
 | .store _ (.tmp t) _=>o.dst.isNone&&o.guard.isNone&&all.any fun z=>z.dst==some t&&(match z.op with | .indexAddr _ _ _=>true|_=>false)
 | _=>false
def Bs (all:List Oper) (x y:Oper):Bool:=(qJ all x&&tI all y)||(tI all x&&qJ all y)
def DF (tt:aZ) (E:Env R) (all:List Oper) (x:Oper):Bool:=(match cb tt E x.op with | .R=>true|_=>false)&&all.any (xJ all)
def Gb (tt:aZ) (E:Env R) (x:Oper):Bool:=match cb tt E x.op with | .R | .A=>true|_=>false
def Gc (tt:aZ) (E:Env R) (x y:Oper):Bool := !(jh x.op&&Gb tt E y)&&!(Gb tt E x&&jh y.op)
def sD (tt:aZ) (S:Option (Bool×List Nat)) (base:Nat) (o:Oper):Option Nat:=match S with|some (true,_)=>(match cK tt o.op with | .W=>none|_=>some base)|_=>some base
def sE (tt:aZ) (E:Env R) (xK:Option Bool) (all:List Oper) (x y:Oper):Bool:=
 (DE tt E all x y&&(match xK with|some true=>Gc tt E x y|_=>true))||(match xK with
  | none=>false
  | some true=>((zZ tt E all x&&qI tt E y.op)||(qI tt E x.op&&(!iS E x.op&&(match cK tt y.op with | .A=>true|_=>false)))||Bs all x y||(qI tt E x.op&&zZ tt E all y))&&qH all x y
  | some false=>(DF tt E all x&&xJ all y)&&qH all x y)
def tJ (o:Op) (ρ:Operand->V):List Nat:=match o with | .load _ x=>(ρ x).ids | .lookup _ x _ _=>(ρ x).ids | .convert _ _ x=>(ρ x).ids|_=>[]
def lA (o:Op) (ρ:Operand->V) (h:aq):List Nat:=
 match o with
 | .call c=>(match c.callee with | .value f=>(match ρ f with | .func _ first cap=>reach h 64 (V.fI (first++c.args.toList.map ρ++cap)) []|_=>[])|_=>[])
 | _=>[]
def Bt (o:Op) (ρ:Operand->V):List Nat:=match o with | .store _ x _=>(ρ x).ids|_=>[]
def xL (tt:aZ) (all:List Oper) (base:Nat) (o:Oper):Nat:=base+((all.takeWhile fun z=>z.dst != o.dst).filter (cq tt)).length
def gk (tt:aZ) (E:Env R) (base:Nat) (S:Option (Bool×List Nat)) (all:List Oper) (o:Oper) (ρ:Operand->V) (h:aq):Bool:=
 match S with
 | none=>true
 | some (false,A)=>
  match cK tt o.op with
  | .R => !DF tt E all o||(tJ o.op ρ).all fun i => !A.contains i
  | .W => !xJ all o||(Bt o.op ρ).all fun i=>A.contains i
  | _=>true
 | some (true,A)=>
  match cK tt o.op with
  | .R => !zZ tt E all o||(tJ o.op ρ).all fun i=>A.contains i
  | .C => !qI tt E o.op||iS E o.op||(Nat.ble (base+(all.filter (cq tt)).length) h.length&&(lA o.op ρ h).all (fun i=>xr i (xL tt all base o))&&A.all fun i=>xr i h.length&&!(lA o.op ρ h).contains i)
  | .W=>(!qJ all o||(Bt o.op ρ).all fun i=>A.contains i)&&(!tI all o||(Bt o.op ρ).all fun i => !A.contains i)
  | _=>true
def aoo (ops:List Oper) (fr:List V):List Nat:=ops.flatMap fun o=>match o.op with | .fieldAddr _ x _=>(ev fr x).ids | .load _ x=>(ev fr x).ids | .store _ x _=>(ev fr x).ids|_=>[]
def aac (tt:aZ) (t:Nat):List Oper->Nat->List Nat
 | [],_=>[]
 | z::l,id=>bif z.dst==some t then [id]else aac tt t l (bif cq tt z then id+1 else id)
def Ju (ops:List Oper) (fr:List V):Nat->Operand->List Nat
 | 0,_=>[]
 | n+1,.tmp t=>(match ops.find? fun z=>z.dst==some t with|none=>(ev fr (.tmp t)).ids|some z=>(match z.op with | .fieldAddr _ y _=>Ju ops fr n y | .nilCheck y=>Ju ops fr n y | .move y=>Ju ops fr n y|_=>[]))
 | _,x=>(ev fr x).ids
def Qt (tt:aZ) (n:Nat) (ops:List Oper) (fr:List V):List Nat:=ops.flatMap fun o=>
 bif qJ ops o then(match o.op with | .store _ (.tmp t) _=>Ju ops fr 9 (.tmp t)|_=>[])
 else bif Qs ops o then(match o.op with | .store _ (.tmp t) _=>aac tt t ops n|_=>[])else []
def Aa (tt:aZ) (E:Env R) (base:Nat) (A:Bool×List Nat) (all:List Oper):List Oper->Nat->St->(St->Option R)->Option R
 | [],_,st,k=>k st
 | o::rest,id,st,k=>
  let zY:=if cq tt o then id+1 else id
  oN all o st (fun st=>bif gk tt E base (some A) all o (ev st.fr) st.hp then mW tt E (sD tt (some A) base o) id o st fun st=>DC st fun st=>Aa tt E base A all rest zY st k else none)
   (fun st=>DC ⟨dd st.fr o.dst (.tuple []),st.hp⟩ fun st=>Aa tt E base A all rest zY st k)
def xM (tt:aZ) (E:Env R) (xK:Option Bool) (ops:List Oper):Bool:=
 let M:=Ga ops
 (jZ ops.length).all fun j=>(jZ j).all (fun i=>
  (M.getD j 0).testBit i||sE tt E xK ops (ops.getD i default) (ops.getD j default)) &&
  (Br (ops.getD j default)).all (fun i=>xr i j) &&
  kY (M.getD j 0) (Jt M (Br (ops.getD j default)))
def aad (tt:aZ) (ops:List Oper):Bool:=ops.any fun o=>
 match o.op with
 | .call c=>(match c.argTypes.toList with
  | t::_=>(match (tt.at t).d with | .slice e=>(tt.at e).Dw&&(match (tt.at e).ty with|some T=>T.zR|none=>false)|_=>false)
  | _=>false)
 | _=>false
def Jv (tt:aZ) (E:Env R) (ops:List Oper):Bool:=xM tt E none ops&&!(aad tt ops&&xM tt E (some true) ops)
theorem aop {tt:aZ} {E:Env R} {ops:List Oper} (h:Jv tt E ops=true):xM tt E none ops=true:=by
 unfold Jv at h;rw[bF]at h;exact h.1
def Qu (tt:aZ) (ops:List Oper) (fr:List V):List Nat:=
 aoo ops fr++bif aad tt ops then ops.flatMap fun o=>match o.op with | .move x=>(ev fr x).ids | .nilCheck x=>(ev fr x).ids|_=>[]else []
def DG (tt:aZ) (E:Env R) (ops:List Oper) (draw:Bool) (st:St) (k:St->Option R):Option R:=
 let n:=st.hp.length
 let cx:St:=⟨st.fr,st.hp++jx (ops.filter (cq tt)).length .free⟩
 if draw then(if Jv tt E ops then tH tt E (some n) ops ops n cx k else if xM tt E (some true) ops then Aa tt E n (true,Qu tt ops st.fr) ops ops n cx k else if xM tt E (some false) ops then Aa tt E n (false,Qt tt n ops st.fr) ops ops n cx k else none)
 else tH tt E none ops ops n cx k
def vM (log:List (Nat×V)) (t:Nat) (d:V):V:=
 Ja (motive:=fun _=>V) d (fun x _ ih=>cond (kY x.1 t) x.2 ih) log
def Bu {β:Type} (log:List (Nat×V)) (t:Nat) (d:V) (k:V->β):β:=
 Ja (motive:=fun _=>β) (k d) (fun x _ ih=>cond (kY x.1 t) (k x.2) ih) log
def Qv {β:Type} (log:List (Nat×V)) (fr:List V) (k:List V->β):β:=
 Ja (motive:=fun _=>Nat->(List V->β)->β) (fun _ k=>k []) (fun v _ ih i k=>Bu log i v fun v'=>ih (i+1) fun r=>k (v'::r)) fr 0 k
def evF (fr:List V) (log:List (Nat×V)) (x:Operand):V:=match x with | .tmp t=>vM log t (fr.getD t .undef)|x=>ev fr x
def DH (n:Nat) (log:List (Nat×V)) (dst:Option Nat) (v:V):List (Nat×V):=match dst with|some d=>bif xr d n then(d,v)::log else log|none=>log
def Qw (tt:aZ) (E:Env R) (drawn:Option Nat) (id:Nat) (o:Oper) (ρ:Operand->V) (hp:aq) (k:V->aq->Option R):Option R:=
 match cK tt o.op with
 | .P=>vI tt o.op ρ fun v=>k v hp
 | .R=>qG tt o.op ρ hp drawn fun v=>k v hp
 | .A=>sB tt o.op ρ fun ob mk=>k (mk id) (hp.set id ob)
 | .W=>bif !zX drawn o.op ρ id then none else j4 tt o.op ρ hp id fun v h=>k v h
 | .C=>match o.op with | .call c=>my tt E (drawn.isNone||!mw E o.op) c ρ hp fun v h=>k v h|_=>none
 | .F=>none
 | .X=>none
def Qx (all:List Oper) (o:Oper) (fr:List V) (log:List (Nat×V)) (run skip:List (Nat×V)->Option R):Option R:=
 match o.guard with
 | none=>run log
 | some (j,want)=>
  match ((all[j]?).bind (·.dst))with
  | none=>none
  | some d=>
   match vM log d (fr.getD d .undef)with
   | .bool b=>
    bif b then(if want then run ((d,.bool true)::log)else skip ((d,.bool true)::log))
    else(if want then skip ((d,.bool false)::log)else run ((d,.bool false)::log))
   | .tuple []=>skip log
   | _=>none
def Bv (tt:aZ) (E:Env R) (drawn:Option Nat) (all:List Oper) (n:Nat) (fr:List V):List Oper->Nat->List (Nat×V)->aq->(St->Option R)->Option R
 | [],_,log,hp,k=>Qv log fr fun fr=>F8 hp fun hp=>k ⟨fr,hp⟩
 | o::rest,id,log,hp,k=>
  let zY:=if cq tt o then id+1 else id
  Qx all o fr log (fun log=>Qw tt E drawn id o (evF fr log) hp fun v hp=>F8 hp fun hp=>Bv tt E drawn all n fr rest zY (DH n log o.dst v) hp k)
   (fun log=>Bv tt E drawn all n fr rest zY (DH n log o.dst (.tuple [])) hp k)
def regionF (tt:aZ) (E:Env R) (ops:List Oper) (draw:Bool) (st:St) (k:St->Option R):Option R:=
 let n:=st.hp.length
 let hp:=st.hp++jx (ops.filter (cq tt)).length .free
 if draw then(if Jv tt E ops then Bv tt E (some n) ops st.fr.length st.fr ops n [] hp k else if xM tt E (some true) ops then Aa tt E n (true,Qu tt ops st.fr) ops ops n ⟨st.fr,hp⟩ k else if xM tt E (some false) ops then Aa tt E n (false,Qt tt n ops st.fr) ops ops n ⟨st.fr,hp⟩ k else none)
 else Bv tt E none ops st.fr.length st.fr ops n [] hp k
inductive Ex where
 | normal|exit (id:Nat)|goto (l:Nat)|ret
structure Hint where
 live:List Nat
 own:List (Nat×Ty):=[]
 rows:List (Nat×Ty):=[]
 cells:List (Nat×Nat×Ty×Bool):=[]
 drop:List Nat:=[]
 out:List Nat:=[]
def xN (live drop:List Nat) (fr:List V):List V:=fr.zipIdx.map fun(v,i)=>if live.contains i then(if drop.contains i then Bn v else v)else .undef
def Bw:List (Nat×Ty)->St->St
 | [],st=>st
 | (d,T)::r,st=>
  match st.fr.getD d .undef with
  | .bk=>Bw r ⟨st.fr.set d (.sl T [] (.own st.hp.length)),st.hp++[.tok]⟩
  | .sl T' l .nil=>Bw r ⟨st.fr.set d (.sl T' l (.own st.hp.length)),st.hp++[.tok]⟩
  | _=>Bw r st
def Ab:List (Nat×Ty)->St->St
 | [],st=>st
 | (d,T)::r,st=>
  match st.fr.getD d .undef with
  | .bk=>Ab r ⟨st.fr.set d (.row st.hp.length 0),st.hp++[.row T []]⟩
  | _=>Ab r st
def nU (T:Ty) (b:Bool):aI:=bif b then .row T []else .tok
def pE (T:Ty) (b:Bool) (i:Nat):V:=bif b then .row i 0 else .sl T [] (.own i)
def xO:List (Nat×Nat×Ty×Bool)->St->St
 | [],st=>st
 | (i,o,T,b)::r,st=>
  match st.hp.at i with
  | .cells cs=>
   (match cs.getD o .undef with
    | .bk=>xO r ⟨st.fr,st.hp.set i (.cells (cs.set o (pE T b st.hp.length)))++[nU T b]⟩
    | _=>xO r st)
  | .bA v=>
   (match v with
    | .bk=>xO r ⟨st.fr,st.hp.set i (.bA (pE T b st.hp.length))++[nU T b]⟩
    | _=>xO r st)
  | _=>xO r st
def St.gc (m:Nat) (st:St):St:=
 let ord:=reach st.hp 256 (jZ m++V.fI st.fr) []
 ⟨V.iv (mu ord) st.fr,st.hp.pick ord⟩
def Jw (m:Nat) (h:Hint) (st:St):St:=match h.cells with | []=>st|_::_=>st.gc m
def norm (m:Nat) (h:Hint) (st:St):St:=(xO h.cells (Ab h.rows (Bw h.own (Jw m h ⟨xN h.live h.drop st.fr,st.hp⟩)))).gc m
def trim (m:Nat) (h:Hint) (st:St):St:=(⟨xN h.out [] st.fr,st.hp⟩:St).gc m
abbrev bX (R:Type):=St->(Ex->St->Option R)->Option R
def keyOf:Code->Nat
 | .region id _ _=>id
 | .seq a _=>keyOf a
 | .block _ b=>keyOf b
 | .loop b=>keyOf b
 | .cond _ a _=>keyOf a
 | .scope b=>keyOf b
 | _=>0
def Jx (body:bX R):Nat->bX R
 | 0,_,_=>none
 | n+1,st,K=>body st fun e cx=>match e with | .normal=>Jx body n cx K|e=>K e cx
def pF (body:bX R) (f:St->St):Nat->bX R
 | 0,_,_=>none
 | n+1,st,K=>body st fun e cx=>match e with | .normal=>pF body f n (f cx) K|e=>K e cx
def Bx (a b:Option R):Option R:=open Classical in if a=b then a else none
def gR (tt:aZ) (E:Env R) (L:Nat->Option (Hint×bX R)) (m:Nat):Code->bX R
 | .skip,st,K=>K .normal st
 | .region _ ops draw,st,K=>regionF tt E ops.toList draw st fun cx=>K .normal cx
 | .seq a b,st,K=>gR tt E L m a st fun e cx=>match e with | .normal=>gR tt E L m b cx K|e=>K e cx
 | .cond c a b,st,K=>match ev st.fr c with | .bool t=>bif t then gR tt E L m a st K else gR tt E L m b st K | .nS=>Bx (gR tt E L m a st K) (gR tt E L m b st K)|_=>none
 | .block id a,st,K=>gR tt E L m a st fun e cx=>match e with | .exit i=>if i=id then K .normal cx else K (.exit i) cx|e=>K e cx
 | .loop a,st,K=>
  match L (keyOf a)with
  | some (h,ls)=>ls (norm m h st) K
  | none=>Jx (gR tt E L m a) 70 st K
 | .exit id,st,K=>K (.exit id) st
 | .ret,st,K=>K .ret st
 | _,_,_=>none
def Ac (tt:aZ) (st:St):List ResultVar->(List V->Option R)->Option R
 | [],k=>k []
 | .tmp t::r,k=>Ac tt st r fun vs=>k (st.fr.getD t .undef::vs)
 | .cell a t::r,k=>
  match st.fr.getD a .undef with
  | .ptr i o=>
   (match st.hp.at i with
    | .cells cs=>jA tt t cs o fun v=>Ac tt st r fun vs=>k (v::vs)
    | _=>none)
  | _=>none
def oO (h:aq):List Nat->aq
 | []=>h
 | i::r=>match h.at i with | .row _ _=>oO (h.set i .dead) r|_=>oO h r
def Qy (tt:aZ):List Nat->List V->List V
 | t::ts,v::vs=>canon tt t v::Qy tt ts vs
 | _,_=>[]
def tK (h:aq) (m:Nat):List Nat:=(jZ m).filter fun i=>
 (match h.at i with | .row T _=>T.zR|_=>false)&&(jZ m).any fun j=>match h.at j with | .cells cs=>(V.fI cs).contains i|_=>false
def Gd (h:aq) (m:Nat) (ord:List Nat):List Nat:=
 bif(tK h m).isEmpty||!(ord.all fun i=>xr i h.length)then ord
 else ord.map (fun i=>bif(tK h m).contains i then h.length+i else i)++tK h m
def Jy (tt:aZ) (ts:List Nat) (m:Nat) (eQ:Bool) (vs:List V) (h:aq) (k:V->aq->Option R):Option R:=
 let ws:=if eQ then vs else Qy tt ts (V.zW h vs)
 let h:=if eQ then h else oO h (V.fI vs)
 let ord:=reach h 256 (jZ m++V.fI ws) []
 let ord:=bif eQ&&(V.fI ws).isEmpty then Gd h m ord else ord
 k (match V.iv (mu ord) ws with | [v]=>v|l=>.tuple l) (h.pick ord)
def nV (tt:aZ) (E:Env R) (L:Nat->Option (Hint×bX R)) (eQ:Bool) (fn:Func) (c:Code):Spec R:=
 fun args h k=>
  if 200<h.length then none else
  gR tt E L h.length c ⟨args++jx (fn.ntmps - args.length) .undef,h⟩ fun e st=>
   match e with
   | .normal | .ret=>Ac tt st fn.results.toList fun vs=>Jy tt fn.resultTypes.toList h.length eQ vs st.hp k
   | _=>none
end
end Go.ak
namespace Go.ak
open Go.RowKit
structure Ad where
 cells:Nat->Nat->Prop
instance:CoeFun Ad fun _=>Nat->Nat->Prop:=⟨Ad.cells⟩
structure bh where
 cf:Nat->Option Nat
 off:Nat->Nat
 
 ext:Ad
def aI.from_ (o:aI) (f:Nat):Option Nat:=
 match o with
 | .free=>none
 | .dead=>none
 | .tok=>some f
 | _=>some 0
def Used (h:aq) (i:Nat):Prop:=i<h.length/\h.at i≠.free
def fJ (h:aq) (c:bh) (b x:Nat):Prop:=∃i f,c.cf i=some b/\(h.at i).from_ (c.off i)=some f/\f<=x
def nW (h:aq) (c:bh) (b x:Nat):Prop:=¬fJ h c b x/\¬c.ext b x
def mx:Nat:=9223372036854775807
def By (T:Ty) (o:Nat) (e:TypeId):Prop:=T=.int .u8->o=0/\e=dL.u8
inductive ay (w:World) (h:aq) (c:bh):V->Value->Prop where
 | undef (v:Value):ay w h c .undef v
 | int {k:IntKind} {n:Int} (hn:k.has n):ay w h c (.int k n) (.int k n)
 | bool (b:Bool):ay w h c (.bool b) (.bool b)
 | str {s:ByteArray} (hl:s.size<=mx):ay w h c (.str s.data.toList) (.string s)
 | fp:ay w h c .fp (.pointer none)
 | ptr {i o:Nat} {v:Value} (hi:Used h i) (hv:∃b,v=.pointer (some ⟨b,o,none⟩)/\(h.at i≠.dead->c.cf i=some b)):ay w h c (.ptr i o) v
 | fg {cs:List V} {b o:Nat} (f:Nat->Value) (hc:∀j,j<cs.length->w.cell? ⟨b,o+j,none⟩=some (f j)/\nW h c b (o+j))
   (hr:∀(j:Nat) (v:V),cs[j]? = some v->ay w h c v (f j)):ay w h c (.fg cs) (.pointer (some ⟨b,o,none⟩))
 | bk:ay w h c .bk (.slice none 0 0)
 | sl {T:Ty} {l:List T.den} {t:Tok} {A:Option Addr} {cap:Nat} (f:Nat->Nat->Value) (cv:l.length<=cap) (bQ:cap<=mx)
   (hc:∀i j,i<l.length->j<T.sz->∃b o,A=some ⟨b,o,none⟩/\w.cell? ⟨b,o+i*T.sz+j,none⟩=some (f i j)/\nW h c b (o+i*T.sz+j))
   (hr:∀(i j:Nat) (x:T.den) (v:V),l[i]? = some x->(T.cells x)[j]? = some v->ay w h c v (f i j))
   (iw:t=.nil->A=none/\cap=0)
   (cQ:∀i,t=.own i->Used h i/\(h.at i=.tok ->
    (c.cf i=none/\A=none/\cap=0)\/∃b o arr e fz,c.cf i=some b/\A=some ⟨b,o,none⟩/\c.off i=o+l.length*T.sz /\
     w.heap[b]? = some (xu arr e fz)/\o+cap*T.sz<=arr.size/\By T o e)):ay w h c (.sl T l t) (.slice A l.length cap)
 | jg {n sz:Nat} {cs:List V} {A:Option Addr} (hn:cs.length=n*sz) (bQ:n<=mx) (f:Nat->Value)
   (hc:∀j,j<cs.length->∃b o,A=some ⟨b,o,none⟩/\w.cell? ⟨b,o+j,none⟩=some (f j)/\nW h c b (o+j))
   (hr:∀(j:Nat) (v:V),cs[j]? = some v->ay w h c v (f j)):ay w h c (.jg n cs) (.slice A n n)
 | row {i n:Nat} {v:Value} (hi:Used h i) (hn:n<=mx) (hv:∃A cap,v=.slice A n cap/\(n<=cap/\cap<=mx/\(0<n->∃a,A=some a))/\∀T l,h.at i=.row T l->n=l.length/\n<=cap/\cap<=mx /\
    ((c.cf i=none/\A=none/\cap=0)\/∃b arr e fz,c.cf i=some b/\A=some ⟨b,c.off i,none⟩/\w.heap[b]? = some (xu arr e fz)/\c.off i+cap*T.sz<=arr.size)) :
   ay w h c (.row i n) v
 | j0 {i z q n:Nat} {v:Value} (hi:Used h i) (hn:n<=mx) (hv:∃A cap,v=.slice A n cap/\(n<=cap/\cap<=mx/\(0<n->∃a,A=some a))/\∀T l,h.at i=.row T l->z=T.sz->q<=l.length->l.length<=q+cap /\
    (q<l.length->∃b arr e fz,c.cf i=some b/\A=some ⟨b,c.off i+q*T.sz,none⟩/\w.heap[b]? = some (xu arr e fz)/\c.off i+(q+cap)*T.sz<=arr.size)):ay w h c (.j0 i z q n) v
 | fH {i n j o:Nat} {v:Value} (hi:Used h i) (hv:∃a,v=.pointer (some a)/\∀T l,h.at i=.row T l->n=T.sz->j<l.length->∃b,c.cf i=some b/\a=⟨b,c.off i+j*T.sz+o,none⟩) :
   ay w h c (.fH i n j o) v
 | func {f:Nat} {a b:List V} {x y:Array Value} (ha:a.length=x.size) (hb:b.length=y.size)
   (DI:∀(j:Nat) (v:V) (d:Value),a[j]? = some v->x[j]? = some d->ay w h c v d) (DJ:∀(j:Nat) (v:V) (d:Value),b[j]? = some v->y[j]? = some d->ay w h c v d) :
   ay w h c (.func f a b) (.func (.func f) x y)
 | fy:ay w h c .fy .nilFunc
 | agg {cs:List V} {x:Array Value} (hl:cs.length=x.size) (hr:∀(j:Nat) (v:V) (d:Value),cs[j]? = some v->x[j]? = some d->ay w h c v d):ay w h c (.agg cs) (.agg x)
 | tuple {cs:List V} {x:Array Value} (hl:cs.length=x.size) (hr:∀(j:Nat) (v:V) (d:Value),cs[j]? = some v->x[j]? = some d->ay w h c v d):ay w h c (.tuple cs) (.tuple x)
 | map {i:Nat} {v:Value} (hi:Used h i) (hv:∃b,v=.map (some b)/\(h.at i≠.dead->c.cf i=some b)):ay w h c (.map i) v
 | kB:ay w h c .kB (.map none)
 | eR:ay w h c .eR .nilIface
 | iface (t:TypeId) (v:Value):ay w h c .iface (.iface t v)
 | gh {t:TypeId} {k:IntKind} {n:Int} (hn:k.has n):ay w h c (.gh t k n) (.iface t (.int k n))
 | nS (b:Bool):ay w h c .nS (.bool b)
def aQ (w:World) (h:aq) (c:bh) (cs:List V) (ds:List Value):Prop:=
 cs.length=ds.length/\∀(j:Nat) (v:V) (d:Value),cs[j]? = some v->ds[j]? = some d->ay w h c v d
def gl (w:World) (h:aq) (c:bh) (i:Nat):aI->Prop
 | .free=>True
 | .dead=>True
 | .cells cs=>∃b arr e,c.cf i=some b/\w.heap[b]? = some (xu arr e (0,0))/\aQ w h c cs arr.toList
 | .row T l=>(c.cf i=none/\l=[])\/∃b arr e fz,c.cf i=some b/\w.heap[b]? = some (xu arr e fz)/\c.off i+l.length*T.sz<=arr.size /\
   (∀x,(x<arr.size\/T.zR=true)->w.frozen? ⟨b,x,none⟩=false)/\∀(n j:Nat) (x:T.den) (v:V),l[n]? = some x->(T.cells x)[j]? = some v->∃d,arr[c.off i+n*T.sz+j]? = some d/\ay w h c v d
 | .tok=>c.cf i=none\/∃b arr e fz,c.cf i=some b/\w.heap[b]? = some (xu arr e fz)/\c.off i<=arr.size/\(fz.1=fz.2\/fz.2<=c.off i)
 | .bA v=>∃b p d,c.cf i=some b/\w.heap[b]? = some (xu #[p,d] dL.bA (0,0))/\(p=.pointer none\/p=.pointer (some ⟨b,0,none⟩))/\ay w h c v d
 | .iter s pos=>∃b bs,c.cf i=some b/\w.heap[b]? = some (.stringIter bs pos)/\bs.data.toList=s/\bs.size<=mx
 | .gi K T l=>∃b es clock,c.cf i=some b/\w.heap[b]? = some (.map es clock)/\Jq K=true/\T.one=true/\es.size=l.length /\
   ∀(j:Nat) (x:K.den×T.den) (e:MapEntry),l[j]? = some x->es[j]? = some e->ay w h c (kC K x.1) e.key/\ay w h c (kC T x.2) e.val
def aI.live:aI->Prop
 | .free=>False
 | .dead=>False
 | _=>True
def Laid (w:World) (h:aq) (c:bh):Prop:=dL.Du w/\∀b,dL.blocks b->b<w.heap.size/\∀x,¬fJ h c b x
structure WF (w:World) (h:aq) (c:bh):Prop where
 hM:∀b x,fJ h c b x->¬c.ext b x
 hP:∀b x,c.ext b x->b<w.heap.size
 obj:∀i,i<h.length->gl w h c i (h.at i)
 inj:∀i j b,(h.at i).live->(h.at j).live->c.cf i=some b->c.cf j=some b->i=j
 lay:Laid w h c
def aI.aW:aI->aI->Prop
 | .cells cs,.cells ds=>cs.length=ds.length
 | .row T l,.row U m=>T=U/\l.length=m.length
 | .tok,.tok=>True
 | .iter _ _,.iter _ _=>True
 | .bA _,.bA _=>True
 | .gi K T _,.gi K' U _=>K=K'/\T=U
 | _,_=>False
structure Ext (w:World) (h:aq) (c:bh) (w':World) (h':aq) (c':bh):Prop where
 os:w'.os=w.os
 tape:w'.tape=w.tape
 output:w'.output=w.output
 size:w.heap.size<=w'.heap.size
 used:∀i,Used h i->Used h' i
 same:∀i,Used h i->h'.at i≠.dead->(h.at i).aW (h'.at i)/\c'.cf i=c.cf i/\c'.off i=c.off i
 cell:∀b x,b<w.heap.size->¬fJ h c b x->w'.cell? ⟨b,x,none⟩=w.cell? ⟨b,x,none⟩
 block:∀b,b<w.heap.size->(∀x,¬fJ h c b x)->w'.heap[b]? = w.heap[b]?
 gI:∀b x,b<w.heap.size->fJ h' c' b x->fJ h c b x
 ext:c'.ext=c.ext
 arr:∀(b:Nat) (arr:Array Value) (e:TypeId) (fz:Nat×Nat),w.heap[b]? = some (xu arr e fz)->∃(lQ:Array Value) (fA:Nat×Nat),w'.heap[b]? = some (xu lQ e fA)/\lQ.size=arr.size
theorem Ext.refl (w:World) (h:aq) (c:bh):Ext w h c w h c where
 os:=rfl
 tape:=rfl
 output:=rfl
 size:=cD _
 used:=fun _ hi=>hi
 same:=fun i hi hd=>⟨by have h2:=hi.2; revert hd h2; cases h.at i<;>simp[aI.aW],rfl,rfl⟩
 cell:=fun _ _ _ _=>rfl
 block:=fun _ _ _=>rfl
 gI:=fun _ _ _ ho=>ho
 ext:=rfl
 arr:=fun b arr e fz hb=>⟨arr,fz,hb,rfl⟩
theorem aI.DK {o o':aI} (h:o.aW o'):o≠.dead/\o'≠.dead:=by
 cases o<;>cases o'<;>simp_all [aI.aW]
theorem aI.aoq {a b c:aI} (h:a.aW b) (k:b.aW c):a.aW c:=by
 cases a<;>cases b<;>cases c<;>simp_all [aI.aW]
theorem Ext.trans {w w1 w2:World} {h h1 h2:aq} {c c1 c2:bh} (a:Ext w h c w1 h1 c1) (b:Ext w1 h1 c1 w2 h2 c2):Ext w h c w2 h2 c2 where
 os:=b.os.trans a.os
 tape:=b.tape.trans a.tape
 output:=b.output.trans a.output
 size:=pw a.size b.size
 used:=fun i hi=>b.used i (a.used i hi)
 same:=fun i hi hd=>by
  obtain ⟨s2,e2,f2⟩:=b.same i (a.used i hi) hd;obtain ⟨s1,e1,f1⟩:=a.same i hi (aI.DK s2).1;exact⟨aI.aoq s1 s2,e2.trans e1,f2.trans f1⟩
 cell:=fun x y hx ho=>by
  rw[b.cell x y (xw hx a.size) (fun o=>ho (a.gI x y hx o)),a.cell x y hx ho]
 block:=fun x hx ho=>by
  rw[b.block x (xw hx a.size) (fun y o=>ho y (a.gI x y hx o)),a.block x hx ho]
 gI:=fun x y hx o=>a.gI x y hx (b.gI x y (xw hx a.size) o)
 ext:=b.ext.trans a.ext
 arr:=fun x arr e fz hx=>by
  obtain ⟨a1,f1,h1,s1⟩:=a.arr x arr e fz hx;obtain ⟨a2,f2,h2,s2⟩:=b.arr x a1 e f1 h1;exact⟨a2,f2,h2,s2.trans s1⟩
theorem lt_of_cell {w:World} {b x:Nat} {v:Value} (h:w.cell? ⟨b,x,none⟩=some v):b<w.heap.size:=
 World.block_lt_of_cell? _ _ h
theorem aor {o o':aI} (h:o.aW o') (e:o'=.tok):o=.tok:=by subst e; cases o<;>simp_all [aI.aW]
theorem Qz {o:aI} {T:Ty} {l:List T.den} (h:o.aW (.row T l)):∃m:List T.den,o=.row T m/\m.length=l.length:=by
 cases o with
 | row U m=>obtain ⟨rfl,e⟩:=h; exact⟨m,rfl,e⟩
 | _=>simp[aI.aW]at h
section
variable {w w':World} {h h':aq} {c c':bh}
theorem Ext.QA (x:Ext w h c w' h' c') {b o:Nat} {v:Value} (hc:w.cell? ⟨b,o,none⟩=some v) (ho:nW h c b o) :
  w'.cell? ⟨b,o,none⟩=some v/\nW h' c' b o:=
 ⟨(x.cell b o (lt_of_cell hc) ho.1).trans hc,fun k=>ho.1 (x.gI b o (lt_of_cell hc) k),by rw[x.ext]; exact ho.2⟩
theorem ay.mono (x:Ext w h c w' h' c') {v:V} {d:Value} (r:ay w h c v d):ay w' h' c' v d:=by
 induction r with
 | undef v=>exact .undef v
 | int hn=>exact .int hn
 | bool b=>exact .bool b
 | str hl=>exact .str hl
 | fp=>exact .fp
 | bk=>exact .bk
 | fy=>exact .fy
 | kB=>exact .kB
 | eR=>exact .eR
 | iface t v=>exact .iface t v
 | gh hn=>exact .gh hn
 | nS b=>exact .nS b
 | ptr hi hv=>
  obtain ⟨b,hv,hb⟩:=hv;refine .ptr (x.used _ hi) ⟨b,hv,fun hd => ?_⟩;obtain ⟨s,e,_⟩:=x.same _ hi hd;rw[e];exact hb (aI.DK s).1
 | map hi hv=>
  obtain ⟨b,hv,hb⟩:=hv;refine .map (x.used _ hi) ⟨b,hv,fun hd => ?_⟩;obtain ⟨s,e,_⟩:=x.same _ hi hd;rw[e];exact hb (aI.DK s).1
 | fg f hc _ ih=>exact .fg f (fun j hj=>x.QA (hc j hj).1 (hc j hj).2) ih
 | sl f cv bQ hc _ iw cQ ih=>
  refine .sl f cv bQ (fun i j hi hj => ?_) ih iw (fun i ht => ?_)
  ·obtain ⟨b,o,hA,h1,h2⟩:=hc i j hi hj;exact⟨b,o,hA,x.QA h1 h2⟩
  ·obtain ⟨hi,ho⟩:=cQ i ht;refine⟨x.used _ hi,fun qK => ?_⟩;obtain ⟨s,e,eo⟩:=x.same i hi (by rw[qK]; simp);rw[e,eo];rcases ho (aor s qK)with hn|⟨b,o,arr,el,fz,h1,h2,h3,h4,h5⟩
   ·exact .inl hn
   ·obtain ⟨lQ,fA,Ge,hs⟩:=x.arr b arr el fz h4;exact .inr ⟨b,o,lQ,el,fA,h1,h2,h3,Ge,by rw[hs]; exact h5.1,h5.2⟩
 | jg hn bQ f hc _ ih=>
  refine .jg hn bQ f (fun j hj => ?_) ih;obtain ⟨b,o,hA,h1,h2⟩:=hc j hj;exact⟨b,o,hA,x.QA h1 h2⟩
 | row hi hn hv=>
  obtain ⟨A,cap,qL,hA,hv⟩:=hv;refine .row (x.used _ hi) hn ⟨A,cap,qL,hA,fun T l he => ?_⟩;obtain ⟨s,e,eo⟩:=x.same _ hi (by rw[he]; simp);rw[he]at s;obtain ⟨m,hm,hl⟩:=Qz s;obtain ⟨mz,h1,h2,h3⟩:=hv T m hm;refine⟨by rw[mz,hl],h1,h2,?_⟩;rw[e,eo];rcases h3 with h3|⟨b,arr,el,fz,g1,g2,g3,g4⟩
  ·exact .inl h3
  ·obtain ⟨lQ,fA,Ge,hs⟩:=x.arr b arr el fz g3;exact .inr ⟨b,lQ,el,fA,g1,g2,Ge,by rw[hs]; exact g4⟩
 | j0 hi hn hv=>
  obtain ⟨A,cap,qL,hA,hv⟩:=hv;refine .j0 (x.used _ hi) hn ⟨A,cap,qL,hA,fun T l he hz hq => ?_⟩;obtain ⟨s,e,eo⟩:=x.same _ hi (by rw[he]; simp);rw[he]at s;obtain ⟨m,hm,hl⟩:=Qz s;rw[e,eo,<-hl];obtain ⟨g1,g2⟩:=hv T m hm hz (by omega);refine⟨g1,fun aX => ?_⟩;obtain ⟨b,arr,el,fz,k1,k2,k3,k4⟩:=g2 aX;obtain ⟨lQ,fA,Ge,hs⟩:=x.arr b arr el fz k3;exact⟨b,lQ,el,fA,k1,k2,Ge,by rw[hs]; exact k4⟩
 | fH hi hv=>
  obtain ⟨a,ha,hv⟩:=hv;refine .fH (x.used _ hi) ⟨a,ha,fun T l he hn hj => ?_⟩;obtain ⟨s,e,eo⟩:=x.same _ hi (by rw[he]; simp);rw[he]at s;obtain ⟨m,hm,hl⟩:=Qz s;rw[e,eo];exact hv T m hm hn (by rw[hl]; exact hj)
 | func ha hb _ _ Gf Gg=>exact .func ha hb Gf Gg
 | agg hl _ ih=>exact .agg hl ih
 | tuple hl _ ih=>exact .tuple hl ih
theorem aQ.mono (x:Ext w h c w' h' c') {cs:List V} {ds:List Value} (r:aQ w h c cs ds):aQ w' h' c' cs ds:=
 ⟨r.1,fun j v d hv hd=>(r.2 j v d hv hd).mono x⟩
theorem aQ.nil:aQ w h c [] []:=⟨rfl,fun j v d hv=>by simp at hv⟩
theorem aQ.cons {v:V} {d:Value} {cs:List V} {ds:List Value} (r:ay w h c v d) (rs:aQ w h c cs ds):aQ w h c (v::cs) (d::ds):=by
 refine⟨by simp[rs.1],fun j u e hu he => ?_⟩;cases j with
 | zero=>simp at hu he; subst hu; subst he; exact r
 | succ j=>simp at hu he; exact rs.2 j u e hu he
theorem aQ.head {v:V} {d:Value} {cs:List V} {ds:List Value} (r:aQ w h c (v::cs) (d::ds)):ay w h c v d:=r.2 0 v d rfl rfl
theorem aQ.tail {v:V} {d:Value} {cs:List V} {ds:List Value} (r:aQ w h c (v::cs) (d::ds)):aQ w h c cs ds:=
 ⟨by simpa using r.1,fun j u e hu he=>r.2 (j+1) u e (by simpa using hu) (by simpa using he)⟩
theorem aQ.append {a b:List V} {x y:List Value} (r:aQ w h c a x) (s:aQ w h c b y):aQ w h c (a++b) (x++y):=by
 refine⟨by simp[r.1,s.1],fun j u e hu he => ?_⟩;have hl:=r.1;by_cases hj:j<a.length
 ·rw[List.getElem?_append_left hj]at hu;rw[List.getElem?_append_left (by omega)]at he;exact r.2 j u e hu he
 ·rw[List.getElem?_append_right (by omega)]at hu;rw[List.getElem?_append_right (by omega),<-hl]at he;exact s.2 _ u e hu he
theorem aQ.take {a:List V} {x:List Value} (r:aQ w h c a x) (n:Nat):aQ w h c (a.take n) (x.take n):=by
 refine⟨by simp[r.1],fun j u e hu he => ?_⟩;rw[List.getElem?_take]at hu he;split at hu<;>simp_all;exact r.2 j u e hu he
theorem aQ.drop {a:List V} {x:List Value} (r:aQ w h c a x) (n:Nat):aQ w h c (a.drop n) (x.drop n):=by
 refine⟨by simp[r.1],fun j u e hu he => ?_⟩;rw[List.getElem?_drop]at hu he;exact r.2 _ u e hu he
theorem aQ.map {α:Type} {f:α->V} {g:α->Value} (l:List α) (r:∀x∈l,ay w h c (f x) (g x)):aQ w h c (l.map f) (l.map g):=by
 induction l with
 | nil=>exact .nil
 | cons x l ih=>exact .cons (r x (by simp)) (ih fun y hy=>r y (by simp[hy]))
theorem aQ.getD {a:List V} {x:List Value} (r:aQ w h c a x) (j:Nat) (d:Value):ay w h c (a.getD j .undef) (x.getD j d):=by
 by_cases hj:j<a.length
 ·have hx:j<x.length:=by have:=r.1; omega
  exact r.2 j _ _ (by simp[ca,List.getElem?_eq_getElem hj]) (by simp[ca,List.getElem?_eq_getElem hx])
 ·have:a.getD j .undef=.undef:=by simp[ca,List.getElem?_eq_none (FL hj)]
  rw[this]; exact .undef _
theorem aQ.set {a:List V} {x:List Value} (r:aQ w h c a x) (j:Nat) {v:V} {d:Value} (rv:ay w h c v d):aQ w h c (a.set j v) (x.set j d):=by
 refine⟨by simp[r.1],fun i u e hu he => ?_⟩;rw[List.getElem?_set]at hu he;by_cases cG:j=i
 ·simp only[cG,if_true]at hu he;split at hu<;>split at he<;>simp_all
 ·simp only[cG,if_false]at hu he;exact r.2 i u e hu he
theorem aQ.aos (n:Nat) (d:Value):aQ w h c (jx n .undef) (jx n d):=by
 refine⟨by simp,fun j u e hu _ => ?_⟩;rw[List.getElem?_replicate]at hu;split at hu<;>simp_all;subst hu; exact .undef _
end
end Go.ak
end
