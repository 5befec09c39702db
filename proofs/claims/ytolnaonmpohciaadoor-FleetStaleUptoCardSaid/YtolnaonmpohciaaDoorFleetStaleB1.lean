/-
  FleetStale: for every input whose bulk is at most 1048576 the law returns true, and each argument reads behind the call as it read before; part 1 of 9 of the proof: an interpreter of the model's code over typed data, proved sound; the functions that the law reaches, printed as Lean functions and tied; the plain law. Own texts laid one behind the other.
-/
import Derived.JoinedCond
import Derived.Calls
import Derived.Test.YtolnaonmpohciaaDoorProg
import Derived.Shelf.Unicode.DecodeSlow
import Derived.Orders
import Derived.KernelRfl
import Derived.Below
set_option linter.unusedSimpArgs false
set_option linter.unnecessarySimpa false
set_option linter.unusedVariables false
set_option linter.unusedSectionVars false
namespace Go.Yard
open Go

theorem joined_of {P : Program} {f : FuncId} {fn : Func} {s : ChangeSpec} {c : OpenClaim} (h1 : c.wf (OpenSpec.ofChange s) = true) (h2 : laidOutB P = true) (h3 : mapsRowed P = true)
    (h4 : fn.params.all (P.readableRec ·) = true) (h5 : namedTie P c.named s.vars = true) (h6 : (c.stops == []) = true) (h7 : (P.stops == []) = true) (h8 : (c.knobs == []) = true) (h9 : (P.stopKnobs == []) = true)
    (h10 : (c.inPlace == P.inPlace f) = true) (h11 : (c.unfollowed == P.unfollowed f) = true) (h12 : (c.recurses == P.recurses f) = true) (h13 : (c.named == P.varsNamed f) = true)
    (h14 : (c.maps == (fn.params.toList ++ s.plain.varTypes P).any (P.mapsRec ·)) = true) (h15 : (c.ifaces == (fn.params.toList ++ s.plain.varTypes P).any (P.ifacesRec ·)) = true) (h16 : (c.mapsOut == P.mapsAmong fn.resultTypes.toList) = true)
    (h17 : (c.loops == (fn.params.toList ++ s.plain.varTypes P).any (P.loopsFrom ·)) = true) (h18 : (c.wideKeys == (fn.params.toList ++ s.plain.varTypes P ++ fn.resultTypes.toList).any (P.wideKeysFrom ·)) = true)
    (h19 : s.vars.all (P.varReadable ·) = true) (h20 : fn.resultTypes.all (fun t => P.readableRec t && decide (t < P.types.size)) = true) (h21 : (c.ifacesOut == fn.resultTypes.toList.any (P.ifacesRec ·)) = true) (h22 : (c.loopsOut == fn.resultTypes.toList.any (P.loopsFrom ·)) = true)
    (h23 : (c.plainKeys == P.plainKeys) = true) (h24 : c.shortTexts.isNone = true) (h25 : P.stopsHeard = true) (h26 : P.mayEnter = true) (h27 : (c.lifted == P.liftsFinal) = true) (h28 : (P.make == some c.make) = true)
    (h29 : (c.kinds == (if c.domain.isEmpty then [] else fn.params.toList.map fun t => match P.underlying t with | some (.int k) => some k | _ => none)) = true) (h30 : (c.pinned == c.pinnedBy) = true)
    (h31 : (c.veiled == (fn.params.toList ++ s.plain.varTypes P ++ fn.resultTypes.toList).any (P.veiledRec ·)) = true) (h32 : c.veiledFits P fn.params.toList (fn.params.toList ++ s.plain.varTypes P ++ fn.resultTypes.toList) = true) : joinedFacts P f fn s c = true := by
  unfold joinedFacts
  simp only [Bool.and_eq_true]
  exact ⟨⟨⟨⟨⟨⟨⟨⟨⟨⟨⟨⟨⟨⟨⟨⟨⟨⟨⟨⟨⟨⟨⟨⟨⟨⟨⟨⟨⟨⟨⟨h1, h2⟩, h3⟩, h4⟩, h5⟩, h6⟩, h7⟩, h8⟩, h9⟩, h10⟩, h11⟩, h12⟩, h13⟩, h14⟩, h15⟩, h16⟩, h17⟩, h18⟩, h19⟩, h20⟩, h21⟩, h22⟩, h23⟩, h24⟩, h25⟩, h26⟩, h27⟩, h28⟩, h29⟩, h30⟩, h31⟩, h32⟩
end Go.Yard

namespace Go.Yard

structure LayT where
  /-- the types of bytes, and of strings.Builder -/
  u8 : Nat
  bld : Nat
  /-- functions whose specs leave the objects as they are -/
  soft : Nat → Bool
  blocks : Nat → Prop
  says : World → Prop
  keep : ∀ w w' : World, (∀ b, blocks b → w'.heap[b]? = w.heap[b]?) → says w → says w'

def LayT.none : LayT := ⟨5, 1000000, fun _ => false, fun _ => False, fun _ => True, fun _ _ _ h => h⟩
end Go.Yard

namespace Go.Yard
open Go.Proofs

def laySays (w : World) : Prop := Go.Lib.Utf8Tabs 0 1 w ∧ True

theorem laySays_keep (w w' : World) (h : ∀ b, b < 2 → w'.heap[b]? = w.heap[b]?) (k : laySays w) : laySays w' := by
  have hc : ∀ b x, b < 2 → w'.cell? ⟨b, x, none⟩ = w.cell? ⟨b, x, none⟩ := fun b x hb => by simp only [World.cell?, h b hb]
  obtain ⟨⟨k1, k2⟩, _⟩ := k
  exact ⟨⟨fun c hc' => by rw [hc _ _ (by omega)]; exact k1 c hc', fun i hi => by rw [hc _ _ (by omega), hc _ _ (by omega)]; exact k2 i hi⟩, trivial⟩

def lay0 : LayT := ⟨5, 1000000, fun _ => false, fun b => b < 2, laySays, laySays_keep⟩
end Go.Yard

namespace Go.Yard

abbrev Str := List UInt8

structure Dcm where
  mant : Int
  exp : Int

def Dcm.z : Dcm := ⟨0, 0⟩

structure Json where
  kind : Int
  num : Dcm
  text : Str
  names : List Str
  items : List Json

def Json.z : Json := ⟨0, Dcm.z, [], [], []⟩

structure Raw where
  kind : Int
  mant : Int
  exp : Int
  text : List Int
  items : List Raw

def Raw.z : Raw := ⟨0, 0, 0, [], []⟩

structure Raw3 where
  kind : Int
  mant : Int
  exp : Int
  text : List Int

def Raw3.z : Raw3 := ⟨0, 0, 0, []⟩

structure Fld where
  name : Str
  kind : Int
  low : Int
  high : Int
  free : Bool

def Fld.z : Fld := ⟨[], 0, 0, 0, false⟩

structure Mail where
  topic : Str
  data : Str
  bent : Bool

def Mail.z : Mail := ⟨[], [], false⟩

structure Token where
  kind : Int
  text : Str
  num : Dcm
  at_ : Int

def Token.z : Token := ⟨0, [], Dcm.z, 0⟩

structure Stop where
  node : Int
  seq : Int
  released : Bool

def Stop.z : Stop := ⟨0, 0, false⟩

structure Way where
  edge : Int
  seq : Int
  released : Bool

def Way.z : Way := ⟨0, 0, false⟩

structure Order where
  header : Int
  vehicle : Str
  order : Int
  update : Int
  nodes : List Stop
  edges : List Way

def Order.z : Order := ⟨0, [], 0, 0, [], []⟩

structure Edge where
  src : Int
  dst : Int
  cost : Int

def Edge.z : Edge := ⟨0, 0, 0⟩

structure Layout where
  nodes : Int
  edges : List Edge

def Layout.z : Layout := ⟨0, []⟩

structure Topic where
  maker : Str
  serial : Str
  kind : Str

def Topic.z : Topic := ⟨[], [], []⟩

structure State where
  header : Int
  boot : Int
  vehicle : Str
  order : Int
  update : Int
  live : Bool
  node : Int
  seq : Int
  driving : Bool
  accepted : Int

def State.z : State := ⟨0, 0, [], 0, 0, false, 0, 0, false, 0⟩

structure Ctl where
  vehicle : Str
  header : Int
  order : Int
  update : Int
  boot : Int
  seen : Int
  path : List Int
  seq : Int
  open_ : Bool
  rel : Int
  wait : Bool
  pending : Order

def Ctl.z : Ctl := ⟨[], 0, 0, 0, 0, 0, [], 0, false, 0, false, Order.z⟩

structure Op17 where
  kind : Int
  i : Int
  k : Int
  by_ : Int
  data : Str

def Op17.z : Op17 := ⟨0, 0, 0, 0, []⟩

structure Raw13 where
  header : Int
  order : Int
  update : Int
  seq : Int
  from_ : Int
  released : Int
  turns : List Int

def Raw13.z : Raw13 := ⟨0, 0, 0, 0, 0, 0, []⟩

structure Ev16 where
  kind : Int
  o : Raw13
  data : Str

def Ev16.z : Ev16 := ⟨0, Raw13.z, []⟩

structure Ev18 where
  kind : Int
  n : Int
  turns : List Int

def Ev18.z : Ev18 := ⟨0, 0, []⟩

structure Arr3 where
  a : Int
  b : Int
  c : Int

def Arr3.z : Arr3 := ⟨0, 0, 0⟩

structure Arr2 where
  a : Int
  b : Int

def Arr2.z : Arr2 := ⟨0, 0⟩

structure Dec2 where
  a : Dcm
  b : Dcm

def Dec2.z : Dec2 := ⟨Dcm.z, Dcm.z⟩

structure Post where
  name : Str
  home : Int

def Post.z : Post := ⟨[], 0⟩

structure Job where
  id : Int
  target : Int
  state : Int
  vehicle : Int

def Job.z : Job := ⟨0, 0, 0, 0⟩

structure Record where
  kind : Int
  nums : List Int
  text : Str

def Record.z : Record := ⟨0, [], []⟩

inductive Ty where
  | int (k : IntKind) | bool | str
  | dcm | json | raw | raw3 | fld | mail | token | stop | way | order | edge | layout | topic | state | ctl | op17 | raw13 | ev16 | ev18 | arr3 | arr2 | dec2 | post | job | record
  deriving DecidableEq

def Ty.den : Ty → Type
  | .int _ => Int | .bool => Bool | .str => Str
  | .dcm => Dcm
  | .json => Json
  | .raw => Raw
  | .raw3 => Raw3
  | .fld => Fld
  | .mail => Mail
  | .token => Token
  | .stop => Stop
  | .way => Way
  | .order => Order
  | .edge => Edge
  | .layout => Layout
  | .topic => Topic
  | .state => State
  | .ctl => Ctl
  | .op17 => Op17
  | .raw13 => Raw13
  | .ev16 => Ev16
  | .ev18 => Ev18
  | .arr3 => Arr3
  | .arr2 => Arr2
  | .dec2 => Dec2
  | .post => Post
  | .job => Job
  | .record => Record

def Ty.dflt : (T : Ty) → T.den
  | .int _ => (0 : Int) | .bool => false | .str => ([] : Str)
  | .dcm => Dcm.z
  | .json => Json.z
  | .raw => Raw.z
  | .raw3 => Raw3.z
  | .fld => Fld.z
  | .mail => Mail.z
  | .token => Token.z
  | .stop => Stop.z
  | .way => Way.z
  | .order => Order.z
  | .edge => Edge.z
  | .layout => Layout.z
  | .topic => Topic.z
  | .state => State.z
  | .ctl => Ctl.z
  | .op17 => Op17.z
  | .raw13 => Raw13.z
  | .ev16 => Ev16.z
  | .ev18 => Ev18.z
  | .arr3 => Arr3.z
  | .arr2 => Arr2.z
  | .dec2 => Dec2.z
  | .post => Post.z
  | .job => Job.z
  | .record => Record.z

def Ty.sz : Ty → Nat
  | .int _ => 1 | .bool => 1 | .str => 1
  | .dcm => 2
  | .json => 6
  | .raw => 5
  | .raw3 => 4
  | .fld => 5
  | .mail => 3
  | .token => 5
  | .stop => 3
  | .way => 3
  | .order => 6
  | .edge => 3
  | .layout => 2
  | .topic => 3
  | .state => 10
  | .ctl => 17
  | .op17 => 5
  | .raw13 => 7
  | .ev16 => 9
  | .ev18 => 3
  | .arr3 => 3
  | .arr2 => 2
  | .dec2 => 4
  | .post => 2
  | .job => 4
  | .record => 3


inductive Tok where
  | no | nil | own (id : Nat)

inductive V where
  | undef
  | int (k : IntKind) (n : Int)
  | bool (b : Bool)
  | str (s : Str)
  | nilptr
  | ptr (id off : Nat)
  | iptr (cs : List V)
  | nilsl
  | sl (T : Ty) (l : List T.den) (t : Tok)
  | vsl (n : Nat) (cs : List V)
  | row (id : Nat) (n : Nat)
  | rview (id sz lo n : Nat)
  | rptr (id : Nat) (sz : Nat) (i : Nat) (off : Nat)
  | func (f : Nat) (first cap : List V)
  | nilfunc
  | agg (cs : List V)
  | tuple (vs : List V)
  | map (id : Nat)
  | nilmap
  | niliface
  | iface
  | ifi (t : Nat) (k : IntKind) (n : Int)
  | anyb

def V.flat : V → List V
  | .agg cs => cs
  | v => [v]

def V.one : V → Bool
  | .undef => false
  | .agg _ => false
  | .tuple _ => false
  | _ => true

def flatK (v : V) : Option (List V) :=
  match v with
  | .agg cs => if cs.all V.one then some cs else none
  | v => if v.one then some [v] else none

def Ty.cells : (T : Ty) → T.den → List V
  | .int k, (n : Int) => [.int k n]
  | .bool, (b : Bool) => [.bool b]
  | .str, (s : Str) => [.str s]
  | .dcm, (x : Dcm) => [.int .i64 x.mant, .int .i64 x.exp]
  | .json, (x : Json) => [.int .i64 x.kind, .int .i64 x.num.mant, .int .i64 x.num.exp, .str x.text, .sl .str x.names .no, .sl .json x.items .no]
  | .raw, (x : Raw) => [.int .i64 x.kind, .int .i64 x.mant, .int .i64 x.exp, .sl (.int .i64) x.text .no, .sl .raw x.items .no]
  | .raw3, (x : Raw3) => [.int .i64 x.kind, .int .i64 x.mant, .int .i64 x.exp, .sl (.int .i64) x.text .no]
  | .fld, (x : Fld) => [.str x.name, .int .i64 x.kind, .int .i64 x.low, .int .i64 x.high, .bool x.free]
  | .mail, (x : Mail) => [.str x.topic, .str x.data, .bool x.bent]
  | .token, (x : Token) => [.int .i64 x.kind, .str x.text, .int .i64 x.num.mant, .int .i64 x.num.exp, .int .i64 x.at_]
  | .stop, (x : Stop) => [.int .i64 x.node, .int .i64 x.seq, .bool x.released]
  | .way, (x : Way) => [.int .i64 x.edge, .int .i64 x.seq, .bool x.released]
  | .order, (x : Order) => [.int .i64 x.header, .str x.vehicle, .int .i64 x.order, .int .i64 x.update, .sl .stop x.nodes .no, .sl .way x.edges .no]
  | .edge, (x : Edge) => [.int .i64 x.src, .int .i64 x.dst, .int .i64 x.cost]
  | .layout, (x : Layout) => [.int .i64 x.nodes, .sl .edge x.edges .no]
  | .topic, (x : Topic) => [.str x.maker, .str x.serial, .str x.kind]
  | .state, (x : State) => [.int .i64 x.header, .int .i64 x.boot, .str x.vehicle, .int .i64 x.order, .int .i64 x.update, .bool x.live, .int .i64 x.node, .int .i64 x.seq, .bool x.driving, .int .i64 x.accepted]
  | .ctl, (x : Ctl) => [.str x.vehicle, .int .i64 x.header, .int .i64 x.order, .int .i64 x.update, .int .i64 x.boot, .int .i64 x.seen, .sl (.int .i64) x.path .no, .int .i64 x.seq, .bool x.open_, .int .i64 x.rel, .bool x.wait, .int .i64 x.pending.header, .str x.pending.vehicle, .int .i64 x.pending.order, .int .i64 x.pending.update, .sl .stop x.pending.nodes .no, .sl .way x.pending.edges .no]
  | .op17, (x : Op17) => [.int .i64 x.kind, .int .i64 x.i, .int .i64 x.k, .int .u8 x.by_, .str x.data]
  | .raw13, (x : Raw13) => [.int .i64 x.header, .int .i64 x.order, .int .i64 x.update, .int .i64 x.seq, .int .i64 x.from_, .int .i64 x.released, .sl (.int .i64) x.turns .no]
  | .ev16, (x : Ev16) => [.int .i64 x.kind, .int .i64 x.o.header, .int .i64 x.o.order, .int .i64 x.o.update, .int .i64 x.o.seq, .int .i64 x.o.from_, .int .i64 x.o.released, .sl (.int .i64) x.o.turns .no, .str x.data]
  | .ev18, (x : Ev18) => [.int .i64 x.kind, .int .i64 x.n, .sl (.int .i64) x.turns .no]
  | .arr3, (x : Arr3) => [.int .i64 x.a, .int .i64 x.b, .int .i64 x.c]
  | .arr2, (x : Arr2) => [.int .i64 x.a, .int .i64 x.b]
  | .dec2, (x : Dec2) => [.int .i64 x.a.mant, .int .i64 x.a.exp, .int .i64 x.b.mant, .int .i64 x.b.exp]
  | .post, (x : Post) => [.str x.name, .int .i64 x.home]
  | .job, (x : Job) => [.int .i64 x.id, .int .i64 x.target, .int .i64 x.state, .int .i64 x.vehicle]
  | .record, (x : Record) => [.int .i64 x.kind, .sl (.int .i64) x.nums .no, .str x.text]

def asSl (T : Ty) : V → Option (List T.den)
  | .nilsl => some []
  | .sl T' l _ => if h : T' = T then some (h ▸ l) else none
  | _ => none

def decInt (k : IntKind) : List V → Option Int
  | [.int k' n] => if k' = k then some n else none
  | _ => none
def decBool : List V → Option Bool
  | [.bool b] => some b
  | _ => none
def decStr : List V → Option Str
  | [.str s] => some s
  | _ => none
def decDcm : List V → Option Dcm
  | [.int .i64 a0, .int .i64 a1] => some ⟨a0, a1⟩
  | _ => none
def decJson : List V → Option Json
  | [.int .i64 a0, .int .i64 a1, .int .i64 a2, .str a3, a4, a5] => match asSl .str a4, asSl .json a5 with | some b4, some b5 => some ⟨a0, ⟨a1, a2⟩, a3, b4, b5⟩ | _, _ => none
  | _ => none
def decRaw : List V → Option Raw
  | [.int .i64 a0, .int .i64 a1, .int .i64 a2, a3, a4] => match asSl (.int .i64) a3, asSl .raw a4 with | some b3, some b4 => some ⟨a0, a1, a2, b3, b4⟩ | _, _ => none
  | _ => none
def decRaw3 : List V → Option Raw3
  | [.int .i64 a0, .int .i64 a1, .int .i64 a2, a3] => match asSl (.int .i64) a3 with | some b3 => some ⟨a0, a1, a2, b3⟩ | _ => none
  | _ => none
def decFld : List V → Option Fld
  | [.str a0, .int .i64 a1, .int .i64 a2, .int .i64 a3, .bool a4] => some ⟨a0, a1, a2, a3, a4⟩
  | _ => none
def decMail : List V → Option Mail
  | [.str a0, .str a1, .bool a2] => some ⟨a0, a1, a2⟩
  | _ => none
def decToken : List V → Option Token
  | [.int .i64 a0, .str a1, .int .i64 a2, .int .i64 a3, .int .i64 a4] => some ⟨a0, a1, ⟨a2, a3⟩, a4⟩
  | _ => none
def decStop : List V → Option Stop
  | [.int .i64 a0, .int .i64 a1, .bool a2] => some ⟨a0, a1, a2⟩
  | _ => none
def decWay : List V → Option Way
  | [.int .i64 a0, .int .i64 a1, .bool a2] => some ⟨a0, a1, a2⟩
  | _ => none
def decOrder : List V → Option Order
  | [.int .i64 a0, .str a1, .int .i64 a2, .int .i64 a3, a4, a5] => match asSl .stop a4, asSl .way a5 with | some b4, some b5 => some ⟨a0, a1, a2, a3, b4, b5⟩ | _, _ => none
  | _ => none
def decEdge : List V → Option Edge
  | [.int .i64 a0, .int .i64 a1, .int .i64 a2] => some ⟨a0, a1, a2⟩
  | _ => none
def decLayout : List V → Option Layout
  | [.int .i64 a0, a1] => match asSl .edge a1 with | some b1 => some ⟨a0, b1⟩ | _ => none
  | _ => none
def decTopic : List V → Option Topic
  | [.str a0, .str a1, .str a2] => some ⟨a0, a1, a2⟩
  | _ => none
def decState : List V → Option State
  | [.int .i64 a0, .int .i64 a1, .str a2, .int .i64 a3, .int .i64 a4, .bool a5, .int .i64 a6, .int .i64 a7, .bool a8, .int .i64 a9] => some ⟨a0, a1, a2, a3, a4, a5, a6, a7, a8, a9⟩
  | _ => none
def decCtl : List V → Option Ctl
  | [.str a0, .int .i64 a1, .int .i64 a2, .int .i64 a3, .int .i64 a4, .int .i64 a5, a6, .int .i64 a7, .bool a8, .int .i64 a9, .bool a10, .int .i64 a11, .str a12, .int .i64 a13, .int .i64 a14, a15, a16] => match asSl (.int .i64) a6, asSl .stop a15, asSl .way a16 with | some b6, some b15, some b16 => some ⟨a0, a1, a2, a3, a4, a5, b6, a7, a8, a9, a10, ⟨a11, a12, a13, a14, b15, b16⟩⟩ | _, _, _ => none
  | _ => none
def decOp17 : List V → Option Op17
  | [.int .i64 a0, .int .i64 a1, .int .i64 a2, .int .u8 a3, .str a4] => some ⟨a0, a1, a2, a3, a4⟩
  | _ => none
def decRaw13 : List V → Option Raw13
  | [.int .i64 a0, .int .i64 a1, .int .i64 a2, .int .i64 a3, .int .i64 a4, .int .i64 a5, a6] => match asSl (.int .i64) a6 with | some b6 => some ⟨a0, a1, a2, a3, a4, a5, b6⟩ | _ => none
  | _ => none
def decEv16 : List V → Option Ev16
  | [.int .i64 a0, .int .i64 a1, .int .i64 a2, .int .i64 a3, .int .i64 a4, .int .i64 a5, .int .i64 a6, a7, .str a8] => match asSl (.int .i64) a7 with | some b7 => some ⟨a0, ⟨a1, a2, a3, a4, a5, a6, b7⟩, a8⟩ | _ => none
  | _ => none
def decEv18 : List V → Option Ev18
  | [.int .i64 a0, .int .i64 a1, a2] => match asSl (.int .i64) a2 with | some b2 => some ⟨a0, a1, b2⟩ | _ => none
  | _ => none
def decArr3 : List V → Option Arr3
  | [.int .i64 a0, .int .i64 a1, .int .i64 a2] => some ⟨a0, a1, a2⟩
  | _ => none
def decArr2 : List V → Option Arr2
  | [.int .i64 a0, .int .i64 a1] => some ⟨a0, a1⟩
  | _ => none
def decDec2 : List V → Option Dec2
  | [.int .i64 a0, .int .i64 a1, .int .i64 a2, .int .i64 a3] => some ⟨⟨a0, a1⟩, ⟨a2, a3⟩⟩
  | _ => none
def decPost : List V → Option Post
  | [.str a0, .int .i64 a1] => some ⟨a0, a1⟩
  | _ => none
def decJob : List V → Option Job
  | [.int .i64 a0, .int .i64 a1, .int .i64 a2, .int .i64 a3] => some ⟨a0, a1, a2, a3⟩
  | _ => none
def decRecord : List V → Option Record
  | [.int .i64 a0, a1, .str a2] => match asSl (.int .i64) a1 with | some b1 => some ⟨a0, b1, a2⟩ | _ => none
  | _ => none

def Ty.dec : (T : Ty) → List V → Option T.den
  | .int k => decInt k | .bool => decBool | .str => decStr
  | .dcm => decDcm
  | .json => decJson
  | .raw => decRaw
  | .raw3 => decRaw3
  | .fld => decFld
  | .mail => decMail
  | .token => decToken
  | .stop => decStop
  | .way => decWay
  | .order => decOrder
  | .edge => decEdge
  | .layout => decLayout
  | .topic => decTopic
  | .state => decState
  | .ctl => decCtl
  | .op17 => decOp17
  | .raw13 => decRaw13
  | .ev16 => decEv16
  | .ev18 => decEv18
  | .arr3 => decArr3
  | .arr2 => decArr2
  | .dec2 => decDec2
  | .post => decPost
  | .job => decJob
  | .record => decRecord


def Ty.isMail : Ty → Bool
  | .mail => true
  | _ => false
def Ty.one : Ty → Bool
  | .int _ => true
  | .bool => true
  | .str => true
  | _ => false
def elV (T : Ty) (x : T.den) : V := bif T.one then (T.cells x).headD .undef else .agg (T.cells x)
def elD (T : Ty) : V → Option T.den
  | .agg cs => bif T.one then none else T.dec cs
  | v => bif T.one then T.dec [v] else none

def keyEq : (K : Ty) → K.den → K.den → Bool
  | .str, (a : Str), (b : Str) => a == b
  | .int _, (a : Int), (b : Int) => a == b
  | .arr2, (a : Arr2), (b : Arr2) => a.a == b.a && (a.b == b.b && true)
  | _, _, _ => false
def keyable : Ty → Bool
  | .str => true
  | .int _ => true
  | .arr2 => true
  | _ => false
def mapGet (K T : Ty) (k : K.den) : List (K.den × T.den) → T.den
  | [] => T.dflt
  | e :: r => bif keyEq K k e.1 then e.2 else mapGet K T k r
def mapHas (K T : Ty) (k : K.den) : List (K.den × T.den) → Bool
  | [] => false
  | e :: r => bif keyEq K k e.1 then true else mapHas K T k r
def mapPut (K T : Ty) (k : K.den) (v : T.den) : List (K.den × T.den) → List (K.den × T.den)
  | [] => [(k, v)]
  | e :: r => bif keyEq K k e.1 then (k, v) :: r else e :: mapPut K T k v r

inductive AObj where
  | free
  | dead
  | cells (cs : List V)
  | row (T : Ty) (l : List T.den)
  | tok
  | iter (s : Str) (pos : Nat)
  /-- a strings.Builder, its buffer -/
  | bld (v : V)
  | amap (K T : Ty) (l : List (K.den × T.den))

abbrev Heap := List AObj

structure St where
  fr : List V
  hp : Heap

inductive TD where
  | bool | int (k : IntKind) | string | ptr (e : Nat) | slice (e : Nat) | arr (n e : Nat) | map (k e : Nat) | struct (fs : List (Nat × Nat)) | func | iface | other

structure TI where
  d : TD
  size : Nat
  bytes : Nat
  zero : List V
  ty : Option Ty
  eq : Bool := false
  /-- slices of such elements are rows of ours -/
  rowy : Bool := false
  /-- strings.Builder -/
  bld : Bool := false

abbrev TTab := List TI

def TI.none : TI := ⟨.other, 0, 0, [], .none, false, false, false⟩
def TTab.at (tt : TTab) (t : Nat) : TI := tt.getD t TI.none
def TTab.ok (tt : TTab) (t : Nat) : Bool := match (tt.at t).d with | .other => false | _ => true
def TTab.isAgg (tt : TTab) (t : Nat) : Bool := match (tt.at t).d with | .struct _ => true | .arr _ _ => true | _ => false

def inK (k : IntKind) (n : Int) : Bool := decide (k.min ≤ n) && decide (n ≤ k.max)

def ofConst1 : Value → V
  | .bool b => .bool b
  | .int k n => if inK k n then .int k n else .undef
  | .string s => if s.size ≤ 9223372036854775807 then .str s.data.toList else .undef
  | .pointer .none => .nilptr
  | .slice .none 0 0 => .nilsl
  | .nilFunc => .nilfunc
  | .map .none => .nilmap
  | .nilIface => .niliface
  | _ => .undef

def ofConst : Value → V
  | .agg cs => .agg (cs.toList.map ofConst1)
  | v => ofConst1 v

def ev (fr : List V) : Operand → V
  | .tmp t => fr.getD t .undef
  | .const c => ofConst c
  | .func f => .func f [] []
  | .global _ => .undef

section
variable {R : Type}

def chk (b : Bool) (k : Option R) : Option R := bif b then k else none

def eqCells : List V → List V → Option Bool
  | [], [] => some true
  | .int k a :: x, .int k' b :: y => if k = k' then (match eqCells x y with | some r => some (a == b && r) | none => none) else none
  | .str a :: x, .str b :: y => match eqCells x y with | some r => some (a == b && r) | none => none
  | .bool a :: x, .bool b :: y => match eqCells x y with | some r => some (a == b && r) | none => none
  | _, _ => none

def eqV (a b : V) : Option Bool :=
  match a, b with
  | .bool x, .bool y => some (x == y)
  | .agg xs, .agg ys => eqCells xs ys
  | _, _ => none

def isNilV : V → Option Bool
  | .nilptr => some true
  | .ptr _ _ => some false
  | .iptr _ => some false
  | .rptr _ _ _ _ => some false
  | _ => none

def ptrK {R : Type} (op : BinOp) (a b : V) (k : V → Option R) : Option R :=
  match b with
  | .nilptr =>
    (match op, isNilV a with
     | .eql, some r => k (.bool r)
     | .neq, some r => k (.bool (!r))
     | _, _ => none)
  | _ => none

def nilOf {R : Type} (a : V) (k : Option Bool → Option R) : Option R :=
  match a with
  | .nilsl => k (some true)
  | .sl _ l _ => bif l.isEmpty then k none else k (some false)
  | .row _ n => bif decide (n = 0) then k none else k (some false)
  | _ => none

def nilAns (neg : Bool) : Option Bool → V
  | none => .anyb
  | some r => .bool (bif neg then !r else r)

def slK {R : Type} (op : BinOp) (a b : V) (k : V → Option R) : Option R :=
  match b with
  | .nilsl =>
    (match op with
     | .eql => nilOf a fun r => k (nilAns false r)
     | .neq => nilOf a fun r => k (nilAns true r)
     | _ => none)
  | _ => none

def ifK {R : Type} (op : BinOp) (y : Operand) (a b : V) (k : V → Option R) : Option R :=
  match y, b, a, op with
  | .const _, .niliface, .niliface, .eql => k (.bool true)
  | .const _, .niliface, .niliface, .neq => k (.bool false)
  | .const _, .niliface, .iface, .eql => k (.bool false)
  | .const _, .niliface, .iface, .neq => k (.bool true)
  | .const _, .niliface, .ifi _ _ _, .eql => k (.bool false)
  | .const _, .niliface, .ifi _ _ _, .neq => k (.bool true)
  | _, _, _, _ => none

def bytesLt : Str → Str → Bool
  | _, [] => false
  | [], _ :: _ => true
  | a :: x, b :: y => a < b || (a == b && bytesLt x y)

def binK (op : BinOp) (x y : V) (k : V → Option R) : Option R :=
  match op, x, y with
  | .shl, .int i a, .int _ b => chk (decide (0 ≤ b)) (k (.int i (i.wrap (a * 2 ^ (min b.toNat i.bits)))))
  | .shr, .int i a, .int _ b => chk (decide (0 ≤ b)) (k (.int i (a.fdiv (2 ^ (min b.toNat i.bits)))))
  | op, .int i a, .int j b =>
    if i = j then
      match op with
      | .add => k (.int i (i.wrap (a + b)))
      | .sub => k (.int i (i.wrap (a - b)))
      | .mul => k (.int i (i.wrap (a * b)))
      | .quo => chk (!decide (b = 0)) (k (.int i (i.wrap (a.tdiv b))))
      | .rem => chk (!decide (b = 0)) (k (.int i (a.tmod b)))
      | .and => k (.int i (i.wrap (BitVec.ofInt i.bits a &&& BitVec.ofInt i.bits b).toNat))
      | .or => k (.int i (i.wrap (BitVec.ofInt i.bits a ||| BitVec.ofInt i.bits b).toNat))
      | .xor => k (.int i (i.wrap (BitVec.ofInt i.bits a ^^^ BitVec.ofInt i.bits b).toNat))
      | .eql => k (.bool (a == b))
      | .neq => k (.bool (a != b))
      | .lss => k (.bool (decide (a < b)))
      | .leq => k (.bool (decide (a ≤ b)))
      | .gtr => k (.bool (decide (a > b)))
      | .geq => k (.bool (decide (a ≥ b)))
      | _ => none
    else none
  | op, .str a, .str b =>
    match op with
    | .add => chk (decide (a.length + b.length ≤ 9223372036854775807)) (k (.str (a ++ b)))
    | .eql => k (.bool (a == b))
    | .neq => k (.bool (!(a == b)))
    | .lss => k (.bool (bytesLt a b))
    | .leq => k (.bool (bytesLt a b || a == b))
    | .gtr => k (.bool (!(bytesLt a b || a == b)))
    | .geq => k (.bool (!(bytesLt a b)))
    | _ => none
  | .eql, a, b => match eqV a b with | some r => k (.bool r) | none => none
  | .neq, a, b => match eqV a b with | some r => k (.bool (!r)) | none => none
  | _, _, _ => none

def partK (tt : TTab) (t : Nat) (cs : List V) (off : Nat) (k : V → Option R) : Option R :=
  if tt.ok t then
    if tt.isAgg t then (if off + (tt.at t).size ≤ cs.length then k (.agg ((cs.drop off).take (tt.at t).size)) else none)
    else (match cs[off]? with | some v => k v | none => none)
  else none

def fillV (cells : List V) : List (Nat × Nat × V) → Option (List V)
  | [] => some cells
  | (off, size, v) :: rest =>
    match flatK v with
    | some vs => if vs.length = size && off + size ≤ cells.length then fillV (cells.take off ++ vs ++ cells.drop (off + size)) rest else none
    | none => none

def idxOf (i : V) (k : Int → Option R) : Option R := match i with | .int _ n => k n | _ => none

def optI (v : Option V) (d : Int) (k : Int → Option R) : Option R :=
  match v with
  | none => k d
  | some (.int _ n) => k n
  | some _ => none

def kindsOk : List V → List V → Bool
  | [], [] => true
  | .int k _ :: z, .int k' _ :: c => decide (k = k') && kindsOk z c
  | .str _ :: z, .str _ :: c => kindsOk z c
  | .bool _ :: z, .bool _ :: c => kindsOk z c
  | _, _ => false

def eqOk (i : TI) (a b : List V) : Bool := i.eq && kindsOk i.zero a && kindsOk i.zero b

def opP (tt : TTab) (o : Op) (ρ : Operand → V) (k : V → Option R) : Option R :=
  match o with
  | .move x => k (ρ x)
  | .assign x => k (ρ x)
  | .pick c a b =>
    match ρ c with
    | .bool t =>
      (match ρ a, ρ b with
       | .bool u, .bool v => k (.bool (bif t then u else v))
       | u, v => bif t then k u else k v)
    | _ => none
  | .nilCheck x =>
    match ρ x with
    | .ptr i o => k (.ptr i o)
    | .iptr cs => k (.iptr cs)
    | .rptr i n j o => k (.rptr i n j o)
    | .func f a b => k (.func f a b)
    | _ => none
  | .binOp op t x y _ =>
    match ρ x, ρ y with
    | .agg a, .agg b => if eqOk (tt.at t) a b then binK op (.agg a) (.agg b) k else none
    | .bool a, .bool b => (match (tt.at t).d with | .bool => binK op (.bool a) (.bool b) k | _ => none)
    | .int i a, .int j b => binK op (.int i a) (.int j b) k
    | .str a, .str b => binK op (.str a) (.str b) k
    | a, b => (match (tt.at t).d with | .ptr _ => ptrK op a b k | .slice _ => slK op a b k | .iface => ifK op y a b k | _ => none)
  | .unOp op _ x =>
    match op, ρ x with
    | .neg, .int i n => k (.int i (i.wrap (0 - n)))
    | .not, .bool b => k (.bool (!b))
    | _, _ => none
  | .convert s d x =>
    if !tt.ok s then none else
    match (tt.at d).d, ρ x with
    | .int i, .int _ n => k (.int i (i.wrap n))
    | .string, .str t => (match (tt.at s).d with | .string => k (.str t) | _ => none)
    | _, _ => none
  | .makeInterface t x =>
    match (tt.at t).d, ρ x with
    | .int _, .int i n => k (.ifi t i n)
    | _, _ => none
  | .fieldAddr s x f =>
    match (tt.at s).d with
    | .struct fs =>
      (match fs[f]? with
       | some (off, t) =>
         if (tt.at t).size = 0 || !tt.ok t then none else
         (match ρ x with
          | .ptr i o => k (.ptr i (o + off))
          | .iptr cs => k (.iptr (cs.drop off))
          | .rptr i n j o => k (.rptr i n j (o + off))
          | _ => none)
       | none => none)
    | _ => none
  | .field s x f =>
    match (tt.at s).d, ρ x with
    | .struct fs, .agg cs => (match fs[f]? with | some (off, t) => partK tt t cs off k | none => none)
    | _, _ => none
  | .indexAddr t x i =>
    idxOf (ρ i) fun n =>
    match (tt.at t).d, ρ x with
    | .slice e, .sl T l _ => if T.sz = (tt.at e).size && tt.ok e then chk (decide (0 ≤ n) && decide (n < l.length)) (k (.iptr (T.cells (l.getD n.toNat T.dflt)))) else none
    | .slice e, .row id m => if tt.ok e then chk (decide (0 ≤ n) && decide (n < m)) (k (.rptr id (tt.at e).size n.toNat 0)) else none
    | .arr m e, .ptr id o => if tt.ok e then chk (decide (0 ≤ n) && decide (n < m)) (k (.ptr id (o + n.toNat * (tt.at e).size))) else none
    | .slice e, .vsl m cs => if tt.ok e && decide ((tt.at e).size ≠ 0) && decide (cs.length = m * (tt.at e).size) then chk (decide (0 ≤ n) && decide (n < m)) (k (.iptr (cs.drop (n.toNat * (tt.at e).size)))) else none
    | .arr m e, .iptr cs => if tt.ok e && decide ((tt.at e).size ≠ 0) && decide (m * (tt.at e).size ≤ cs.length) then chk (decide (0 ≤ n) && decide (n < m)) (k (.iptr (cs.drop (n.toNat * (tt.at e).size)))) else none
    | _, _ => none
  | .index t x i =>
    idxOf (ρ i) fun n =>
    match (tt.at t).d, ρ x with
    | .string, .str s => chk (decide (0 ≤ n) && decide (n < s.length)) (k (.int .u8 (s.getD n.toNat 0).toNat))
    | .arr m e, .agg cs => chk (decide (0 ≤ n) && decide (n < m)) (partK tt e cs (n.toNat * (tt.at e).size) k)
    | _, _ => none
  | .slice t x lo hi mx =>
    match mx with
    | some _ => none
    | none =>
      (match (tt.at t).d, ρ x with
       | .string, .str s =>
         optI (hi.map ρ) s.length fun h => optI (lo.map ρ) 0 fun l =>
         chk (decide (0 ≤ h) && decide (h ≤ s.length)) (chk (decide (0 ≤ l) && decide (l ≤ h)) (k (.str ((s.drop l.toNat).take (h.toNat - l.toNat)))))
       | .slice e, .sl T s _ =>
         if T.sz = (tt.at e).size && tt.ok e then
         optI (lo.map ρ) 0 fun l =>
         (match hi with
          | none => chk (decide (0 ≤ l) && decide (l ≤ s.length)) (k (.sl T (s.drop l.toNat) .no))
          | some hi =>
            optI (some (ρ hi)) 0 fun h =>
            chk (decide (0 ≤ h) && decide (h ≤ s.length)) (chk (decide (0 ≤ l) && decide (l ≤ h)) (k (.sl T ((s.drop l.toNat).take (h.toNat - l.toNat)) .no))))
         else none
       | .slice e, .nilsl =>
         if !tt.ok e then none else
         optI (hi.map ρ) 0 fun h => optI (lo.map ρ) 0 fun l => chk (decide (h = 0) && decide (l = 0)) (k .nilsl)
       | .slice e, .row i n =>
         if !tt.ok e then none else
         optI (hi.map ρ) n fun h => optI (lo.map ρ) 0 fun l => chk (decide (0 ≤ h) && decide (h ≤ n)) (chk (decide (0 ≤ l) && decide (l ≤ h)) (k (.rview i (tt.at e).size l.toNat (h.toNat - l.toNat))))
       | _, _ => none)
  | .makeFunc (.func f) first cap => k (.func f (first.toList.map ρ) (cap.toList.map ρ))
  | .extract t i => match ρ t with | .tuple vs => (match vs[i]? with | some v => k v | none => none) | _ => none
  | .build t parts =>
    match (tt.at t).d with
    | .struct fs =>
      if !fs.all (fun f => tt.ok f.2) || !tt.ok t || decide (1000000 ≤ (tt.at t).zero.length) then none else
      (match fillV (tt.at t).zero (parts.toList.map fun (i, x) => ((fs.getD i (0, 0)).1, if i < fs.length then (tt.at (fs.getD i (0, 0)).2).size else 1000000, ρ x)) with
       | some cs => k (.agg cs) | none => none)
    | .arr _ e =>
      if !tt.ok e || !tt.ok t || decide (1000000 ≤ (tt.at t).zero.length) then none else
      (match fillV (tt.at t).zero (parts.toList.map fun (i, x) => (i * (tt.at e).size, (tt.at e).size, ρ x)) with
       | some cs => k (.agg cs) | none => none)
    | _ => none
  | .call c =>
    match c.callee, c.args.toList with
    | .builtin .len, [x] =>
      (match c.argTypes.toList with
       | [t] =>
         (match (tt.at t).d, ρ x with
          | .string, .str s => k (.int .i64 s.length)
          | .slice _, .sl _ l _ => k (.int .i64 l.length)
          | .slice _, .vsl n _ => k (.int .i64 n)
          | .slice _, .row _ n => k (.int .i64 n)
          | .slice _, .nilsl => k (.int .i64 0)
          | _, _ => none)
       | _ => none)
    | .builtin .min, [x, y] => (match ρ x, ρ y with | .int i a, .int j b => if i = j then k (.int i (min a b)) else none | _, _ => none)
    | .builtin .max, [x, y] => (match ρ x, ρ y with | .int i a, .int j b => if i = j then k (.int i (max a b)) else none | _, _ => none)
    | _, _ => none
  | _ => none

end

def Heap.at (h : Heap) (i : Nat) : AObj := h.getD i .dead

def Tok.ren (ρ : Nat → Option Nat) : Tok → Tok
  | .own i => match ρ i with | some j => .own j | none => .no
  | t => t

mutual
def V.ren (ρ : Nat → Option Nat) : V → V
  | .ptr i o => match ρ i with | some j => .ptr j o | none => .undef
  | .sl T l t => .sl T l (t.ren ρ)
  | .row i n => match ρ i with | some j => .row j n | none => .undef
  | .rview i z q n => match ρ i with | some j => .rview j z q n | none => .undef
  | .rptr i n k o => match ρ i with | some j => .rptr j n k o | none => .undef
  | .map i => match ρ i with | some j => .map j | none => .undef
  | .func f a b => .func f (V.renL ρ a) (V.renL ρ b)
  | .agg cs => .agg (V.renL ρ cs)
  | .tuple vs => .tuple (V.renL ρ vs)
  | .iptr cs => .iptr (V.renL ρ cs)
  | .vsl n cs => .vsl n (V.renL ρ cs)
  | v => v
def V.renL (ρ : Nat → Option Nat) : List V → List V
  | [] => []
  | v :: vs => v.ren ρ :: V.renL ρ vs
end

def AObj.ren (ρ : Nat → Option Nat) : AObj → AObj
  | .cells cs => .cells (V.renL ρ cs)
  | .bld v => .bld (v.ren ρ)
  | o => o

mutual
def V.ids : V → List Nat
  | .ptr i _ => [i]
  | .sl _ _ (.own i) => [i]
  | .row i _ => [i]
  | .rview i _ _ _ => [i]
  | .rptr i _ _ _ => [i]
  | .map i => [i]
  | .func _ a b => V.idsL a ++ V.idsL b
  | .agg cs => V.idsL cs
  | .tuple vs => V.idsL vs
  | .iptr cs => V.idsL cs
  | .vsl _ cs => V.idsL cs
  | _ => []
def V.idsL : List V → List Nat
  | [] => []
  | v :: vs => v.ids ++ V.idsL vs
end

def AObj.ids : AObj → List Nat
  | .cells cs => V.idsL cs
  | .bld v => v.ids
  | _ => []

def reach (h : Heap) : Nat → List Nat → List Nat → List Nat
  | 0, _, seen => seen
  | _ + 1, [], seen => seen
  | n + 1, i :: todo, seen => if seen.contains i then reach h n todo seen else reach h n (todo ++ (h.at i).ids) (seen ++ [i])

def posIn (ord : List Nat) (i : Nat) : Option Nat := let p := ord.idxOf i; if p < ord.length then some p else none

def Heap.pick (h : Heap) (ord : List Nat) : Heap := ord.map fun i => (h.at i).ren (posIn ord)

def backId (ord : List Nat) (n : Nat) (j : Nat) : Nat := if j < ord.length then ord.getD j 0 else n + (j - ord.length)
def Heap.putAll (h : Heap) : List (Nat × AObj) → Heap
  | [] => h
  | (i, o) :: r => Heap.putAll (h.set i o) r
def Heap.back (h : Heap) (ord : List Nat) (h' : Heap) : Heap :=
  let ρ := fun j => some (backId ord h.length j)
  Heap.putAll h (ord.zip ((h'.take ord.length).map (AObj.ren ρ))) ++ (h'.drop ord.length).map (AObj.ren ρ)

section
variable {R : Type}

abbrev Spec (R : Type) := List V → Heap → (V → Heap → Option R) → Option R

def runesB (l : List Int) : Str := l.flatMap fun n => (Utf8.encode n).data.toList

def keyFits (tt : TTab) (t : Nat) : Ty → Bool
  | .str => (match (tt.at t).d with | .string => true | _ => false)
  | .int k => (match (tt.at t).d with | .int k' => decide (k' = k) | _ => false)
  | _ => false
def elFits (tt : TTab) (t : Nat) : Ty → Bool
  | .bool => (match (tt.at t).d, (tt.at t).zero with | .bool, [.bool false] => true | _, _ => false)
  | .int k => (match (tt.at t).d, (tt.at t).zero with | .int _, [.int k' 0] => decide (k' = k) | _, _ => false)
  | _ => false

def limOk (lim : Option Nat) (i : Nat) : Bool := match lim with | none => true | some m => decide (i < m)

def opR (tt : TTab) (o : Op) (ρ : Operand → V) (h : Heap) (lim : Option Nat) (k : V → Option R) : Option R :=
  match o with
  | .load t x =>
    match ρ x with
    | .ptr i o =>
      if limOk lim i then
        match h.at i with
        | .cells cs => partK tt t cs o k
        | .bld v => partK tt t [.undef, v] o k
        | _ => none
      else none
    | .iptr cs => partK tt t cs 0 k
    | .rptr i sz j o =>
      if limOk lim i then
        match h.at i with
        | .row T l => if sz = T.sz then chk (decide (j < l.length)) (partK tt t (T.cells (l.getD j T.dflt)) o k) else none
        | _ => none
      else none
    | _ => none
  | .lookup t x ix ok =>
    match (tt.at t).d, ρ x with
    | .map kt vt, .map i =>
      if limOk lim i then
        match h.at i with
        | .amap K T l =>
          if keyFits tt kt K && elFits tt vt T then
            match elD K (ρ ix) with
            | some kx => bif ok then k (.tuple [elV T (mapGet K T kx l), .bool (mapHas K T kx l)]) else k (elV T (mapGet K T kx l))
            | none => none
          else none
        | _ => none
      else none
    | _, _ => none
  | .convert s d x =>
    match (tt.at d).d, (tt.at s).d, ρ x with
    | .string, .slice e, .row i _ =>
      if limOk lim i then
        match (tt.at e).d, h.at i with
        | .int .u8, .row (.int .u8) l => k (.str ((l : List Int).map fun n => UInt8.ofNat n.toNat))
        | _, _ => none
      else none
    | .string, .slice e, .sl T l _ =>
      match (tt.at e).d, T, l with
      | .int .u8, .int .u8, l => k (.str ((l : List Int).map fun n => UInt8.ofNat n.toNat))
      | .int .i32, .int .i32, l => chk (decide (4 * l.length ≤ 9223372036854775807)) (k (.str (runesB l)))
      | _, _, _ => none
    | .string, .slice e, .nilsl => match (tt.at e).d with | .int .u8 => k (.str []) | _ => none
    | _, _, _ => none
  | _ => none

def bytesI (s : Str) : List (Ty.den (.int .u8)) := (s.map fun b => (b.toNat : Int) : List Int)

def decAll (T : Ty) : List (List V) → Option (List T.den)
  | [] => some []
  | c :: cs => match T.dec c, decAll T cs with | some x, some xs => some (x :: xs) | _, _ => none

def chunks (n : Nat) : Nat → List V → List (List V)
  | 0, _ => []
  | m + 1, l => l.take n :: chunks n m (l.drop n)

def reserveOk (ρ : Operand → V) : Option Operand → Bool
  | none => true
  | some x => (match ρ x with | .int _ _ => true | _ => false)

def opA (tt : TTab) (o : Op) (ρ : Operand → V) (k : AObj → (Nat → V) → Option R) : Option R :=
  match o with
  | .alloc t => if (tt.at t).bld then k (.bld .nilsl) fun i => .ptr i 0 else if tt.ok t then k (.cells (tt.at t).zero) fun i => .ptr i 0 else none
  | .box t x => match flatK (ρ x) with | some cs => if tt.ok t && decide (cs.length = (tt.at t).size) then k (.cells cs) fun i => .ptr i 0 else none | none => none
  | .buildSlice t len parts =>
    match (tt.at t).d with
    | .slice e =>
      let sz := (tt.at e).size
      if sz = 0 || decide (len * sz > 4096) || !tt.ok e then none else
      (match fillV ((List.replicate len (tt.at e).zero).flatten) (parts.toList.map fun (i, x) => (i * sz, sz, ρ x)), (tt.at e).ty with
       | some cs, some T =>
         if T.sz = sz then
           if ((tt.at e).rowy && decide (len = 0)) = true then k (.row T []) fun i => .row i 0 else
           if ((tt.at e).rowy && T.isMail) = true then (match decAll T (chunks sz len cs) with | some l => k (.row T l) fun i => .row i l.length | none => none) else
           (match decAll T (chunks sz len cs) with | some l => k .tok fun i => .sl T l (.own i) | none => k .dead fun _ => .vsl len cs)
         else none
       | some cs, none => k .dead fun _ => .vsl len cs
       | none, _ => none)
    | _ => none
  | .makeSlice t n c =>
    match (tt.at t).d, ρ n, ρ c with
    | .slice e, .int _ a, .int _ b =>
      (match (tt.at e).ty with
       | some T =>
         (match T.dec (tt.at e).zero with
          | some z => if T.sz = (tt.at e).size && tt.ok e then chk (decide (0 ≤ a) && decide (a = b) && decide (a * (tt.at e).bytes ≤ 140737488355328) && decide (a ≤ 140737488355328)) (k (.row T (List.replicate a.toNat z)) fun i => .row i a.toNat) else none
          | none => none)
       | none => none)
    | _, _, _ => none
  | .convert s d x =>
    match (tt.at s).d, (tt.at d).d, ρ x with
    | .string, .slice e, .str t =>
      (match (tt.at e).d with
       | .int .u8 => k (.row (.int .u8) (bytesI t)) fun i => .row i t.length
       | _ => none)
    | _, _, _ => none
  | .makeMap t rsv =>
    if reserveOk ρ rsv then
    match (tt.at t).d with
    | .map kt vt =>
      (match (tt.at kt).ty, (tt.at vt).ty with
       | some K, some T => if keyFits tt kt K && elFits tt vt T then k (.amap K T []) fun i => .map i else none
       | _, _ => none)
    | _ => none
    else none
  | .range t x => match (tt.at t).d, ρ x with | .string, .str s => k (.iter s 0) fun i => .ptr i 0 | _, _ => none
  | _ => none

def splice (cs : List V) (o : Nat) (vs : List V) : List V := cs.take o ++ vs ++ cs.drop (o + vs.length)

def srcOf (T : Ty) (h : Heap) : V → Option (List T.den)
  | .nilsl => some []
  | .sl T' l _ => if e : T' = T then some (e ▸ l) else none
  | .row i _ => match h.at i with | .row T' l => if e : T' = T then some (e ▸ l) else none | _ => none
  | .rview i z q n => match h.at i with | .row T' l => if e : T' = T then some (((e ▸ l : List T.den).drop q).take n) else none | _ => none
  | .vsl n cs => if cs.length = n * T.sz then decAll T (chunks T.sz n cs) else none
  | .str s => if e : T = .int .u8 then some (e ▸ bytesI s) else none
  | _ => none

def viewOk (h : Heap) : V → Bool
  | .rview i z q n => (match h.at i with | .row T l => decide (z = T.sz) && decide (q + n ≤ l.length) | _ => false)
  | _ => true

def appendK0 (tt : TTab) (e : Nat) (s x : V) (h : Heap) (id : Nat) (k : V → Heap → Option R) : Option R :=
  match (tt.at e).ty with
  | some T =>
    if T.sz = (tt.at e).size && (tt.at e).bytes != 0 && tt.ok e then
    (match srcOf T h x with
     | some m =>
       let room (n : Nat) (q : Option R) : Option R := chk (decide ((n + m.length) * (tt.at e).bytes ≤ 140737488355328)) q
       (match s with
        | .nilsl => room 0 (if (tt.at e).rowy then k (.row id m.length) (h.set id (.row T m)) else k (.sl T m (.own id)) (h.set id .tok))
        | .sl T' l tk =>
          if q : T' = T then
            let l' : List T.den := q ▸ l
            (match tk with
             | .no => none
             | .nil => room l.length (k (.sl T (l' ++ m) (.own id)) (h.set id .tok))
             | .own i => (match h.at i with | .tok => room l.length (k (.sl T (l' ++ m) (.own id)) ((h.set i .dead).set id .tok)) | _ => none))
          else none
        | .row i _ =>
          (match h.at i with
           | .row T' l =>
             if q : T' = T then
               let l' : List T.den := q ▸ l
               room l.length (k (.row id (l'.length + m.length)) ((h.set i .dead).set id (.row T (l' ++ m))))
             else none
           | _ => none)
        | _ => none)
     | none => none)
    else none
  | none => none

def appendK (tt : TTab) (e : Nat) (s x : V) (h : Heap) (id : Nat) (k : V → Heap → Option R) : Option R := chk (viewOk h x) (appendK0 tt e s x h id k)

def runeAt (s : Str) (pos : Nat) : Nat × Nat := Utf8.decode ⟨s.toArray⟩ pos

def sliceArrK (tt : TTab) (t : Nat) (v : V) (h : Heap) (k : V → Heap → Option R) : Option R :=
  match (tt.at t).d, v with
  | .arr m e, .ptr i 0 =>
    (match h.at i with
     | .cells cs =>
       (match (tt.at e).ty with
        | some T =>
          if T.sz = (tt.at e).size && tt.ok e && decide (cs.length = m * T.sz) && decide (m ≠ 0) && decide (m ≤ 4096) then
            match decAll T (chunks T.sz m cs) with
            | some l => k (.sl T l .no) (h.set i .dead)
            | none => none
          else none
        | none => none)
     | _ => none)
  | _, _ => none

def opW (tt : TTab) (o : Op) (ρ : Operand → V) (h : Heap) (id : Nat) (k : V → Heap → Option R) : Option R :=
  match o with
  | .slice t x lo hi mx => bif lo.isNone && hi.isNone && mx.isNone then sliceArrK tt t (ρ x) h k else none
  | .store t x y =>
    match flatK (ρ y) with
    | none => none
    | some vs =>
    if tt.ok t && decide (vs.length = (tt.at t).size) then
      match ρ x with
      | .ptr i o =>
        (match h.at i with
         | .cells cs => if o + vs.length ≤ cs.length then k .undef (h.set i (.cells (splice cs o vs))) else none
         | .bld _ => (match o, vs with | 1, [v] => k .undef (h.set i (.bld v)) | _, _ => none)
         | _ => none)
      | .rptr i sz j o =>
        (match h.at i with
         | .row T l =>
           if sz = T.sz then
           let cs := T.cells (l.getD j T.dflt)
           if o + vs.length ≤ cs.length then
             (match T.dec (splice cs o vs) with
              | some y => chk (decide (j < l.length)) (k .undef (h.set i (.row T (l.set j y))))
              | none => none)
           else none
           else none
         | _ => none)
      | _ => none
    else none
  | .call c =>
    match c.callee, c.args.toList, c.argTypes.toList with
    | .builtin .append, [s, x], [t, xt] =>
      (match (tt.at t).d, (tt.at xt).d with
       | .slice e, .slice _ => appendK tt e (ρ s) (ρ x) h id k
       | .slice e, .string => appendK tt e (ρ s) (ρ x) h id k
       | _, _ => none)
    | _, _, _ => none
  | .mapUpdate t m x y =>
    match (tt.at t).d, ρ m with
    | .map kt vt, .map i =>
      (match h.at i with
       | .amap K T l =>
         if keyFits tt kt K && elFits tt vt T then
           match elD K (ρ x), elD T (ρ y) with
           | some kx, some vx => k .undef (h.set i (.amap K T (mapPut K T kx vx l)))
           | _, _ => none
         else none
       | _ => none)
    | _, _ => none
  | .insert t m x y =>
    match (tt.at t).d, ρ m with
    | .map kt vt, .map i =>
      (match h.at i with
       | .amap K T l =>
         if keyFits tt kt K && elFits tt vt T then
           match elD K (ρ x), elD T (ρ y) with
           | some kx, some vx => k .undef (h.set i (.amap K T (mapPut K T kx vx l)))
           | _, _ => none
         else none
       | _ => none)
    | _, _ => none
  | .next x str =>
    match str, ρ x with
    | true, .ptr i 0 =>
      (match h.at i with
       | .iter s pos => bif decide (pos < s.length) then k (.tuple [.bool true, .int .i64 pos, .int .i32 (runeAt s pos).1]) (h.set i (.iter s (pos + (runeAt s pos).2))) else k (.tuple [.bool false]) h
       | _ => none)
    | _, _ => none
  | _ => none

mutual
def V.shut (h : Heap) : V → V
  | .sl T l _ => .sl T l .no
  | .row i _ => match h.at i with | .row T l => .sl T l .no | _ => .undef
  | .agg cs => .agg (V.shutL h cs)
  | .tuple vs => .tuple (V.shutL h vs)
  | v => v
def V.shutL (h : Heap) : List V → List V
  | [] => []
  | v :: vs => v.shut h :: V.shutL h vs
end

def V.scal1 : V → Bool
  | .int _ _ | .bool _ | .str _ | .nilptr | .nilsl | .nilmap | .nilfunc | .niliface | .iface | .ifi _ _ _ => true
  | _ => false
def V.scal : V → Bool
  | .tuple vs => vs.all V.scal1
  | .agg vs => vs.all V.scal1
  | v => v.scal1

inductive Cls where
  | P | R | A | W | C | F | X
  deriving DecidableEq

def opCls (tt : TTab) : Op → Cls
  | .move _ | .assign _ | .pick _ _ _ | .nilCheck _ | .binOp _ _ _ _ _ | .unOp _ _ _ | .fieldAddr _ _ _ | .field _ _ _ | .indexAddr _ _ _ | .index _ _ _
  | .makeFunc _ _ _ | .extract _ _ | .build _ _ | .makeInterface _ _ => .P
  | .slice t _ _ _ _ => match (tt.at t).d with | .arr _ _ => .W | _ => .P
  | .convert s d _ =>
    match (tt.at s).d, (tt.at d).d with
    | .slice _, .string => .R
    | .string, .slice _ => .A
    | _, _ => .P
  | .load _ _ => .R
  | .lookup _ _ _ _ => .R
  | .alloc _ | .box _ _ | .buildSlice _ _ _ | .makeSlice _ _ _ | .range _ _ | .makeMap _ _ => .A
  | .store _ _ _ => .W
  | .mapUpdate _ _ _ _ => .W
  | .insert _ _ _ _ => .W
  | .next _ str => bif str then .W else .X
  | .call c => match c.callee with
    | .builtin .len => .P | .builtin .min => .P | .builtin .max => .P
    | .builtin .append => .W
    | .builtin _ => .X
    | .value _ => .C
    | .invoke _ _ => .X
  | _ => .X

def putF (fr : List V) (dst : Option Nat) (v : V) : List V := match dst with | some d => fr.set d v | none => fr

def dropTok1 : V → V
  | .sl T l _ => .sl T l .no
  | v => v

def dropTok : V → V
  | .sl T l _ => .sl T l .no
  | .agg cs => .agg (cs.map dropTok1)
  | v => v

abbrev Env (R : Type) := Nat → Option (Bool × Spec R)

def plainOp (E : Env R) (o : Op) : Bool :=
  match o with
  | .call c => (match c.callee with | .value (.func g) => (match E g with | some (b, _) => b | none => false) | .value (.tmp _) => true | _ => false)
  | _ => false

def softOp (E : Env R) (o : Op) : Bool :=
  match o with
  | .call c => (match c.callee with | .value (.func g) => lay0.soft g && (match E g with | some (false, _) => true | _ => false) | _ => false)
  | _ => false

def appOp : Op → Bool
  | .call c => (match c.callee with | .builtin .append => true | _ => false)
  | _ => false

def lowS (base id : Nat) : V → Bool | .row i _ => Nat.ble base i && decide (i < id) | .sl _ _ (.own i) => decide (i < id) | _ => true
def lowX (id : Nat) : V → Bool | .row i _ => decide (i < id) | .rview i _ _ _ => decide (i < id) | _ => true
def lowApp (base : Nat) (o : Op) (ρ : Operand → V) (id : Nat) : Bool :=
  match o with
  | .call c => (match c.args.toList with | [s, x] => lowS base id (ρ s) && lowX id (ρ x) | _ => true)
  | _ => true
def lowD (drawn : Option Nat) (o : Op) (ρ : Operand → V) (id : Nat) : Bool := match drawn with | none => true | some b => lowApp b o ρ id

def clsIn (tt : TTab) (E : Env R) (o : Op) : Cls := match opCls tt o with | .C => bif plainOp E o then .C else .F | c => c

def canon (tt : TTab) (t : Nat) (v : V) : V :=
  match (tt.at t).ty with
  | some T =>
    (match v with
     | .agg cs => (match T.dec cs with | some x => if tt.isAgg t then .agg (T.cells x) else v | none => v)
     | v => (match T.dec [v] with | some x => if tt.isAgg t then v else (match T.cells x with | [c] => c | _ => v) | none => v))
  | none =>
    (match (tt.at t).d with
     | .slice e => (match (tt.at e).ty with | some T => (match asSl T v with | some l => .sl T l .no | none => v) | none => v)
     | _ => v)

def canonA (tt : TTab) : List Nat → List V → List V
  | t :: ts, v :: vs => canon tt t v :: canonA tt ts vs
  | _, vs => vs

def lendK (sp : Spec R) (vs : List V) (h : Heap) (k : V → Heap → Option R) : Option R :=
  match V.idsL vs with
  | [] => sp vs [] fun v h' => (match h' with | [] => bif v.scal then k v h else none | _ :: _ => none)
  | _ :: _ => none

def callK (tt : TTab) (E : Env R) (full : Bool) (c : Call) (ρ : Operand → V) (h : Heap) (k : V → Heap → Option R) : Option R :=
  match c.callee with
  | .value f =>
    match ρ f with
    | .func g first cap =>
      let vs := first ++ c.args.toList.map ρ ++ cap
      (match E g with
       | some (true, sp) =>
         let ps := (first ++ canonA tt c.argTypes.toList (c.args.toList.map ρ) ++ cap).map dropTok
         (match V.idsL ps with
          | [] => sp ps [] fun v h' => (match h' with | [] => k v h | _ :: _ => none)
          | _ :: _ => bif full then lendK sp (V.shutL h ps) h k else none)
       | some (false, sp) =>
         bif full then
           bif lay0.soft g then sp vs h k else
           let ord := reach h 64 (V.idsL vs) []
           sp (V.renL (posIn ord) vs) (h.pick ord) fun v h' => k (v.ren fun j => some (backId ord h.length j)) (h.back ord h')
         else none
       | none => none)
    | _ => none
  | _ => none

def stepK (tt : TTab) (E : Env R) (drawn : Option Nat) (id : Nat) (o : Oper) (st : St) (k : St → Option R) : Option R :=
  let ρ := ev st.fr
  match opCls tt o.op with
  | .P => opP tt o.op ρ fun v => k ⟨putF st.fr o.dst v, st.hp⟩
  | .R => opR tt o.op ρ st.hp drawn fun v => k ⟨putF st.fr o.dst v, st.hp⟩
  | .A => opA tt o.op ρ fun ob mk => k ⟨putF st.fr o.dst (mk id), st.hp.set id ob⟩
  | .W => bif !lowD drawn o.op ρ id then none else opW tt o.op ρ st.hp id fun v h => k ⟨putF st.fr o.dst v, h⟩
  | .C => match o.op with | .call c => callK tt E (drawn.isNone || !plainOp E o.op) c ρ st.hp fun v h => k ⟨putF st.fr o.dst v, h⟩ | _ => none
  | .F => none
  | .X => none

def isAlloc (tt : TTab) (o : Oper) : Bool := match opCls tt o.op with | .A => true | .W => true | _ => false

def guardK (all : List Oper) (o : Oper) (st : St) (run skip : St → Option R) : Option R :=
  match o.guard with
  | none => run st
  | some (j, want) =>
    match ((all[j]?).bind (·.dst)) with
    | none => none
    | some d =>
      match st.fr.getD d .undef with
      | .bool b =>
        bif b then (if want then run ⟨st.fr.set d (.bool true), st.hp⟩ else skip ⟨st.fr.set d (.bool true), st.hp⟩)
        else (if want then skip ⟨st.fr.set d (.bool false), st.hp⟩ else run ⟨st.fr.set d (.bool false), st.hp⟩)
      | .tuple [] => skip st
      | _ => none

noncomputable def forceL {α β : Type} (l : List α) (k : List α → β) : β :=
  List.rec (motive := fun _ => (List α → β) → β) (fun k => k []) (fun v _ ih k => ih fun r => k (v :: r)) l k
theorem forceL_eq {α β : Type} : ∀ (l : List α) (k : List α → β), forceL l k = k l
  | [], _ => rfl
  | v :: l, k => forceL_eq l fun r => k (v :: r)
noncomputable def forceSt {β : Type} (st : St) (k : St → β) : β := forceL st.fr fun fr => forceL st.hp fun hp => k ⟨fr, hp⟩
theorem forceSt_eq {β : Type} (st : St) (k : St → β) : forceSt st k = k st := by unfold forceSt; rw [forceL_eq, forceL_eq]

noncomputable def opsK (tt : TTab) (E : Env R) (drawn : Option Nat) (all : List Oper) : List Oper → Nat → St → (St → Option R) → Option R
  | [], _, st, k => k st
  | o :: rest, id, st, k =>
    let id' := if isAlloc tt o then id + 1 else id
    guardK all o st (fun st => stepK tt E drawn id o st fun st => forceSt st fun st => opsK tt E drawn all rest id' st k)
      (fun st => forceSt ⟨putF st.fr o.dst (.tuple []), st.hp⟩ fun st => opsK tt E drawn all rest id' st k)

def orEdges (M : List Nat) (es : List Nat) : Nat := es.foldl (fun m e => m ||| (Nat.pow 2 e ||| M.getD e 0)) 0

def bindsOf (o : Oper) : List Nat := (o.after.toList.filter fun e => Region.binds .any e).map (·.on)

def beforeM (ops : List Oper) : List Nat := ops.foldl (init := []) fun M o => M ++ [orEdges M (bindsOf o)]
def beforeL (n : Nat) (M : List Nat) : List (List Nat) := (List.range n).map fun j => (List.range n).filter fun i => (M.getD j 0).testBit i

def looks (all : List Oper) (o : Oper) : List Nat :=
  (o.op.operands.toList.filterMap fun | .tmp t => some t | _ => none) ++
  (match o.guard with | some (g, _) => ((all[g]?).bind (·.dst)).toList | none => [])

def apartB (all : List Oper) (x y : Oper) : Bool :=
  (match x.dst with | some d => !(looks all y).contains d && y.dst != some d | none => true) &&
  (match y.dst with | some d => !(looks all x).contains d | none => true)

def clsOk (a b : Cls) : Bool :=
  match a, b with
  | .X, _ | _, .X => false
  | .P, _ | _, .P => true
  | .C, .R | .C, .A | .R, .C | .A, .C => true
  | .R, .R | .R, .A | .A, .R | .A, .A => true
  | _, _ => false

def tokPair (tt : TTab) (E : Env R) (x y : Op) : Bool :=
  ((appOp x && (match clsIn tt E y with | .A | .R => true | _ => false)) || ((match clsIn tt E x with | .R => true | _ => false) && appOp y)) ||
    ((softOp E x && (match clsIn tt E y with | .R => true | _ => false)) || ((match clsIn tt E x with | .R => true | _ => false) && softOp E y))

def pairOk (tt : TTab) (E : Env R) (all : List Oper) (x y : Oper) : Bool := (clsOk (clsIn tt E x.op) (clsIn tt E y.op) || tokPair tt E x.op y.op) && apartB all x y

def isF (tt : TTab) (E : Env R) (o : Op) : Bool := match clsIn tt E o with | .F => true | _ => false
def farR (tt : TTab) (E : Env R) (all : List Oper) (x : Oper) : Bool := (match clsIn tt E x.op with | .R => true | _ => false) && all.any fun y => isF tt E y.op && apartB all x y
def viaField (all : List Oper) (o : Oper) : Bool :=
  match o.op with
  | .store _ (.tmp t) _ => o.dst.isNone && o.guard.isNone && ((all.any fun z => z.dst == some t && (match z.op with | .fieldAddr _ _ _ => true | _ => false)) || all.all fun z => z.dst != some t)
  | _ => false
def viaMade (all : List Oper) (o : Oper) : Bool :=
  match o.op with
  | .store _ (.tmp t) _ => o.dst.isNone && o.guard.isNone && all.any fun z => z.dst == some t && (match z.op with | .alloc _ => true | _ => false)
  | _ => false
def viaS (all : List Oper) (o : Oper) : Bool := viaField all o || viaMade all o
def viaIndex (all : List Oper) (o : Oper) : Bool :=
  match o.op with
  | .store _ (.tmp t) _ => o.dst.isNone && o.guard.isNone && all.any fun z => z.dst == some t && (match z.op with | .indexAddr _ _ _ => true | _ => false)
  | _ => false
def farW (all : List Oper) (x y : Oper) : Bool := (viaField all x && viaIndex all y) || (viaIndex all x && viaField all y)
def farR2 (tt : TTab) (E : Env R) (all : List Oper) (x : Oper) : Bool := (match clsIn tt E x.op with | .R => true | _ => false) && all.any (viaS all)
def rdA (tt : TTab) (E : Env R) (x : Oper) : Bool := match clsIn tt E x.op with | .R | .A => true | _ => false
def noApp (tt : TTab) (E : Env R) (x y : Oper) : Bool := !(appOp x.op && rdA tt E y) && !(rdA tt E x && appOp y.op)
def drS (tt : TTab) (S : Option (Bool × List Nat)) (base : Nat) (o : Oper) : Option Nat := match S with | some (true, _) => (match opCls tt o.op with | .W => none | _ => some base) | _ => some base
def pairS (tt : TTab) (E : Env R) (far : Option Bool) (all : List Oper) (x y : Oper) : Bool :=
  (pairOk tt E all x y && (match far with | some true => noApp tt E x y | _ => true)) || (match far with
    | none => false
    | some true => ((farR tt E all x && isF tt E y.op) || (isF tt E x.op && (!softOp E x.op && (match opCls tt y.op with | .A => true | _ => false))) || farW all x y || (isF tt E x.op && farR tt E all y)) && apartB all x y
    | some false => (farR2 tt E all x && viaS all y) && apartB all x y)
def readIds (o : Op) (ρ : Operand → V) : List Nat := match o with | .load _ x => (ρ x).ids | .lookup _ x _ _ => (ρ x).ids | .convert _ _ x => (ρ x).ids | _ => []
def callIds (o : Op) (ρ : Operand → V) (h : Heap) : List Nat :=
  match o with
  | .call c => (match c.callee with | .value f => (match ρ f with | .func _ first cap => reach h 64 (V.idsL (first ++ c.args.toList.map ρ ++ cap)) [] | _ => []) | _ => [])
  | _ => []
def storeIds (o : Op) (ρ : Operand → V) : List Nat := match o with | .store _ x _ => (ρ x).ids | _ => []
def capOf (tt : TTab) (all : List Oper) (base : Nat) (o : Oper) : Nat := base + ((all.takeWhile fun z => z.dst != o.dst).filter (isAlloc tt)).length
def okS (tt : TTab) (E : Env R) (base : Nat) (S : Option (Bool × List Nat)) (all : List Oper) (o : Oper) (ρ : Operand → V) (h : Heap) : Bool :=
  match S with
  | none => true
  | some (false, A) =>
    match opCls tt o.op with
    | .R => !farR2 tt E all o || (readIds o.op ρ).all fun i => !A.contains i
    | .W => !viaS all o || (storeIds o.op ρ).all fun i => A.contains i
    | _ => true
  | some (true, A) =>
    match opCls tt o.op with
    | .R => !farR tt E all o || (readIds o.op ρ).all fun i => A.contains i
    | .C => !isF tt E o.op || softOp E o.op || (Nat.ble (base + (all.filter (isAlloc tt)).length) h.length && (callIds o.op ρ h).all (fun i => Nat.blt i (capOf tt all base o)) && A.all fun i => Nat.blt i h.length && !(callIds o.op ρ h).contains i)
    | .W => (!viaField all o || (storeIds o.op ρ).all fun i => A.contains i) && (!viaIndex all o || (storeIds o.op ρ).all fun i => !A.contains i)
    | _ => true
def avoidIds (ops : List Oper) (fr : List V) : List Nat := ops.flatMap fun o => match o.op with | .fieldAddr _ x _ => (ev fr x).ids | .load _ x => (ev fr x).ids | .store _ x _ => (ev fr x).ids | _ => []

def madeAt (tt : TTab) (t : Nat) : List Oper → Nat → List Nat
  | [], _ => []
  | z :: l, id => bif z.dst == some t then [id] else madeAt tt t l (bif isAlloc tt z then id + 1 else id)
def rootIds (ops : List Oper) (fr : List V) : Nat → Operand → List Nat
  | 0, _ => []
  | n + 1, .tmp t => (match ops.find? fun z => z.dst == some t with | none => (ev fr (.tmp t)).ids | some z => (match z.op with | .fieldAddr _ y _ => rootIds ops fr n y | .nilCheck y => rootIds ops fr n y | .move y => rootIds ops fr n y | _ => []))
  | _, x => (ev fr x).ids
def storesAt (tt : TTab) (n : Nat) (ops : List Oper) (fr : List V) : List Nat := ops.flatMap fun o =>
  bif viaField ops o then (match o.op with | .store _ (.tmp t) _ => rootIds ops fr 9 (.tmp t) | _ => [])
  else bif viaMade ops o then (match o.op with | .store _ (.tmp t) _ => madeAt tt t ops n | _ => []) else []

noncomputable def opsS (tt : TTab) (E : Env R) (base : Nat) (A : Bool × List Nat) (all : List Oper) : List Oper → Nat → St → (St → Option R) → Option R
  | [], _, st, k => k st
  | o :: rest, id, st, k =>
    let id' := if isAlloc tt o then id + 1 else id
    guardK all o st (fun st => bif okS tt E base (some A) all o (ev st.fr) st.hp then stepK tt E (drS tt (some A) base o) id o st fun st => forceSt st fun st => opsS tt E base A all rest id' st k else none)
      (fun st => forceSt ⟨putF st.fr o.dst (.tuple []), st.hp⟩ fun st => opsS tt E base A all rest id' st k)

def drawOk (tt : TTab) (E : Env R) (far : Option Bool) (ops : List Oper) : Bool :=
  let M := beforeM ops
  (List.range ops.length).all fun j => (List.range j).all (fun i =>
    (M.getD j 0).testBit i || pairS tt E far ops (ops.getD i default) (ops.getD j default)) &&
    (bindsOf (ops.getD j default)).all (fun i => Nat.blt i j) &&
    Nat.beq (M.getD j 0) (orEdges M (bindsOf (ops.getD j default)))

def mailApp (tt : TTab) (ops : List Oper) : Bool := ops.any fun o =>
  match o.op with
  | .call c => (match c.argTypes.toList with
    | t :: _ => (match (tt.at t).d with | .slice e => (tt.at e).rowy && (match (tt.at e).ty with | some T => T.isMail | none => false) | _ => false)
    | _ => false)
  | _ => false
def drawN (tt : TTab) (E : Env R) (ops : List Oper) : Bool := drawOk tt E none ops && !(mailApp tt ops && drawOk tt E (some true) ops)
theorem drawN_ok {tt : TTab} {E : Env R} {ops : List Oper} (h : drawN tt E ops = true) : drawOk tt E none ops = true := by
  unfold drawN at h
  rw [Bool.and_eq_true] at h
  exact h.1

def avoidM (tt : TTab) (ops : List Oper) (fr : List V) : List Nat :=
  avoidIds ops fr ++ bif mailApp tt ops then ops.flatMap fun o => match o.op with | .move x => (ev fr x).ids | .nilCheck x => (ev fr x).ids | _ => [] else []
noncomputable def regionK (tt : TTab) (E : Env R) (ops : List Oper) (draw : Bool) (st : St) (k : St → Option R) : Option R :=
  let n := st.hp.length
  let st' : St := ⟨st.fr, st.hp ++ List.replicate (ops.filter (isAlloc tt)).length .free⟩
  if draw then (if drawN tt E ops then opsK tt E (some n) ops ops n st' k else if drawOk tt E (some true) ops then opsS tt E n (true, avoidM tt ops st.fr) ops ops n st' k else if drawOk tt E (some false) ops then opsS tt E n (false, storesAt tt n ops st.fr) ops ops n st' k else none)
  else opsK tt E none ops ops n st' k

noncomputable def lookF (log : List (Nat × V)) (t : Nat) (d : V) : V :=
  List.rec (motive := fun _ => V) d (fun x _ ih => cond (Nat.beq x.1 t) x.2 ih) log
noncomputable def lookC {β : Type} (log : List (Nat × V)) (t : Nat) (d : V) (k : V → β) : β :=
  List.rec (motive := fun _ => β) (k d) (fun x _ ih => cond (Nat.beq x.1 t) (k x.2) ih) log
noncomputable def mergeC {β : Type} (log : List (Nat × V)) (fr : List V) (k : List V → β) : β :=
  List.rec (motive := fun _ => Nat → (List V → β) → β) (fun _ k => k []) (fun v _ ih i k => lookC log i v fun v' => ih (i + 1) fun r => k (v' :: r)) fr 0 k
noncomputable def evF (fr : List V) (log : List (Nat × V)) (x : Operand) : V := match x with | .tmp t => lookF log t (fr.getD t .undef) | x => ev fr x
def pushF (n : Nat) (log : List (Nat × V)) (dst : Option Nat) (v : V) : List (Nat × V) := match dst with | some d => bif Nat.blt d n then (d, v) :: log else log | none => log

def stepF (tt : TTab) (E : Env R) (drawn : Option Nat) (id : Nat) (o : Oper) (ρ : Operand → V) (hp : Heap) (k : V → Heap → Option R) : Option R :=
  match opCls tt o.op with
  | .P => opP tt o.op ρ fun v => k v hp
  | .R => opR tt o.op ρ hp drawn fun v => k v hp
  | .A => opA tt o.op ρ fun ob mk => k (mk id) (hp.set id ob)
  | .W => bif !lowD drawn o.op ρ id then none else opW tt o.op ρ hp id fun v h => k v h
  | .C => match o.op with | .call c => callK tt E (drawn.isNone || !plainOp E o.op) c ρ hp fun v h => k v h | _ => none
  | .F => none
  | .X => none

noncomputable def guardF (all : List Oper) (o : Oper) (fr : List V) (log : List (Nat × V)) (run skip : List (Nat × V) → Option R) : Option R :=
  match o.guard with
  | none => run log
  | some (j, want) =>
    match ((all[j]?).bind (·.dst)) with
    | none => none
    | some d =>
      match lookF log d (fr.getD d .undef) with
      | .bool b =>
        bif b then (if want then run ((d, .bool true) :: log) else skip ((d, .bool true) :: log))
        else (if want then skip ((d, .bool false) :: log) else run ((d, .bool false) :: log))
      | .tuple [] => skip log
      | _ => none

noncomputable def opsF (tt : TTab) (E : Env R) (drawn : Option Nat) (all : List Oper) (n : Nat) (fr : List V) : List Oper → Nat → List (Nat × V) → Heap → (St → Option R) → Option R
  | [], _, log, hp, k => mergeC log fr fun fr => forceL hp fun hp => k ⟨fr, hp⟩
  | o :: rest, id, log, hp, k =>
    let id' := if isAlloc tt o then id + 1 else id
    guardF all o fr log (fun log => stepF tt E drawn id o (evF fr log) hp fun v hp => forceL hp fun hp => opsF tt E drawn all n fr rest id' (pushF n log o.dst v) hp k)
      (fun log => opsF tt E drawn all n fr rest id' (pushF n log o.dst (.tuple [])) hp k)

noncomputable def regionF (tt : TTab) (E : Env R) (ops : List Oper) (draw : Bool) (st : St) (k : St → Option R) : Option R :=
  let n := st.hp.length
  let hp := st.hp ++ List.replicate (ops.filter (isAlloc tt)).length .free
  if draw then (if drawN tt E ops then opsF tt E (some n) ops st.fr.length st.fr ops n [] hp k else if drawOk tt E (some true) ops then opsS tt E n (true, avoidM tt ops st.fr) ops ops n ⟨st.fr, hp⟩ k else if drawOk tt E (some false) ops then opsS tt E n (false, storesAt tt n ops st.fr) ops ops n ⟨st.fr, hp⟩ k else none)
  else opsF tt E none ops st.fr.length st.fr ops n [] hp k

inductive Ex where
  | normal | exit (id : Nat) | goto (l : Nat) | ret

structure Hint where
  live : List Nat
  own : List (Nat × Ty) := []
  rows : List (Nat × Ty) := []
  cells : List (Nat × Nat × Ty × Bool) := []
  drop : List Nat := []
  out : List Nat := []

def normFr (live drop : List Nat) (fr : List V) : List V := fr.zipIdx.map fun (v, i) => if live.contains i then (if drop.contains i then dropTok v else v) else .undef

def ownNil : List (Nat × Ty) → St → St
  | [], st => st
  | (d, T) :: r, st =>
    match st.fr.getD d .undef with
    | .nilsl => ownNil r ⟨st.fr.set d (.sl T [] (.own st.hp.length)), st.hp ++ [.tok]⟩
    | .sl T' l .nil => ownNil r ⟨st.fr.set d (.sl T' l (.own st.hp.length)), st.hp ++ [.tok]⟩
    | _ => ownNil r st

def rowNil : List (Nat × Ty) → St → St
  | [], st => st
  | (d, T) :: r, st =>
    match st.fr.getD d .undef with
    | .nilsl => rowNil r ⟨st.fr.set d (.row st.hp.length 0), st.hp ++ [.row T []]⟩
    | _ => rowNil r st

def nilOb (T : Ty) (b : Bool) : AObj := bif b then .row T [] else .tok
def nilVal (T : Ty) (b : Bool) (i : Nat) : V := bif b then .row i 0 else .sl T [] (.own i)

def cellNil : List (Nat × Nat × Ty × Bool) → St → St
  | [], st => st
  | (i, o, T, b) :: r, st =>
    match st.hp.at i with
    | .cells cs =>
      (match cs.getD o .undef with
       | .nilsl => cellNil r ⟨st.fr, st.hp.set i (.cells (cs.set o (nilVal T b st.hp.length))) ++ [nilOb T b]⟩
       | _ => cellNil r st)
    | .bld v =>
      (match v with
       | .nilsl => cellNil r ⟨st.fr, st.hp.set i (.bld (nilVal T b st.hp.length)) ++ [nilOb T b]⟩
       | _ => cellNil r st)
    | _ => cellNil r st

def St.gc (m : Nat) (st : St) : St :=
  let ord := reach st.hp 256 (List.range m ++ V.idsL st.fr) []
  ⟨V.renL (posIn ord) st.fr, st.hp.pick ord⟩

def preGc (m : Nat) (h : Hint) (st : St) : St := match h.cells with | [] => st | _ :: _ => st.gc m
def norm (m : Nat) (h : Hint) (st : St) : St := (cellNil h.cells (rowNil h.rows (ownNil h.own (preGc m h ⟨normFr h.live h.drop st.fr, st.hp⟩)))).gc m

def trim (m : Nat) (h : Hint) (st : St) : St := (⟨normFr h.out [] st.fr, st.hp⟩ : St).gc m

abbrev LSpec (R : Type) := St → (Ex → St → Option R) → Option R

def keyOf : Code → Nat
  | .region id _ _ => id
  | .seq a _ => keyOf a
  | .block _ b => keyOf b
  | .loop b => keyOf b
  | .cond _ a _ => keyOf a
  | .scope b => keyOf b
  | _ => 0

def iterK (body : LSpec R) : Nat → LSpec R
  | 0, _, _ => none
  | n + 1, st, K => body st fun e st' => match e with | .normal => iterK body n st' K | e => K e st'

def loopN (body : LSpec R) (f : St → St) : Nat → LSpec R
  | 0, _, _ => none
  | n + 1, st, K => body st fun e st' => match e with | .normal => loopN body f n (f st') K | e => K e st'

noncomputable def anyT (a b : Option R) : Option R := open Classical in if a = b then a else none

noncomputable def interp (tt : TTab) (E : Env R) (L : Nat → Option (Hint × LSpec R)) (m : Nat) : Code → LSpec R
  | .skip, st, K => K .normal st
  | .region _ ops draw, st, K => regionF tt E ops.toList draw st fun st' => K .normal st'
  | .seq a b, st, K => interp tt E L m a st fun e st' => match e with | .normal => interp tt E L m b st' K | e => K e st'
  | .cond c a b, st, K => match ev st.fr c with | .bool t => bif t then interp tt E L m a st K else interp tt E L m b st K | .anyb => anyT (interp tt E L m a st K) (interp tt E L m b st K) | _ => none
  | .block id a, st, K => interp tt E L m a st fun e st' => match e with | .exit i => if i = id then K .normal st' else K (.exit i) st' | e => K e st'
  | .loop a, st, K =>
    match L (keyOf a) with
    | some (h, ls) => ls (norm m h st) K
    | none => iterK (interp tt E L m a) 70 st K
  | .exit id, st, K => K (.exit id) st
  | .ret, st, K => K .ret st
  | _, _, _ => none

def resK (tt : TTab) (st : St) : List ResultVar → (List V → Option R) → Option R
  | [], k => k []
  | .tmp t :: r, k => resK tt st r fun vs => k (st.fr.getD t .undef :: vs)
  | .cell a t :: r, k =>
    match st.fr.getD a .undef with
    | .ptr i o =>
      (match st.hp.at i with
       | .cells cs => partK tt t cs o fun v => resK tt st r fun vs => k (v :: vs)
       | _ => none)
    | _ => none

def killRows (h : Heap) : List Nat → Heap
  | [] => h
  | i :: r => match h.at i with | .row _ _ => killRows (h.set i .dead) r | _ => killRows h r

def canonL (tt : TTab) : List Nat → List V → List V
  | t :: ts, v :: vs => canon tt t v :: canonL tt ts vs
  | _, _ => []

def mailRows (h : Heap) (m : Nat) : List Nat := (List.range m).filter fun i =>
  (match h.at i with | .row T _ => T.isMail | _ => false) && (List.range m).any fun j => match h.at j with | .cells cs => (V.idsL cs).contains i | _ => false
def rebirth (h : Heap) (m : Nat) (ord : List Nat) : List Nat :=
  bif (mailRows h m).isEmpty || !(ord.all fun i => Nat.blt i h.length) then ord
  else ord.map (fun i => bif (mailRows h m).contains i then h.length + i else i) ++ mailRows h m

def finishK (tt : TTab) (ts : List Nat) (m : Nat) (keep : Bool) (vs : List V) (h : Heap) (k : V → Heap → Option R) : Option R :=
  let ws := if keep then vs else canonL tt ts (V.shutL h vs)
  let h := if keep then h else killRows h (V.idsL vs)
  let ord := reach h 256 (List.range m ++ V.idsL ws) []
  let ord := bif keep && (V.idsL ws).isEmpty then rebirth h m ord else ord
  k (match V.renL (posIn ord) ws with | [v] => v | l => .tuple l) (h.pick ord)

noncomputable def funK (tt : TTab) (E : Env R) (L : Nat → Option (Hint × LSpec R)) (keep : Bool) (fn : Func) (c : Code) : Spec R :=
  fun args h k =>
    if 200 < h.length then none else
    interp tt E L h.length c ⟨args ++ List.replicate (fn.ntmps - args.length) .undef, h⟩ fun e st =>
      match e with
      | .normal | .ret => resK tt st fn.results.toList fun vs => finishK tt fn.resultTypes.toList h.length keep vs st.hp k
      | _ => none

end
end Go.Yard

namespace Go.Yard
open Go.RowKit

structure ExtT where
  cells : Nat → Nat → Prop
instance : CoeFun ExtT fun _ => Nat → Nat → Prop := ⟨ExtT.cells⟩

structure Cfg where
  blk : Nat → Option Nat
  off : Nat → Nat
  /-- cells that are the callers' -/
  ext : ExtT

def AObj.from_ (o : AObj) (f : Nat) : Option Nat :=
  match o with
  | .free => none
  | .dead => none
  | .tok => some f
  | _ => some 0

def Used (h : Heap) (i : Nat) : Prop := i < h.length ∧ h.at i ≠ .free

def Owns (h : Heap) (c : Cfg) (b x : Nat) : Prop := ∃ i f, c.blk i = some b ∧ (h.at i).from_ (c.off i) = some f ∧ f ≤ x

def Free (h : Heap) (c : Cfg) (b x : Nat) : Prop := ¬ Owns h c b x ∧ ¬ c.ext b x

def mx : Nat := 9223372036854775807

def TokE (T : Ty) (o : Nat) (e : TypeId) : Prop := T = .int .u8 → o = 0 ∧ e = lay0.u8

inductive Rep (w : World) (h : Heap) (c : Cfg) : V → Value → Prop where
  | undef (v : Value) : Rep w h c .undef v
  | int {k : IntKind} {n : Int} (hn : k.has n) : Rep w h c (.int k n) (.int k n)
  | bool (b : Bool) : Rep w h c (.bool b) (.bool b)
  | str {s : ByteArray} (hl : s.size ≤ mx) : Rep w h c (.str s.data.toList) (.string s)
  | nilptr : Rep w h c .nilptr (.pointer none)
  | ptr {i o : Nat} {v : Value} (hi : Used h i) (hv : ∃ b, v = .pointer (some ⟨b, o, none⟩) ∧ (h.at i ≠ .dead → c.blk i = some b)) : Rep w h c (.ptr i o) v
  | iptr {cs : List V} {b o : Nat} (f : Nat → Value) (hc : ∀ j, j < cs.length → w.cell? ⟨b, o + j, none⟩ = some (f j) ∧ Free h c b (o + j))
      (hr : ∀ (j : Nat) (v : V), cs[j]? = some v → Rep w h c v (f j)) : Rep w h c (.iptr cs) (.pointer (some ⟨b, o, none⟩))
  | nilsl : Rep w h c .nilsl (.slice none 0 0)
  | sl {T : Ty} {l : List T.den} {t : Tok} {A : Option Addr} {cap : Nat} (f : Nat → Nat → Value) (hcap : l.length ≤ cap) (hmx : cap ≤ mx)
      (hc : ∀ i j, i < l.length → j < T.sz → ∃ b o, A = some ⟨b, o, none⟩ ∧ w.cell? ⟨b, o + i * T.sz + j, none⟩ = some (f i j) ∧ Free h c b (o + i * T.sz + j))
      (hr : ∀ (i j : Nat) (x : T.den) (v : V), l[i]? = some x → (T.cells x)[j]? = some v → Rep w h c v (f i j))
      (hnil : t = .nil → A = none ∧ cap = 0)
      (hown : ∀ i, t = .own i → Used h i ∧ (h.at i = .tok →
        (c.blk i = none ∧ A = none ∧ cap = 0) ∨ ∃ b o arr e fz, c.blk i = some b ∧ A = some ⟨b, o, none⟩ ∧ c.off i = o + l.length * T.sz ∧
          w.heap[b]? = some (Obj.cells arr e fz) ∧ o + cap * T.sz ≤ arr.size ∧ TokE T o e)) : Rep w h c (.sl T l t) (.slice A l.length cap)
  | vsl {n sz : Nat} {cs : List V} {A : Option Addr} (hn : cs.length = n * sz) (hmx : n ≤ mx) (f : Nat → Value)
      (hc : ∀ j, j < cs.length → ∃ b o, A = some ⟨b, o, none⟩ ∧ w.cell? ⟨b, o + j, none⟩ = some (f j) ∧ Free h c b (o + j))
      (hr : ∀ (j : Nat) (v : V), cs[j]? = some v → Rep w h c v (f j)) : Rep w h c (.vsl n cs) (.slice A n n)
  | row {i n : Nat} {v : Value} (hi : Used h i) (hn : n ≤ mx) (hv : ∃ A cap, v = .slice A n cap ∧ (n ≤ cap ∧ cap ≤ mx ∧ (0 < n → ∃ a, A = some a)) ∧ ∀ T l, h.at i = .row T l → n = l.length ∧ n ≤ cap ∧ cap ≤ mx ∧
        ((c.blk i = none ∧ A = none ∧ cap = 0) ∨ ∃ b arr e fz, c.blk i = some b ∧ A = some ⟨b, c.off i, none⟩ ∧ w.heap[b]? = some (Obj.cells arr e fz) ∧ c.off i + cap * T.sz ≤ arr.size)) :
      Rep w h c (.row i n) v
  | rview {i z q n : Nat} {v : Value} (hi : Used h i) (hn : n ≤ mx) (hv : ∃ A cap, v = .slice A n cap ∧ (n ≤ cap ∧ cap ≤ mx ∧ (0 < n → ∃ a, A = some a)) ∧ ∀ T l, h.at i = .row T l → z = T.sz → q ≤ l.length → l.length ≤ q + cap ∧
        (q < l.length → ∃ b arr e fz, c.blk i = some b ∧ A = some ⟨b, c.off i + q * T.sz, none⟩ ∧ w.heap[b]? = some (Obj.cells arr e fz) ∧ c.off i + (q + cap) * T.sz ≤ arr.size)) : Rep w h c (.rview i z q n) v
  | rptr {i n j o : Nat} {v : Value} (hi : Used h i) (hv : ∃ a, v = .pointer (some a) ∧ ∀ T l, h.at i = .row T l → n = T.sz → j < l.length → ∃ b, c.blk i = some b ∧ a = ⟨b, c.off i + j * T.sz + o, none⟩) :
      Rep w h c (.rptr i n j o) v
  | func {f : Nat} {a b : List V} {x y : Array Value} (ha : a.length = x.size) (hb : b.length = y.size)
      (hra : ∀ (j : Nat) (v : V) (d : Value), a[j]? = some v → x[j]? = some d → Rep w h c v d) (hrb : ∀ (j : Nat) (v : V) (d : Value), b[j]? = some v → y[j]? = some d → Rep w h c v d) :
      Rep w h c (.func f a b) (.func (.func f) x y)
  | nilfunc : Rep w h c .nilfunc .nilFunc
  | agg {cs : List V} {x : Array Value} (hl : cs.length = x.size) (hr : ∀ (j : Nat) (v : V) (d : Value), cs[j]? = some v → x[j]? = some d → Rep w h c v d) : Rep w h c (.agg cs) (.agg x)
  | tuple {cs : List V} {x : Array Value} (hl : cs.length = x.size) (hr : ∀ (j : Nat) (v : V) (d : Value), cs[j]? = some v → x[j]? = some d → Rep w h c v d) : Rep w h c (.tuple cs) (.tuple x)
  | map {i : Nat} {v : Value} (hi : Used h i) (hv : ∃ b, v = .map (some b) ∧ (h.at i ≠ .dead → c.blk i = some b)) : Rep w h c (.map i) v
  | nilmap : Rep w h c .nilmap (.map none)
  | niliface : Rep w h c .niliface .nilIface
  | iface (t : TypeId) (v : Value) : Rep w h c .iface (.iface t v)
  | ifi {t : TypeId} {k : IntKind} {n : Int} (hn : k.has n) : Rep w h c (.ifi t k n) (.iface t (.int k n))
  | anyb (b : Bool) : Rep w h c .anyb (.bool b)

def RepL (w : World) (h : Heap) (c : Cfg) (cs : List V) (ds : List Value) : Prop :=
  cs.length = ds.length ∧ ∀ (j : Nat) (v : V) (d : Value), cs[j]? = some v → ds[j]? = some d → Rep w h c v d

def ObjOK (w : World) (h : Heap) (c : Cfg) (i : Nat) : AObj → Prop
  | .free => True
  | .dead => True
  | .cells cs => ∃ b arr e, c.blk i = some b ∧ w.heap[b]? = some (Obj.cells arr e (0, 0)) ∧ RepL w h c cs arr.toList
  | .row T l => (c.blk i = none ∧ l = []) ∨ ∃ b arr e fz, c.blk i = some b ∧ w.heap[b]? = some (Obj.cells arr e fz) ∧ c.off i + l.length * T.sz ≤ arr.size ∧
      (∀ x, (x < arr.size ∨ T.isMail = true) → w.frozen? ⟨b, x, none⟩ = false) ∧ ∀ (n j : Nat) (x : T.den) (v : V), l[n]? = some x → (T.cells x)[j]? = some v → ∃ d, arr[c.off i + n * T.sz + j]? = some d ∧ Rep w h c v d
  | .tok => c.blk i = none ∨ ∃ b arr e fz, c.blk i = some b ∧ w.heap[b]? = some (Obj.cells arr e fz) ∧ c.off i ≤ arr.size ∧ (fz.1 = fz.2 ∨ fz.2 ≤ c.off i)
  | .bld v => ∃ b p d, c.blk i = some b ∧ w.heap[b]? = some (Obj.cells #[p, d] lay0.bld (0, 0)) ∧ (p = .pointer none ∨ p = .pointer (some ⟨b, 0, none⟩)) ∧ Rep w h c v d
  | .iter s pos => ∃ b bs, c.blk i = some b ∧ w.heap[b]? = some (.stringIter bs pos) ∧ bs.data.toList = s ∧ bs.size ≤ mx
  | .amap K T l => ∃ b es clock, c.blk i = some b ∧ w.heap[b]? = some (.map es clock) ∧ keyable K = true ∧ T.one = true ∧ es.size = l.length ∧
      ∀ (j : Nat) (x : K.den × T.den) (e : MapEntry), l[j]? = some x → es[j]? = some e → Rep w h c (elV K x.1) e.key ∧ Rep w h c (elV T x.2) e.val

def AObj.live : AObj → Prop
  | .free => False
  | .dead => False
  | _ => True

def Laid (w : World) (h : Heap) (c : Cfg) : Prop := lay0.says w ∧ ∀ b, lay0.blocks b → b < w.heap.size ∧ ∀ x, ¬ Owns h c b x

structure WF (w : World) (h : Heap) (c : Cfg) : Prop where
  disj : ∀ b x, Owns h c b x → ¬ c.ext b x
  extlt : ∀ b x, c.ext b x → b < w.heap.size
  obj : ∀ i, i < h.length → ObjOK w h c i (h.at i)
  inj : ∀ i j b, (h.at i).live → (h.at j).live → c.blk i = some b → c.blk j = some b → i = j
  lay : Laid w h c

def AObj.sim : AObj → AObj → Prop
  | .cells cs, .cells ds => cs.length = ds.length
  | .row T l, .row U m => T = U ∧ l.length = m.length
  | .tok, .tok => True
  | .iter _ _, .iter _ _ => True
  | .bld _, .bld _ => True
  | .amap K T _, .amap K' U _ => K = K' ∧ T = U
  | _, _ => False

structure Ext (w : World) (h : Heap) (c : Cfg) (w' : World) (h' : Heap) (c' : Cfg) : Prop where
  os : w'.os = w.os
  tape : w'.tape = w.tape
  output : w'.output = w.output
  size : w.heap.size ≤ w'.heap.size
  used : ∀ i, Used h i → Used h' i
  same : ∀ i, Used h i → h'.at i ≠ .dead → (h.at i).sim (h'.at i) ∧ c'.blk i = c.blk i ∧ c'.off i = c.off i
  cell : ∀ b x, b < w.heap.size → ¬ Owns h c b x → w'.cell? ⟨b, x, none⟩ = w.cell? ⟨b, x, none⟩
  block : ∀ b, b < w.heap.size → (∀ x, ¬ Owns h c b x) → w'.heap[b]? = w.heap[b]?
  owns : ∀ b x, b < w.heap.size → Owns h' c' b x → Owns h c b x
  ext : c'.ext = c.ext
  arr : ∀ (b : Nat) (arr : Array Value) (e : TypeId) (fz : Nat × Nat), w.heap[b]? = some (Obj.cells arr e fz) → ∃ (arr' : Array Value) (fz' : Nat × Nat), w'.heap[b]? = some (Obj.cells arr' e fz') ∧ arr'.size = arr.size

theorem Ext.refl (w : World) (h : Heap) (c : Cfg) : Ext w h c w h c where
  os := rfl
  tape := rfl
  output := rfl
  size := Nat.le_refl _
  used := fun _ hi => hi
  same := fun i hi hd => ⟨by have h2 := hi.2; revert hd h2; cases h.at i <;> simp [AObj.sim], rfl, rfl⟩
  cell := fun _ _ _ _ => rfl
  block := fun _ _ _ => rfl
  owns := fun _ _ _ ho => ho
  ext := rfl
  arr := fun b arr e fz hb => ⟨arr, fz, hb, rfl⟩

theorem AObj.sim_dead {o o' : AObj} (h : o.sim o') : o ≠ .dead ∧ o' ≠ .dead := by
  cases o <;> cases o' <;> simp_all [AObj.sim]

theorem AObj.sim_trans {a b c : AObj} (h : a.sim b) (k : b.sim c) : a.sim c := by
  cases a <;> cases b <;> cases c <;> simp_all [AObj.sim]

theorem Ext.trans {w w1 w2 : World} {h h1 h2 : Heap} {c c1 c2 : Cfg} (a : Ext w h c w1 h1 c1) (b : Ext w1 h1 c1 w2 h2 c2) : Ext w h c w2 h2 c2 where
  os := b.os.trans a.os
  tape := b.tape.trans a.tape
  output := b.output.trans a.output
  size := Nat.le_trans a.size b.size
  used := fun i hi => b.used i (a.used i hi)
  same := fun i hi hd => by
    obtain ⟨s2, e2, f2⟩ := b.same i (a.used i hi) hd
    obtain ⟨s1, e1, f1⟩ := a.same i hi (AObj.sim_dead s2).1
    exact ⟨AObj.sim_trans s1 s2, e2.trans e1, f2.trans f1⟩
  cell := fun x y hx ho => by
    rw [b.cell x y (Nat.lt_of_lt_of_le hx a.size) (fun o => ho (a.owns x y hx o)), a.cell x y hx ho]
  block := fun x hx ho => by
    rw [b.block x (Nat.lt_of_lt_of_le hx a.size) (fun y o => ho y (a.owns x y hx o)), a.block x hx ho]
  owns := fun x y hx o => a.owns x y hx (b.owns x y (Nat.lt_of_lt_of_le hx a.size) o)
  ext := b.ext.trans a.ext
  arr := fun x arr e fz hx => by
    obtain ⟨a1, f1, h1, s1⟩ := a.arr x arr e fz hx
    obtain ⟨a2, f2, h2, s2⟩ := b.arr x a1 e f1 h1
    exact ⟨a2, f2, h2, s2.trans s1⟩

theorem lt_of_cell {w : World} {b x : Nat} {v : Value} (h : w.cell? ⟨b, x, none⟩ = some v) : b < w.heap.size :=
  World.block_lt_of_cell? _ _ h

theorem sim_tok {o o' : AObj} (h : o.sim o') (e : o' = .tok) : o = .tok := by subst e; cases o <;> simp_all [AObj.sim]
theorem sim_row {o : AObj} {T : Ty} {l : List T.den} (h : o.sim (.row T l)) : ∃ m : List T.den, o = .row T m ∧ m.length = l.length := by
  cases o with
  | row U m => obtain ⟨rfl, e⟩ := h; exact ⟨m, rfl, e⟩
  | _ => simp [AObj.sim] at h

section
variable {w w' : World} {h h' : Heap} {c c' : Cfg}

theorem Ext.keepcell (x : Ext w h c w' h' c') {b o : Nat} {v : Value} (hc : w.cell? ⟨b, o, none⟩ = some v) (ho : Free h c b o) :
    w'.cell? ⟨b, o, none⟩ = some v ∧ Free h' c' b o :=
  ⟨(x.cell b o (lt_of_cell hc) ho.1).trans hc, fun k => ho.1 (x.owns b o (lt_of_cell hc) k), by rw [x.ext]; exact ho.2⟩

theorem Rep.mono (x : Ext w h c w' h' c') {v : V} {d : Value} (r : Rep w h c v d) : Rep w' h' c' v d := by
  induction r with
  | undef v => exact .undef v
  | int hn => exact .int hn
  | bool b => exact .bool b
  | str hl => exact .str hl
  | nilptr => exact .nilptr
  | nilsl => exact .nilsl
  | nilfunc => exact .nilfunc
  | nilmap => exact .nilmap
  | niliface => exact .niliface
  | iface t v => exact .iface t v
  | ifi hn => exact .ifi hn
  | anyb b => exact .anyb b
  | ptr hi hv =>
    obtain ⟨b, hv, hb⟩ := hv
    refine .ptr (x.used _ hi) ⟨b, hv, fun hd => ?_⟩
    obtain ⟨s, e, _⟩ := x.same _ hi hd
    rw [e]
    exact hb (AObj.sim_dead s).1
  | map hi hv =>
    obtain ⟨b, hv, hb⟩ := hv
    refine .map (x.used _ hi) ⟨b, hv, fun hd => ?_⟩
    obtain ⟨s, e, _⟩ := x.same _ hi hd
    rw [e]
    exact hb (AObj.sim_dead s).1
  | iptr f hc _ ih => exact .iptr f (fun j hj => x.keepcell (hc j hj).1 (hc j hj).2) ih
  | sl f hcap hmx hc _ hnil hown ih =>
    refine .sl f hcap hmx (fun i j hi hj => ?_) ih hnil (fun i ht => ?_)
    · obtain ⟨b, o, hA, h1, h2⟩ := hc i j hi hj
      exact ⟨b, o, hA, x.keepcell h1 h2⟩
    · obtain ⟨hi, ho⟩ := hown i ht
      refine ⟨x.used _ hi, fun htok => ?_⟩
      obtain ⟨s, e, eo⟩ := x.same i hi (by rw [htok]; simp)
      rw [e, eo]
      rcases ho (sim_tok s htok) with hn | ⟨b, o, arr, el, fz, h1, h2, h3, h4, h5⟩
      · exact .inl hn
      · obtain ⟨arr', fz', h4', hs⟩ := x.arr b arr el fz h4
        exact .inr ⟨b, o, arr', el, fz', h1, h2, h3, h4', by rw [hs]; exact h5.1, h5.2⟩
  | vsl hn hmx f hc _ ih =>
    refine .vsl hn hmx f (fun j hj => ?_) ih
    obtain ⟨b, o, hA, h1, h2⟩ := hc j hj
    exact ⟨b, o, hA, x.keepcell h1 h2⟩
  | row hi hn hv =>
    obtain ⟨A, cap, hv1, hA, hv⟩ := hv
    refine .row (x.used _ hi) hn ⟨A, cap, hv1, hA, fun T l he => ?_⟩
    obtain ⟨s, e, eo⟩ := x.same _ hi (by rw [he]; simp)
    rw [he] at s
    obtain ⟨m, hm, hl⟩ := sim_row s
    obtain ⟨hn', h1, h2, h3⟩ := hv T m hm
    refine ⟨by rw [hn', hl], h1, h2, ?_⟩
    rw [e, eo]
    rcases h3 with h3 | ⟨b, arr, el, fz, g1, g2, g3, g4⟩
    · exact .inl h3
    · obtain ⟨arr', fz', h4', hs⟩ := x.arr b arr el fz g3
      exact .inr ⟨b, arr', el, fz', g1, g2, h4', by rw [hs]; exact g4⟩
  | rview hi hn hv =>
    obtain ⟨A, cap, hv1, hA, hv⟩ := hv
    refine .rview (x.used _ hi) hn ⟨A, cap, hv1, hA, fun T l he hz hq => ?_⟩
    obtain ⟨s, e, eo⟩ := x.same _ hi (by rw [he]; simp)
    rw [he] at s
    obtain ⟨m, hm, hl⟩ := sim_row s
    rw [e, eo, ← hl]
    obtain ⟨g1, g2⟩ := hv T m hm hz (by omega)
    refine ⟨g1, fun hlt => ?_⟩
    obtain ⟨b, arr, el, fz, k1, k2, k3, k4⟩ := g2 hlt
    obtain ⟨arr', fz', h4', hs⟩ := x.arr b arr el fz k3
    exact ⟨b, arr', el, fz', k1, k2, h4', by rw [hs]; exact k4⟩
  | rptr hi hv =>
    obtain ⟨a, ha, hv⟩ := hv
    refine .rptr (x.used _ hi) ⟨a, ha, fun T l he hn hj => ?_⟩
    obtain ⟨s, e, eo⟩ := x.same _ hi (by rw [he]; simp)
    rw [he] at s
    obtain ⟨m, hm, hl⟩ := sim_row s
    rw [e, eo]
    exact hv T m hm hn (by rw [hl]; exact hj)
  | func ha hb _ _ iha ihb => exact .func ha hb iha ihb
  | agg hl _ ih => exact .agg hl ih
  | tuple hl _ ih => exact .tuple hl ih

theorem RepL.mono (x : Ext w h c w' h' c') {cs : List V} {ds : List Value} (r : RepL w h c cs ds) : RepL w' h' c' cs ds :=
  ⟨r.1, fun j v d hv hd => (r.2 j v d hv hd).mono x⟩

theorem RepL.nil : RepL w h c [] [] := ⟨rfl, fun j v d hv => by simp at hv⟩
theorem RepL.cons {v : V} {d : Value} {cs : List V} {ds : List Value} (r : Rep w h c v d) (rs : RepL w h c cs ds) : RepL w h c (v :: cs) (d :: ds) := by
  refine ⟨by simp [rs.1], fun j u e hu he => ?_⟩
  cases j with
  | zero => simp at hu he; subst hu; subst he; exact r
  | succ j => simp at hu he; exact rs.2 j u e hu he
theorem RepL.head {v : V} {d : Value} {cs : List V} {ds : List Value} (r : RepL w h c (v :: cs) (d :: ds)) : Rep w h c v d := r.2 0 v d rfl rfl
theorem RepL.tail {v : V} {d : Value} {cs : List V} {ds : List Value} (r : RepL w h c (v :: cs) (d :: ds)) : RepL w h c cs ds :=
  ⟨by simpa using r.1, fun j u e hu he => r.2 (j + 1) u e (by simpa using hu) (by simpa using he)⟩
theorem RepL.append {a b : List V} {x y : List Value} (r : RepL w h c a x) (s : RepL w h c b y) : RepL w h c (a ++ b) (x ++ y) := by
  refine ⟨by simp [r.1, s.1], fun j u e hu he => ?_⟩
  have hl := r.1
  by_cases hj : j < a.length
  · rw [List.getElem?_append_left hj] at hu
    rw [List.getElem?_append_left (by omega)] at he
    exact r.2 j u e hu he
  · rw [List.getElem?_append_right (by omega)] at hu
    rw [List.getElem?_append_right (by omega), ← hl] at he
    exact s.2 _ u e hu he
theorem RepL.take {a : List V} {x : List Value} (r : RepL w h c a x) (n : Nat) : RepL w h c (a.take n) (x.take n) := by
  refine ⟨by simp [r.1], fun j u e hu he => ?_⟩
  rw [List.getElem?_take] at hu he
  split at hu <;> simp_all
  exact r.2 j u e hu he
theorem RepL.drop {a : List V} {x : List Value} (r : RepL w h c a x) (n : Nat) : RepL w h c (a.drop n) (x.drop n) := by
  refine ⟨by simp [r.1], fun j u e hu he => ?_⟩
  rw [List.getElem?_drop] at hu he
  exact r.2 _ u e hu he
theorem RepL.map {α : Type} {f : α → V} {g : α → Value} (l : List α) (r : ∀ x ∈ l, Rep w h c (f x) (g x)) : RepL w h c (l.map f) (l.map g) := by
  induction l with
  | nil => exact .nil
  | cons x l ih => exact .cons (r x (by simp)) (ih fun y hy => r y (by simp [hy]))
theorem RepL.getD {a : List V} {x : List Value} (r : RepL w h c a x) (j : Nat) (d : Value) : Rep w h c (a.getD j .undef) (x.getD j d) := by
  by_cases hj : j < a.length
  · have hx : j < x.length := by have := r.1; omega
    exact r.2 j _ _ (by simp [List.getD, List.getElem?_eq_getElem hj]) (by simp [List.getD, List.getElem?_eq_getElem hx])
  · have : a.getD j .undef = .undef := by simp [List.getD, List.getElem?_eq_none (Nat.le_of_not_lt hj)]
    rw [this]; exact .undef _
theorem RepL.set {a : List V} {x : List Value} (r : RepL w h c a x) (j : Nat) {v : V} {d : Value} (rv : Rep w h c v d) : RepL w h c (a.set j v) (x.set j d) := by
  refine ⟨by simp [r.1], fun i u e hu he => ?_⟩
  rw [List.getElem?_set] at hu he
  by_cases hij : j = i
  · simp only [hij, if_true] at hu he
    split at hu <;> split at he <;> simp_all
  · simp only [hij, if_false] at hu he
    exact r.2 i u e hu he
theorem RepL.replicate_undef (n : Nat) (d : Value) : RepL w h c (List.replicate n .undef) (List.replicate n d) := by
  refine ⟨by simp, fun j u e hu _ => ?_⟩
  rw [List.getElem?_replicate] at hu
  split at hu <;> simp_all
  subst hu; exact .undef _
end
end Go.Yard

