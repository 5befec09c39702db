/-
  Typed data, printed by wip/tools/gentypes.py. Own work.
-/
import Derived.Calls
import Derived.Orders
import Derived.KernelRfl
namespace Go.Yard

abbrev Str := List UInt8

structure Dcm where
  mant : Int
  exp : Int

def Dcm.z : Dcm := ⟨0, 0⟩

structure Json where
  kind : Int
  num : Dcm
  text : Str
  names : List Str
  items : List Json

def Json.z : Json := ⟨0, Dcm.z, [], [], []⟩

structure Raw where
  kind : Int
  mant : Int
  exp : Int
  text : List Int
  items : List Raw

def Raw.z : Raw := ⟨0, 0, 0, [], []⟩

structure Raw3 where
  kind : Int
  mant : Int
  exp : Int
  text : List Int

def Raw3.z : Raw3 := ⟨0, 0, 0, []⟩

structure Fld where
  name : Str
  kind : Int
  low : Int
  high : Int
  free : Bool

def Fld.z : Fld := ⟨[], 0, 0, 0, false⟩

structure Mail where
  topic : Str
  data : Str
  bent : Bool

def Mail.z : Mail := ⟨[], [], false⟩

structure Token where
  kind : Int
  text : Str
  num : Dcm
  at_ : Int

def Token.z : Token := ⟨0, [], Dcm.z, 0⟩

structure Stop where
  node : Int
  seq : Int
  released : Bool

def Stop.z : Stop := ⟨0, 0, false⟩

structure Way where
  edge : Int
  seq : Int
  released : Bool

def Way.z : Way := ⟨0, 0, false⟩

structure Order where
  header : Int
  vehicle : Str
  order : Int
  update : Int
  nodes : List Stop
  edges : List Way

def Order.z : Order := ⟨0, [], 0, 0, [], []⟩

structure Edge where
  src : Int
  dst : Int
  cost : Int

def Edge.z : Edge := ⟨0, 0, 0⟩

structure Layout where
  nodes : Int
  edges : List Edge

def Layout.z : Layout := ⟨0, []⟩

structure Topic where
  maker : Str
  serial : Str
  kind : Str

def Topic.z : Topic := ⟨[], [], []⟩

structure State where
  header : Int
  boot : Int
  vehicle : Str
  order : Int
  update : Int
  live : Bool
  node : Int
  seq : Int
  driving : Bool
  accepted : Int

def State.z : State := ⟨0, 0, [], 0, 0, false, 0, 0, false, 0⟩

structure Ctl where
  vehicle : Str
  header : Int
  order : Int
  update : Int
  boot : Int
  seen : Int
  path : List Int
  seq : Int
  open_ : Bool
  rel : Int
  wait : Bool
  pending : Order

def Ctl.z : Ctl := ⟨[], 0, 0, 0, 0, 0, [], 0, false, 0, false, Order.z⟩

structure Op17 where
  kind : Int
  i : Int
  k : Int
  by_ : Int
  data : Str

def Op17.z : Op17 := ⟨0, 0, 0, 0, []⟩

structure Raw13 where
  header : Int
  order : Int
  update : Int
  seq : Int
  from_ : Int
  released : Int
  turns : List Int

def Raw13.z : Raw13 := ⟨0, 0, 0, 0, 0, 0, []⟩

structure Ev16 where
  kind : Int
  o : Raw13
  data : Str

def Ev16.z : Ev16 := ⟨0, Raw13.z, []⟩

structure Ev18 where
  kind : Int
  n : Int
  turns : List Int

def Ev18.z : Ev18 := ⟨0, 0, []⟩

structure Arr3 where
  a : Int
  b : Int
  c : Int

def Arr3.z : Arr3 := ⟨0, 0, 0⟩

structure Arr2 where
  a : Int
  b : Int

def Arr2.z : Arr2 := ⟨0, 0⟩

structure Dec2 where
  a : Dcm
  b : Dcm

def Dec2.z : Dec2 := ⟨Dcm.z, Dcm.z⟩

structure Post where
  name : Str
  home : Int

def Post.z : Post := ⟨[], 0⟩

structure Job where
  id : Int
  target : Int
  state : Int
  vehicle : Int

def Job.z : Job := ⟨0, 0, 0, 0⟩

structure Record where
  kind : Int
  nums : List Int
  text : Str

def Record.z : Record := ⟨0, [], []⟩

/-- The element types of typed slices. -/
inductive Ty where
  | int (k : IntKind) | bool | str
  | dcm | json | raw | raw3 | fld | mail | token | stop | way | order | edge | layout | topic | state | ctl | op17 | raw13 | ev16 | ev18 | arr3 | arr2 | dec2 | post | job | record
  deriving DecidableEq

def Ty.den : Ty → Type
  | .int _ => Int | .bool => Bool | .str => Str
  | .dcm => Dcm
  | .json => Json
  | .raw => Raw
  | .raw3 => Raw3
  | .fld => Fld
  | .mail => Mail
  | .token => Token
  | .stop => Stop
  | .way => Way
  | .order => Order
  | .edge => Edge
  | .layout => Layout
  | .topic => Topic
  | .state => State
  | .ctl => Ctl
  | .op17 => Op17
  | .raw13 => Raw13
  | .ev16 => Ev16
  | .ev18 => Ev18
  | .arr3 => Arr3
  | .arr2 => Arr2
  | .dec2 => Dec2
  | .post => Post
  | .job => Job
  | .record => Record

def Ty.dflt : (T : Ty) → T.den
  | .int _ => (0 : Int) | .bool => false | .str => ([] : Str)
  | .dcm => Dcm.z
  | .json => Json.z
  | .raw => Raw.z
  | .raw3 => Raw3.z
  | .fld => Fld.z
  | .mail => Mail.z
  | .token => Token.z
  | .stop => Stop.z
  | .way => Way.z
  | .order => Order.z
  | .edge => Edge.z
  | .layout => Layout.z
  | .topic => Topic.z
  | .state => State.z
  | .ctl => Ctl.z
  | .op17 => Op17.z
  | .raw13 => Raw13.z
  | .ev16 => Ev16.z
  | .ev18 => Ev18.z
  | .arr3 => Arr3.z
  | .arr2 => Arr2.z
  | .dec2 => Dec2.z
  | .post => Post.z
  | .job => Job.z
  | .record => Record.z

/-- How many cells. -/
def Ty.sz : Ty → Nat
  | .int _ => 1 | .bool => 1 | .str => 1
  | .dcm => 2
  | .json => 6
  | .raw => 5
  | .raw3 => 4
  | .fld => 5
  | .mail => 3
  | .token => 5
  | .stop => 3
  | .way => 3
  | .order => 6
  | .edge => 3
  | .layout => 2
  | .topic => 3
  | .state => 10
  | .ctl => 17
  | .op17 => 5
  | .raw13 => 7
  | .ev16 => 9
  | .ev18 => 3
  | .arr3 => 3
  | .arr2 => 2
  | .dec2 => 4
  | .post => 2
  | .job => 4
  | .record => 3

end Go.Yard
