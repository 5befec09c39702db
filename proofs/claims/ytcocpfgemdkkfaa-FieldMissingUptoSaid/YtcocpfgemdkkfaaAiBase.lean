/-
  The abstract interpreter, part 1: typed data, abstract values, the interpreter. Own work; nothing here is trusted.
-/
import Derived.Test.YtcocpfgemdkkfaaAiTy
namespace Go.Yard

/-- What is known of the spare places behind a slice: nothing; it is nil; they are ours, by the token object `id`. -/
inductive Tok where
  | no | nil | own (id : Nat)

inductive V where
  | undef
  | int (k : IntKind) (n : Int)
  | bool (b : Bool)
  | str (s : Str)
  | nilptr
  | ptr (id off : Nat)
  | iptr (cs : List V)
  | nilsl
  | sl (T : Ty) (l : List T.den) (t : Tok)
  | vsl (n : Nat) (cs : List V)
  | row (id : Nat) (n : Nat)
  | rptr (id : Nat) (sz : Nat) (i : Nat) (off : Nat)
  | func (f : Nat) (first cap : List V)
  | nilfunc
  | agg (cs : List V)
  | tuple (vs : List V)
  | map (id : Nat)
  | nilmap
  | niliface
  | anyb

def V.flat : V → List V
  | .agg cs => cs
  | v => [v]

/-- Surely the value of one cell. -/
def V.one : V → Bool
  | .undef => false
  | .agg _ => false
  | .tuple _ => false
  | _ => true

def flatK (v : V) : Option (List V) :=
  match v with
  | .agg cs => if cs.all V.one then some cs else none
  | v => if v.one then some [v] else none

-- CELLS BEGIN
/-- The cells of an element. -/
def Ty.cells : (T : Ty) → T.den → List V
  | .int k, (n : Int) => [.int k n]
  | .bool, (b : Bool) => [.bool b]
  | .str, (s : Str) => [.str s]
  | .dcm, (x : Dcm) => [.int .i64 x.mant, .int .i64 x.exp]
  | .json, (x : Json) => [.int .i64 x.kind, .int .i64 x.num.mant, .int .i64 x.num.exp, .str x.text, .sl .str x.names .no, .sl .json x.items .no]
  | .raw, (x : Raw) => [.int .i64 x.kind, .int .i64 x.mant, .int .i64 x.exp, .sl (.int .i64) x.text .no, .sl .raw x.items .no]
  | .raw3, (x : Raw3) => [.int .i64 x.kind, .int .i64 x.mant, .int .i64 x.exp, .sl (.int .i64) x.text .no]
  | .fld, (x : Fld) => [.str x.name, .int .i64 x.kind, .int .i64 x.low, .int .i64 x.high, .bool x.free]
  | .mail, (x : Mail) => [.str x.topic, .str x.data, .bool x.bent]
  | .token, (x : Token) => [.int .i64 x.kind, .str x.text, .int .i64 x.num.mant, .int .i64 x.num.exp, .int .i64 x.at_]
  | .stop, (x : Stop) => [.int .i64 x.node, .int .i64 x.seq, .bool x.released]
  | .way, (x : Way) => [.int .i64 x.edge, .int .i64 x.seq, .bool x.released]
  | .order, (x : Order) => [.int .i64 x.header, .str x.vehicle, .int .i64 x.order, .int .i64 x.update, .sl .stop x.nodes .no, .sl .way x.edges .no]
  | .edge, (x : Edge) => [.int .i64 x.src, .int .i64 x.dst, .int .i64 x.cost]
  | .layout, (x : Layout) => [.int .i64 x.nodes, .sl .edge x.edges .no]
  | .topic, (x : Topic) => [.str x.maker, .str x.serial, .str x.kind]
  | .state, (x : State) => [.int .i64 x.header, .int .i64 x.boot, .str x.vehicle, .int .i64 x.order, .int .i64 x.update, .bool x.live, .int .i64 x.node, .int .i64 x.seq, .bool x.driving, .int .i64 x.accepted]
  | .ctl, (x : Ctl) => [.str x.vehicle, .int .i64 x.header, .int .i64 x.order, .int .i64 x.update, .int .i64 x.boot, .int .i64 x.seen, .sl (.int .i64) x.path .no, .int .i64 x.seq, .bool x.open_, .int .i64 x.rel, .bool x.wait, .int .i64 x.pending.header, .str x.pending.vehicle, .int .i64 x.pending.order, .int .i64 x.pending.update, .sl .stop x.pending.nodes .no, .sl .way x.pending.edges .no]
  | .op17, (x : Op17) => [.int .i64 x.kind, .int .i64 x.i, .int .i64 x.k, .int .u8 x.by_, .str x.data]
  | .raw13, (x : Raw13) => [.int .i64 x.header, .int .i64 x.order, .int .i64 x.update, .int .i64 x.seq, .int .i64 x.from_, .int .i64 x.released, .sl (.int .i64) x.turns .no]
  | .ev16, (x : Ev16) => [.int .i64 x.kind, .int .i64 x.o.header, .int .i64 x.o.order, .int .i64 x.o.update, .int .i64 x.o.seq, .int .i64 x.o.from_, .int .i64 x.o.released, .sl (.int .i64) x.o.turns .no, .str x.data]
  | .ev18, (x : Ev18) => [.int .i64 x.kind, .int .i64 x.n, .sl (.int .i64) x.turns .no]
  | .arr3, (x : Arr3) => [.int .i64 x.a, .int .i64 x.b, .int .i64 x.c]
  | .arr2, (x : Arr2) => [.int .i64 x.a, .int .i64 x.b]
  | .dec2, (x : Dec2) => [.int .i64 x.a.mant, .int .i64 x.a.exp, .int .i64 x.b.mant, .int .i64 x.b.exp]
  | .post, (x : Post) => [.str x.name, .int .i64 x.home]
  | .job, (x : Job) => [.int .i64 x.id, .int .i64 x.target, .int .i64 x.state, .int .i64 x.vehicle]
  | .record, (x : Record) => [.int .i64 x.kind, .sl (.int .i64) x.nums .no, .str x.text]

def asSl (T : Ty) : V → Option (List T.den)
  | .nilsl => some []
  | .sl T' l _ => if h : T' = T then some (h ▸ l) else none
  | _ => none

def decInt (k : IntKind) : List V → Option Int
  | [.int k' n] => if k' = k then some n else none
  | _ => none
def decBool : List V → Option Bool
  | [.bool b] => some b
  | _ => none
def decStr : List V → Option Str
  | [.str s] => some s
  | _ => none
def decDcm : List V → Option Dcm
  | [.int .i64 a0, .int .i64 a1] => some ⟨a0, a1⟩
  | _ => none
def decJson : List V → Option Json
  | [.int .i64 a0, .int .i64 a1, .int .i64 a2, .str a3, a4, a5] => match asSl .str a4, asSl .json a5 with | some b4, some b5 => some ⟨a0, ⟨a1, a2⟩, a3, b4, b5⟩ | _, _ => none
  | _ => none
def decRaw : List V → Option Raw
  | [.int .i64 a0, .int .i64 a1, .int .i64 a2, a3, a4] => match asSl (.int .i64) a3, asSl .raw a4 with | some b3, some b4 => some ⟨a0, a1, a2, b3, b4⟩ | _, _ => none
  | _ => none
def decRaw3 : List V → Option Raw3
  | [.int .i64 a0, .int .i64 a1, .int .i64 a2, a3] => match asSl (.int .i64) a3 with | some b3 => some ⟨a0, a1, a2, b3⟩ | _ => none
  | _ => none
def decFld : List V → Option Fld
  | [.str a0, .int .i64 a1, .int .i64 a2, .int .i64 a3, .bool a4] => some ⟨a0, a1, a2, a3, a4⟩
  | _ => none
def decMail : List V → Option Mail
  | [.str a0, .str a1, .bool a2] => some ⟨a0, a1, a2⟩
  | _ => none
def decToken : List V → Option Token
  | [.int .i64 a0, .str a1, .int .i64 a2, .int .i64 a3, .int .i64 a4] => some ⟨a0, a1, ⟨a2, a3⟩, a4⟩
  | _ => none
def decStop : List V → Option Stop
  | [.int .i64 a0, .int .i64 a1, .bool a2] => some ⟨a0, a1, a2⟩
  | _ => none
def decWay : List V → Option Way
  | [.int .i64 a0, .int .i64 a1, .bool a2] => some ⟨a0, a1, a2⟩
  | _ => none
def decOrder : List V → Option Order
  | [.int .i64 a0, .str a1, .int .i64 a2, .int .i64 a3, a4, a5] => match asSl .stop a4, asSl .way a5 with | some b4, some b5 => some ⟨a0, a1, a2, a3, b4, b5⟩ | _, _ => none
  | _ => none
def decEdge : List V → Option Edge
  | [.int .i64 a0, .int .i64 a1, .int .i64 a2] => some ⟨a0, a1, a2⟩
  | _ => none
def decLayout : List V → Option Layout
  | [.int .i64 a0, a1] => match asSl .edge a1 with | some b1 => some ⟨a0, b1⟩ | _ => none
  | _ => none
def decTopic : List V → Option Topic
  | [.str a0, .str a1, .str a2] => some ⟨a0, a1, a2⟩
  | _ => none
def decState : List V → Option State
  | [.int .i64 a0, .int .i64 a1, .str a2, .int .i64 a3, .int .i64 a4, .bool a5, .int .i64 a6, .int .i64 a7, .bool a8, .int .i64 a9] => some ⟨a0, a1, a2, a3, a4, a5, a6, a7, a8, a9⟩
  | _ => none
def decCtl : List V → Option Ctl
  | [.str a0, .int .i64 a1, .int .i64 a2, .int .i64 a3, .int .i64 a4, .int .i64 a5, a6, .int .i64 a7, .bool a8, .int .i64 a9, .bool a10, .int .i64 a11, .str a12, .int .i64 a13, .int .i64 a14, a15, a16] => match asSl (.int .i64) a6, asSl .stop a15, asSl .way a16 with | some b6, some b15, some b16 => some ⟨a0, a1, a2, a3, a4, a5, b6, a7, a8, a9, a10, ⟨a11, a12, a13, a14, b15, b16⟩⟩ | _, _, _ => none
  | _ => none
def decOp17 : List V → Option Op17
  | [.int .i64 a0, .int .i64 a1, .int .i64 a2, .int .u8 a3, .str a4] => some ⟨a0, a1, a2, a3, a4⟩
  | _ => none
def decRaw13 : List V → Option Raw13
  | [.int .i64 a0, .int .i64 a1, .int .i64 a2, .int .i64 a3, .int .i64 a4, .int .i64 a5, a6] => match asSl (.int .i64) a6 with | some b6 => some ⟨a0, a1, a2, a3, a4, a5, b6⟩ | _ => none
  | _ => none
def decEv16 : List V → Option Ev16
  | [.int .i64 a0, .int .i64 a1, .int .i64 a2, .int .i64 a3, .int .i64 a4, .int .i64 a5, .int .i64 a6, a7, .str a8] => match asSl (.int .i64) a7 with | some b7 => some ⟨a0, ⟨a1, a2, a3, a4, a5, a6, b7⟩, a8⟩ | _ => none
  | _ => none
def decEv18 : List V → Option Ev18
  | [.int .i64 a0, .int .i64 a1, a2] => match asSl (.int .i64) a2 with | some b2 => some ⟨a0, a1, b2⟩ | _ => none
  | _ => none
def decArr3 : List V → Option Arr3
  | [.int .i64 a0, .int .i64 a1, .int .i64 a2] => some ⟨a0, a1, a2⟩
  | _ => none
def decArr2 : List V → Option Arr2
  | [.int .i64 a0, .int .i64 a1] => some ⟨a0, a1⟩
  | _ => none
def decDec2 : List V → Option Dec2
  | [.int .i64 a0, .int .i64 a1, .int .i64 a2, .int .i64 a3] => some ⟨⟨a0, a1⟩, ⟨a2, a3⟩⟩
  | _ => none
def decPost : List V → Option Post
  | [.str a0, .int .i64 a1] => some ⟨a0, a1⟩
  | _ => none
def decJob : List V → Option Job
  | [.int .i64 a0, .int .i64 a1, .int .i64 a2, .int .i64 a3] => some ⟨a0, a1, a2, a3⟩
  | _ => none
def decRecord : List V → Option Record
  | [.int .i64 a0, a1, .str a2] => match asSl (.int .i64) a1 with | some b1 => some ⟨a0, b1, a2⟩ | _ => none
  | _ => none

/-- Cells read as an element. -/
def Ty.dec : (T : Ty) → List V → Option T.den
  | .int k => decInt k | .bool => decBool | .str => decStr
  | .dcm => decDcm
  | .json => decJson
  | .raw => decRaw
  | .raw3 => decRaw3
  | .fld => decFld
  | .mail => decMail
  | .token => decToken
  | .stop => decStop
  | .way => decWay
  | .order => decOrder
  | .edge => decEdge
  | .layout => decLayout
  | .topic => decTopic
  | .state => decState
  | .ctl => decCtl
  | .op17 => decOp17
  | .raw13 => decRaw13
  | .ev16 => decEv16
  | .ev18 => decEv18
  | .arr3 => decArr3
  | .arr2 => decArr2
  | .dec2 => decDec2
  | .post => decPost
  | .job => decJob
  | .record => decRecord

-- CELLS END

/-- Objects that are ours. -/
inductive AObj where
  | free
  | dead
  | cells (cs : List V)
  | row (T : Ty) (l : List T.den)
  | tok
  | iter (s : Str) (pos : Nat)
  | smap (T : Ty) (l : List (Str × T.den))

abbrev Heap := List AObj

structure St where
  fr : List V
  hp : Heap

/-! ### types -/
inductive TD where
  | bool | int (k : IntKind) | string | ptr (e : Nat) | slice (e : Nat) | arr (n e : Nat) | map (k e : Nat) | struct (fs : List (Nat × Nat)) | func | iface | other

structure TI where
  d : TD
  size : Nat
  bytes : Nat
  zero : List V
  ty : Option Ty
  eq : Bool := false
  /-- slices of such elements are rows of ours -/
  rowy : Bool := false

abbrev TTab := List TI

def TI.none : TI := ⟨.other, 0, 0, [], .none, false, false⟩
/-- The same table, in which slices of some types' elements are rows of ours. -/
def TTab.mode (tt : TTab) (rs : List Ty) : TTab := tt.map fun i => { i with rowy := match i.ty with | some T => rs.contains T | none => false }
def TTab.at (tt : TTab) (t : Nat) : TI := tt.getD t TI.none
def TTab.ok (tt : TTab) (t : Nat) : Bool := match (tt.at t).d with | .other => false | _ => true
def TTab.isAgg (tt : TTab) (t : Nat) : Bool := match (tt.at t).d with | .struct _ => true | .arr _ _ => true | _ => false

/-! ### operands -/
def inK (k : IntKind) (n : Int) : Bool := decide (k.min ≤ n) && decide (n ≤ k.max)

def ofConst : Value → V
  | .bool b => .bool b
  | .int k n => if inK k n then .int k n else .undef
  | .string s => if s.size ≤ 9223372036854775807 then .str s.data.toList else .undef
  | .pointer .none => .nilptr
  | .slice .none 0 0 => .nilsl
  | .nilFunc => .nilfunc
  | .map .none => .nilmap
  | .nilIface => .niliface
  | _ => .undef

def ev (fr : List V) : Operand → V
  | .tmp t => fr.getD t .undef
  | .const c => ofConst c
  | .func f => .func f [] []
  | .global _ => .undef

section
variable {R : Type}

/-- Goes on just if. -/
def chk (b : Bool) (k : Option R) : Option R := bif b then k else none

/-! ### operations that ask the frame alone -/
def eqCells : List V → List V → Option Bool
  | [], [] => some true
  | .int k a :: x, .int k' b :: y => if k = k' then (match eqCells x y with | some r => some (a == b && r) | none => none) else none
  | .str a :: x, .str b :: y => match eqCells x y with | some r => some (a == b && r) | none => none
  | .bool a :: x, .bool b :: y => match eqCells x y with | some r => some (a == b && r) | none => none
  | _, _ => none

def eqV (a b : V) : Option Bool :=
  match a, b with
  | .bool x, .bool y => some (x == y)
  | .agg xs, .agg ys => eqCells xs ys
  | _, _ => none

def isNilV : V → Option Bool
  | .nilptr => some true
  | .ptr _ _ => some false
  | .iptr _ => some false
  | .rptr _ _ _ _ => some false
  | _ => none

def ptrK {R : Type} (op : BinOp) (a b : V) (k : V → Option R) : Option R :=
  match b with
  | .nilptr =>
    (match op, isNilV a with
     | .eql, some r => k (.bool r)
     | .neq, some r => k (.bool (!r))
     | _, _ => none)
  | _ => none

/-- Is a slice nil? A slice without elements may be. -/
def nilOf {R : Type} (a : V) (k : Option Bool → Option R) : Option R :=
  match a with
  | .nilsl => k (some true)
  | .sl _ l _ => bif l.isEmpty then k none else k (some false)
  | .row _ n => bif decide (n = 0) then k none else k (some false)
  | _ => none

def nilAns (neg : Bool) : Option Bool → V
  | none => .anyb
  | some r => .bool (bif neg then !r else r)

def slK {R : Type} (op : BinOp) (a b : V) (k : V → Option R) : Option R :=
  match b with
  | .nilsl =>
    (match op with
     | .eql => nilOf a fun r => k (nilAns false r)
     | .neq => nilOf a fun r => k (nilAns true r)
     | _ => none)
  | _ => none

def bytesLt : Str → Str → Bool
  | _, [] => false
  | [], _ :: _ => true
  | a :: x, b :: y => a < b || (a == b && bytesLt x y)

def binK (op : BinOp) (x y : V) (k : V → Option R) : Option R :=
  match op, x, y with
  | .shl, .int i a, .int _ b => chk (decide (0 ≤ b)) (k (.int i (i.wrap (a * 2 ^ (min b.toNat i.bits)))))
  | .shr, .int i a, .int _ b => chk (decide (0 ≤ b)) (k (.int i (a.fdiv (2 ^ (min b.toNat i.bits)))))
  | op, .int i a, .int j b =>
    if i = j then
      match op with
      | .add => k (.int i (i.wrap (a + b)))
      | .sub => k (.int i (i.wrap (a - b)))
      | .mul => k (.int i (i.wrap (a * b)))
      | .quo => chk (!decide (b = 0)) (k (.int i (i.wrap (a.tdiv b))))
      | .rem => chk (!decide (b = 0)) (k (.int i (a.tmod b)))
      | .and => k (.int i (i.wrap (BitVec.ofInt i.bits a &&& BitVec.ofInt i.bits b).toNat))
      | .or => k (.int i (i.wrap (BitVec.ofInt i.bits a ||| BitVec.ofInt i.bits b).toNat))
      | .xor => k (.int i (i.wrap (BitVec.ofInt i.bits a ^^^ BitVec.ofInt i.bits b).toNat))
      | .eql => k (.bool (a == b))
      | .neq => k (.bool (a != b))
      | .lss => k (.bool (decide (a < b)))
      | .leq => k (.bool (decide (a ≤ b)))
      | .gtr => k (.bool (decide (a > b)))
      | .geq => k (.bool (decide (a ≥ b)))
      | _ => none
    else none
  | op, .str a, .str b =>
    match op with
    | .add => chk (decide (a.length + b.length ≤ 9223372036854775807)) (k (.str (a ++ b)))
    | .eql => k (.bool (a == b))
    | .neq => k (.bool (!(a == b)))
    | .lss => k (.bool (bytesLt a b))
    | .leq => k (.bool (bytesLt a b || a == b))
    | .gtr => k (.bool (!(bytesLt a b || a == b)))
    | .geq => k (.bool (!(bytesLt a b)))
    | _ => none
  | .eql, a, b => match eqV a b with | some r => k (.bool r) | none => none
  | .neq, a, b => match eqV a b with | some r => k (.bool (!r)) | none => none
  | _, _, _ => none

/-- A part of cells, of a type. -/
def partK (tt : TTab) (t : Nat) (cs : List V) (off : Nat) (k : V → Option R) : Option R :=
  if tt.ok t then
    if tt.isAgg t then (if off + (tt.at t).size ≤ cs.length then k (.agg ((cs.drop off).take (tt.at t).size)) else none)
    else (match cs[off]? with | some v => k v | none => none)
  else none

/-- A struct's cells with parts put in. -/
def fillV (cells : List V) : List (Nat × Nat × V) → Option (List V)
  | [] => some cells
  | (off, size, v) :: rest =>
    match flatK v with
    | some vs => if vs.length = size && off + size ≤ cells.length then fillV (cells.take off ++ vs ++ cells.drop (off + size)) rest else none
    | none => none

def idxOf (i : V) (k : Int → Option R) : Option R := match i with | .int _ n => k n | _ => none

def optI (v : Option V) (d : Int) (k : Int → Option R) : Option R :=
  match v with
  | none => k d
  | some (.int _ n) => k n
  | some _ => none

/-- Cells are of the kinds of a type's. -/
def kindsOk : List V → List V → Bool
  | [], [] => true
  | .int k _ :: z, .int k' _ :: c => decide (k = k') && kindsOk z c
  | .str _ :: z, .str _ :: c => kindsOk z c
  | .bool _ :: z, .bool _ :: c => kindsOk z c
  | _, _ => false

def eqOk (i : TI) (a b : List V) : Bool := i.eq && kindsOk i.zero a && kindsOk i.zero b

def opP (tt : TTab) (o : Op) (ρ : Operand → V) (k : V → Option R) : Option R :=
  match o with
  | .move x => k (ρ x)
  | .assign x => k (ρ x)
  | .pick c a b =>
    match ρ c with
    | .bool t =>
      (match ρ a, ρ b with
       | .bool u, .bool v => k (.bool (bif t then u else v))
       | u, v => bif t then k u else k v)
    | _ => none
  | .nilCheck x =>
    match ρ x with
    | .ptr i o => k (.ptr i o)
    | .iptr cs => k (.iptr cs)
    | .rptr i n j o => k (.rptr i n j o)
    | .func f a b => k (.func f a b)
    | _ => none
  | .binOp op t x y _ =>
    match ρ x, ρ y with
    | .agg a, .agg b => if eqOk (tt.at t) a b then binK op (.agg a) (.agg b) k else none
    | .bool a, .bool b => (match (tt.at t).d with | .bool => binK op (.bool a) (.bool b) k | _ => none)
    | .int i a, .int j b => binK op (.int i a) (.int j b) k
    | .str a, .str b => binK op (.str a) (.str b) k
    | a, b => (match (tt.at t).d with | .ptr _ => ptrK op a b k | .slice _ => slK op a b k | _ => none)
  | .unOp op _ x =>
    match op, ρ x with
    | .neg, .int i n => k (.int i (i.wrap (0 - n)))
    | .not, .bool b => k (.bool (!b))
    | _, _ => none
  | .convert s d x =>
    if !tt.ok s then none else
    match (tt.at d).d, ρ x with
    | .int i, .int _ n => k (.int i (i.wrap n))
    | .string, .str t => (match (tt.at s).d with | .string => k (.str t) | _ => none)
    | _, _ => none
  | .fieldAddr s x f =>
    match (tt.at s).d with
    | .struct fs =>
      (match fs[f]? with
       | some (off, t) =>
         if (tt.at t).size = 0 || !tt.ok t then none else
         (match ρ x with
          | .ptr i o => k (.ptr i (o + off))
          | .iptr cs => k (.iptr (cs.drop off))
          | .rptr i n j o => k (.rptr i n j (o + off))
          | _ => none)
       | none => none)
    | _ => none
  | .field s x f =>
    match (tt.at s).d, ρ x with
    | .struct fs, .agg cs => (match fs[f]? with | some (off, t) => partK tt t cs off k | none => none)
    | _, _ => none
  | .indexAddr t x i =>
    idxOf (ρ i) fun n =>
    match (tt.at t).d, ρ x with
    | .slice e, .sl T l _ => if T.sz = (tt.at e).size && tt.ok e then chk (decide (0 ≤ n) && decide (n < l.length)) (k (.iptr (T.cells (l.getD n.toNat T.dflt)))) else none
    | .slice e, .row id m => if tt.ok e then chk (decide (0 ≤ n) && decide (n < m)) (k (.rptr id (tt.at e).size n.toNat 0)) else none
    | _, _ => none
  | .index t x i =>
    idxOf (ρ i) fun n =>
    match (tt.at t).d, ρ x with
    | .string, .str s => chk (decide (0 ≤ n) && decide (n < s.length)) (k (.int .u8 (s.getD n.toNat 0).toNat))
    | .arr m e, .agg cs => chk (decide (0 ≤ n) && decide (n < m)) (partK tt e cs (n.toNat * (tt.at e).size) k)
    | _, _ => none
  | .slice t x lo hi mx =>
    match mx with
    | some _ => none
    | none =>
      (match (tt.at t).d, ρ x with
       | .string, .str s =>
         optI (hi.map ρ) s.length fun h => optI (lo.map ρ) 0 fun l =>
         chk (decide (0 ≤ h) && decide (h ≤ s.length)) (chk (decide (0 ≤ l) && decide (l ≤ h)) (k (.str ((s.drop l.toNat).take (h.toNat - l.toNat)))))
       | .slice e, .sl T s _ =>
         if T.sz = (tt.at e).size && tt.ok e then
         optI (lo.map ρ) 0 fun l =>
         (match hi with
          | none => chk (decide (0 ≤ l) && decide (l ≤ s.length)) (k (.sl T (s.drop l.toNat) .no))
          | some hi =>
            optI (some (ρ hi)) 0 fun h =>
            chk (decide (0 ≤ h) && decide (h ≤ s.length)) (chk (decide (0 ≤ l) && decide (l ≤ h)) (k (.sl T ((s.drop l.toNat).take (h.toNat - l.toNat)) .no))))
         else none
       | .slice e, .nilsl =>
         if !tt.ok e then none else
         optI (hi.map ρ) 0 fun h => optI (lo.map ρ) 0 fun l => chk (decide (h = 0) && decide (l = 0)) (k .nilsl)
       | _, _ => none)
  | .makeFunc (.func f) first cap => k (.func f (first.toList.map ρ) (cap.toList.map ρ))
  | .extract t i => match ρ t with | .tuple vs => (match vs[i]? with | some v => k v | none => none) | _ => none
  | .build t parts =>
    match (tt.at t).d with
    | .struct fs =>
      if !fs.all (fun f => tt.ok f.2) || !tt.ok t || decide (1000000 ≤ (tt.at t).zero.length) then none else
      (match fillV (tt.at t).zero (parts.toList.map fun (i, x) => ((fs.getD i (0, 0)).1, if i < fs.length then (tt.at (fs.getD i (0, 0)).2).size else 1000000, ρ x)) with
       | some cs => k (.agg cs) | none => none)
    | .arr _ e =>
      if !tt.ok e || !tt.ok t || decide (1000000 ≤ (tt.at t).zero.length) then none else
      (match fillV (tt.at t).zero (parts.toList.map fun (i, x) => (i * (tt.at e).size, (tt.at e).size, ρ x)) with
       | some cs => k (.agg cs) | none => none)
    | _ => none
  | .call c =>
    match c.callee, c.args.toList with
    | .builtin .len, [x] =>
      (match c.argTypes.toList with
       | [t] =>
         (match (tt.at t).d, ρ x with
          | .string, .str s => k (.int .i64 s.length)
          | .slice _, .sl _ l _ => k (.int .i64 l.length)
          | .slice _, .vsl n _ => k (.int .i64 n)
          | .slice _, .row _ n => k (.int .i64 n)
          | .slice _, .nilsl => k (.int .i64 0)
          | _, _ => none)
       | _ => none)
    | .builtin .min, [x, y] => (match ρ x, ρ y with | .int i a, .int j b => if i = j then k (.int i (min a b)) else none | _, _ => none)
    | .builtin .max, [x, y] => (match ρ x, ρ y with | .int i a, .int j b => if i = j then k (.int i (max a b)) else none | _, _ => none)
    | _, _ => none
  | _ => none

end
end Go.Yard
