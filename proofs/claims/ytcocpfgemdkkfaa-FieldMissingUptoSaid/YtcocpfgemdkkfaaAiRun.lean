/-
  The abstract interpreter, part 2: reads, allocations, writes, calls, regions, code. Own work.
-/
import Derived.Test.YtcocpfgemdkkfaaAiBase
namespace Go.Yard

def Heap.at (h : Heap) (i : Nat) : AObj := h.getD i .dead

/-! ### renaming of ids -/
def Tok.ren (ρ : Nat → Option Nat) : Tok → Tok
  | .own i => match ρ i with | some j => .own j | none => .no
  | t => t

mutual
def V.ren (ρ : Nat → Option Nat) : V → V
  | .ptr i o => match ρ i with | some j => .ptr j o | none => .undef
  | .sl T l t => .sl T l (t.ren ρ)
  | .row i n => match ρ i with | some j => .row j n | none => .undef
  | .rptr i n k o => match ρ i with | some j => .rptr j n k o | none => .undef
  | .map i => match ρ i with | some j => .map j | none => .undef
  | .func f a b => .func f (V.renL ρ a) (V.renL ρ b)
  | .agg cs => .agg (V.renL ρ cs)
  | .tuple vs => .tuple (V.renL ρ vs)
  | .iptr cs => .iptr (V.renL ρ cs)
  | .vsl n cs => .vsl n (V.renL ρ cs)
  | v => v
def V.renL (ρ : Nat → Option Nat) : List V → List V
  | [] => []
  | v :: vs => v.ren ρ :: V.renL ρ vs
end

def AObj.ren (ρ : Nat → Option Nat) : AObj → AObj
  | .cells cs => .cells (V.renL ρ cs)
  | o => o

-- The ids that stand in a value, left to right.
mutual
def V.ids : V → List Nat
  | .ptr i _ => [i]
  | .sl _ _ (.own i) => [i]
  | .row i _ => [i]
  | .rptr i _ _ _ => [i]
  | .map i => [i]
  | .func _ a b => V.idsL a ++ V.idsL b
  | .agg cs => V.idsL cs
  | .tuple vs => V.idsL vs
  | .iptr cs => V.idsL cs
  | .vsl _ cs => V.idsL cs
  | _ => []
def V.idsL : List V → List Nat
  | [] => []
  | v :: vs => v.ids ++ V.idsL vs
end

def AObj.ids : AObj → List Nat
  | .cells cs => V.idsL cs
  | _ => []

/-- The ids that are reached from some, in the order in which they are met. -/
def reach (h : Heap) : Nat → List Nat → List Nat → List Nat
  | 0, _, seen => seen
  | _ + 1, [], seen => seen
  | n + 1, i :: todo, seen => if seen.contains i then reach h n todo seen else reach h n (todo ++ (h.at i).ids) (seen ++ [i])

def posIn (ord : List Nat) (i : Nat) : Option Nat := let p := ord.idxOf i; if p < ord.length then some p else none

/-- The heap in another order; what is not listed is forgotten. -/
def Heap.pick (h : Heap) (ord : List Nat) : Heap := ord.map fun i => (h.at i).ren (posIn ord)

/-- The heap behind a call: the callee's first objects are the caller's, its others are new. -/
def backId (ord : List Nat) (n : Nat) (j : Nat) : Nat := if j < ord.length then ord.getD j 0 else n + (j - ord.length)
def Heap.putAll (h : Heap) : List (Nat × AObj) → Heap
  | [] => h
  | (i, o) :: r => Heap.putAll (h.set i o) r
def Heap.back (h : Heap) (ord : List Nat) (h' : Heap) : Heap :=
  let ρ := fun j => some (backId ord h.length j)
  Heap.putAll h (ord.zip ((h'.take ord.length).map (AObj.ren ρ))) ++ (h'.drop ord.length).map (AObj.ren ρ)

section
variable {R : Type}

abbrev Spec (R : Type) := List V → Heap → (V → Heap → Option R) → Option R

/-- A list of runes as text. -/
def runesB (l : List Int) : Str := l.flatMap fun n => (Utf8.encode n).data.toList

/-! ### reads -/
def limOk (lim : Option Nat) (i : Nat) : Bool := match lim with | none => true | some m => decide (i < m)

def opR (tt : TTab) (o : Op) (ρ : Operand → V) (h : Heap) (lim : Option Nat) (k : V → Option R) : Option R :=
  match o with
  | .load t x =>
    match ρ x with
    | .ptr i o =>
      if limOk lim i then
        match h.at i with
        | .cells cs => partK tt t cs o k
        | _ => none
      else none
    | .iptr cs => partK tt t cs 0 k
    | .rptr i sz j o =>
      if limOk lim i then
        match h.at i with
        | .row T l => if sz = T.sz then chk (decide (j < l.length)) (partK tt t (T.cells (l.getD j T.dflt)) o k) else none
        | _ => none
      else none
    | _ => none
  | .convert s d x =>
    match (tt.at d).d, (tt.at s).d, ρ x with
    | .string, .slice e, .row i _ =>
      if limOk lim i then
        match (tt.at e).d, h.at i with
        | .int .u8, .row (.int .u8) l => k (.str ((l : List Int).map fun n => UInt8.ofNat n.toNat))
        | _, _ => none
      else none
    | .string, .slice e, .sl T l _ =>
      match (tt.at e).d, T, l with
      | .int .u8, .int .u8, l => k (.str ((l : List Int).map fun n => UInt8.ofNat n.toNat))
      | .int .i32, .int .i32, l => chk (decide (4 * l.length ≤ 9223372036854775807)) (k (.str (runesB l)))
      | _, _, _ => none
    | _, _, _ => none
  | _ => none

/-- A text's bytes, as numbers. -/
def bytesI (s : Str) : List (Ty.den (.int .u8)) := (s.map fun b => (b.toNat : Int) : List Int)

/-! ### allocations: the object, and the value by its id -/
def decAll (T : Ty) : List (List V) → Option (List T.den)
  | [] => some []
  | c :: cs => match T.dec c, decAll T cs with | some x, some xs => some (x :: xs) | _, _ => none

def chunks (n : Nat) : Nat → List V → List (List V)
  | 0, _ => []
  | m + 1, l => l.take n :: chunks n m (l.drop n)

def opA (tt : TTab) (o : Op) (ρ : Operand → V) (k : AObj → (Nat → V) → Option R) : Option R :=
  match o with
  | .alloc t => if tt.ok t then k (.cells (tt.at t).zero) fun i => .ptr i 0 else none
  | .box t x => match flatK (ρ x) with | some cs => if tt.ok t && decide (cs.length = (tt.at t).size) then k (.cells cs) fun i => .ptr i 0 else none | none => none
  | .buildSlice t len parts =>
    match (tt.at t).d with
    | .slice e =>
      let sz := (tt.at e).size
      if sz = 0 || decide (len * sz > 4096) || !tt.ok e then none else
      (match fillV ((List.replicate len (tt.at e).zero).flatten) (parts.toList.map fun (i, x) => (i * sz, sz, ρ x)), (tt.at e).ty with
       | some cs, some T =>
         if T.sz = sz then
           if ((tt.at e).rowy && decide (len = 0)) = true then k (.row T []) fun i => .row i 0 else
           (match decAll T (chunks sz len cs) with | some l => k .tok fun i => .sl T l (.own i) | none => k .dead fun _ => .vsl len cs)
         else none
       | some cs, none => k .dead fun _ => .vsl len cs
       | none, _ => none)
    | _ => none
  | .makeSlice t n c =>
    match (tt.at t).d, ρ n, ρ c with
    | .slice e, .int _ a, .int _ b =>
      (match (tt.at e).ty with
       | some T =>
         (match T.dec (tt.at e).zero with
          | some z => if T.sz = (tt.at e).size && tt.ok e then chk (decide (0 ≤ a) && decide (a = b) && decide (a * (tt.at e).bytes ≤ 140737488355328) && decide (a ≤ 140737488355328)) (k (.row T (List.replicate a.toNat z)) fun i => .row i a.toNat) else none
          | none => none)
       | none => none)
    | _, _, _ => none
  | .convert s d x =>
    match (tt.at s).d, (tt.at d).d, ρ x with
    | .string, .slice e, .str t =>
      (match (tt.at e).d with
       | .int .u8 => k (.row (.int .u8) (bytesI t)) fun i => .row i t.length
       | _ => none)
    | _, _, _ => none
  | .range t x => match (tt.at t).d, ρ x with | .string, .str s => k (.iter s 0) fun i => .ptr i 0 | _, _ => none
  | _ => none

/-! ### writes -/
def splice (cs : List V) (o : Nat) (vs : List V) : List V := cs.take o ++ vs ++ cs.drop (o + vs.length)

/-- What stands behind an append: the elements. -/
def srcOf (T : Ty) (h : Heap) : V → Option (List T.den)
  | .nilsl => some []
  | .sl T' l _ => if e : T' = T then some (e ▸ l) else none
  | .row i _ => match h.at i with | .row T' l => if e : T' = T then some (e ▸ l) else none | _ => none
  | .vsl n cs => if cs.length = n * T.sz then decAll T (chunks T.sz n cs) else none
  | .str s => if e : T = .int .u8 then some (e ▸ bytesI s) else none
  | _ => none

def appendK (tt : TTab) (e : Nat) (s x : V) (h : Heap) (id : Nat) (k : V → Heap → Option R) : Option R :=
  match (tt.at e).ty with
  | some T =>
    if T.sz = (tt.at e).size && (tt.at e).bytes != 0 && tt.ok e then
    (match srcOf T h x with
     | some m =>
       let room (n : Nat) (q : Option R) : Option R := chk (decide ((n + m.length) * (tt.at e).bytes ≤ 140737488355328)) q
       (match s with
        | .nilsl => room 0 (if (tt.at e).rowy then k (.row id m.length) (h.set id (.row T m)) else k (.sl T m (.own id)) (h.set id .tok))
        | .sl T' l tk =>
          if q : T' = T then
            let l' : List T.den := q ▸ l
            (match tk with
             | .no => none
             | .nil => room l.length (k (.sl T (l' ++ m) (.own id)) (h.set id .tok))
             | .own i => (match h.at i with | .tok => room l.length (k (.sl T (l' ++ m) (.own id)) ((h.set i .dead).set id .tok)) | _ => none))
          else none
        | .row i _ =>
          (match h.at i with
           | .row T' l =>
             if q : T' = T then
               let l' : List T.den := q ▸ l
               room l.length (k (.row id (l'.length + m.length)) ((h.set i .dead).set id (.row T (l' ++ m))))
             else none
           | _ => none)
        | _ => none)
     | none => none)
    else none
  | none => none

def opW (tt : TTab) (o : Op) (ρ : Operand → V) (h : Heap) (id : Nat) (k : V → Heap → Option R) : Option R :=
  match o with
  | .store t x y =>
    match flatK (ρ y) with
    | none => none
    | some vs =>
    if tt.ok t && decide (vs.length = (tt.at t).size) then
      match ρ x with
      | .ptr i o =>
        (match h.at i with
         | .cells cs => if o + vs.length ≤ cs.length then k .undef (h.set i (.cells (splice cs o vs))) else none
         | _ => none)
      | .rptr i sz j o =>
        (match h.at i with
         | .row T l =>
           if sz = T.sz then
           let cs := T.cells (l.getD j T.dflt)
           if o + vs.length ≤ cs.length then
             (match T.dec (splice cs o vs) with
              | some y => chk (decide (j < l.length)) (k .undef (h.set i (.row T (l.set j y))))
              | none => none)
           else none
           else none
         | _ => none)
      | _ => none
    else none
  | .call c =>
    match c.callee, c.args.toList, c.argTypes.toList with
    | .builtin .append, [s, x], [t, xt] =>
      (match (tt.at t).d, (tt.at xt).d with
       | .slice e, .slice _ => appendK tt e (ρ s) (ρ x) h id k
       | .slice e, .string => appendK tt e (ρ s) (ρ x) h id k
       | _, _ => none)
    | _, _, _ => none
  | _ => none

-- A value without its tokens; rows of ours are read.
mutual
def V.shut (h : Heap) : V → V
  | .sl T l _ => .sl T l .no
  | .row i _ => match h.at i with | .row T l => .sl T l .no | _ => .undef
  | .agg cs => .agg (V.shutL h cs)
  | .tuple vs => .tuple (V.shutL h vs)
  | v => v
def V.shutL (h : Heap) : List V → List V
  | [] => []
  | v :: vs => v.shut h :: V.shutL h vs
end

def V.scal1 : V → Bool
  | .int _ _ | .bool _ | .str _ | .nilptr | .nilsl | .nilmap | .nilfunc | .niliface => true
  | _ => false
/-- A value without memory. -/
def V.scal : V → Bool
  | .tuple vs => vs.all V.scal1
  | .agg vs => vs.all V.scal1
  | v => v.scal1

/-! ### one operation -/
inductive Cls where
  | P | R | A | W | C | F | X
  deriving DecidableEq

def opCls (tt : TTab) : Op → Cls
  | .move _ | .assign _ | .pick _ _ _ | .nilCheck _ | .binOp _ _ _ _ _ | .unOp _ _ _ | .fieldAddr _ _ _ | .field _ _ _ | .indexAddr _ _ _ | .index _ _ _
  | .slice _ _ _ _ _ | .makeFunc _ _ _ | .extract _ _ | .build _ _ => .P
  | .convert s d _ =>
    match (tt.at s).d, (tt.at d).d with
    | .slice _, .string => .R
    | .string, .slice _ => .A
    | _, _ => .P
  | .load _ _ => .R
  | .alloc _ | .box _ _ | .buildSlice _ _ _ | .makeSlice _ _ _ | .range _ _ | .makeMap _ _ => .A
  | .store _ _ _ => .W
  | .call c => match c.callee with
    | .builtin .len => .P | .builtin .min => .P | .builtin .max => .P
    | .builtin .append => .W
    | .builtin _ => .X
    | .value _ => .C
    | .invoke _ _ => .X
  | _ => .X

def putF (fr : List V) (dst : Option Nat) (v : V) : List V := match dst with | some d => fr.set d v | none => fr

def dropTok1 : V → V
  | .sl T l _ => .sl T l .no
  | v => v

def dropTok : V → V
  | .sl T l _ => .sl T l .no
  | .agg cs => .agg (cs.map dropTok1)
  | v => v

/-- The specs of functions; a plain one asks no objects and makes none. -/
abbrev Env (R : Type) := Nat → Option (Bool × Spec R)

def plainOp (E : Env R) (o : Op) : Bool :=
  match o with
  | .call c => (match c.callee with | .value (.func g) => (match E g with | some (b, _) => b | none => false) | _ => false)
  | _ => false

/-- In a region that draws: a call of what is not plain is apart. -/
def clsIn (tt : TTab) (E : Env R) (o : Op) : Cls := match opCls tt o with | .C => bif plainOp E o then .C else .F | c => c

/-- A result in its type's own form. -/
def canon (tt : TTab) (t : Nat) (v : V) : V :=
  match (tt.at t).ty with
  | some T =>
    (match v with
     | .agg cs => (match T.dec cs with | some x => if tt.isAgg t then .agg (T.cells x) else v | none => v)
     | v => (match T.dec [v] with | some x => if tt.isAgg t then v else (match T.cells x with | [c] => c | _ => v) | none => v))
  | none =>
    (match (tt.at t).d with
     | .slice e => (match (tt.at e).ty with | some T => (match asSl T v with | some l => .sl T l .no | none => v) | none => v)
     | _ => v)

/-- Arguments in their types' own forms. -/
def canonA (tt : TTab) : List Nat → List V → List V
  | t :: ts, v :: vs => canon tt t v :: canonA tt ts vs
  | _, vs => vs

/-- A plain call to which rows of ours are lent: what it hands back has no memory. -/
def lendK (sp : Spec R) (vs : List V) (h : Heap) (k : V → Heap → Option R) : Option R :=
  match V.idsL vs with
  | [] => sp vs [] fun v h' => (match h' with | [] => bif v.scal then k v h else none | _ :: _ => none)
  | _ :: _ => none

def callK (tt : TTab) (E : Env R) (full : Bool) (c : Call) (ρ : Operand → V) (h : Heap) (k : V → Heap → Option R) : Option R :=
  match c.callee with
  | .value f =>
    match ρ f with
    | .func g first cap =>
      let vs := first ++ c.args.toList.map ρ ++ cap
      (match E g with
       | some (true, sp) =>
         let ps := (first ++ canonA tt c.argTypes.toList (c.args.toList.map ρ) ++ cap).map dropTok
         (match V.idsL ps with
          | [] => sp ps [] fun v h' => (match h' with | [] => k v h | _ :: _ => none)
          | _ :: _ => bif full then lendK sp (V.shutL h ps) h k else none)
       | some (false, sp) =>
         bif full then
           let ord := reach h 64 (V.idsL vs) []
           sp (V.renL (posIn ord) vs) (h.pick ord) fun v h' => k (v.ren fun j => some (backId ord h.length j)) (h.back ord h')
         else none
       | none => none)
    | _ => none
  | _ => none

/-- An operation, its guard met: `base` objects stood there at the region's begin; `id`: the id of what it allocates. -/
def stepK (tt : TTab) (E : Env R) (drawn : Option Nat) (id : Nat) (o : Oper) (st : St) (k : St → Option R) : Option R :=
  let ρ := ev st.fr
  match opCls tt o.op with
  | .P => opP tt o.op ρ fun v => k ⟨putF st.fr o.dst v, st.hp⟩
  | .R => opR tt o.op ρ st.hp drawn fun v => k ⟨putF st.fr o.dst v, st.hp⟩
  | .A => opA tt o.op ρ fun ob mk => k ⟨putF st.fr o.dst (mk id), st.hp.set id ob⟩
  | .W => opW tt o.op ρ st.hp id fun v h => k ⟨putF st.fr o.dst v, h⟩
  | .C => match o.op with | .call c => callK tt E (drawn.isNone || !plainOp E o.op) c ρ st.hp fun v h => k ⟨putF st.fr o.dst v, h⟩ | _ => none
  | .F => none
  | .X => none

def isAlloc (tt : TTab) (o : Oper) : Bool := match opCls tt o.op with | .A => true | .W => true | _ => false

def guardK (all : List Oper) (o : Oper) (st : St) (run skip : St → Option R) : Option R :=
  match o.guard with
  | none => run st
  | some (j, want) =>
    match ((all[j]?).bind (·.dst)) with
    | none => none
    | some d =>
      match st.fr.getD d .undef with
      | .bool b =>
        bif b then (if want then run ⟨st.fr.set d (.bool true), st.hp⟩ else skip ⟨st.fr.set d (.bool true), st.hp⟩)
        else (if want then skip ⟨st.fr.set d (.bool false), st.hp⟩ else run ⟨st.fr.set d (.bool false), st.hp⟩)
      | .tuple [] => skip st
      | _ => none

/-- A list with its spine worked out: that the kernel keeps no chain of writes. -/
noncomputable def forceL {α β : Type} (l : List α) (k : List α → β) : β :=
  List.rec (motive := fun _ => (List α → β) → β) (fun k => k []) (fun v _ ih k => ih fun r => k (v :: r)) l k
theorem forceL_eq {α β : Type} : ∀ (l : List α) (k : List α → β), forceL l k = k l
  | [], _ => rfl
  | v :: l, k => forceL_eq l fun r => k (v :: r)
noncomputable def forceSt {β : Type} (st : St) (k : St → β) : β := forceL st.fr fun fr => forceL st.hp fun hp => k ⟨fr, hp⟩
theorem forceSt_eq {β : Type} (st : St) (k : St → β) : forceSt st k = k st := by unfold forceSt; rw [forceL_eq, forceL_eq]

noncomputable def opsK (tt : TTab) (E : Env R) (drawn : Option Nat) (all : List Oper) : List Oper → Nat → St → (St → Option R) → Option R
  | [], _, st, k => k st
  | o :: rest, id, st, k =>
    let id' := if isAlloc tt o then id + 1 else id
    guardK all o st (fun st => stepK tt E drawn id o st fun st => forceSt st fun st => opsK tt E drawn all rest id' st k)
      (fun st => forceSt ⟨putF st.fr o.dst (.tuple []), st.hp⟩ fun st => opsK tt E drawn all rest id' st k)

/-! ### regions that draw their order: operations that are not ordered commute -/
def beforeL (ops : List Oper) : List (List Nat) :=
  ops.foldl (init := []) fun acc o =>
    acc ++ [(o.after.toList.filter fun e => Region.binds .any e).flatMap fun e => e.on :: acc.getD e.on []]

def looks (all : List Oper) (o : Oper) : List Nat :=
  (o.op.operands.toList.filterMap fun | .tmp t => some t | _ => none) ++
  (match o.guard with | some (g, _) => ((all[g]?).bind (·.dst)).toList | none => [])

def apartB (all : List Oper) (x y : Oper) : Bool :=
  (match x.dst with | some d => !(looks all y).contains d && y.dst != some d | none => true) &&
  (match y.dst with | some d => !(looks all x).contains d | none => true)

def clsOk (a b : Cls) : Bool :=
  match a, b with
  | .X, _ | _, .X => false
  | .P, _ | _, .P => true
  | .C, .R | .C, .A | .R, .C | .A, .C => true
  | .R, .R | .R, .A | .A, .R | .A, .A => true
  | _, _ => false

def pairOk (tt : TTab) (E : Env R) (all : List Oper) (x y : Oper) : Bool := clsOk (clsIn tt E x.op) (clsIn tt E y.op) && apartB all x y

/-- The edges that bind. -/
def bindsOf (o : Oper) : List Nat := (o.after.toList.filter fun e => Region.binds .any e).map (·.on)

/-- Each pair is ordered, or commutes. -/
def drawOk (tt : TTab) (E : Env R) (ops : List Oper) : Bool :=
  let b := beforeL ops
  (List.range ops.length).all fun j => (List.range j).all (fun i =>
    (b.getD j []).contains i || pairOk tt E ops (ops.getD i default) (ops.getD j default)) &&
    (bindsOf (ops.getD j default)).all (fun i => decide (i < j)) &&
    (b.getD j []).all fun i => (bindsOf (ops.getD j default)).any fun e => e == i || (b.getD e []).contains i

noncomputable def regionK (tt : TTab) (E : Env R) (ops : List Oper) (draw : Bool) (st : St) (k : St → Option R) : Option R :=
  let n := st.hp.length
  let st' : St := ⟨st.fr, st.hp ++ List.replicate (ops.filter (isAlloc tt)).length .free⟩
  if draw then (if drawOk tt E ops then opsK tt E (some n) ops ops n st' k else none)
  else opsK tt E none ops ops n st' k

/-! ### code -/
inductive Ex where
  | normal | exit (id : Nat) | goto (l : Nat) | ret

/-- What is done at a loop's head: the slots that live; nil slices that get a token, or become a row of ours: in a slot, in a cell of an object; tokens that are dropped; and the slots that live behind the loop. -/
structure Hint where
  live : List Nat
  own : List (Nat × Ty) := []
  rows : List (Nat × Ty) := []
  cells : List (Nat × Nat × Ty × Bool) := []
  drop : List Nat := []
  out : List Nat := []

def normFr (live drop : List Nat) (fr : List V) : List V := fr.zipIdx.map fun (v, i) => if live.contains i then (if drop.contains i then dropTok v else v) else .undef

/-- Nil slices in slots get tokens of their own. -/
def ownNil : List (Nat × Ty) → St → St
  | [], st => st
  | (d, T) :: r, st =>
    match st.fr.getD d .undef with
    | .nilsl => ownNil r ⟨st.fr.set d (.sl T [] (.own st.hp.length)), st.hp ++ [.tok]⟩
    | .sl T' l .nil => ownNil r ⟨st.fr.set d (.sl T' l (.own st.hp.length)), st.hp ++ [.tok]⟩
    | _ => ownNil r st

/-- Nil slices in slots become rows of ours. -/
def rowNil : List (Nat × Ty) → St → St
  | [], st => st
  | (d, T) :: r, st =>
    match st.fr.getD d .undef with
    | .nilsl => rowNil r ⟨st.fr.set d (.row st.hp.length 0), st.hp ++ [.row T []]⟩
    | _ => rowNil r st

def nilOb (T : Ty) (b : Bool) : AObj := bif b then .row T [] else .tok
def nilVal (T : Ty) (b : Bool) (i : Nat) : V := bif b then .row i 0 else .sl T [] (.own i)

/-- Nil slices in objects' cells become rows of ours, or get tokens. -/
def cellNil : List (Nat × Nat × Ty × Bool) → St → St
  | [], st => st
  | (i, o, T, b) :: r, st =>
    match st.hp.at i with
    | .cells cs =>
      (match cs.getD o .undef with
       | .nilsl => cellNil r ⟨st.fr, st.hp.set i (.cells (cs.set o (nilVal T b st.hp.length))) ++ [nilOb T b]⟩
       | _ => cellNil r st)
    | _ => cellNil r st

def St.gc (m : Nat) (st : St) : St :=
  let ord := reach st.hp 256 (List.range m ++ V.idsL st.fr) []
  ⟨V.renL (posIn ord) st.fr, st.hp.pick ord⟩

def norm (m : Nat) (h : Hint) (st : St) : St := (cellNil h.cells (rowNil h.rows (ownNil h.own ⟨normFr h.live h.drop st.fr, st.hp⟩))).gc m

/-- Behind a loop. -/
def trim (m : Nat) (h : Hint) (st : St) : St := (⟨normFr h.out [] st.fr, st.hp⟩ : St).gc m

abbrev LSpec (R : Type) := St → (Ex → St → Option R) → Option R

/-- A loop's key: its first region's number. -/
def keyOf : Code → Nat
  | .region id _ _ => id
  | .seq a _ => keyOf a
  | .block _ b => keyOf b
  | .loop b => keyOf b
  | .cond _ a _ => keyOf a
  | .scope b => keyOf b
  | _ => 0

def iterK (body : LSpec R) : Nat → LSpec R
  | 0, _, _ => none
  | n + 1, st, K => body st fun e st' => match e with | .normal => iterK body n st' K | e => K e st'

/-- Rounds with what is done at the head ahead of each but the first. -/
def loopN (body : LSpec R) (f : St → St) : Nat → LSpec R
  | 0, _, _ => none
  | n + 1, st, K => body st fun e st' => match e with | .normal => loopN body f n (f st') K | e => K e st'

/-- Either way, and both give the same. -/
noncomputable def anyT (a b : Option R) : Option R := open Classical in if a = b then a else none

noncomputable def interp (tt : TTab) (E : Env R) (L : Nat → Option (Hint × LSpec R)) (m : Nat) : Code → LSpec R
  | .skip, st, K => K .normal st
  | .region _ ops draw, st, K => regionK tt E ops.toList draw st fun st' => K .normal st'
  | .seq a b, st, K => interp tt E L m a st fun e st' => match e with | .normal => interp tt E L m b st' K | e => K e st'
  | .cond c a b, st, K => match ev st.fr c with | .bool t => bif t then interp tt E L m a st K else interp tt E L m b st K | .anyb => anyT (interp tt E L m a st K) (interp tt E L m b st K) | _ => none
  | .block id a, st, K => interp tt E L m a st fun e st' => match e with | .exit i => if i = id then K .normal st' else K (.exit i) st' | e => K e st'
  | .loop a, st, K =>
    match L (keyOf a) with
    | some (h, ls) => ls (norm m h st) K
    | none => iterK (interp tt E L m a) 70 st K
  | .exit id, st, K => K (.exit id) st
  | .ret, st, K => K .ret st
  | _, _, _ => none

/-! ### functions -/
def resK (tt : TTab) (st : St) : List ResultVar → (List V → Option R) → Option R
  | [], k => k []
  | .tmp t :: r, k => resK tt st r fun vs => k (st.fr.getD t .undef :: vs)
  | .cell a t :: r, k =>
    match st.fr.getD a .undef with
    | .ptr i o =>
      (match st.hp.at i with
       | .cells cs => partK tt t cs o fun v => resK tt st r fun vs => k (v :: vs)
       | _ => none)
    | _ => none

/-- The rows that stand in a value are ours no more. -/
def killRows (h : Heap) : List Nat → Heap
  | [] => h
  | i :: r => match h.at i with | .row _ _ => killRows (h.set i .dead) r | _ => killRows h r

def canonL (tt : TTab) : List Nat → List V → List V
  | t :: ts, v :: vs => canon tt t v :: canonL tt ts vs
  | _, _ => []

/-- Behind a function's end: the objects that were handed in, and those that the result leads to. -/
def finishK (tt : TTab) (ts : List Nat) (m : Nat) (keep : Bool) (vs : List V) (h : Heap) (k : V → Heap → Option R) : Option R :=
  let ws := if keep then vs else canonL tt ts (V.shutL h vs)
  let h := if keep then h else killRows h (V.idsL vs)
  let ord := reach h 256 (List.range m ++ V.idsL ws) []
  k (match V.renL (posIn ord) ws with | [v] => v | l => .tuple l) (h.pick ord)

noncomputable def funK (tt : TTab) (E : Env R) (L : Nat → Option (Hint × LSpec R)) (keep : Bool) (fn : Func) (c : Code) : Spec R :=
  fun args h k =>
    if 200 < h.length then none else
    interp tt E L h.length c ⟨args ++ List.replicate (fn.ntmps - args.length) .undef, h⟩ fun e st =>
      match e with
      | .normal | .ret => resK tt st fn.results.toList fun vs => finishK tt fn.resultTypes.toList h.length keep vs st.hp k
      | _ => none

end
end Go.Yard
