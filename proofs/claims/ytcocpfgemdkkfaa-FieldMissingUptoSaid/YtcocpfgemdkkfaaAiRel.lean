/-
  The abstract interpreter, part 3: what an abstract value and an abstract heap say of the world. Own work.
-/
import Derived.Test.YtcocpfgemdkkfaaAiRun
import Derived.Below
namespace Go.Yard
open Go.RowKit

/-- Where the objects lie: an object's block, if it has one; a row's first cell, a token's first spare cell. -/
structure Cfg where
  blk : Nat → Option Nat
  off : Nat → Nat
  /-- cells that are the callers' -/
  ext : Nat → Nat → Prop

def AObj.from_ (o : AObj) (f : Nat) : Option Nat :=
  match o with
  | .free => none
  | .dead => none
  | .tok => some f
  | _ => some 0

/-- The id has been given. -/
def Used (h : Heap) (i : Nat) : Prop := i < h.length ∧ h.at i ≠ .free

/-- A cell is ours. -/
def Owns (h : Heap) (c : Cfg) (b x : Nat) : Prop := ∃ i f, c.blk i = some b ∧ (h.at i).from_ (c.off i) = some f ∧ f ≤ x

/-- A cell is nobody's: it stays as it is. -/
def Free (h : Heap) (c : Cfg) (b x : Nat) : Prop := ¬ Owns h c b x ∧ ¬ c.ext b x

def mx : Nat := 9223372036854775807

/-- What an abstract value says of a value. -/
inductive Rep (w : World) (h : Heap) (c : Cfg) : V → Value → Prop where
  | undef (v : Value) : Rep w h c .undef v
  | int {k : IntKind} {n : Int} (hn : k.has n) : Rep w h c (.int k n) (.int k n)
  | bool (b : Bool) : Rep w h c (.bool b) (.bool b)
  | str {s : ByteArray} (hl : s.size ≤ mx) : Rep w h c (.str s.data.toList) (.string s)
  | nilptr : Rep w h c .nilptr (.pointer none)
  | ptr {i o : Nat} {v : Value} (hi : Used h i) (hv : ∃ b, v = .pointer (some ⟨b, o, none⟩) ∧ (h.at i ≠ .dead → c.blk i = some b)) : Rep w h c (.ptr i o) v
  | iptr {cs : List V} {b o : Nat} (f : Nat → Value) (hc : ∀ j, j < cs.length → w.cell? ⟨b, o + j, none⟩ = some (f j) ∧ Free h c b (o + j))
      (hr : ∀ (j : Nat) (v : V), cs[j]? = some v → Rep w h c v (f j)) : Rep w h c (.iptr cs) (.pointer (some ⟨b, o, none⟩))
  | nilsl : Rep w h c .nilsl (.slice none 0 0)
  | sl {T : Ty} {l : List T.den} {t : Tok} {A : Option Addr} {cap : Nat} (f : Nat → Nat → Value) (hcap : l.length ≤ cap) (hmx : cap ≤ mx)
      (hc : ∀ i j, i < l.length → j < T.sz → ∃ b o, A = some ⟨b, o, none⟩ ∧ w.cell? ⟨b, o + i * T.sz + j, none⟩ = some (f i j) ∧ Free h c b (o + i * T.sz + j))
      (hr : ∀ (i j : Nat) (x : T.den) (v : V), l[i]? = some x → (T.cells x)[j]? = some v → Rep w h c v (f i j))
      (hnil : t = .nil → A = none ∧ cap = 0)
      (hown : ∀ i, t = .own i → Used h i ∧ (h.at i = .tok →
        (c.blk i = none ∧ A = none ∧ cap = 0) ∨ ∃ b o arr e fz, c.blk i = some b ∧ A = some ⟨b, o, none⟩ ∧ c.off i = o + l.length * T.sz ∧
          w.heap[b]? = some (Obj.cells arr e fz) ∧ o + cap * T.sz ≤ arr.size)) : Rep w h c (.sl T l t) (.slice A l.length cap)
  | vsl {n sz : Nat} {cs : List V} {A : Option Addr} (hn : cs.length = n * sz) (hmx : n ≤ mx) (f : Nat → Value)
      (hc : ∀ j, j < cs.length → ∃ b o, A = some ⟨b, o, none⟩ ∧ w.cell? ⟨b, o + j, none⟩ = some (f j) ∧ Free h c b (o + j))
      (hr : ∀ (j : Nat) (v : V), cs[j]? = some v → Rep w h c v (f j)) : Rep w h c (.vsl n cs) (.slice A n n)
  | row {i n : Nat} {v : Value} (hi : Used h i) (hn : n ≤ mx) (hv : ∃ A cap, v = .slice A n cap ∧ (0 < n → ∃ a, A = some a) ∧ ∀ T l, h.at i = .row T l → n = l.length ∧ n ≤ cap ∧ cap ≤ mx ∧
        ((c.blk i = none ∧ A = none ∧ cap = 0) ∨ ∃ b arr e fz, c.blk i = some b ∧ A = some ⟨b, c.off i, none⟩ ∧ w.heap[b]? = some (Obj.cells arr e fz) ∧ c.off i + cap * T.sz ≤ arr.size)) :
      Rep w h c (.row i n) v
  | rptr {i n j o : Nat} {v : Value} (hi : Used h i) (hv : ∃ a, v = .pointer (some a) ∧ ∀ T l, h.at i = .row T l → n = T.sz → j < l.length → ∃ b, c.blk i = some b ∧ a = ⟨b, c.off i + j * T.sz + o, none⟩) :
      Rep w h c (.rptr i n j o) v
  | func {f : Nat} {a b : List V} {x y : Array Value} (ha : a.length = x.size) (hb : b.length = y.size)
      (hra : ∀ (j : Nat) (v : V) (d : Value), a[j]? = some v → x[j]? = some d → Rep w h c v d) (hrb : ∀ (j : Nat) (v : V) (d : Value), b[j]? = some v → y[j]? = some d → Rep w h c v d) :
      Rep w h c (.func f a b) (.func (.func f) x y)
  | nilfunc : Rep w h c .nilfunc .nilFunc
  | agg {cs : List V} {x : Array Value} (hl : cs.length = x.size) (hr : ∀ (j : Nat) (v : V) (d : Value), cs[j]? = some v → x[j]? = some d → Rep w h c v d) : Rep w h c (.agg cs) (.agg x)
  | tuple {cs : List V} {x : Array Value} (hl : cs.length = x.size) (hr : ∀ (j : Nat) (v : V) (d : Value), cs[j]? = some v → x[j]? = some d → Rep w h c v d) : Rep w h c (.tuple cs) (.tuple x)
  | map {i : Nat} {v : Value} (hi : Used h i) (hv : ∃ b, v = .map (some b) ∧ (h.at i ≠ .dead → c.blk i = some b)) : Rep w h c (.map i) v
  | nilmap : Rep w h c .nilmap (.map none)
  | niliface : Rep w h c .niliface .nilIface
  | anyb (b : Bool) : Rep w h c .anyb (.bool b)

def RepL (w : World) (h : Heap) (c : Cfg) (cs : List V) (ds : List Value) : Prop :=
  cs.length = ds.length ∧ ∀ (j : Nat) (v : V) (d : Value), cs[j]? = some v → ds[j]? = some d → Rep w h c v d

/-- What an object says of the world. -/
def ObjOK (w : World) (h : Heap) (c : Cfg) (i : Nat) : AObj → Prop
  | .free => True
  | .dead => True
  | .cells cs => ∃ b arr e, c.blk i = some b ∧ w.heap[b]? = some (Obj.cells arr e (0, 0)) ∧ RepL w h c cs arr.toList
  | .row T l => (c.blk i = none ∧ l = []) ∨ ∃ b arr e fz, c.blk i = some b ∧ w.heap[b]? = some (Obj.cells arr e fz) ∧ c.off i + l.length * T.sz ≤ arr.size ∧
      (∀ x, x < arr.size → w.frozen? ⟨b, x, none⟩ = false) ∧ ∀ (n j : Nat) (x : T.den) (v : V), l[n]? = some x → (T.cells x)[j]? = some v → ∃ d, arr[c.off i + n * T.sz + j]? = some d ∧ Rep w h c v d
  | .tok => c.blk i = none ∨ ∃ b arr e fz, c.blk i = some b ∧ w.heap[b]? = some (Obj.cells arr e fz) ∧ c.off i ≤ arr.size ∧ ∀ x, c.off i ≤ x → x < arr.size → w.frozen? ⟨b, x, none⟩ = false
  | .iter s pos => ∃ b bs, c.blk i = some b ∧ w.heap[b]? = some (.stringIter bs pos) ∧ bs.data.toList = s ∧ bs.size ≤ mx
  | .smap _ _ => False

def AObj.live : AObj → Prop
  | .free => False
  | .dead => False
  | _ => True

structure WF (w : World) (h : Heap) (c : Cfg) : Prop where
  disj : ∀ b x, Owns h c b x → ¬ c.ext b x
  extlt : ∀ b x, c.ext b x → b < w.heap.size
  obj : ∀ i, i < h.length → ObjOK w h c i (h.at i)
  inj : ∀ i j b, (h.at i).live → (h.at j).live → c.blk i = some b → c.blk j = some b → i = j

/-- The same object, later. -/
def AObj.sim : AObj → AObj → Prop
  | .cells cs, .cells ds => cs.length = ds.length
  | .row T l, .row U m => T = U ∧ l.length = m.length
  | .tok, .tok => True
  | .iter _ _, .iter _ _ => True
  | .smap T _, .smap U _ => T = U
  | _, _ => False

/-- The world went on: only what is ours has turned. -/
structure Ext (w : World) (h : Heap) (c : Cfg) (w' : World) (h' : Heap) (c' : Cfg) : Prop where
  os : w'.os = w.os
  tape : w'.tape = w.tape
  output : w'.output = w.output
  size : w.heap.size ≤ w'.heap.size
  used : ∀ i, Used h i → Used h' i
  same : ∀ i, Used h i → h'.at i ≠ .dead → (h.at i).sim (h'.at i) ∧ c'.blk i = c.blk i ∧ c'.off i = c.off i
  cell : ∀ b x, b < w.heap.size → ¬ Owns h c b x → w'.cell? ⟨b, x, none⟩ = w.cell? ⟨b, x, none⟩
  block : ∀ b, b < w.heap.size → (∀ x, ¬ Owns h c b x) → w'.heap[b]? = w.heap[b]?
  owns : ∀ b x, b < w.heap.size → Owns h' c' b x → Owns h c b x
  ext : c'.ext = c.ext
  arr : ∀ (b : Nat) (arr : Array Value) (e : TypeId) (fz : Nat × Nat), w.heap[b]? = some (Obj.cells arr e fz) → ∃ (arr' : Array Value) (fz' : Nat × Nat), w'.heap[b]? = some (Obj.cells arr' e fz') ∧ arr'.size = arr.size

theorem Ext.refl (w : World) (h : Heap) (c : Cfg) : Ext w h c w h c where
  os := rfl
  tape := rfl
  output := rfl
  size := Nat.le_refl _
  used := fun _ hi => hi
  same := fun i hi hd => ⟨by have h2 := hi.2; revert hd h2; cases h.at i <;> simp [AObj.sim], rfl, rfl⟩
  cell := fun _ _ _ _ => rfl
  block := fun _ _ _ => rfl
  owns := fun _ _ _ ho => ho
  ext := rfl
  arr := fun b arr e fz hb => ⟨arr, fz, hb, rfl⟩

theorem AObj.sim_dead {o o' : AObj} (h : o.sim o') : o ≠ .dead ∧ o' ≠ .dead := by
  cases o <;> cases o' <;> simp_all [AObj.sim]

theorem AObj.sim_trans {a b c : AObj} (h : a.sim b) (k : b.sim c) : a.sim c := by
  cases a <;> cases b <;> cases c <;> simp_all [AObj.sim]

theorem Ext.trans {w w1 w2 : World} {h h1 h2 : Heap} {c c1 c2 : Cfg} (a : Ext w h c w1 h1 c1) (b : Ext w1 h1 c1 w2 h2 c2) : Ext w h c w2 h2 c2 where
  os := b.os.trans a.os
  tape := b.tape.trans a.tape
  output := b.output.trans a.output
  size := Nat.le_trans a.size b.size
  used := fun i hi => b.used i (a.used i hi)
  same := fun i hi hd => by
    obtain ⟨s2, e2, f2⟩ := b.same i (a.used i hi) hd
    obtain ⟨s1, e1, f1⟩ := a.same i hi (AObj.sim_dead s2).1
    exact ⟨AObj.sim_trans s1 s2, e2.trans e1, f2.trans f1⟩
  cell := fun x y hx ho => by
    rw [b.cell x y (Nat.lt_of_lt_of_le hx a.size) (fun o => ho (a.owns x y hx o)), a.cell x y hx ho]
  block := fun x hx ho => by
    rw [b.block x (Nat.lt_of_lt_of_le hx a.size) (fun y o => ho y (a.owns x y hx o)), a.block x hx ho]
  owns := fun x y hx o => a.owns x y hx (b.owns x y (Nat.lt_of_lt_of_le hx a.size) o)
  ext := b.ext.trans a.ext
  arr := fun x arr e fz hx => by
    obtain ⟨a1, f1, h1, s1⟩ := a.arr x arr e fz hx
    obtain ⟨a2, f2, h2, s2⟩ := b.arr x a1 e f1 h1
    exact ⟨a2, f2, h2, s2.trans s1⟩

theorem lt_of_cell {w : World} {b x : Nat} {v : Value} (h : w.cell? ⟨b, x, none⟩ = some v) : b < w.heap.size :=
  World.block_lt_of_cell? _ _ h

theorem sim_tok {o o' : AObj} (h : o.sim o') (e : o' = .tok) : o = .tok := by subst e; cases o <;> simp_all [AObj.sim]
theorem sim_row {o : AObj} {T : Ty} {l : List T.den} (h : o.sim (.row T l)) : ∃ m : List T.den, o = .row T m ∧ m.length = l.length := by
  cases o with
  | row U m => obtain ⟨rfl, e⟩ := h; exact ⟨m, rfl, e⟩
  | _ => simp [AObj.sim] at h

section
variable {w w' : World} {h h' : Heap} {c c' : Cfg}

theorem Ext.keepcell (x : Ext w h c w' h' c') {b o : Nat} {v : Value} (hc : w.cell? ⟨b, o, none⟩ = some v) (ho : Free h c b o) :
    w'.cell? ⟨b, o, none⟩ = some v ∧ Free h' c' b o :=
  ⟨(x.cell b o (lt_of_cell hc) ho.1).trans hc, fun k => ho.1 (x.owns b o (lt_of_cell hc) k), by rw [x.ext]; exact ho.2⟩

theorem Rep.mono (x : Ext w h c w' h' c') {v : V} {d : Value} (r : Rep w h c v d) : Rep w' h' c' v d := by
  induction r with
  | undef v => exact .undef v
  | int hn => exact .int hn
  | bool b => exact .bool b
  | str hl => exact .str hl
  | nilptr => exact .nilptr
  | nilsl => exact .nilsl
  | nilfunc => exact .nilfunc
  | nilmap => exact .nilmap
  | niliface => exact .niliface
  | anyb b => exact .anyb b
  | ptr hi hv =>
    obtain ⟨b, hv, hb⟩ := hv
    refine .ptr (x.used _ hi) ⟨b, hv, fun hd => ?_⟩
    obtain ⟨s, e, _⟩ := x.same _ hi hd
    rw [e]
    exact hb (AObj.sim_dead s).1
  | map hi hv =>
    obtain ⟨b, hv, hb⟩ := hv
    refine .map (x.used _ hi) ⟨b, hv, fun hd => ?_⟩
    obtain ⟨s, e, _⟩ := x.same _ hi hd
    rw [e]
    exact hb (AObj.sim_dead s).1
  | iptr f hc _ ih => exact .iptr f (fun j hj => x.keepcell (hc j hj).1 (hc j hj).2) ih
  | sl f hcap hmx hc _ hnil hown ih =>
    refine .sl f hcap hmx (fun i j hi hj => ?_) ih hnil (fun i ht => ?_)
    · obtain ⟨b, o, hA, h1, h2⟩ := hc i j hi hj
      exact ⟨b, o, hA, x.keepcell h1 h2⟩
    · obtain ⟨hi, ho⟩ := hown i ht
      refine ⟨x.used _ hi, fun htok => ?_⟩
      obtain ⟨s, e, eo⟩ := x.same i hi (by rw [htok]; simp)
      rw [e, eo]
      rcases ho (sim_tok s htok) with hn | ⟨b, o, arr, el, fz, h1, h2, h3, h4, h5⟩
      · exact .inl hn
      · obtain ⟨arr', fz', h4', hs⟩ := x.arr b arr el fz h4
        exact .inr ⟨b, o, arr', el, fz', h1, h2, h3, h4', by rw [hs]; exact h5⟩
  | vsl hn hmx f hc _ ih =>
    refine .vsl hn hmx f (fun j hj => ?_) ih
    obtain ⟨b, o, hA, h1, h2⟩ := hc j hj
    exact ⟨b, o, hA, x.keepcell h1 h2⟩
  | row hi hn hv =>
    obtain ⟨A, cap, hv1, hA, hv⟩ := hv
    refine .row (x.used _ hi) hn ⟨A, cap, hv1, hA, fun T l he => ?_⟩
    obtain ⟨s, e, eo⟩ := x.same _ hi (by rw [he]; simp)
    rw [he] at s
    obtain ⟨m, hm, hl⟩ := sim_row s
    obtain ⟨hn', h1, h2, h3⟩ := hv T m hm
    refine ⟨by rw [hn', hl], h1, h2, ?_⟩
    rw [e, eo]
    rcases h3 with h3 | ⟨b, arr, el, fz, g1, g2, g3, g4⟩
    · exact .inl h3
    · obtain ⟨arr', fz', h4', hs⟩ := x.arr b arr el fz g3
      exact .inr ⟨b, arr', el, fz', g1, g2, h4', by rw [hs]; exact g4⟩
  | rptr hi hv =>
    obtain ⟨a, ha, hv⟩ := hv
    refine .rptr (x.used _ hi) ⟨a, ha, fun T l he hn hj => ?_⟩
    obtain ⟨s, e, eo⟩ := x.same _ hi (by rw [he]; simp)
    rw [he] at s
    obtain ⟨m, hm, hl⟩ := sim_row s
    rw [e, eo]
    exact hv T m hm hn (by rw [hl]; exact hj)
  | func ha hb _ _ iha ihb => exact .func ha hb iha ihb
  | agg hl _ ih => exact .agg hl ih
  | tuple hl _ ih => exact .tuple hl ih

theorem RepL.mono (x : Ext w h c w' h' c') {cs : List V} {ds : List Value} (r : RepL w h c cs ds) : RepL w' h' c' cs ds :=
  ⟨r.1, fun j v d hv hd => (r.2 j v d hv hd).mono x⟩

/-! ### lists of values -/
theorem RepL.nil : RepL w h c [] [] := ⟨rfl, fun j v d hv => by simp at hv⟩
theorem RepL.cons {v : V} {d : Value} {cs : List V} {ds : List Value} (r : Rep w h c v d) (rs : RepL w h c cs ds) : RepL w h c (v :: cs) (d :: ds) := by
  refine ⟨by simp [rs.1], fun j u e hu he => ?_⟩
  cases j with
  | zero => simp at hu he; subst hu; subst he; exact r
  | succ j => simp at hu he; exact rs.2 j u e hu he
theorem RepL.head {v : V} {d : Value} {cs : List V} {ds : List Value} (r : RepL w h c (v :: cs) (d :: ds)) : Rep w h c v d := r.2 0 v d rfl rfl
theorem RepL.tail {v : V} {d : Value} {cs : List V} {ds : List Value} (r : RepL w h c (v :: cs) (d :: ds)) : RepL w h c cs ds :=
  ⟨by simpa using r.1, fun j u e hu he => r.2 (j + 1) u e (by simpa using hu) (by simpa using he)⟩
theorem RepL.append {a b : List V} {x y : List Value} (r : RepL w h c a x) (s : RepL w h c b y) : RepL w h c (a ++ b) (x ++ y) := by
  refine ⟨by simp [r.1, s.1], fun j u e hu he => ?_⟩
  have hl := r.1
  by_cases hj : j < a.length
  · rw [List.getElem?_append_left hj] at hu
    rw [List.getElem?_append_left (by omega)] at he
    exact r.2 j u e hu he
  · rw [List.getElem?_append_right (by omega)] at hu
    rw [List.getElem?_append_right (by omega), ← hl] at he
    exact s.2 _ u e hu he
theorem RepL.take {a : List V} {x : List Value} (r : RepL w h c a x) (n : Nat) : RepL w h c (a.take n) (x.take n) := by
  refine ⟨by simp [r.1], fun j u e hu he => ?_⟩
  rw [List.getElem?_take] at hu he
  split at hu <;> simp_all
  exact r.2 j u e hu he
theorem RepL.drop {a : List V} {x : List Value} (r : RepL w h c a x) (n : Nat) : RepL w h c (a.drop n) (x.drop n) := by
  refine ⟨by simp [r.1], fun j u e hu he => ?_⟩
  rw [List.getElem?_drop] at hu he
  exact r.2 _ u e hu he
theorem RepL.map {α : Type} {f : α → V} {g : α → Value} (l : List α) (r : ∀ x ∈ l, Rep w h c (f x) (g x)) : RepL w h c (l.map f) (l.map g) := by
  induction l with
  | nil => exact .nil
  | cons x l ih => exact .cons (r x (by simp)) (ih fun y hy => r y (by simp [hy]))
theorem RepL.getD {a : List V} {x : List Value} (r : RepL w h c a x) (j : Nat) (d : Value) : Rep w h c (a.getD j .undef) (x.getD j d) := by
  by_cases hj : j < a.length
  · have hx : j < x.length := by have := r.1; omega
    exact r.2 j _ _ (by simp [List.getD, List.getElem?_eq_getElem hj]) (by simp [List.getD, List.getElem?_eq_getElem hx])
  · have : a.getD j .undef = .undef := by simp [List.getD, List.getElem?_eq_none (Nat.le_of_not_lt hj)]
    rw [this]; exact .undef _
theorem RepL.set {a : List V} {x : List Value} (r : RepL w h c a x) (j : Nat) {v : V} {d : Value} (rv : Rep w h c v d) : RepL w h c (a.set j v) (x.set j d) := by
  refine ⟨by simp [r.1], fun i u e hu he => ?_⟩
  rw [List.getElem?_set] at hu he
  by_cases hij : j = i
  · simp only [hij, if_true] at hu he
    split at hu <;> split at he <;> simp_all
  · simp only [hij, if_false] at hu he
    exact r.2 i u e hu he
theorem RepL.replicate_undef (n : Nat) (d : Value) : RepL w h c (List.replicate n .undef) (List.replicate n d) := by
  refine ⟨by simp, fun j u e hu _ => ?_⟩
  rw [List.getElem?_replicate] at hu
  split at hu <;> simp_all
  subst hu; exact .undef _
end
end Go.Yard
