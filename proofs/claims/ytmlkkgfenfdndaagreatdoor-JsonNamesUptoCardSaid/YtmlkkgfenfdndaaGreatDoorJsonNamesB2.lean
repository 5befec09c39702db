/-
  JsonNames: for every input whose bulk is at most 1048576 the law returns true, and each argument reads behind the call as it read before; part 2 of 8 of the proof: an interpreter of the model's code over typed data, proved sound; the functions that the law reaches, printed as Lean functions and tied; the plain law. Own texts laid one behind the other.
-/
import Derived.Laws.StructEq
import Derived.WalkKit
import Derived.MapKept
import Derived.Laws.BytesString
import Derived.Laws.Cover4
import Derived.Laws.Rows
import Derived.Laws.MakeOwn
import Derived.Laws.Append
import Derived.Test.YtmlkkgfenfdndaaGreatDoorJsonNamesB1
set_option linter.unusedSimpArgs false
set_option linter.unnecessarySimpa false
set_option linter.unusedVariables false
set_option linter.unusedSectionVars false
namespace Go.ax
open Go.RowKit

def TD.Is (P:Program) (t:Nat):TD→Prop
  | .bool=>P.underlying t=some .bool
  | .int k=>P.underlying t=some (.int k)
  | .string=>P.underlying t=some .string
  | .ptr e=>P.underlying t=some (.pointer e)
  | .slice e=>P.underlying t=some (.slice e)
  | .arr n e=>P.underlying t=some (.array n e)
  | .map k e=>P.underlying t=some (.map k e)
  | .struct fs=>∃F,P.underlying t=some (.struct F)∧F.toList.map (fun f=>(f.offset,f.type))=fs
  | .func=>∃a b c,P.underlying t=some (.func a b c)
  | .iface=>∃a,P.underlying t=some (.interface a)
  | .other=>True

structure xh (P:Program) (tt:dB):Prop where
  und:∀t,(tt.at t).d.Is P t
  info:∀t,tt.ok t=true→∃i z,P.info? t=some i∧i.size=(tt.at t).size∧i.bytes=(tt.at t).bytes∧i.zero=some z∧z.cells.size=i.size ∧
    ∀(w:World) (h:ay) (c:jZ),cz w h c (tt.at t).zero z.cells.toList
  eqs:∀t,∀(w:World) (h:ay) (c:jZ) (cs ds:List V) (xs ys:Array Value) (b:Bool),Oc (tt.at t) cs ds=true→cz w h c cs xs.toList→cz w h c ds ys.toList →
    lT cs ds=some b→P.eqGuardType P.depth t=false∧(Op.equalIn 10000 t (.agg xs) (.agg ys)).run P w = .ok b w
  u8s:∀e,(tt.at e).ty=some (.int .u8)→e=oq.u8
  blds:∀t,(tt.at t).kq=true→t=oq.kq∧(tt.at t).zero = [.eC, .cw]∧tt.ok t=true
  ones:∀t,tt.ok t=true→∀i z,P.info? t=some i→i.zero=some z→z.oneCell' = !tt.isAgg t

section
variable {P:Program} {tt:dB} {w:World}

theorem xh.isAgg (T:xh P tt) {t:Nat} (h:tt.ok t=true):(isAgg t).run P w = .ok (tt.isAgg t) w:=by
  have hu:=T.und t
  unfold dB.ok at h
  unfold dB.isAgg
  cases hd:(tt.at t).d <;> rw[hd]at hu h <;> simp only[TD.Is]at hu
  case struct fs=>obtain ⟨F,hF,_⟩:=hu; simp[Go.isAgg,run_underlying hF]
  case func=>obtain ⟨a,b,c,hF⟩:=hu; simp[Go.isAgg,run_underlying hF]
  case iface=>obtain ⟨a,hF⟩:=hu; simp[Go.isAgg,run_underlying hF]
  case other=>cases h
  all_goals simp[Go.isAgg,run_underlying hu]

theorem xh.sizeOf (T:xh P tt) {t:Nat} (h:tt.ok t=true):(sizeOf t).run P w = .ok (tt.at t).size w:=by
  obtain ⟨i,z,hi,hs,_⟩:=T.info t h
  simp[Go.sizeOf,typeInfo,hi,hs]

theorem xh.zero (T:xh P tt) {t:Nat} (h:tt.ok t=true):∃z,(zeroValue t).run P w = .ok z w∧z.cells.size=(tt.at t).size ∧
    ∀(w:World) (h:ay) (c:jZ),cz w h c (tt.at t).zero z.cells.toList:=by
  obtain ⟨i,z,hi,hs,_,hz,YA,hr⟩:=T.info t h
  exact ⟨z,by simp[Go.zeroValue,typeInfo,hi,hz],by omega,hr⟩

theorem eD (T:xh P tt) {t:Nat} {d:TD} (h:(tt.at t).d=d):d.Is P t:=h▸T.und t

theorem G5 (T:xh P tt) {t f off ty:Nat} {fs:List (Nat × Nat)} (h:(tt.at t).d = .struct fs) (hf:fs[f]? = some (off,ty)) :
    ∃F fd,P.underlying t=some (.struct F)∧F[f]? = some fd∧fd.offset=off∧fd.type=ty:=by
  obtain ⟨F,hF,e⟩:=eD T h
  subst e
  rw[List.getElem?_map]at hf
  cases hx:F.toList[f]? with
  | none=>rw[hx]at hf; cases hf
  | some fd =>
    rw[hx]at hf
    simp at hf
    exact ⟨F,fd,hF,by simpa using hx,hf.1,hf.2⟩

variable {h:ay} {c:jZ} {R:Type}

theorem Jo (T:xh P tt) {t off:Nat} {cs:List V} {x:Array Value} (hr:cz w h c cs x.toList) {k:V→Option R} {r:R} (hk:rA tt t cs off k=some r) :
    ∃v v',(part t x off).run P w = .ok v' w∧dw w h c v v'∧k v=some r:=by
  unfold rA at hk
  split at hk
  · rename_i sP
    have hlen:cs.length=x.size:=by have:=hr.1; simpa using this
    split at hk
    · rename_i KP
      split at hk
      · rename_i p6
        refine ⟨_, .agg (x.extract off (off+(tt.at t).size)),?_,?_,hk⟩
        · simp[part,T.isAgg sP,KP,T.sizeOf sP]
        · have G6:=(hr.drop off).take (tt.at t).size
          refine .agg ?_ fun j v d hv hd=>G6.2 j v d hv ?_
          · simp[hlen]; omega
          · simp only[Array.getElem?_extract]at hd
            rw[List.getElem?_take,List.getElem?_drop]
            split at hd
            · rename_i hj
              have Nc:j<(tt.at t).size:=by omega
              simp only[Nc,if_true]; simpa using hd
            · cases hd
      · cases hk
    · rename_i KP
      split at hk
      · rename_i v hv
        have ln:off<cs.length:=(List.getElem?_eq_some_iff.1 hv).1
        have hx:x[off]? = some (x[off]'(by omega)):=Array.getElem?_eq_getElem (by omega)
        refine ⟨v,x[off]'(by omega),?_,hr.2 off v _ hv (by simp),hk⟩
        simp[part,T.isAgg sP,KP,hx]
      · cases hk
  · cases hk
end

section
variable {P:Program} {tt:dB} {w:World} {h:ay} {c:jZ} {R:Type}

theorem KQ (k:IntKind) (n:Int):k.has (k.wrap n):=by
  unfold IntKind.has
  cases k <;> simp only[IntKind.wrap,IntKind.min,IntKind.max,IntKind.signed,IntKind.bits] <;> simp <;> omega

theorem cq {b:Bool} {k:Option R} {r:R} (hk:cR b k=some r):b=true∧k=some r:=by
  unfold cR at hk; cases b <;> simp_all

theorem dw.iI {k:IntKind} {n:Int} {v:Value} (r:dw w h c (.int k n) v):v = .int k n∧k.has n:=by cases r; exact ⟨rfl, ‹_›⟩
theorem dw.Cy {b:Bool} {v:Value} (r:dw w h c (.bool b) v):v = .bool b:=by cases r; rfl
theorem dw.kr {s:ak} {v:Value} (r:dw w h c (.str s) v):∃t,v = .string t∧t.data.toList=s∧t.size≤mx:=by cases r; exact ⟨_,rfl,rfl, ‹_›⟩

theorem KR (n:Nat) (hn:n<256):IntKind.u8.has (n:Int):=by unfold IntKind.has; simp[IntKind.min,IntKind.max,IntKind.signed,IntKind.bits]; omega
theorem C8 (n:Nat) (hn:n≤mx):IntKind.i64.has (n:Int):=by unfold IntKind.has; unfold mx at hn; simp[IntKind.min,IntKind.max,IntKind.signed,IntKind.bits]; omega

theorem G7 (v:Value):dw w h c (En v) v:=by
  unfold En
  split
  · exact .bool _
  · split
    · rename_i hk; unfold inK at hk; simp at hk; exact .int hk
    · exact .undef _
  · split
    · exact .str ‹_›
    · exact .undef _
  · exact .eC
  · exact .cw
  · exact .aS
  · exact .n8
  · exact .cJ
  · exact .undef _

theorem Jp (v:Value):dw w h c (ofConst v) v:=by
  unfold ofConst
  split
  · refine .agg (by simp) fun j v d hv hd => ?_
    rw[List.getElem?_map,Array.getElem?_toList,hd]at hv
    cases hv
    exact G7 d
  · exact G7 v

theorem se {a b:ByteArray} (h:a.data.toList=b.data.toList):a=b:=by
  obtain ⟨⟨x⟩⟩:=a; obtain ⟨⟨y⟩⟩:=b; simp at h; subst h; rfl
theorem toList_data (a:ByteArray):a.toList=a.data.toList:=ByteArray.toList_eq a
theorem size_data (a:ByteArray):a.data.toList.length=a.size:=by rw[Array.length_toList]; rfl
theorem Aa {s:ak} (t:ByteArray) (e:t.data.toList=s) (hl:s.length≤mx):dw w h c (.str s) (.string t):=by
  subst e; rw[size_data]at hl; exact .str hl

theorem KS:∀a b:ak,Op.bytesLess a b=BS a b
  | [], []=>rfl
  | [],_::_=>rfl
  | _::_, []=>rfl
  | a::x,b::y=>by simp[Op.bytesLess,BS,KS x y]

def ot (P:Program) (w:World) (h:ay) (c:jZ) (s:Sem Value) (k:V→Option R) (r:R):Prop:=∃v v',s.run P w = .ok v' w∧dw w h c v v'∧k v=some r

theorem Pw (a b:Int):(0≤a→0≤a.tmod b∧a.tmod b≤a)∧(a≤0→a≤a.tmod b∧a.tmod b≤0):=by
  have key:∀m:Nat,∀b:Int,0≤(m:Int).tmod b∧(m:Int).tmod b≤m:=fun m b=>by
    cases b with
    | ofNat n =>
      have:((m:Int).tmod (Int.ofNat n))=((m % n:Nat):Int):=rfl
      have h:=Nat.mod_le m n
      rw[this]; omega
    | negSucc n =>
      have:((m:Int).tmod (Int.negSucc n))=((m % (n+1):Nat):Int):=rfl
      have h:=Nat.mod_le m (n+1)
      rw[this]; omega
  constructor
  · intro h
    obtain ⟨m,rfl⟩:=Int.eq_ofNat_of_zero_le h
    exact key m b
  · intro h
    obtain ⟨m,hm⟩:=Int.eq_ofNat_of_zero_le (show 0 ≤ -a by omega)
    have e:a = -(m:Int):=by omega
    subst e
    rw[Int.neg_tmod]
    have:=key m b
    omega

theorem VA {op:BinOp} {i j:IntKind} {a b:Int} (hb:j.has b) (t:TypeId) (x y:Operand) {k:V→Option R} {r:R} (hk:xj op (.int i a) (.int j b) k=some r) (ha:i.has a) :
    ot P w h c (do eqGuard op t x y (.int i a) (.int j b); binOp op t (.int i a) (.int j b)) k r:=by
  have hg:∀op:BinOp,(eqGuard op t x y (.int i a) (.int j b)).run P w = .ok () w:=fun op=>by cases op <;> simp[eqGuard]
  unfold ot
  simp only[Sem.run_bind,hg,Result.andThen_ok]
  have hw:=fun n=>KQ i n
  by_cases ZT:op = .shl∨op = .shr
  · rcases ZT with rfl|rfl
    · simp only[xj]at hk
      obtain ⟨h0,hk⟩:=cq hk
      simp at h0
      exact ⟨_,_,by simp[binOp,Op.shift]; intro hn; omega, .int (hw _),hk⟩
    · simp only[xj]at hk
      obtain ⟨h0,hk⟩:=cq hk
      simp at h0
      refine ⟨_,_,by simp[binOp,Op.shift]; intro hn; omega, .int ?_,hk⟩
      have hp:(0:Int)<2 ^ (min b.toNat i.bits):=Int.pow_pos (by decide)
      have h1:(1:Int)≤2 ^ (min b.toNat i.bits):=hp
      unfold IntKind.has at ha ⊢
      have VB:i.min≤0:=by cases i <;> simp[IntKind.min,IntKind.signed,IntKind.bits]
      have hmax:0≤i.max:=by cases i <;> simp[IntKind.max,IntKind.signed,IntKind.bits]
      rw[Int.fdiv_eq_ediv_of_nonneg _ (Int.le_of_lt hp)]
      constructor
      · rcases Int.lt_or_le a 0 with hn|hn
        · have:a≤a / 2 ^ (min b.toNat i.bits):=by
            refine (Int.le_ediv_iff_mul_le hp).2 ?_
            have h2:=Int.mul_nonneg (show 0 ≤ -a by omega) (show 0≤(2:Int) ^ (min b.toNat i.bits) - 1 by omega)
            rw[Int.mul_sub,Int.neg_mul]at h2
            omega
          omega
        · have:=Int.ediv_nonneg hn (Int.le_of_lt hp); omega
      · rcases Int.lt_or_le a 0 with hn|hn
        · have:=Int.ediv_neg_of_neg_of_pos hn hp; omega
        · have:=Int.ediv_le_self (2 ^ (min b.toNat i.bits)) hn; omega
  · have rX:(if i=j then (match op with
        | .add=>k (.int i (i.wrap (a+b)))
        | .sub=>k (.int i (i.wrap (a - b)))
        | .mul=>k (.int i (i.wrap (a*b)))
        | .quo=>cR (!decide (b=0)) (k (.int i (i.wrap (a.tdiv b))))
        | .rem=>cR (!decide (b=0)) (k (.int i (a.tmod b)))
        | .and=>k (.int i (i.wrap (BitVec.ofInt i.bits a &&& BitVec.ofInt i.bits b).toNat))
        | .or=>k (.int i (i.wrap (BitVec.ofInt i.bits a ||| BitVec.ofInt i.bits b).toNat))
        | .xor=>k (.int i (i.wrap (BitVec.ofInt i.bits a ^^^ BitVec.ofInt i.bits b).toNat))
        | .eql=>k (.bool (a==b))
        | .neq=>k (.bool (a != b))
        | .lss=>k (.bool (decide (a<b)))
        | .leq=>k (.bool (decide (a≤b)))
        | .gtr=>k (.bool (decide (a>b)))
        | .geq=>k (.bool (decide (a≥b)))
        | _=>none)else none)=some r:=by
      cases op <;> first|exact absurd (.inl rfl) ZT|exact absurd (.inr rfl) ZT|exact hk
    clear hk
    split at rX
    · rename_i xk
      subst xk
      cases op <;> simp only at rX <;> try (first|exact absurd (.inl rfl) ZT|exact absurd (.inr rfl) ZT|cases rX)
      case add=>exact ⟨_,_,by simp[binOp,Op.intArith], .int (hw _),rX⟩
      case sub=>exact ⟨_,_,by simp[binOp,Op.intArith], .int (hw _),rX⟩
      case mul=>exact ⟨_,_,by simp[binOp,Op.intArith], .int (hw _),rX⟩
      case quo =>
        obtain ⟨h0,rX⟩:=cq rX
        simp at h0
        exact ⟨_,_,by simp[binOp,Op.intDiv,h0], .int (hw _),rX⟩
      case rem =>
        obtain ⟨h0,rX⟩:=cq rX
        simp at h0
        refine ⟨_,_,by simp[binOp,Op.intDiv,h0], .int ?_,rX⟩
        unfold IntKind.has at ha ⊢
        have VB:i.min≤0:=by cases i <;> simp[IntKind.min,IntKind.signed,IntKind.bits]
        have hmax:0≤i.max:=by cases i <;> simp[IntKind.max,IntKind.signed,IntKind.bits]
        have hb:=Pw a b
        rcases Int.lt_or_le a 0 with hn|hn
        · have:=hb.2 (by omega); omega
        · have:=hb.1 hn; omega
      case and=>exact ⟨_,_,by simp[binOp,Op.intBits], .int (hw _),rX⟩
      case or=>exact ⟨_,_,by simp[binOp,Op.intBits], .int (hw _),rX⟩
      case xor=>exact ⟨_,_,by simp[binOp,Op.intBits], .int (hw _),rX⟩
      case eql=>exact ⟨_,_,by simp[binOp,Op.intCmp], .bool _,rX⟩
      case neq=>exact ⟨_,_,by simp[binOp,Op.intCmp], .bool _,rX⟩
      case lss=>exact ⟨_,_,by simp[binOp,Op.intCmp], .bool _,rX⟩
      case leq=>exact ⟨_,_,by simp[binOp,Op.intCmp], .bool _,rX⟩
      case gtr=>exact ⟨_,_,by simp[binOp,Op.intCmp], .bool _,rX⟩
      case geq=>exact ⟨_,_,by simp[binOp,Op.intCmp], .bool _,rX⟩
    · cases rX
end

section
variable {P:Program} {tt:dB} {w:World} {h:ay} {c:jZ} {R:Type}

theorem VC (a b:ByteArray):(a.toList==b.toList)=(a.data.toList==b.data.toList):=by rw[toList_data,toList_data]

theorem size_append (a b:ByteArray):(a++b).size=a.size+b.size:=ByteArray.size_append

theorem VD {op:BinOp} {a b:ByteArray} (t:TypeId) (x y:Operand) {k:V→Option R} {r:R}
    (hk:xj op (.str a.data.toList) (.str b.data.toList) k=some r) :
    ot P w h c (do eqGuard op t x y (.string a) (.string b); binOp op t (.string a) (.string b)) k r:=by
  have hg:∀op:BinOp,(eqGuard op t x y (.string a) (.string b)).run P w = .ok () w:=fun op=>by cases op <;> simp[eqGuard]
  have he:(a.toList==b.toList)=(a.data.toList==b.data.toList):=VC a b
  have hl:Op.bytesLess a.toList b.toList=BS a.data.toList b.data.toList:=by rw[toList_data,toList_data,KS]
  unfold ot
  simp only[Sem.run_bind,hg,Result.andThen_ok]
  cases op <;> simp only[xj]at hk <;> try (first|cases hk)
  case add =>
    obtain ⟨h0,hk⟩:=cq hk
    simp at h0
    refine ⟨_, .string (a++b),?_,Aa (a++b) (by simp) (by simp; exact h0),hk⟩
    have:¬(((a.size+b.size:Nat):Int)>IntKind.i64.max):=by
      have e:IntKind.i64.max=9223372036854775807:=by decide
      rw[e]; omega
    simp only[binOp,Op.stringOp]
    rw[if_neg this]; rfl
  case eql=>exact ⟨_, .bool _,by simp only[binOp,Op.stringOp,he]; rfl, .bool _,hk⟩
  case neq=>exact ⟨_, .bool _,by simp only[binOp,Op.stringOp,he]; rfl, .bool _,hk⟩
  case lss=>exact ⟨_, .bool _,by simp only[binOp,Op.stringOp,hl]; rfl, .bool _,hk⟩
  case leq=>exact ⟨_, .bool _,by simp only[binOp,Op.stringOp,hl,he]; rfl, .bool _,hk⟩
  case gtr=>exact ⟨_, .bool _,by simp only[binOp,Op.stringOp,hl,he]; rfl, .bool _,hk⟩
  case geq=>exact ⟨_, .bool _,by simp only[binOp,Op.stringOp,hl]; rfl, .bool _,hk⟩

theorem Tz (T:xh P tt) {op:BinOp} {a b:Bool} {t:TypeId} (ht:(tt.at t).d = .bool) (x y:Operand) {k:V→Option R} {r:R}
    (hk:xj op (.bool a) (.bool b) k=some r):ot P w h c (do eqGuard op t x y (.bool a) (.bool b); binOp op t (.bool a) (.bool b)) k r:=by
  have hu:P.underlying t=some .bool:=eD T ht
  have hg:∀op:BinOp,(eqGuard op t x y (.bool a) (.bool b)).run P w = .ok () w:=fun op=>by cases op <;> simp[eqGuard]
  have hq:=run_equalIn_bool w 9999 t a b hu
  unfold ot
  simp only[Sem.run_bind,hg,Result.andThen_ok]
  cases op <;> simp only[xj,eqV]at hk <;> try (first|cases hk)
  case eql=>exact ⟨_, .bool (a==b),by simp[binOp,Op.equal,Op.maxDepth,hq], .bool _,hk⟩
  case neq=>exact ⟨_, .bool (!(a==b)),by simp[binOp,Op.equal,Op.maxDepth,hq], .bool _,hk⟩

theorem VE (T:xh P tt) {op:BinOp} {cs ds:List V} {xs ys:Array Value} {t:TypeId} (ht:Oc (tt.at t) cs ds=true) (rx:cz w h c cs xs.toList) (ry:cz w h c ds ys.toList)
    (x y:Operand) {k:V→Option R} {r:R} (hk:xj op (.agg cs) (.agg ds) k=some r) :
    ot P w h c (do eqGuard op t x y (.agg xs) (.agg ys); binOp op t (.agg xs) (.agg ys)) k r:=by
  cases op <;> simp only[xj,eqV]at hk <;> try (first|cases hk)
  all_goals
    split at hk
    · rename_i b hb
      obtain ⟨hg,hq⟩:=T.eqs t w h c cs ds xs ys b ht rx ry hb
      have hg':=fun op=>run_eqGuard_agg (P:=P) (w:=w) op t x y xs ys hg
      unfold ot
      simp only[Sem.run_bind,hg',Result.andThen_ok]
      first
        | exact ⟨_, .bool b,by simp only[binOp]; unfold Op.equal Op.maxDepth; simp[hq], .bool _,hk⟩
        | exact ⟨_, .bool (!b),by simp only[binOp]; unfold Op.equal Op.maxDepth; simp[hq], .bool _,hk⟩
    · cases hk

theorem Gn (d:Nat) (t e:TypeId) (q:Option Addr) (hu:P.underlying t=some (.pointer e)) :
    (Op.equalIn (d+1) t (.pointer q) (.pointer none)).run P w = .ok q.isNone w:=by
  cases q <;> simp[Op.equalIn,run_underlying hu]

theorem Cz (t e:TypeId) (q:Option Addr) (hu:P.underlying t=some (.pointer e)) :
    (Op.equal t (.pointer q) (.pointer none)).run P w = .ok q.isNone w:=Gn 9999 t e q hu

theorem Rh (T:xh P tt) {op:BinOp} {a b:V} {u v:Value} {t e:TypeId} (ht:(tt.at t).d = .ptr e) (ra:dw w h c a u) (rb:dw w h c b v) (x y:Operand)
    {k:V→Option R} {r:R} (hk:Ob op a b k=some r):ot P w h c (do eqGuard op t x y u v; binOp op t u v) k r:=by
  have hu:P.underlying t=some (.pointer e):=eD T ht
  unfold Ob at hk
  split at hk
  · cases rb
    have key:∀r,Q9 a=some r→∃q:Option Addr,u = .pointer q∧r=q.isNone:=by
      intro r hr
      unfold Q9 at hr
      split at hr <;> try cases hr
      · cases ra; exact ⟨none,rfl,rfl⟩
      · cases ra with|ptr _ hv=>obtain ⟨b,hv,_⟩:=hv; exact ⟨_,hv,rfl⟩
      · cases ra; exact ⟨_,rfl,rfl⟩
      · cases ra with|sN _ hv=>obtain ⟨b,hv,_⟩:=hv; exact ⟨_,hv,rfl⟩
    split at hk
    · rename_i q hq
      obtain ⟨q,rfl,rfl⟩:=key _ hq
      refine ⟨_, .bool q.isNone,?_, .bool _,hk⟩
      have hq:=Cz (w:=w) t e q hu
      cases q <;> simp[eqGuard,binOp,hq]
    · rename_i q hq
      obtain ⟨q,rfl,rfl⟩:=key _ hq
      refine ⟨_, .bool (!q.isNone),?_, .bool _,hk⟩
      have hq:=Cz (w:=w) t e q hu
      cases q <;> simp[eqGuard,binOp,hq]
    · cases hk
  · cases hk

theorem dw.Oe {t:Nat} {k:IntKind} {n:Int} {v:Value} (r:dw w h c (.Em t k n) v):v = .iface t (.int k n)∧k.has n:=by cases r; exact ⟨rfl, ‹_›⟩

theorem TA (T:xh P tt) {op:BinOp} {a b:V} {u v:Value} {t:TypeId} (ht:(tt.at t).d = .iface) (ra:dw w h c a u) (rb:dw w h c b v) (x y:Operand)
    {k:V→Option R} {r:R} (hk:ZQ op y a b k=some r):ot P w h c (do eqGuard op t x y u v; binOp op t u v) k r:=by
  obtain ⟨ms,hu⟩:=eD T ht
  have hq:∀(d:Nat) (u:Value),(u = .nilIface∨∃t x,u = .iface t x)→(Op.equalIn (d+1) t u .nilIface).run P w = .ok (match u with | .nilIface=>true|_=>false) w:=by
    rintro d u (rfl|⟨t',x',rfl⟩) <;> simp[Op.equalIn,run_underlying hu]
  have hq1:=hq 9999 .nilIface (.inl rfl)
  unfold ZQ at hk
  split at hk <;> try (first|cases hk)
  · cases ra; cases rb
    refine ⟨_, .bool true,?_, .bool _,hk⟩
    simp[eqGuard,binOp,Op.equal,Op.maxDepth,hq1]
  · cases ra; cases rb
    refine ⟨_, .bool false,?_, .bool _,hk⟩
    simp[eqGuard,binOp,Op.equal,Op.maxDepth,hq1]
  · cases ra with
    | iface t' v' =>
      cases rb
      have VF:=hq 9999 (.iface t' v') (.inr ⟨_,_,rfl⟩)
      refine ⟨_, .bool false,?_, .bool _,hk⟩
      simp[eqGuard,binOp,Op.equal,Op.maxDepth,VF]
  · cases ra with
    | iface t' v' =>
      cases rb
      have VF:=hq 9999 (.iface t' v') (.inr ⟨_,_,rfl⟩)
      refine ⟨_, .bool true,?_, .bool _,hk⟩
      simp[eqGuard,binOp,Op.equal,Op.maxDepth,VF]
  · obtain ⟨rfl,_⟩:=ra.Oe
    cases rb
    refine ⟨_, .bool false,?_, .bool _,hk⟩
    simp[eqGuard,binOp,Op.equal,Op.maxDepth,hq 9999 (.iface _ (.int _ _)) (.inr ⟨_,_,rfl⟩)]
  · obtain ⟨rfl,_⟩:=ra.Oe
    cases rb
    refine ⟨_, .bool true,?_, .bool _,hk⟩
    simp[eqGuard,binOp,Op.equal,Op.maxDepth,hq 9999 (.iface _ (.int _ _)) (.inr ⟨_,_,rfl⟩)]

theorem Ty.YP (T:Ty):0<T.sz:=by cases T <;> simp[Ty.sz]

theorem BU (d:Nat) (t e:TypeId) (A:Option Addr) (n cap:Nat) (hu:P.underlying t=some (.slice e)) :
    (Op.equalIn (d+1) t (.slice A n cap) (.slice none 0 0)).run P w = .ok A.isNone w:=by
  cases A <;> simp[Op.equalIn,run_underlying hu]

theorem TB (T:xh P tt) {op:BinOp} {a b:V} {u v:Value} {t e:TypeId} (ht:(tt.at t).d = .slice e) (ra:dw w h c a u) (rb:dw w h c b v) (x y:Operand)
    {k:V→Option R} {r:R} (hk:YL op a b k=some r):ot P w h c (do eqGuard op t x y u v; binOp op t u v) k r:=by
  have hu:P.underlying t=some (.slice e):=eD T ht
  unfold YL at hk
  split at hk
  · cases rb
    have key:∀(neg:Bool) (k:V→Option R),DN a (fun r=>k (KG neg r))=some r→∃A n cap,u = .slice A n cap∧∃z,dw w h c z (.bool (bif neg then !A.isNone else A.isNone))∧k z=some r:=by
      intro neg k hk
      unfold DN at hk
      split at hk <;> try cases hk
      · cases ra; exact ⟨none,0,0,rfl, .bool (bif neg then false else true),by cases neg <;> exact .bool _,by cases neg <;> exact hk⟩
      · rename_i T l tk _
        cases ra with
        | @sl _ _ _ A cap f lB sd hc hr xF mA =>
          refine ⟨A,_,cap,rfl,?_⟩
          cases hl:l.isEmpty with
          | true=>rw[hl]at hk; exact ⟨.Fv, .Fv _,hk⟩
          | false =>
            rw[hl]at hk
            have Iu:0<l.length:=List.length_pos_iff.2 (by intro e; rw[e]at hl; cases hl)
            obtain ⟨b,o,rfl,_⟩:=hc 0 0 Iu (Ty.YP T)
            exact ⟨_, .bool _,hk⟩
      · rename_i i n _
        cases ra with
        | row hi hn hv =>
          obtain ⟨A,cap,rfl,hA,_⟩:=hv
          refine ⟨A,n,cap,rfl,?_⟩
          cases hl:decide (n=0)with
          | true=>rw[hl]at hk; exact ⟨.Fv, .Fv _,hk⟩
          | false =>
            rw[hl]at hk
            obtain ⟨q,rfl⟩:=hA (Nat.pos_of_ne_zero (by simpa using hl))
            exact ⟨_, .bool _,hk⟩
    split at hk
    · obtain ⟨A,n,cap,rfl,z,rz,hk⟩:=key false k hk
      refine ⟨_, .bool A.isNone,?_,rz,hk⟩
      have hq:=BU (w:=w) 9999 t e A n cap hu
      simp[eqGuard,binOp,Op.equal,Op.maxDepth,hq]
    · obtain ⟨A,n,cap,rfl,z,rz,hk⟩:=key true k hk
      refine ⟨_, .bool (!A.isNone),?_,rz,hk⟩
      have hq:=BU (w:=w) 9999 t e A n cap hu
      simp[eqGuard,binOp,Op.equal,Op.maxDepth,hq]
    · cases hk
  · cases hk
end

section
variable {P:Program} {tt:dB} {w:World} {h:ay} {c:jZ} {R:Type}

theorem Px {v:V} {d:Value} (r:dw w h c v d) (h1:v.one=true):d.oneCell'=true∧d.cells = #[d]:=by
  cases r <;> simp_all [V.one,Value.oneCell',Value.cells]
  case ptr hi hv=>obtain ⟨b,rfl,_⟩:=hv; simp
  case sN hi hv=>obtain ⟨b,rfl,_⟩:=hv; simp
  case row hi _ hv=>obtain ⟨A,cap,rfl,_,_⟩:=hv; simp
  case Ct hi _ hv=>obtain ⟨A,cap,rfl,_,_⟩:=hv; simp
  case map hi hv=>obtain ⟨b,rfl,_⟩:=hv; simp

def Ri (ds:List Value):Prop:=∀d∈ds,d.oneCell'=true

theorem SC {cs:List V} {ds:List Value} (r:cz w h c cs ds) (h1:cs.all V.one=true):Ri ds:=by
  intro d hd
  obtain ⟨j,hj,rfl⟩:=List.mem_iff_getElem.1 hd
  have Nc:j<cs.length:=by have:=r.1; omega
  have:=r.2 j cs[j] ds[j] (List.getElem?_eq_getElem Nc) (List.getElem?_eq_getElem hj)
  exact (Px this (by simpa using List.all_eq_true.1 h1 _ (List.getElem_mem Nc))).1

theorem Et {v:V} {d:Value} (r:dw w h c v d) {cs:List V} (hf:M8 v=some cs):cz w h c cs d.cells.toList∧Ri d.cells.toList∧cs.all V.one=true:=by
  unfold M8 at hf
  split at hf
  · split at hf
    · rename_i zo
      cases hf
      cases r with
      | @agg _ x hl hr =>
        have ZU:cz w h c cs x.toList:=⟨by rw[hl,Array.length_toList],fun j v d hv hd=>hr j v d hv (by simpa using hd)⟩
        exact ⟨ZU,SC ZU zo,zo⟩
    · cases hf
  · split at hf
    · rename_i h1
      cases hf
      obtain ⟨ho,hc⟩:=Px r h1
      rw[hc]
      refine ⟨.cons r .nil,fun d' hd => ?_,by simp[h1]⟩
      simp at hd; subst hd; exact ho
    · cases hf

theorem VG (xs:List Value):∀(k off:Nat) (a:Array Value),off+k+xs.length≤a.size →
    ((xs.zipIdx k).foldl (fun cs (p:Value × Nat)=>cs.setIfInBounds (off+p.2) p.1) a).toList=a.toList.take (off+k)++xs++a.toList.drop (off+k+xs.length):=by
  induction xs with
  | nil=>intro k off a hs; simp
  | cons x xs ih =>
    intro k off a hs
    simp only[List.length_cons]at hs
    simp only[List.zipIdx_cons,List.foldl_cons]
    rw[ih (k+1) off _ (by simp; omega)]
    simp only[Array.toList_setIfInBounds]
    have ln:off+k<a.toList.length:=by simp; omega
    apply List.ext_getElem?
    intro i
    simp only[List.getElem?_append,List.length_take,List.length_set,List.getElem?_take,List.getElem?_drop,List.getElem?_set,List.length_cons,List.length_append,List.getElem?_cons]
    simp only[Array.length_toList]at ln ⊢
    by_cases h1:i<off+k
    · have e1:off+k≠i:=by omega
      have e2:i<off+(k+1):=by omega
      have e3:i<min (off+(k+1)) a.size:=by omega
      have e4:i<min (off+k) a.size:=by omega
      have e5:i<min (off+(k+1)) a.size+xs.length:=by omega
      have e6:i<min (off+k) a.size+(xs.length+1):=by omega
      simp[h1,e1,e2,e3,e4,e5,e6]
    · by_cases h2:i=off+k
      · subst h2
        have m1:min (off+(k+1)) a.size=off+k+1:=by omega
        have m2:min (off+k) a.size=off+k:=by omega
        have e2:off+k<off+(k+1):=by omega
        have e3:off+k<a.size:=by omega
        rw[m1,m2]
        simp[e2,e3]
        intro h7; omega
      · have m1:min (off+(k+1)) a.size=off+k+1:=by omega
        have m2:min (off+k) a.size=off+k:=by omega
        rw[m1,m2]
        by_cases h3:i<off+k+1+xs.length
        · have e1:¬i<off+k+1:=by omega
          have e2:¬i<off+k:=by omega
          have e4:i<off+k+(xs.length+1):=by omega
          have e5:¬(i - (off+k)=0):=by omega
          have e6:i - (off+k) - 1=i - (off+k+1):=by omega
          simp[h3,e1,e2,e4,e5,e6]
        · have e1:¬i<off+k+1:=by omega
          have e4:¬i<off+k+(xs.length+1):=by omega
          have e8:off+(k+1)+xs.length+(i - (off+k+1+xs.length))=off+k+(xs.length+1)+(i - (off+k+(xs.length+1))):=by omega
          simp[h3,e4,e8]
          intro hh; omega

theorem putCells (cells:Array Value) (d:Value) (off:Nat) (hs:off+d.cells.size≤cells.size) :
    (d.cells.zipIdx.foldl (fun cs (p:Value × Nat)=>cs.setIfInBounds (off+p.2) p.1) cells).toList=cells.toList.take off++d.cells.toList++cells.toList.drop (off+d.cells.size):=by
  have h:=VG d.cells.toList 0 off cells (by simpa using hs)
  simp only[Nat.add_zero,Array.length_toList]at h
  rw[←h,←Array.foldl_toList,Array.toList_zipIdx]

theorem cz.len {cs:List V} {ds:List Value} (r:cz w h c cs ds):cs.length=ds.length:=r.1

theorem C9 (place:Nat→Option (Nat × Nat)):∀(parts:List (Nat × V)) (Gp:List (Nat × Value)) (cs:List V) (cells:Array Value) (out:List V),
    (parts.map Prod.fst=Gp.map Prod.fst)→cz w h c (parts.map Prod.snd) (Gp.map Prod.snd)→cz w h c cs cells.toList →
    FX cs (parts.map fun p=>(((place p.1).getD (0,1000000)).1,((place p.1).getD (0,1000000)).2,p.2))=some out→cells.size<1000000 →
    ∃Iv,Instr.fill place cells Gp=some Iv∧cz w h c out Iv.toList∧Iv.size=cells.size
  | [],Gp,cs,cells,out,he,_,rc,hf,_=>by
    cases Gp with
    | nil=>simp[FX]at hf; subst hf; exact ⟨cells,rfl,rc,rfl⟩
    | cons p ps=>simp at he
  | (i,v)::parts,Gp,cs,cells,out,he,rp,rc,hf,hno=>by
    cases Gp with
    | nil=>simp at he
    | cons p ps =>
      obtain ⟨i',d⟩:=p
      simp only[List.map_cons,List.cons.injEq]at he
      obtain ⟨rfl,he⟩:=he
      simp only[List.map_cons]at rp hf
      simp only[FX]at hf
      split at hf
      · rename_i vs hvs
        split at hf
        · rename_i wj
          simp only[Bool.and_eq_true,decide_eq_true_eq]at wj
          obtain ⟨hlen,p6⟩:=wj
          obtain ⟨rv,_,_⟩:=Et rp.head hvs
          have hl1:=rv.len
          have SD:=rc.len
          simp only[Array.length_toList]at hl1 SD
          cases Vl:place i with
          | none =>
            rw[Vl]at p6
            simp at p6; omega
          | some q =>
            obtain ⟨off,size⟩:=q
            simp only[Vl,Option.getD_some]at hlen p6 hf
            have Ch:=putCells cells d off (by omega)
            have G6:cz w h c (cs.take off++vs++cs.drop (off+size)) (d.cells.zipIdx.foldl (fun cs (p:Value × Nat)=>cs.setIfInBounds (off+p.2) p.1) cells).toList:=by
              rw[Ch]
              have hd:d.cells.size=size:=by omega
              rw[hd]
              exact ((rc.take off).append rv).append (rc.drop _)
            obtain ⟨Iv,h1,h2,h3⟩:=C9 place parts ps _ _ out he rp.tail G6 hf (by rw[←Array.length_toList,Ch]; simp; omega)
            refine ⟨Iv,?_,h2,?_⟩
            · simp only[Instr.fill,Vl]
              rw[if_neg]
              · exact h1
              · simp; omega
            · rw[h3,←Array.length_toList,Ch]; simp; omega
        · cases hf
      · cases hf
end

section
variable {P:Program} {tt:dB} {w:World} {h:ay} {c:jZ} {R:Type}

theorem sQ (b o n:Nat):(⟨b,o,none⟩:Addr).add n=⟨b,o+n,none⟩:=by unfold Addr.add; split <;> simp_all

theorem SE {T:Ty} {l:List T.den} {t:Tok} {A:Option Addr} {n cap:Nat} (r:dw w h c (.sl T l t) (.slice A n cap)) (lo hi:Nat) (h1:lo≤hi) (h2:hi≤l.length) :
    dw w h c (.sl T ((l.drop lo).take (hi - lo)) .no) (.slice (if cap=lo then A else A.map (·.add (lo*T.sz))) (hi - lo) (cap - lo)):=by
  cases r with
  | sl f lB sd hc hr xF mA =>
    have hlen:((l.drop lo).take (hi - lo)).length=hi - lo:=by simp; omega
    have key:=dw.sl (w:=w) (h:=h) (c:=c) (T:=T) (l:=(l.drop lo).take (hi - lo)) (t := .no) (A:=if cap=lo then A else A.map (·.add (lo*T.sz))) (cap:=cap - lo)
      (fun i j=>f (lo+i) j) (by omega) (by omega) ?_ ?_ (by simp) (by simp)
    · rw[hlen]at key; exact key
    · intro i j hi' hj
      rw[hlen]at hi'
      obtain ⟨b,o,hA,xA,VH⟩:=hc (lo+i) j (by omega) hj
      rw[if_neg (by omega)]
      refine ⟨b,o+lo*T.sz,by rw[hA]; simp[sQ],?_⟩
      have e:o+lo*T.sz+i*T.sz+j=o+(lo+i)*T.sz+j:=by rw[Nat.add_mul]; omega
      rw[e]
      exact ⟨xA,VH⟩
    · intro i j x v hx hv
      rw[List.getElem?_take,List.getElem?_drop]at hx
      split at hx
      · exact hr _ j x v hx hv
      · cases hx

theorem Iw {T:Ty} {l:List T.den} {t:Tok} {v:Value} (r:dw w h c (.sl T l t) v):∃A cap,v = .slice A l.length cap∧l.length≤cap∧cap≤mx:=by
  cases r with
  | sl f lB sd hc hr xF mA=>exact ⟨_,_,rfl,lB,sd⟩

theorem Ty.Da (T:Ty):0<T.sz:=by cases T <;> simp[Ty.sz]
theorem Ty.lh (T:Ty) (x:T.den):(T.cells x).length=T.sz:=by cases T <;> rfl

theorem A0 {v:Option V} {v':Option Value} (hv:match v,v' with|none,none=>True|some a,some b=>dw w h c a b|_,_=>False) {d:Int} {k:Int→Option R} {r:R}
    (hk:Eo v d k=some r):∃n,k n=some r∧((v'=none∧n=d)∨∃i,v'=some (.int i n)):=by
  unfold Eo at hk
  split at hk
  · split at hv <;> simp_all
  · rename_i i n
    cases v' with
    | none=>exact hv.elim
    | some b=>exact ⟨n,hk, .inr ⟨_,by rw[(show dw w h c (.int i n) b from hv).iI.1]⟩⟩
  · cases hk

theorem G8 {ρ:Operand→V} {ρ':Operand→Value} (hρ:∀x,dw w h c (ρ x) (ρ' x)) (o:Option Operand) :
    match o.map ρ,o.map ρ' with|none,none=>True|some a,some b=>dw w h c a b|_,_=>False:=by
  cases o <;> simp[hρ]

theorem uK (isSlice:Bool) (len cap:Nat) (lo hi:Option Value) (l hh:Int) (ZV:(lo=none∧l=0)∨∃k,lo=some (.int k l))
    (ZW:(hi=none∧hh=len)∨∃k,hi=some (.int k hh)) (h0:0≤l) (h1:l≤hh) (h2:hh≤cap) :
    (Instr.sliceBounds isSlice len cap lo hi none).run P w = .ok (l.toNat,hh.toNat,cap) w:=by
  have hb:∀(k:IntKind) (n:Int) (y:Nat) (code:BoundsCode),0≤n→n≤y→(Instr.sliceBound (.int k n) y code).run P w = .ok n.toNat w:=by
    intro k n y code h0 h1
    simp[Instr.sliceBound,asIntOf,h0,h1]
  rcases ZV with ⟨rfl,rfl⟩|⟨k,rfl⟩ <;> rcases ZW with ⟨rfl,rfl⟩|⟨k',rfl⟩
  · simp[Instr.sliceBounds]
  · simp[Instr.sliceBounds,hb _ _ _ _ (show 0≤hh by omega) h2]
  · simp[Instr.sliceBounds,hb _ _ _ _ h0 h1]
  · simp only[Instr.sliceBounds]
    have e:((hh.toNat:Nat):Int)=hh:=by omega
    simp[hb _ _ _ _ (show 0≤hh by omega) h2,hb k l hh.toNat .sliceB h0 (by omega)]

theorem KT {v:V} {d:Value} (r0:dw w h c v d) {k:Int→Option R} {r:R} (hk:idxOf v k=some r):∃i n,d = .int i n∧k n=some r:=by
  unfold idxOf at hk
  split at hk
  · exact ⟨_,_,r0.iI.1,hk⟩
  · cases hk

theorem JQ (T:xh P tt) {t:Nat} {a i:V} {a' i':Value} (ra:dw w h c a a') (ri:dw w h c i i') {k:V→Option R} {r:R}
    (hk:(idxOf i fun n =>
      match (generalizing:=false) (tt.at t).d,a with
      | .slice e, .sl T l _=>if T.sz=(tt.at e).size&&tt.ok e then cR (decide (0≤n)&&decide (n<l.length)) (k (.xi (T.cells (l.getD n.toNat T.cg))))else none
      | .slice e, .row id m=>if tt.ok e then cR (decide (0≤n)&&decide (n<m)) (k (.sN id (tt.at e).size n.toNat 0))else none
      | .arr m e, .ptr id o=>if tt.ok e then cR (decide (0≤n)&&decide (n<m)) (k (.ptr id (o+n.toNat*(tt.at e).size)))else none
      | _,_=>none)=some r):ot P w h c (Instr.indexAt t a' i') k r:=by
  obtain ⟨ik,n,rfl,Gq⟩:=KT ri hk
  clear hk
  split at Gq
  · rename_i e T' l tk hd
    split at Gq
    · rename_i wj
      simp only[Bool.and_eq_true,decide_eq_true_eq]at wj
      obtain ⟨p6,sP⟩:=wj
      obtain ⟨hb,hk⟩:=cq Gq
      simp only[Bool.and_eq_true,decide_eq_true_eq]at hb
      have hu:P.underlying t=some (.slice e):=eD T hd
      have Gr:=T.sizeOf (w:=w) sP
      cases ra with
      | @sl _ _ _ A cap f lB sd hc hr xF mA =>
        have MB:n.toNat<l.length:=by omega
        have hxd:l.getD n.toNat T'.cg=l[n.toNat]:=by simp[List.getD,List.getElem?_eq_getElem MB]
        have hx:l[n.toNat]? = some l[n.toNat]:=List.getElem?_eq_getElem MB
        obtain ⟨b,o,rfl,_,_⟩:=hc n.toNat 0 MB T'.Da
        refine ⟨_, .pointer (some ⟨b,o+n.toNat*T'.sz,none⟩),?_,?_,hk⟩
        · simp[Instr.indexAt,asIntOf,run_underlying hu,hb.1,hb.2,Gr,←p6,sQ]
        · refine .xi (fun j=>f n.toNat j) (fun j hj => ?_) (fun j v hv=>hr n.toNat j _ v hx (by rw[hxd]at hv; exact hv))
          rw[Ty.lh]at hj
          obtain ⟨b',o',e',h1,h2⟩:=hc n.toNat j MB hj
          cases e'
          exact ⟨h1,h2⟩
    · cases Gq
  · rename_i e id m hd
    split at Gq
    · rename_i sP
      obtain ⟨hb,hk⟩:=cq Gq
      simp only[Bool.and_eq_true,decide_eq_true_eq]at hb
      have hu:P.underlying t=some (.slice e):=eD T hd
      have Gr:=T.sizeOf (w:=w) sP
      cases ra with
      | row hi _ hv =>
        obtain ⟨A,cap,rfl,hA,hv⟩:=hv
        obtain ⟨a,rfl⟩:=hA (by omega)
        refine ⟨_, .pointer (some (a.add (n.toNat*(tt.at e).size))),?_,?_,hk⟩
        · simp[Instr.indexAt,asIntOf,run_underlying hu,hb.1,hb.2,Gr]
        · refine .sN hi ⟨_,rfl,fun T' l' he p6 hj => ?_⟩
          obtain ⟨_,_,_,h3⟩:=hv T' l' he
          rcases h3 with ⟨_,h3,_⟩|⟨b,arr,el,fz,g1,g2,_,_⟩
          · cases h3
          · cases g2
            exact ⟨b,g1,by rw[p6,sQ]; rfl⟩
    · cases Gq
  · rename_i m e id o hd
    split at Gq
    · rename_i sP
      obtain ⟨hb,hk⟩:=cq Gq
      simp only[Bool.and_eq_true,decide_eq_true_eq]at hb
      have hu:P.underlying t=some (.array m e):=eD T hd
      have Gr:=T.sizeOf (w:=w) sP
      cases ra with
      | ptr hi hv =>
        obtain ⟨b,rfl,hv⟩:=hv
        refine ⟨_, .pointer (some (Addr.add ⟨b,o,none⟩ (n.toNat*(tt.at e).size))),?_,?_,hk⟩
        · simp[Instr.indexAt,asIntOf,run_underlying hu,hb.1,hb.2,Gr,Instr.sureAddr]
        · exact .ptr hi ⟨b,by rw[sQ],hv⟩
    · cases Gq
  · cases Gq
end

section
variable {P:Program} {tt:dB} {w:World} {h:ay} {c:jZ} {R:Type}

theorem Py {t off:Nat} {cs:List V} {k:V→Option R} {r:R} (hk:rA tt t cs off k=some r):tt.ok t=true:=by
  unfold rA at hk
  split at hk
  · assumption
  · cases hk

theorem JR (T:xh P tt) {s f:Nat} {a:V} {a':Value} (ra:dw w h c a a') {k:V→Option R} {r:R}
    (hk:(match (generalizing:=false) (tt.at s).d with
    | .struct fs =>
      (match (generalizing:=false) fs[f]? with
       | some (off,t) =>
         if (tt.at t).size=0 || !tt.ok t then none else
         (match (generalizing:=false) a with
          | .ptr i o=>k (.ptr i (o+off))
          | .xi cs=>k (.xi (cs.drop off))
          | .sN i n j o=>k (.sN i n j (o+off))
          | _=>none)
       | none=>none)
    | _=>none)=some r):ot P w h c (Instr.fieldAt s a' f) k r:=by
  split at hk
  · rename_i fs hd
    split at hk
    · rename_i off t hf
      split at hk
      · cases hk
      · rename_i G2
        simp only[Bool.or_eq_true,decide_eq_true_eq,Bool.not_eq_true',not_or,Bool.not_eq_false]at G2
        obtain ⟨p6,sP⟩:=G2
        obtain ⟨F,fd,hu,hfd,rfl,rfl⟩:=G5 T hd hf
        have hs:=T.sizeOf (w:=w) sP
        have run:∀b o,(Instr.fieldAt s (.pointer (some ⟨b,o,none⟩)) f).run P w = .ok (.pointer (some ⟨b,o+fd.offset,none⟩)) w:=by
          intro b o
          simp[Instr.fieldAt,run_underlying hu,hfd,Instr.sureAddr,fieldPlace,hs,p6,sQ]
        have run':∀a:Addr,(Instr.fieldAt s (.pointer (some a)) f).run P w = .ok (.pointer (some (a.add fd.offset))) w:=by
          intro a
          simp[Instr.fieldAt,run_underlying hu,hfd,Instr.sureAddr,fieldPlace,hs,p6]
        split at hk
        · rename_i ra
          cases ra with
          | ptr hi hv =>
            obtain ⟨b,rfl,hb⟩:=hv
            exact ⟨_,_,run _ _, .ptr hi ⟨b,rfl,hb⟩,hk⟩
        · rename_i ra
          cases ra with
          | xi g hc hr =>
            refine ⟨_,_,run _ _, .xi (fun j=>g (fd.offset+j)) (fun j hj => ?_) (fun j v hv => ?_),hk⟩
            · simp at hj
              have:=hc (fd.offset+j) (by omega)
              rw[Nat.add_assoc]; exact this
            · rw[List.getElem?_drop]at hv
              exact hr _ v hv
        · rename_i ra
          cases ra with
          | sN hi hv =>
            obtain ⟨a,rfl,hv⟩:=hv
            refine ⟨_,_,run' a, .sN hi ⟨_,rfl,fun T' l he hn hj => ?_⟩,hk⟩
            obtain ⟨b,hb,rfl⟩:=hv T' l he hn hj
            exact ⟨b,hb,by rw[sQ,Nat.add_assoc]⟩
        · cases hk
    · cases hk
  · cases hk

theorem Pz (T:xh P tt) {s f:Nat} {a:V} {a':Value} (ra:dw w h c a a') {k:V→Option R} {r:R}
    (hk:(match (generalizing:=false) (tt.at s).d,a with
    | .struct fs, .agg cs=>(match (generalizing:=false) fs[f]? with|some (off,t)=>rA tt t cs off k|none=>none)
    | _,_=>none)=some r):ot P w h c (Instr.field s a' f) k r:=by
  split at hk
  · have hd := ‹(tt.at s).d = .struct _›
    have ra := ‹dw w h c (.agg _) a'›
    split at hk
    · rename_i off t hf
      obtain ⟨F,fd,hu,hfd,rfl,rfl⟩:=G5 T hd hf
      cases ra with
      | @agg _ x hl hr =>
        obtain ⟨v,v',h1,h2,h3⟩:=Jo (x:=x) T ⟨by rw[hl,Array.length_toList],fun j v d hv hd=>hr j v d hv (by simpa using hd)⟩ hk
        exact ⟨v,v',by simp[Instr.field,run_underlying hu,hfd,asAgg,h1],h2,h3⟩
    · cases hk
  · cases hk

theorem TC {s:ByteArray} {n:Int} (h0:0≤n) (h1:n<s.data.toList.length):(if 0≤n then s[n.toNat]? else none)=some (s.data.toList.getD n.toNat 0):=by
  have ln:n.toNat<s.size:=by rw[←size_data]; omega
  have e:s[n.toNat]? = some (s[n.toNat]'ln):=getElem?_pos s n.toNat ln
  rw[if_pos h0,e]
  have:s[n.toNat]'ln=s.data.toList.getD n.toNat 0:=by
    have hl:n.toNat<s.data.toList.length:=by omega
    simp only[List.getD,List.getElem?_eq_getElem hl,Option.getD_some]
    rfl
  rw[this]

theorem PA (T:xh P tt) {t:Nat} {a i:V} {a' i':Value} (ra:dw w h c a a') (ri:dw w h c i i') {k:V→Option R} {r:R}
    (hk:(idxOf i fun n =>
    match (generalizing:=false) (tt.at t).d,a with
    | .string, .str s=>cR (decide (0≤n)&&decide (n<s.length)) (k (.int .u8 (s.getD n.toNat 0).toNat))
    | .arr m e, .agg cs=>cR (decide (0≤n)&&decide (n<m)) (rA tt e cs (n.toNat*(tt.at e).size) k)
    | _,_=>none)=some r):ot P w h c (Instr.index t a' i') k r:=by
  obtain ⟨ik,n,rfl,Gq⟩:=KT ri hk
  clear hk
  split at Gq
  · have hd := ‹(tt.at t).d = .string›
    have ra := ‹dw w h c (.str _) a'›
    obtain ⟨hb,hk⟩:=cq Gq
    simp only[Bool.and_eq_true,decide_eq_true_eq]at hb
    have hu:P.underlying t=some .string:=eD T hd
    obtain ⟨t',rfl,rfl,_⟩:=ra.kr
    refine ⟨_,_,?_, .int (KR _ (UInt8.toNat_lt _)),hk⟩
    have:=TC hb.1 hb.2
    simp only[Instr.index,Sem.run_bind,asIntOf,Sem.run_pure,Result.andThen_ok,run_underlying hu,this]
  · have hd := ‹(tt.at t).d = .arr _ _›
    have ra := ‹dw w h c (.agg _) a'›
    obtain ⟨hb,hk⟩:=cq Gq
    simp only[Bool.and_eq_true,decide_eq_true_eq]at hb
    have hu:=eD T hd
    simp only[TD.Is]at hu
    have sP:=Py hk
    have hs:=T.sizeOf (w:=w) sP
    cases ra with
    | @agg _ x hl hr =>
      obtain ⟨v,v',h1,h2,h3⟩:=Jo (x:=x) T ⟨by rw[hl,Array.length_toList],fun j v d hv hd=>hr j v d hv (by simpa using hd)⟩ hk
      exact ⟨v,v',by simp[Instr.index,asIntOf,run_underlying hu,hb.1,hb.2,hs,h1],h2,h3⟩
  · cases Gq

theorem TE {s:ByteArray} {l hh:Nat}:(s.extract l hh).data.toList=(s.data.toList.drop l).take (hh - l):=by
  simp[ByteArray.data_extract,List.extract]

theorem PB (T:xh P tt) {t:Nat} {a:V} {a':Value} (ra:dw w h c a a') {ρ:Operand→V} {ρ':Operand→Value} (hρ:∀x,dw w h c (ρ x) (ρ' x)) (lo hi:Option Operand)
    {k:V→Option R} {r:R}
    (hk:(match (generalizing:=false) (tt.at t).d,a with
       | .string, .str s =>
         Eo (hi.map ρ) s.length fun h=>Eo (lo.map ρ) 0 fun l =>
         cR (decide (0≤h)&&decide (h≤s.length)) (cR (decide (0≤l)&&decide (l≤h)) (k (.str ((s.drop l.toNat).take (h.toNat - l.toNat)))))
       | .slice e, .sl T s _ =>
         if T.sz=(tt.at e).size&&tt.ok e then
         Eo (lo.map ρ) 0 fun l =>
         (match (generalizing:=false) hi with
          | none=>cR (decide (0≤l)&&decide (l≤s.length)) (k (.sl T (s.drop l.toNat) .no))
          | some hi =>
            Eo (some (ρ hi)) 0 fun h =>
            cR (decide (0≤h)&&decide (h≤s.length)) (cR (decide (0≤l)&&decide (l≤h)) (k (.sl T ((s.drop l.toNat).take (h.toNat - l.toNat)) .no))))
         else none
       | .slice e, .cw =>
         if !tt.ok e then none else
         Eo (hi.map ρ) 0 fun h=>Eo (lo.map ρ) 0 fun l=>cR (decide (h=0)&&decide (l=0)) (k .cw)
       | _,_=>none)=some r):ot P w h c (Instr.sliceAt t a' (lo.map ρ') (hi.map ρ') none) k r:=by
  split at hk
  · have hd := ‹(tt.at t).d = .string›
    have ra := ‹dw w h c (.str _) a'›
    have hu:P.underlying t=some .string:=eD T hd
    obtain ⟨hh,hk,ZW⟩:=A0 (G8 hρ hi) hk
    obtain ⟨l,hk,ZV⟩:=A0 (G8 hρ lo) hk
    obtain ⟨hb,hk⟩:=cq hk
    obtain ⟨o6,hk⟩:=cq hk
    simp only[Bool.and_eq_true,decide_eq_true_eq]at hb o6
    obtain ⟨t',rfl,rfl,sd⟩:=ra.kr
    rw[size_data]at hb ZW
    have mn:=uK (P:=P) (w:=w) false t'.size t'.size (lo.map ρ') (hi.map ρ') l hh ZV ZW o6.1 o6.2 hb.2
    refine ⟨_, .string (t'.extract l.toNat hh.toNat),?_,Aa _ TE ?_,hk⟩
    · simp[Instr.sliceAt,Instr.slice,run_underlying hu,mn]
    · simp; omega
  · have hd := ‹(tt.at t).d = .slice _›
    have ra := ‹dw w h c (.sl _ _ _) a'›
    rename_i s _ _ _
    split at hk
    · rename_i wj
      simp only[Bool.and_eq_true,decide_eq_true_eq]at wj
      obtain ⟨p6,sP⟩:=wj
      have hu:=eD T hd
      simp only[TD.Is]at hu
      have hs:=T.sizeOf (w:=w) sP
      obtain ⟨A,cap,rfl,lB,sd⟩:=Iw ra
      obtain ⟨l,hk,ZV⟩:=A0 (G8 hρ lo) hk
      cases hi with
      | none =>
        obtain ⟨hb,hk⟩:=cq hk
        simp only[Bool.and_eq_true,decide_eq_true_eq]at hb
        have mn:=uK (P:=P) (w:=w) true s.length cap (lo.map ρ') none l s.length ZV (.inl ⟨rfl,rfl⟩) hb.1 hb.2 (by omega)
        have hc:=SE ra l.toNat s.length (by omega) (Nat.le_refl _)
        rw[List.take_of_length_le (by simp)]at hc
        refine ⟨_,_,?_,hc,hk⟩
        simp[Instr.sliceAt,Instr.slice,run_underlying hu,mn,hs,←p6]
      | some hi =>
        obtain ⟨hh,hk,ZW⟩:=A0 (v':=some (ρ' hi)) (hρ hi) hk
        obtain ⟨hb,hk⟩:=cq hk
        obtain ⟨o6,hk⟩:=cq hk
        simp only[Bool.and_eq_true,decide_eq_true_eq]at hb o6
        have mn:=uK (P:=P) (w:=w) true s.length cap (lo.map ρ') (some (ρ' hi)) l hh ZV (ZW.imp (fun x=>by cases x.1) id) o6.1 o6.2 (by omega)
        have hc:=SE ra l.toNat hh.toNat (by omega) (by omega)
        refine ⟨_,_,?_,hc,hk⟩
        simp[Instr.sliceAt,Instr.slice,run_underlying hu,mn,hs,←p6]
    · cases hk
  · have hd := ‹(tt.at t).d = .slice _›
    have ra := ‹dw w h c .cw a'›
    split at hk
    · cases hk
    · rename_i sP
      simp at sP
      have hu:=eD T hd
      simp only[TD.Is]at hu
      have hs:=T.sizeOf (w:=w) sP
      obtain ⟨hh,hk,ZW⟩:=A0 (G8 hρ hi) hk
      obtain ⟨l,hk,ZV⟩:=A0 (G8 hρ lo) hk
      obtain ⟨hb,hk⟩:=cq hk
      simp only[Bool.and_eq_true,decide_eq_true_eq]at hb
      obtain ⟨rfl,rfl⟩:=hb
      have mn:=uK (P:=P) (w:=w) true 0 0 (lo.map ρ') (hi.map ρ') 0 0 ZV ZW (by omega) (by omega) (by omega)
      cases ra
      refine ⟨_, .slice none 0 0,?_, .cw,hk⟩
      simp[Instr.sliceAt,Instr.slice,run_underlying hu,mn,hs]
  · cases hk
end

section
variable {P:Program} {tt:dB} {w:World} {h:ay} {c:jZ} {R:Type}

theorem oe {s:Sem Value} {k:V→Option R} {r:R} (hm:ot P w h c s k r) :
    ∃v v',((do pure (Next.value (←s))):Sem Next).run P w = .ok (.value v') w∧dw w h c v v'∧k v=some r:=by
  obtain ⟨v,v',h1,h2,h3⟩:=hm
  exact ⟨v,v',by simp[h1],h2,h3⟩

theorem PC (T:xh P tt) {op:BinOp} {t:Nat} (x y:Operand) {a b:V} {a' b':Value} (ra:dw w h c a a') (rb:dw w h c b b') {k:V→Option R} {r:R}
    (hk:(match (generalizing:=false) a,b with
    | .agg a, .agg b=>if Oc (tt.at t) a b then xj op (.agg a) (.agg b) k else none
    | .bool a, .bool b=>(match (generalizing:=false) (tt.at t).d with | .bool=>xj op (.bool a) (.bool b) k|_=>none)
    | .int i a, .int j b=>xj op (.int i a) (.int j b) k
    | .str a, .str b=>xj op (.str a) (.str b) k
    | a,b=>(match (generalizing:=false) (tt.at t).d with | .ptr _=>Ob op a b k | .slice _=>YL op a b k | .iface=>ZQ op y a b k|_=>none))=some r) :
    ot P w h c (do eqGuard op t x y a' b'; binOp op t a' b') k r:=by
  split at hk
  · have ra := ‹dw w h c (.agg _) a'›
    have rb := ‹dw w h c (.agg _) b'›
    split at hk
    · rename_i heq
      cases ra with
      | @agg _ u hl hr =>
        cases rb with
        | @agg _ v Vm ZU =>
          exact VE T heq ⟨by rw[hl,Array.length_toList],fun j v d hv hd=>hr j v d hv (by simpa using hd)⟩
            ⟨by rw[Vm,Array.length_toList],fun j v d hv hd=>ZU j v d hv (by simpa using hd)⟩ x y hk
    · cases hk
  · have ra := ‹dw w h c (.bool _) a'›
    have rb := ‹dw w h c (.bool _) b'›
    split at hk
    · rename_i hd
      rw[ra.Cy,rb.Cy]
      exact Tz T hd x y hk
    · cases hk
  · have ra := ‹dw w h c (.int _ _) a'›
    have rb := ‹dw w h c (.int _ _) b'›
    rename_i i m j n _ _
    have e1:=ra.iI
    have e2:=rb.iI
    rw[e1.1,e2.1]
    exact VA e2.2 t x y hk e1.2
  · have ra := ‹dw w h c (.str _) a'›
    have rb := ‹dw w h c (.str _) b'›
    obtain ⟨s,rfl,rfl,_⟩:=ra.kr
    obtain ⟨u,rfl,rfl,_⟩:=rb.kr
    exact VD t x y hk
  · split at hk
    · rename_i hd
      exact Rh T hd ra rb x y hk
    · rename_i hd
      exact TB T hd ra rb x y hk
    · rename_i hd
      exact TA T hd ra rb x y hk
    · cases hk

theorem MC (T:xh P tt) {s d:Nat} {a:V} {a':Value} (ra:dw w h c a a') {k:V→Option R} {r:R}
    (hk:(match (generalizing:=false) (tt.at d).d,a with
    | .int i, .int _ n=>k (.int i (i.wrap n))
    | .string, .str t=>(match (generalizing:=false) (tt.at s).d with | .string=>k (.str t)|_=>none)
    | _,_=>none)=some r)
    (hs:tt.ok s=true):ot P w h c (convert s d a') k r:=by
  split at hk
  · have hd := ‹(tt.at d).d = .int _›
    have ra := ‹dw w h c (.int _ _) a'›
    have hu:=eD T hd
    simp only[TD.Is]at hu
    obtain ⟨rfl,_⟩:=ra.iI
    have hsu:=T.und s
    refine ⟨_,_,?_, .int (KQ _ _),hk⟩
    unfold dB.ok at hs
    cases TF:(tt.at s).d <;> rw[TF]at hsu hs <;> simp only[TD.Is]at hsu
    case struct fs=>obtain ⟨F,hF,_⟩:=hsu; simp[convert,run_underlying hu,run_underlying hF,Conv.intToInt]
    case func=>obtain ⟨x,y,z,hF⟩:=hsu; simp[convert,run_underlying hu,run_underlying hF,Conv.intToInt]
    case iface=>obtain ⟨x,hF⟩:=hsu; simp[convert,run_underlying hu,run_underlying hF,Conv.intToInt]
    case other=>cases hs
    all_goals simp[convert,run_underlying hu,run_underlying hsu,Conv.intToInt]
  · have hd := ‹(tt.at d).d = .string›
    have ra := ‹dw w h c (.str _) a'›
    have hu:=eD T hd
    simp only[TD.Is]at hu
    split at hk
    · have VI := ‹(tt.at s).d = .string›
      have ZX:=eD T VI
      simp only[TD.Is]at ZX
      have ra':=ra
      obtain ⟨t,rfl,rfl,hl⟩:=ra.kr
      exact ⟨_,_,by simp[convert,run_underlying hu,run_underlying ZX],ra',hk⟩
    · cases hk
  · cases hk

theorem TG (T:xh P tt) {t:Nat} {o:Nat} {a:V} {a':Value} (ra:dw w h c a a') {k:V→Option R} {r:R}
    (hk:(match (generalizing:=false) (tt.at t).d,a with
          | .string, .str s=>k (.int .i64 s.length)
          | .slice _, .sl _ l _=>k (.int .i64 l.length)
          | .slice _, .Mn n _=>k (.int .i64 n)
          | .slice _, .row _ n=>k (.int .i64 n)
          | .slice _, .cw=>k (.int .i64 0)
          | _,_=>none)=some r):ot P w h c (Builtin.len_ #[t] o #[a']) k r:=by
  have key:∀(e:TypeId) (A:Option Addr) (n m:Nat),P.underlying t=some (.slice e)→(Builtin.len_ #[t] o #[.slice A n m]).run P w = .ok (.int .i64 n) w:=by
    intro e A n m hu; simp[Builtin.len_,run_underlying hu,goInt]
  split at hk
  · have hu:P.underlying t=some .string:=eD T ‹(tt.at t).d = .string›
    have ra := ‹dw w h c (.str _) a'›
    obtain ⟨s,rfl,rfl,hl⟩:=ra.kr
    refine ⟨_, .int .i64 s.size,by simp[Builtin.len_,run_underlying hu,goInt],?_,hk⟩
    rw[size_data]; exact .int (C8 _ hl)
  · have hu:=eD T ‹(tt.at t).d = .slice _›
    simp only[TD.Is]at hu
    have ra := ‹dw w h c (.sl _ _ _) a'›
    obtain ⟨A,cap,rfl,h1,h2⟩:=Iw ra
    exact ⟨_,_,key _ _ _ _ hu, .int (C8 _ (by omega)),hk⟩
  · have hu:=eD T ‹(tt.at t).d = .slice _›
    simp only[TD.Is]at hu
    have ra := ‹dw w h c (.Mn _ _) a'›
    cases ra with
    | Mn hn sd f hc hr=>exact ⟨_,_,key _ _ _ _ hu, .int (C8 _ sd),hk⟩
  · have hu:=eD T ‹(tt.at t).d = .slice _›
    simp only[TD.Is]at hu
    have ra := ‹dw w h c (.row _ _) a'›
    cases ra with
    | row hi hn hv =>
      obtain ⟨A,cap,rfl,_,_⟩:=hv
      exact ⟨_,_,key _ _ _ _ hu, .int (C8 _ hn),hk⟩
  · have hu:=eD T ‹(tt.at t).d = .slice _›
    simp only[TD.Is]at hu
    have ra := ‹dw w h c .cw a'›
    cases ra
    exact ⟨_,_,key _ _ 0 0 hu, .int (C8 0 (by unfold mx; omega)),hk⟩
  · cases hk

theorem PD (T:xh P tt) (F:Array Field) (sP:∀f∈F.toList,tt.ok f.type=true) :
    (F.mapM (m:=Sem) fun f=>do pure (f.offset,←Go.sizeOf f.type)).run P w = .ok (F.map fun f=>(f.offset,(tt.at f.type).size)) w:=by
  rw[Array.mapM_eq_mapM_toList]
  have key:∀l:List Field,(∀f∈l,tt.ok f.type=true)→(l.mapM (m:=Sem) fun f=>do pure (f.offset,←Go.sizeOf f.type)).run P w = .ok (l.map fun f=>(f.offset,(tt.at f.type).size)) w:=by
    intro l
    induction l with
    | nil=>intro _; simp
    | cons f l ih =>
      intro h
      have hs:=T.sizeOf (w:=w) (h f (by simp))
      have:=ih fun g hg=>h g (by simp[hg])
      simp only[List.mapM_cons,Sem.run_bind,hs,Result.andThen_ok,Sem.run_pure,this,List.map_cons]
  simp only[Sem.run_map,key _ sP,Result.andThen_ok]
  congr 1
  apply Array.ext'
  simp

theorem mem_fs {fs:List (Nat × Nat)} {F:Array Field} (e:F.toList.map (fun f=>(f.offset,f.type))=fs) (zo:fs.all (fun f=>tt.ok f.2)=true):∀f∈F.toList,tt.ok f.type=true:=by
  intro f hf
  have:(f.offset,f.type)∈fs:=by rw[←e]; exact List.mem_map.2 ⟨f,hf,rfl⟩
  exact List.all_eq_true.1 zo _ this

theorem SF (T:xh P tt) {t:Nat} (h:tt.ok t=true):(tt.at t).zero.length=(tt.at t).size:=by
  obtain ⟨z,_,h2,h3⟩:=T.zero (w:=default) h
  have:=(h3 default [] ⟨fun _=>none,fun _=>0,⟨fun _ _=>False⟩⟩).1
  simp at this; omega

theorem Nd {ρ:Operand→V} {ρ':Operand→Value} (hρ:∀x,dw w h c (ρ x) (ρ' x)) (parts:List (Nat × Operand)) :
    (parts.map fun p=>(p.1,ρ p.2)).map Prod.fst=(parts.map fun p=>(p.1,ρ' p.2)).map Prod.fst ∧
    cz w h c ((parts.map fun p=>(p.1,ρ p.2)).map Prod.snd) ((parts.map fun p=>(p.1,ρ' p.2)).map Prod.snd):=by
  refine ⟨by simp[Function.comp_def],?_⟩
  simp only[List.map_map]
  exact cz.map parts fun p _=>hρ p.2

theorem PE (T:xh P tt) {t:Nat} {parts:Array (Nat × Operand)} {ρ:Operand→V} {ρ':Operand→Value} (hρ:∀x,dw w h c (ρ x) (ρ' x)) {k:V→Option R} {r:R}
    (hk:(match (generalizing:=false) (tt.at t).d with
    | .struct fs =>
      if !fs.all (fun f=>tt.ok f.2) || !tt.ok t||decide (1000000≤(tt.at t).zero.length)then none else
      (match (generalizing:=false) FX (tt.at t).zero (parts.toList.map fun (i,x)=>((fs.getD i (0,0)).1,if i<fs.length then (tt.at (fs.getD i (0,0)).2).size else 1000000,ρ x))with
       | some cs=>k (.agg cs)|none=>none)
    | .arr _ e =>
      if !tt.ok e || !tt.ok t||decide (1000000≤(tt.at t).zero.length)then none else
      (match (generalizing:=false) FX (tt.at t).zero (parts.toList.map fun (i,x)=>(i*(tt.at e).size,(tt.at e).size,ρ x))with
       | some cs=>k (.agg cs)|none=>none)
    | _=>none)=some r):ot P w h c (Instr.build t (parts.map fun (i,x)=>(i,ρ' x))) k r:=by
  have Db:=Nd hρ parts.toList
  split at hk
  · rename_i fs hd
    split at hk
    · cases hk
    · rename_i G2
      simp only[Bool.or_eq_true,Bool.not_eq_true',decide_eq_true_eq,not_or,Bool.not_eq_false,Nat.not_le]at G2
      obtain ⟨⟨zo,sP⟩,hsm⟩:=G2
      obtain ⟨F,hu,he⟩:=eD T hd
      obtain ⟨z,hz,YA,KU⟩:=T.zero (w:=w) sP
      split at hk
      · rename_i cs hf
        have YQ:=PD (w:=w) T F (mem_fs he zo)
        have hl:=SF T sP
        obtain ⟨Iv,h1,h2,h3⟩:=C9 (w:=w) (h:=h) (c:=c) (fun i=>(F.map fun f=>(f.offset,(tt.at f.type).size))[i]?) (parts.toList.map fun p=>(p.1,ρ p.2)) (parts.toList.map fun p=>(p.1,ρ' p.2))
          (tt.at t).zero z.cells cs Db.1 Db.2 (KU w h c) (by
            rw[←hf,List.map_map]
            congr 1
            apply List.map_congr_left
            intro p _
            obtain ⟨i,x⟩:=p
            subst he
            simp only[Function.comp,List.length_map,Array.length_toList,Array.getElem?_map]
            by_cases hi:i<F.size
            · simp[hi,List.getD]
            · simp[hi,List.getD]) (by omega)
        have VJ:dw w h c (.agg cs) (.agg Iv) := .agg (by have:=h2.1; simpa using this) (fun j v d hv hd=>h2.2 j v d hv (by simpa using hd))
        refine ⟨.agg cs, .agg Iv,?_,VJ,hk⟩
        simp only[Instr.build,Sem.run_bind,hz,Result.andThen_ok,run_underlying hu,YQ,Array.toList_map]
        rw[h1]
        rfl
      · cases hk
  · rename_i n e hd
    split at hk
    · cases hk
    · rename_i G2
      simp only[Bool.or_eq_true,Bool.not_eq_true',decide_eq_true_eq,not_or,Bool.not_eq_false,Nat.not_le]at G2
      obtain ⟨⟨hoke,sP⟩,hsm⟩:=G2
      have hu:=eD T hd
      simp only[TD.Is]at hu
      obtain ⟨z,hz,YA,KU⟩:=T.zero (w:=w) sP
      have hse:=T.sizeOf (w:=w) hoke
      split at hk
      · rename_i cs hf
        have hl:=SF T sP
        obtain ⟨Iv,h1,h2,h3⟩:=C9 (w:=w) (h:=h) (c:=c) (fun i=>some (i*(tt.at e).size,(tt.at e).size)) (parts.toList.map fun p=>(p.1,ρ p.2)) (parts.toList.map fun p=>(p.1,ρ' p.2))
          (tt.at t).zero z.cells cs Db.1 Db.2 (KU w h c) (by
            rw[←hf,List.map_map]
            congr 1) (by omega)
        have VJ:dw w h c (.agg cs) (.agg Iv) := .agg (by have:=h2.1; simpa using this) (fun j v d hv hd=>h2.2 j v d hv (by simpa using hd))
        refine ⟨.agg cs, .agg Iv,?_,VJ,hk⟩
        simp[Instr.build,hz,run_underlying hu,hse,h1]
      · cases hk
  · cases hk
end

section
variable {P:Program} {tt:dB} {w:World} {h:ay} {c:jZ} {R:Type}

theorem VK {ρ:Operand→V} {ρ':Operand→Value} (hρ:∀x,dw w h c (ρ x) (ρ' x)) (l:List Operand):cz w h c (l.map ρ) (l.map ρ'):=cz.map l fun x _=>hρ x

theorem PF {ρ:Operand→V} {ρ':Operand→Value} (hρ:∀x,dw w h c (ρ x) (ρ' x)) (l:Array Operand) :
    (l.toList.map ρ).length=(l.map ρ').size∧∀(j:Nat) (v:V) (d:Value),(l.toList.map ρ)[j]? = some v→(l.map ρ')[j]? = some d→dw w h c v d:=by
  have:=VK hρ l.toList
  exact ⟨by simp,fun j v d hv hd=>this.2 j v d hv (by simpa using hd)⟩

theorem TH {ts:Array TypeId} {o:Nat} {x y:V} {x' y':Value} (rx:dw w h c x x') (ry:dw w h c y y') {k:V→Option R} {r:R}
    (hk:(match (generalizing:=false) x,y with | .int i a, .int j b=>if i=j then k (.int i (min a b))else none|_,_=>none)=some r):ot P w h c (Builtin.min_ ts o #[x',y']) k r:=by
  split at hk
  · rename_i i a j b'
    split at hk
    · rename_i xk
      subst xk
      obtain ⟨rfl,ha⟩:=rx.iI
      obtain ⟨rfl,hb⟩:=ry.iI
      refine ⟨_, .int i (min a b'),?_, .int (by unfold IntKind.has at *; omega),hk⟩
      rw[run_min_int2]
      congr 2
      split <;> omega
    · cases hk
  · cases hk

theorem TJ {ts:Array TypeId} {o:Nat} {x y:V} {x' y':Value} (rx:dw w h c x x') (ry:dw w h c y y') {k:V→Option R} {r:R}
    (hk:(match (generalizing:=false) x,y with | .int i a, .int j b=>if i=j then k (.int i (max a b))else none|_,_=>none)=some r):ot P w h c (Builtin.max_ ts o #[x',y']) k r:=by
  split at hk
  · rename_i i a j b'
    split at hk
    · rename_i xk
      subst xk
      obtain ⟨rfl,ha⟩:=rx.iI
      obtain ⟨rfl,hb⟩:=ry.iI
      refine ⟨_, .int i (max a b'),?_, .int (by unfold IntKind.has at *; omega),hk⟩
      rw[run_max_int2]
      congr 2
      split <;> omega
    · cases hk
  · cases hk

theorem TK (T:xh P tt) {o:Oper} {ρ:Operand→V} {ρ':Operand→Value} (hρ:∀x,dw w h c (ρ x) (ρ' x)) {k:V→Option R} {r:R}
    (hk:Yz tt o.op ρ k=some r):∃v v',(execOp ρ' o).run P w = .ok (.value v') w∧dw w h c v v'∧k v=some r:=by
  obtain ⟨dst,op,type,pos,after,guard⟩:=o
  cases op <;> simp only[Yz]at hk <;> try (first|cases hk)
  case move x=>exact ⟨_,_,by simp[execOp],hρ x,hk⟩
  case assign x=>exact ⟨_,_,by simp[execOp],hρ x,hk⟩
  case pick cc a b =>
    have rc:=hρ cc
    have ra:=hρ a
    have rb:=hρ b
    split at hk
    · rename_i t ht
      rw[ht]at rc
      have ec:=rc.Cy
      have run:(execOp ρ' ⟨dst, .pick cc a b,type,pos,after,guard⟩).run P w = .ok (.value (if t then ρ' a else ρ' b)) w:=by
        simp[execOp,ec,asBool]
      split at hk
      · rename_i u v hu hv
        rw[hu]at ra; rw[hv]at rb
        refine ⟨_,_,run,?_,hk⟩
        rw[ra.Cy,rb.Cy]
        cases t <;> exact .bool _
      · cases t
        · exact ⟨_,_,run,rb,hk⟩
        · exact ⟨_,_,run,ra,hk⟩
    · cases hk
  case nilCheck x =>
    have rx:=hρ x
    split at hk <;> try (first|cases hk)
    · rename_i i o hx
      rw[hx]at rx
      have rx':=rx
      cases rx with
      | ptr hi hv=>obtain ⟨b,hv,_⟩:=hv; exact ⟨_,ρ' x,by simp[execOp,hv],rx',hk⟩
    · rename_i cs hx
      rw[hx]at rx
      have rx':=rx
      generalize hy:ρ' x=y at rx
      cases rx with
      | xi f hc hr=>exact ⟨_,ρ' x,by simp[execOp,hy],rx',hk⟩
    · rename_i i n j o hx
      rw[hx]at rx
      have rx':=rx
      cases rx with
      | sN hi hv=>obtain ⟨b,hv,_⟩:=hv; exact ⟨_,ρ' x,by simp[execOp,hv],rx',hk⟩
    · rename_i f a b hx
      rw[hx]at rx
      have rx':=rx
      generalize hy:ρ' x=y at rx
      cases rx with
      | func ha hb hra hrb=>exact ⟨_,ρ' x,by simp[execOp,hy],rx',hk⟩
  case binOp op t x y ty =>
    exact oe (PC T x y (hρ x) (hρ y) hk)
  case unOp op t x =>
    have rx:=hρ x
    split at hk <;> try (first|cases hk)
    · rename_i i n hx
      rw[hx]at rx
      exact ⟨_, .int i (i.wrap (0 - n)),by simp[execOp,Op.unary,rx.iI.1,Op.intArith], .int (KQ _ _),hk⟩
    · rename_i b hx
      rw[hx]at rx
      exact ⟨_,_,by simp[execOp,Op.unary,rx.Cy], .bool _,hk⟩
  case convert s d x =>
    split at hk
    · cases hk
    · rename_i hs
      exact oe (MC T (hρ x) hk (by simpa using hs))
  case makeInterface t x =>
    have rx:=hρ x
    split at hk <;> try (first|cases hk)
    rename_i k0 i n hd hx
    rw[hx]at rx
    have hu:=eD T hd
    simp only[TD.Is]at hu
    exact ⟨_, .iface t (.int i n),by simp[execOp,Instr.makeInterface,run_underlying hu,rx.iI.1], .Em rx.iI.2,hk⟩
  case fieldAddr s x f=>exact oe (JR T (hρ x) hk)
  case field s x f=>exact oe (Pz T (hρ x) hk)
  case indexAddr t x i=>exact oe (JQ T (hρ x) (hρ i) hk)
  case index t x i=>exact oe (PA T (hρ x) (hρ i) hk)
  case slice t x lo hi mx =>
    split at hk
    · cases hk
    · exact oe (PB T (hρ x) hρ lo hi hk)
  case makeFunc fn first cap =>
    cases fn <;> simp only at hk <;> try (first|cases hk)
    rename_i f
    obtain ⟨l1,r1⟩:=PF hρ first
    obtain ⟨l2,r2⟩:=PF hρ cap
    exact ⟨_, .func (.func f) (first.map ρ') (cap.map ρ'),by simp[execOp,Instr.makeFunc], .func l1 l2 r1 r2,hk⟩
  case extract t i =>
    have rt:=hρ t
    split at hk <;> try (first|cases hk)
    rename_i vs ht
    rw[ht]at rt
    split at hk
    · rename_i v hv
      generalize hy:ρ' t=y at rt
      cases rt with
      | @tuple _ x hl hr =>
        have ln:i<vs.length:=(List.getElem?_eq_some_iff.1 hv).1
        have hx:x[i]? = some (x[i]'(by omega)):=Array.getElem?_eq_getElem (by omega)
        exact ⟨v,_,by simp[execOp,hy,Instr.extract,hx],hr i v _ hv hx,hk⟩
    · cases hk
  case build t parts=>exact oe (PE T hρ hk)
  case call cl =>
    obtain ⟨callee,args,argTypes⟩:=cl
    simp only at hk
    split at hk <;> try (first|cases hk)
    · rename_i x ha
      obtain rfl:args = #[x]:=by cases args; simp_all
      split at hk <;> try (first|cases hk)
      rename_i t ht
      obtain rfl:argTypes = #[t]:=by cases argTypes; simp_all
      have:=oe (TG (P:=P) (o:=type) T (hρ x) hk)
      simpa [execOp,resolve,invoke,builtin]using this
    · rename_i x y ha
      obtain rfl:args = #[x,y]:=by cases args; simp_all
      have:=oe (TH (P:=P) (ts:=argTypes) (o:=type) (hρ x) (hρ y) hk)
      simpa [execOp,resolve,invoke,builtin]using this
    · rename_i x y ha
      obtain rfl:args = #[x,y]:=by cases args; simp_all
      have:=oe (TJ (P:=P) (ts:=argTypes) (o:=type) (hρ x) (hρ y) hk)
      simpa [execOp,resolve,invoke,builtin]using this
end
end Go.ax

namespace Go.ax
open Go.RowKit Go.MapKept

section
variable {P:Program} {tt:dB} {w w':World} {h:ay} {c:jZ} {R:Type}

def G9 (K T:Ty) (k:K.den):List (K.den × T.den)→List MapEntry→Nat→Option (Nat × Value)
  | x::l,e::es,i=>if xw K k x.1 then some (i,e.val)else G9 K T k l es (i+1)
  | _,_,_=>none

theorem Ix {K T:Ty} {k:K.den}:∀(l:List (K.den × T.den)) (es:List MapEntry) (i:Nat),es.length=l.length →
    (G9 K T k l es i=none∧C3 K T k l=false∧nF K T k l=T.cg∧∀v,wa K T k v l=l ++ [(k,v)]) ∨
    ∃j x e,G9 K T k l es i=some (i+j,e.val)∧l[j]? = some x∧es[j]? = some e∧xw K k x.1=true∧C3 K T k l=true∧nF K T k l=x.2∧∀v,wa K T k v l=l.set j (k,v)
  | [], [],_,_ => .inl ⟨rfl,rfl,rfl,fun _=>rfl⟩
  | [],_::_,_,hl=>by cases hl
  | _::_, [],_,hl=>by cases hl
  | x::l,e::es,i,hl=>by
    cases hk:xw K k x.1 with
    | true=>exact .inr ⟨0,x,e,by simp[G9,hk],rfl,rfl,hk,by simp[C3,hk],by simp[nF,hk],fun v=>by simp[wa,hk]⟩
    | false =>
      rcases Ix (T:=T) (k:=k) l es (i+1) (by simpa using hl)with ⟨h1,h2,h3,h4⟩|⟨j,y,f,h1,h2,h3,h4,h5,h6,h7⟩
      · exact .inl ⟨by simp[G9,hk,h1],by simp[C3,hk,h2],by simp[nF,hk,h3],fun v=>by simp[wa,hk,h4 v]⟩
      · exact .inr ⟨j+1,y,f,by simp[G9,hk,h1]; omega,by simpa using h2,by simpa using h3,h4,by simp[C3,hk,h5],by simp[nF,hk,h6],fun v=>by simp[wa,hk,h7 v]⟩

theorem SG {kx:ak} {d:Value} (r:dw w h c (Mo .str kx) d):∃s,d = .string s∧s.data.toList=kx:=by
  obtain ⟨s,h1,h2,_⟩:=dw.kr (s:=kx) r
  exact ⟨s,h1,h2⟩
theorem SH {k:IntKind} {n:Int} {d:Value} (r:dw w h c (Mo (.int k) n) d):d = .int k n:=(dw.iI (n:=n) r).1

theorem TL {a b:ByteArray}:(a==b)=(a.data.toList==b.data.toList):=by
  rw[Bool.eq_iff_iff]
  rw[bytes_beq]
  simp only[beq_iff_eq]
  exact ⟨fun e=>by rw[e],fun e=>se e⟩

theorem Ha {kt:Nat} (T:xh P tt) {K:Ty} (hk:wc tt kt K=true) {kx ky:K.den} {d e:Value} (rk:dw w h c (Mo K kx) d) (re:dw w h c (Mo K ky) e) :
    ∃u,P.underlying kt=some u∧IsKey u d∧IsKey u e∧Instr.sameNow u d e=some (xw K kx ky)∧(xw K kx ky=true→e=d):=by
  unfold wc at hk
  split at hk
  · split at hk
    · rename_i hd
      have hu:P.underlying kt=some .string:=eD T hd
      obtain ⟨s,rfl,hs⟩:=SG rk
      obtain ⟨t,rfl,ht⟩:=SG re
      subst hs; subst ht
      refine ⟨_,hu,by simp[IsKey],by simp[IsKey],?_,fun he => ?_⟩
      · simp only[Instr.sameNow,xw,TL]
      · have:s.data.toList=t.data.toList:=by simpa [xw]using he
        rw[se this]
    · cases hk
  · rename_i k
    split at hk
    · rename_i k' hd
      have e:k'=k:=by simpa using hk
      subst e
      have hu:P.underlying kt=some (.int k'):=eD T hd
      have e1:=SH rk
      have e2:=SH re
      subst e1; subst e2
      refine ⟨_,hu,by simp[IsKey],by simp[IsKey],?_,fun he => ?_⟩
      · simp[Instr.sameNow,xw]
      · have h' : @BEq.beq Int _ kx ky=true:=he
        have:kx=ky := @eq_of_beq Int _ _ kx ky h'
        rw[this]
    · cases hk
  · cases hk

theorem KV {kt:Nat} (T:xh P tt) {K V':Ty} (hk:wc tt kt K=true) {kx:K.den} {d:Value} (rk:dw w h c (Mo K kx) d) {u:TypeDesc} (hu:P.underlying kt=some u) :
    ∀(l:List (K.den × V'.den)) (es:List MapEntry) (i:Nat),es.length=l.length→(∀(j:Nat) (x:K.den × V'.den) (e:MapEntry),l[j]? = some x→es[j]? = some e→dw w h c (Mo K x.1) e.key) →
      Instr.findNow u d es i=some (G9 K V' kx l es i)
  | [], [],_,_,_=>rfl
  | [],_::_,_,hl,_=>by cases hl
  | _::_, [],_,hl,_=>by cases hl
  | x::l,e::es,i,hl,hr=>by
    obtain ⟨u',YB,_,_,hs,_⟩:=Ha T hk rk (hr 0 x e rfl rfl)
    rw[hu]at YB; cases YB
    have ih:=KV T hk rk hu l es (i+1) (by simpa using hl) fun j y f hy hf=>hr (j+1) y f (by simpa using hy) (by simpa using hf)
    simp only[Instr.findNow,hs]
    cases hb:xw K kx x.1 with
    | true=>simp[G9,hb]
    | false=>simp[G9,hb,ih]

theorem KW {kt:Nat} {K:Ty} (hk:wc tt kt K=true):K.one=true∧Kj K=true:=by
  cases K <;> first|exact ⟨rfl,rfl⟩|(simp[wc]at hk)
theorem KX {kt:Nat} {K:Ty} (hk:zm tt kt K=true):K.one=true:=by
  cases K <;> first|rfl|(simp[zm]at hk)

theorem TM {k:IntKind} {v:V} {x:Int} (h:Kz k [v]=some x):v = .int k x:=by
  unfold Kz at h
  split at h
  · rename_i e
    simp only[List.cons.injEq,and_true]at e
    split at h
    · rename_i e2; cases h; subst e2; exact e
    · cases h
  · cases h
theorem Rj {v:V} {x:Bool} (h:G3 [v]=some x):v = .bool x:=by
  unfold G3 at h
  split at h
  · rename_i e
    simp only[List.cons.injEq,and_true]at e
    cases h; exact e
  · cases h
theorem TN {v:V} {x:ak} (h:KA [v]=some x):v = .str x:=by
  unfold KA at h
  split at h
  · rename_i e
    simp only[List.cons.injEq,and_true]at e
    cases h; exact e
  · cases h

theorem Rk {K:Ty} {v:V} {x:K.den} (hx:Yy K v=some x) (ho:K.one=true):v=Mo K x:=by
  have hd:K.dec [v]=some x:=by
    unfold Yy at hx
    split at hx <;> simp only[ho,cond_true]at hx
    · cases hx
    · exact hx
  cases K <;> simp only[Ty.one]at ho <;> try (first|cases ho)
  · exact TM hd
  · exact Rj hd
  · exact TN hd

theorem YR {vt:Nat} {V':Ty} (hv:zm tt vt V'=true):tt.ok vt=true∧tt.isAgg vt=false:=by
  unfold zm at hv
  unfold dB.ok dB.isAgg
  split at hv
  · split at hv
    · rename_i hd _; rw[hd]; exact ⟨rfl,rfl⟩
    · cases hv
  · split at hv
    · rename_i hd _; rw[hd]; exact ⟨rfl,rfl⟩
    · cases hv
  · cases hv

theorem TO {z:Value} (h:z.oneCell'=true):z.cells.toList = [z]:=by
  cases z <;> simp_all [Value.oneCell',Value.cells]

theorem PG (T:xh P tt) {vt:Nat} {V':Ty} (hv:zm tt vt V'=true):∃z,(zeroValue vt).run P w = .ok z w∧dw w h c (Mo V' V'.cg) z:=by
  obtain ⟨sP,hag⟩:=YR hv
  obtain ⟨i,z,hi,hs,hby,hz,YA,hr⟩:=T.info vt sP
  have h1:=T.ones vt sP i z hi hz
  rw[hag]at h1
  have h3:=hr w h c
  rw[TO h1]at h3
  refine ⟨z,by simp[Go.zeroValue,typeInfo,hi,hz],?_⟩
  unfold zm at hv
  split at hv
  · split at hv
    · rename_i hd hz'
      rw[hz']at h3
      exact h3.head
    · cases hv
  · split at hv
    · rename_i hd hz'
      have e:_=_:=of_decide_eq_true hv
      subst e
      rw[hz']at h3
      exact h3.head
    · cases hv
  · cases hv

theorem Of (T:xh P tt) (wf:WF w h c) {t kt vt i:Nat} {K V':Ty} {l:List (K.den × V'.den)} (ht:(tt.at t).d = .map kt vt) {m d:Value} (rm:dw w h c (.map i) m) (hm:h.at i = .uW K V' l)
    (hf:(wc tt kt K&&zm tt vt V')=true) {v:V} (rk:dw w h c v d) {kx:K.den} (hx:Yy K v=some kx) (ok:Bool) :
    ∃r,(Instr.lookup t m d ok).run P w = .ok r w∧dw w h c (bif ok then .tuple [Mo V' (nF K V' kx l), .bool (C3 K V' kx l)]else Mo V' (nF K V' kx l)) r:=by
  simp only[Bool.and_eq_true]at hf
  obtain ⟨PH,hf2⟩:=hf
  have hi:i<h.length:=by
    unfold ay.at at hm
    rcases Nat.lt_or_ge i (List.length h)with hi|hi
    · exact hi
    · simp[List.getD,List.getElem?_eq_none hi]at hm
  have ho:=wf.obj i hi
  rw[hm]at ho
  obtain ⟨b,es,clock,g1,g2,g3,g4,g5,g6⟩:=ho
  cases rm with
  | map hu hv =>
    obtain ⟨b',rfl,o6⟩:=hv
    have:=o6 (by rw[hm]; simp)
    rw[g1]at this; cases this
    have hut:P.underlying t=some (.map kt vt):=eD T ht
    have e:=Rk hx (KW PH).1
    subst e
    have hl:es.toList.length=l.length:=by simpa using g5
    have hr:∀(j:Nat) (x:K.den × V'.den) (e:MapEntry),l[j]? = some x→es.toList[j]? = some e→dw w h c (Mo K x.1) e.key:=fun j x e hx he=>(g6 j x e hx (by simpa using he)).1
    obtain ⟨z,hz,rz⟩:=PG (w:=w) (h:=h) (c:=c) T hf2
    have hkey:∃u,P.underlying kt=some u∧IsKey u d:=by
      obtain ⟨u,q1,q2,_⟩:=Ha T PH rk rk
      exact ⟨u,q1,q2⟩
    obtain ⟨u,YB,hik⟩:=hkey
    have Hb:=run_findKey (w:=w) YB (KV T PH rk YB l es.toList 0 hl hr)
    have VL:=run_checkKey (w:=w) YB hik es.isEmpty 9999
    have Dc:=Go.MapKept.run_getObj_map (P:=P) g2
    rcases Ix (K:=K) (T:=V') (k:=kx) l es.toList 0 hl with ⟨h1,h2,h3,_⟩|⟨j,x,e,h1,h2,h3,h4,h5,h6,_⟩
    · rw[h1]at Hb
      rw[h2,h3]
      refine ⟨if ok then .tuple #[z, .bool false]else z,?_,?_⟩
      · simp[Instr.lookup,run_underlying hut,Dc,VL,Hb,hz]
      · cases ok with
        | true =>
          refine .tuple rfl fun j v d hv hd => ?_
          match j,hv,hd with
          | 0,hv,hd=>simp at hv hd; subst hv; subst hd; exact rz
          | 1,hv,hd=>simp at hv hd; subst hv; subst hd; exact .bool _
          | j+2,hv,_=>simp at hv
        | false=>exact rz
    · rw[h1]at Hb
      rw[h5,h6]
      have re:=(g6 j x e h2 (by simpa using h3)).2
      refine ⟨if ok then .tuple #[e.val, .bool true]else e.val,?_,?_⟩
      · simp[Instr.lookup,run_underlying hut,Dc,VL,Hb]
      · cases ok with
        | true =>
          refine .tuple rfl fun j v d hv hd => ?_
          match j,hv,hd with
          | 0,hv,hd=>simp at hv hd; subst hv; subst hd; exact re
          | 1,hv,hd=>simp at hv hd; subst hv; subst hd; exact .bool _
          | j+2,hv,_=>simp at hv
        | false=>exact re
end
end Go.ax

namespace Go.ax
open Go.RowKit

section
variable {P:Program} {tt:dB} {w:World} {h:ay} {c:jZ} {R:Type}

def rB (w:World) (b o:Nat) (ds:List Value):Prop:=∀(j:Nat) (d:Value),ds[j]? = some d→w.cell? ⟨b,o+j,none⟩=some d

theorem yw (T:xh P tt) {t b o off:Nat} {cs:List V} {ds:List Value} (hr:cz w h c cs ds) (hc:rB w b o ds) {k:V→Option R} {r:R} (hk:rA tt t cs off k=some r) :
    ot P w h c (loadVar t ⟨b,o+off,none⟩) k r:=by
  have sP:=Py hk
  unfold rA at hk
  rw[if_pos sP]at hk
  split at hk
  · rename_i KP
    split at hk
    · rename_i p6
      have hlen:((ds.drop off).take (tt.at t).size).length=(tt.at t).size:=by have:=hr.1; simp; omega
      have G6:=(hr.drop off).take (tt.at t).size
      have Ch:=run_loadCells_list (P:=P) w ⟨b,o+off,none⟩ ((ds.drop off).take (tt.at t).size) (fun j v hv=>by
        rw[List.getElem?_take]at hv
        split at hv
        · rw[List.getElem?_drop]at hv
          rw[sQ,Nat.add_assoc]
          exact hc _ v hv
        · cases hv)
      rw[hlen]at Ch
      refine ⟨_, .agg ((ds.drop off).take (tt.at t).size).toArray,?_, .agg (by have:=G6.1; simpa using this) (fun j v d hv hd=>G6.2 j v d hv (by simpa using hd)),hk⟩
      simp[loadVar,T.isAgg sP,KP,T.sizeOf sP,Ch]
    · cases hk
  · rename_i KP
    split at hk
    · rename_i v hv
      have ln:off<cs.length:=(List.getElem?_eq_some_iff.1 hv).1
      have hd:ds[off]? = some (ds[off]'(by have:=hr.1; omega)):=List.getElem?_eq_getElem _
      refine ⟨v,_,?_,hr.2 off v _ hv hd,hk⟩
      simp[loadVar,T.isAgg sP,KP,hc off _ hd]
    · cases hk

theorem ay.gp {i:Nat} {o:bR} (e:h.at i=o) (hl:o ≠ .dead):i<h.length:=by
  unfold ay.at at e
  rcases Nat.lt_or_ge i (List.length h)with hi|hi
  · exact hi
  · simp[List.getD,List.getElem?_eq_none hi]at e
    exact absurd e.symm hl

theorem foldl_push (ns:List Int):∀s:ByteArray,(ns.foldl (fun (r:ByteArray) n=>r.push (UInt8.ofNat n.toNat)) s).data.toList=s.data.toList++ns.map fun n=>UInt8.ofNat n.toNat:=by
  induction ns with
  | nil=>intro s; simp
  | cons n ns ih=>intro s; simp only[List.foldl_cons]; rw[ih]; simp[ByteArray.push]

theorem TP (wf:WF w h c) {i:Nat} {T':Ty} {l:List T'.den} (he:h.at i = .row T' l) {j:Nat} (hj:j<l.length) :
    ∃b ds,c.sb i=some b∧rB w b (c.off i+j*T'.sz) ds∧cz w h c (T'.cells l[j]) ds:=by
  have hi:=ay.gp he (by simp)
  have ho:=wf.obj i hi
  rw[he]at ho
  rcases ho with ⟨_,rfl⟩|⟨b,arr,e,fz,h1,h2,h3,h4,h5⟩
  · simp at hj
  · have hlen:=T'.lh l[j]
    have hm:(j+1)*T'.sz≤l.length*T'.sz:=Nat.mul_le_mul_right _ hj
    rw[Nat.add_mul]at hm
    refine ⟨b,(arr.toList.drop (c.off i+j*T'.sz)).take T'.sz,h1,fun x d hd => ?_,?_,fun x v d hv hd => ?_⟩
    · rw[List.getElem?_take]at hd
      split at hd
      · rw[List.getElem?_drop]at hd
        rw[cell_of_row w b _ arr e fz h2]
        simpa using hd
      · cases hd
    · rw[hlen]; simp; omega
    · obtain ⟨d',g1,g2⟩:=h5 j x l[j] v (List.getElem?_eq_getElem hj) hv
      rw[List.getElem?_take]at hd
      split at hd
      · rw[List.getElem?_drop]at hd
        have:d'=d:=by
          have e1:arr[c.off i+j*T'.sz+x]? = some d:=by simpa using hd
          rw[g1]at e1; exact Option.some.inj e1
        subst this
        exact g2
      · cases hd

theorem getD_eq {T':Ty} {l:List T'.den} {j:Nat} (hj:j<l.length):l.getD j T'.cg=l[j]:=by simp[List.getD,List.getElem?_eq_getElem hj]

theorem KY (T:xh P tt) (wf:WF w h c) {t:Nat} {a:V} {a':Value} (ra:dw w h c a a') {lim:Option Nat} {k:V→Option R} {r:R}
    (hk:(match (generalizing:=false) a with
    | .ptr i o =>
      if DO lim i then
        match (generalizing:=false) h.at i with
        | .cells cs=>rA tt t cs o k
        | .kq v=>rA tt t [.undef,v] o k
        | _=>none
      else none
    | .xi cs=>rA tt t cs 0 k
    | .sN i sz j o =>
      if DO lim i then
        match (generalizing:=false) h.at i with
        | .row T l=>if sz=T.sz then cR (decide (j<l.length)) (rA tt t (T.cells (l.getD j T.cg)) o k)else none
        | _=>none
      else none
    | _=>none)=some r):ot P w h c (Instr.loadAt t a') k r:=by
  split at hk
  · rename_i i o
    split at hk
    · split at hk
      · rename_i cs he
        have hi:=ay.gp he (by simp)
        have ho:=wf.obj i hi
        rw[he]at ho
        obtain ⟨b,arr,e,h1,h2,h3⟩:=ho
        cases ra with
        | ptr hu hv =>
          obtain ⟨b',rfl,hb⟩:=hv
          have o6:=hb (by rw[he]; simp)
          rw[h1]at o6
          cases o6
          have:=yw (w:=w) (b:=b) (o:=0) T h3 (fun j d hd=>by
            rw[cell_of_row w b _ arr e _ h2]; simpa using hd) hk
          simpa [ot,Instr.loadAt,Instr.sureAddr]using this
      · rename_i v he
        have hi:=ay.gp he (by simp)
        have ho:=wf.obj i hi
        rw[he]at ho
        obtain ⟨b,p,d,h1,h2,_,h3⟩:=ho
        cases ra with
        | ptr hu hv =>
          obtain ⟨b',rfl,hb⟩:=hv
          have o6:=hb (by rw[he]; simp)
          rw[h1]at o6
          cases o6
          have:=yw (w:=w) (b:=b) (o:=0) T (cz.cons (.undef p) (cz.cons h3 .nil)) (fun j d hd=>by
            rw[cell_of_row w b _ _ _ _ h2]
            match j,hd with
            | 0,hd=>simpa using hd
            | 1,hd=>simpa using hd
            | j+2,hd=>simp at hd) hk
          simpa [ot,Instr.loadAt,Instr.sureAddr]using this
      · cases hk
    · cases hk
  · rename_i cs
    cases ra with
    | @xi _ b o f hc hr =>
      have ZU:cz w h c cs ((List.range cs.length).map f):=by
        refine ⟨by simp,fun j v d hv hd => ?_⟩
        simp only[List.getElem?_map]at hd
        have ln:j<cs.length:=(List.getElem?_eq_some_iff.1 hv).1
        rw[List.getElem?_range ln]at hd
        simp at hd; subst hd
        exact hr j v hv
      have:=yw (w:=w) (b:=b) (o:=o) (off:=0) T ZU (fun j d hd=>by
        simp only[List.getElem?_map]at hd
        by_cases ln:j<cs.length
        · rw[List.getElem?_range ln]at hd
          simp at hd; subst hd
          exact (hc j ln).1
        · rw[List.getElem?_eq_none (by simp; omega)]at hd; cases hd) hk
      simpa [ot,Instr.loadAt,Instr.sureAddr]using this
  · rename_i i sz j o
    split at hk
    · split at hk
      · rename_i T' l he
        split at hk
        · rename_i p6
          obtain ⟨hj,hk⟩:=cq hk
          simp at hj
          rw[getD_eq hj]at hk
          obtain ⟨b,ds,h1,h2,h3⟩:=TP wf he hj
          cases ra with
          | sN hu hv =>
            obtain ⟨a,rfl,hv⟩:=hv
            obtain ⟨b',o6,rfl⟩:=hv T' l he p6 hj
            rw[h1]at o6
            cases o6
            have:=yw T h3 h2 hk
            simpa [ot,Instr.loadAt,Instr.sureAddr]using this
        · cases hk
      · cases hk
    · cases hk
  · cases hk

theorem TQ (wf:WF w h c) {i:Nat} {ik:IntKind} {l:List Int} (hl:h.at i = .row (.int ik) l) (lp:l ≠ []) :
    ∃b,c.sb i=some b∧rB w b (c.off i) (l.map (Value.int ik)):=by
  have hi:=ay.gp hl (by simp)
  have ho:=wf.obj i hi
  rw[hl]at ho
  rcases ho with ⟨_,rfl⟩|⟨b,arr,el,fz,p1,p2,p3,p4,p5⟩
  · exact absurd rfl lp
  · have p5':∀(n:Nat) (z:Int),l[n]? = some z→arr[c.off i+n]? = some (.int ik z):=fun n z hz=>by
      obtain ⟨d,t1,t2⟩:=p5 n 0 z (.int ik z) hz rfl
      rw[t2.iI.1]at t1
      simpa [Ty.sz]using t1
    refine ⟨b,p1,fun j d hd => ?_⟩
    simp only[List.getElem?_map]at hd
    cases YC:l[j]? with
    | none=>rw[YC]at hd; cases hd
    | some z =>
      rw[YC]at hd; simp at hd; subst hd
      rw[cell_of_row w b _ arr el fz p2]
      exact p5' j z YC

theorem PI {ik:IntKind} {l:List Int} {t:Tok} {A:Option Addr} {n cap:Nat} (r:dw w h c (.sl (.int ik) l t) (.slice A n cap)) (lp:l ≠ []) :
    ∃b o,A=some ⟨b,o,none⟩∧n=l.length∧rB w b o (l.map (Value.int ik)):=by
  cases r with
  | sl f lB sd hc hr xF mA =>
    have Iu:0<l.length:=List.length_pos_iff.2 lp
    obtain ⟨b,o,rfl,_⟩:=hc 0 0 Iu (by simp[Ty.sz])
    refine ⟨b,o,rfl,rfl,fun j d hd => ?_⟩
    simp only[List.getElem?_map]at hd
    cases YC:l[j]? with
    | none=>rw[YC]at hd; cases hd
    | some z =>
      rw[YC]at hd; simp at hd; subst hd
      have ln:j<l.length:=(List.getElem?_eq_some_iff.1 YC).1
      obtain ⟨b',o',e',g1,_⟩:=hc j 0 ln (by simp[Ty.sz])
      cases e'
      have:=hr j 0 z (.int ik z) YC rfl
      rw[this.iI.1]at g1
      simpa [Ty.sz]using g1

theorem Gs {s d e:TypeId} (us:P.underlying s=some (.slice e)) (ue:P.underlying e=some (.int .u8)) (ud:P.underlying d=some .string) {l:List Int} {A:Option Addr} {n cap:Nat}
    (hn:n=l.length) (xA:l ≠ []→∃b o,A=some ⟨b,o,none⟩∧rB w b o (l.map (Value.int .u8))) :
    ∃t,(convert s d (.slice A n cap)).run P w = .ok (.string t) w∧t.data.toList=l.map fun n=>UInt8.ofNat n.toNat:=by
  rw[run_convert_bytes_string w s d e A n cap us ue ud]
  by_cases Jq:l = []
  · subst Jq
    subst hn
    refine ⟨.empty,?_,rfl⟩
    cases A with
    | none=>simp[Conv.bytesToString]
    | some a =>
      have YS:=run_loadCells_list (P:=P) w a [] (fun j v hv=>by simp at hv)
      exact run_bytesToString (P:=P) w a 0 cap [] (by simpa using YS)
  · obtain ⟨b,o,rfl,hc⟩:=xA Jq
    have YS:=run_loadCells_list (P:=P) w ⟨b,o,none⟩ (l.map (Value.int .u8)) (fun j v hv=>by rw[sQ]; exact hc j v hv)
    rw[List.length_map,←hn]at YS
    exact ⟨_,run_bytesToString (P:=P) w ⟨b,o,none⟩ n cap l YS,by rw[foldl_push]; rfl⟩

theorem PJ (l:List Int):∀s:ByteArray,(l.foldl (fun r n=>r++Utf8.encode n) s).data.toList=s.data.toList++n9 l:=by
  induction l with
  | nil=>intro s; simp[n9]
  | cons n l ih=>intro s; simp only[List.foldl_cons]; rw[ih]; simp[n9]

theorem JS (l:List Int):(Go.runesBytes l).data.toList=n9 l:=by
  unfold Go.runesBytes
  rw[PJ]
  simp

theorem Rl {s d e:TypeId} (us:P.underlying s=some (.slice e)) (ue:P.underlying e=some (.int .i32)) (ud:P.underlying d=some .string) {l:List Int} {A:Option Addr} {n cap:Nat}
    (hn:n=l.length) (xA:l ≠ []→∃b o,A=some ⟨b,o,none⟩∧rB w b o (l.map (Value.int .i32))) :
    ∃t,(convert s d (.slice A n cap)).run P w = .ok (.string t) w∧t.data.toList=n9 l∧t.size≤4*l.length:=by
  have hcv:(convert s d (.slice A n cap)).run P w=(Conv.runesToString (.slice A n cap)).run P w:=by
    unfold convert
    simp[run_underlying us,run_underlying ue,run_underlying ud]
  rw[hcv]
  by_cases Jq:l = []
  · subst Jq
    subst hn
    refine ⟨.empty,?_,rfl,by simp⟩
    cases A with
    | none=>simp[Conv.runesToString]
    | some a =>
      have YS:=run_loadCells_list (P:=P) w a [] (fun j v hv=>by simp at hv)
      exact Go.run_runesToString (P:=P) w a 0 cap [] (by simpa using YS)
  · obtain ⟨b,o,rfl,hc⟩:=xA Jq
    have YS:=run_loadCells_list (P:=P) w ⟨b,o,none⟩ (l.map (Value.int .i32)) (fun j v hv=>by rw[sQ]; exact hc j v hv)
    rw[List.length_map,←hn]at YS
    exact ⟨_,Go.run_runesToString (P:=P) w ⟨b,o,none⟩ n cap l YS,JS l,Go.runesBytes_size_le l⟩

theorem TR (T:xh P tt) (wf:WF w h c) {o:Oper} {ρ:Operand→V} {ρ':Operand→Value} (hρ:∀x,dw w h c (ρ x) (ρ' x)) {lim:Option Nat} {k:V→Option R} {r:R}
    (hk:Tt tt o.op ρ h lim k=some r):∃v v',(execOp ρ' o).run P w = .ok (.value v') w∧dw w h c v v'∧k v=some r:=by
  obtain ⟨dst,op,type,pos,after,guard⟩:=o
  cases op <;> simp only[Tt]at hk <;> try (first|cases hk)
  case load t x=>exact oe (KY T wf (hρ x) hk)
  case lookup t x ix ok =>
    have rx:=hρ x
    split at hk <;> try (first|cases hk)
    rename_i kt vt i ht hx
    rw[hx]at rx
    split at hk <;> try (first|cases hk)
    split at hk <;> try (first|cases hk)
    rename_i K V' l hm
    split at hk <;> try (first|cases hk)
    rename_i hf
    split at hk <;> try (first|cases hk)
    rename_i kx YT
    obtain ⟨v',g1,g2⟩:=Of T wf ht rx hm hf (hρ ix) YT ok
    refine ⟨_,v',by simp[execOp,g1],g2,?_⟩
    cases ok <;> exact hk
  case convert s d x =>
    have rx:=hρ x
    split at hk <;> try (first|cases hk)
    · rename_i e i n hd hs hx
      rw[hx]at rx
      split at hk
      · split at hk <;> try (first|cases hk)
        rename_i l he hl
        have ud:=eD T hd
        have us:=eD T hs
        have ue:=eD T he
        simp only[TD.Is]at ud us ue
        cases rx with
        | row hu hn hv =>
          obtain ⟨A,cap,YU,hA,hv⟩:=hv
          obtain ⟨g1,g2,g3,g4⟩:=hv _ _ hl
          obtain ⟨t,h1,h2⟩:=Gs (w:=w) (A:=A) (cap:=cap) (l:=l) us ue ud g1 (fun lp=>by
            obtain ⟨b,hb,hc⟩:=TQ wf hl lp
            rcases g4 with ⟨q0,_⟩|⟨b',arr,el,fz,q1,rfl,q2,q3⟩
            · rw[hb]at q0; cases q0
            · rw[hb]at q1; cases q1
              exact ⟨b,_,rfl,hc⟩)
          refine ⟨_, .string t,?_,Aa t h2 ?_,hk⟩
          · simp only[execOp,Sem.run_bind,YU,h1,Result.andThen_ok,Sem.run_pure]
          · refine Nat.le_trans (Nat.le_of_eq (@List.length_map Int UInt8 (l:List Int) _)) ?_
            exact (show l.length≤mx from g1▸hn)
      · cases hk
    · rename_i e T' l tk hd hs hx
      rw[hx]at rx
      split at hk <;> try (first|cases hk)
      · rename_i l he
        have ud:=eD T hd
        have us:=eD T hs
        have ue:=eD T he
        simp only[TD.Is]at ud us ue
        obtain ⟨A,cap,hv,lB,sd⟩:=Iw rx
        rw[hv]at rx
        obtain ⟨t,h1,h2⟩:=Gs (w:=w) (A:=A) (cap:=cap) (l:=l) (n:=List.length l) us ue ud rfl (fun lp=>by
          obtain ⟨b,o,e1,_,e3⟩:=PI rx lp
          exact ⟨b,o,e1,e3⟩)
        refine ⟨_, .string t,?_,Aa t h2 ?_,hk⟩
        · simp only[execOp,Sem.run_bind,hv,h1,Result.andThen_ok,Sem.run_pure]
        · refine Nat.le_trans (Nat.le_of_eq (@List.length_map Int UInt8 (l:List Int) _)) ?_
          exact Nat.le_trans lB sd
      · rename_i l he
        obtain ⟨hb,hk⟩:=cq hk
        have ud:=eD T hd
        have us:=eD T hs
        have ue:=eD T he
        simp only[TD.Is]at ud us ue
        obtain ⟨A,cap,hv,lB,sd⟩:=Iw rx
        rw[hv]at rx
        obtain ⟨t,h1,h2,h3⟩:=Rl (w:=w) (A:=A) (cap:=cap) (l:=l) (n:=List.length l) us ue ud rfl (fun lp=>by
          obtain ⟨b,o,e1,_,e3⟩:=PI rx lp
          exact ⟨b,o,e1,e3⟩)
        refine ⟨_, .string t,?_,Aa t h2 ?_,hk⟩
        · simp only[execOp,Sem.run_bind,hv,h1,Result.andThen_ok,Sem.run_pure]
        · rw[←h2]
          have o6:4*List.length (l:List Int)≤9223372036854775807:=of_decide_eq_true hb
          refine Nat.le_trans ?_ o6
          exact h3
    · rename_i e hd hs hx
      rw[hx]at rx
      split at hk <;> try (first|cases hk)
      rename_i he
      have ud:=eD T hd
      have us:=eD T hs
      have ue:=eD T he
      simp only[TD.Is]at ud us ue
      generalize hv:ρ' x=xv at rx
      cases rx
      obtain ⟨t,h1,h2⟩:=Gs (w:=w) (A:=none) (cap:=0) (l := []) (n:=0) us ue ud rfl (fun lp=>(lp rfl).elim)
      refine ⟨_, .string t,?_,Aa t h2 (Nat.zero_le _),hk⟩
      simp only[execOp,Sem.run_bind,hv,h1,Result.andThen_ok,Sem.run_pure]
end
end Go.ax

namespace Go.ax

def Wk (u v:V):Prop:=u=v∨∃(T:Ty) (l:List T.den),v = .sl T l .no∧Cu T u=some l

inductive Fe:List V→List V→Prop where
  | nil:Fe [] []
  | cons {u v:V} {us vs:List V} (h:Wk u v) (t:Fe us vs):Fe (u::us) (v::vs)

theorem Wk.rfl {u:V}:Wk u u := .inl _root_.rfl
theorem Wk.sl {T:Ty} {u:V} {l:List T.den} (h:Cu T u=some l):Wk u (.sl T l .no) := .inr ⟨T,l,_root_.rfl,h⟩

theorem TS (k:IntKind) {cs:List V} {x:Int} (h:Kz k cs=some x):Fe cs (Ty.cells (.int k) x):=by
  unfold Kz at h
  split at h
  · split at h
    · rename_i e; subst e; cases h; exact .cons .rfl .nil
    · cases h
  · cases h
theorem Rm  {cs:List V} {x:Bool} (h:G3 cs=some x):Fe cs (Ty.cells (.bool) x):=by
  unfold G3 at h
  split at h
  · cases h; exact .cons .rfl .nil
  · cases h
theorem TU  {cs:List V} {x:ak} (h:KA cs=some x):Fe cs (Ty.cells (.str) x):=by
  unfold KA at h
  split at h
  · cases h; exact .cons .rfl .nil
  · cases h
theorem TV  {cs:List V} {x:iH} (h:Q3 cs=some x):Fe cs (Ty.cells (.YJ) x):=by
  unfold Q3 at h
  split at h
  · cases h; exact .cons .rfl (.cons .rfl .nil)
  · cases h
theorem Rn  {cs:List V} {x:Json} (h:NZ cs=some x):Fe cs (Ty.cells (.json) x):=by
  unfold NZ at h
  split at h
  · split at h
    · cases h; exact .cons .rfl (.cons .rfl (.cons .rfl (.cons .rfl (.cons (.sl ‹_›) (.cons (.sl ‹_›) .nil)))))
    · cases h
  · cases h
theorem TW  {cs:List V} {x:Raw} (h:Q4 cs=some x):Fe cs (Ty.cells (.raw) x):=by
  unfold Q4 at h
  split at h
  · split at h
    · cases h; exact .cons .rfl (.cons .rfl (.cons .rfl (.cons (.sl ‹_›) (.cons (.sl ‹_›) .nil))))
    · cases h
  · cases h
theorem Ro  {cs:List V} {x:Fu} (h:N0 cs=some x):Fe cs (Ty.cells (.NY) x):=by
  unfold N0 at h
  split at h
  · split at h
    · cases h; exact .cons .rfl (.cons .rfl (.cons .rfl (.cons (.sl ‹_›) .nil)))
    · cases h
  · cases h
theorem TX  {cs:List V} {x:Yv} (h:Q5 cs=some x):Fe cs (Ty.cells (.ZN) x):=by
  unfold Q5 at h
  split at h
  · cases h; exact .cons .rfl (.cons .rfl (.cons .rfl (.cons .rfl (.cons .rfl .nil))))
  · cases h
theorem Rp  {cs:List V} {x:Mt} (h:N1 cs=some x):Fe cs (Ty.cells (.Pm) x):=by
  unfold N1 at h
  split at h
  · cases h; exact .cons .rfl (.cons .rfl (.cons .rfl .nil))
  · cases h
theorem PK  {cs:List V} {x:Token} (h:KB cs=some x):Fe cs (Ty.cells (.token) x):=by
  unfold KB at h
  split at h
  · cases h; exact .cons .rfl (.cons .rfl (.cons .rfl (.cons .rfl (.cons .rfl .nil))))
  · cases h
theorem Rq  {cs:List V} {x:Stop} (h:N2 cs=some x):Fe cs (Ty.cells (.stop) x):=by
  unfold N2 at h
  split at h
  · cases h; exact .cons .rfl (.cons .rfl (.cons .rfl .nil))
  · cases h
theorem TY  {cs:List V} {x:Way} (h:Q6 cs=some x):Fe cs (Ty.cells (.Sz) x):=by
  unfold Q6 at h
  split at h
  · cases h; exact .cons .rfl (.cons .rfl (.cons .rfl .nil))
  · cases h
theorem PL  {cs:List V} {x:Order} (h:KC cs=some x):Fe cs (Ty.cells (.order) x):=by
  unfold KC at h
  split at h
  · split at h
    · cases h; exact .cons .rfl (.cons .rfl (.cons .rfl (.cons .rfl (.cons (.sl ‹_›) (.cons (.sl ‹_›) .nil)))))
    · cases h
  · cases h
theorem Rr  {cs:List V} {x:Edge} (h:N3 cs=some x):Fe cs (Ty.cells (.Io) x):=by
  unfold N3 at h
  split at h
  · cases h; exact .cons .rfl (.cons .rfl (.cons .rfl .nil))
  · cases h
theorem Og  {cs:List V} {x:Cf} (h:Ip cs=some x):Fe cs (Ty.cells (.layout) x):=by
  unfold Ip at h
  split at h
  · split at h
    · cases h; exact .cons .rfl (.cons (.sl ‹_›) .nil)
    · cases h
  · cases h
theorem PM  {cs:List V} {x:FW} (h:KD cs=some x):Fe cs (Ty.cells (.topic) x):=by
  unfold KD at h
  split at h
  · cases h; exact .cons .rfl (.cons .rfl (.cons .rfl .nil))
  · cases h
theorem PN  {cs:List V} {x:State} (h:KE cs=some x):Fe cs (Ty.cells (.state) x):=by
  unfold KE at h
  split at h
  · cases h; exact .cons .rfl (.cons .rfl (.cons .rfl (.cons .rfl (.cons .rfl (.cons .rfl (.cons .rfl (.cons .rfl (.cons .rfl (.cons .rfl .nil)))))))))
  · cases h
theorem TZ  {cs:List V} {x:Yw} (h:Q7 cs=some x):Fe cs (Ty.cells (.ZO) x):=by
  unfold Q7 at h
  split at h
  · split at h
    · cases h; exact .cons .rfl (.cons .rfl (.cons .rfl (.cons .rfl (.cons .rfl (.cons .rfl (.cons (.sl ‹_›) (.cons .rfl (.cons .rfl (.cons .rfl (.cons .rfl (.cons .rfl (.cons .rfl (.cons .rfl (.cons .rfl (.cons (.sl ‹_›) (.cons (.sl ‹_›) .nil))))))))))))))))
    · cases h
  · cases h
theorem Rs  {cs:List V} {x:Mu} (h:N4 cs=some x):Fe cs (Ty.cells (.Pn) x):=by
  unfold N4 at h
  split at h
  · cases h; exact .cons .rfl (.cons .rfl (.cons .rfl (.cons .rfl (.cons .rfl .nil))))
  · cases h
theorem PO  {cs:List V} {x:DM} (h:KF cs=some x):Fe cs (Ty.cells (.Jl) x):=by
  unfold KF at h
  split at h
  · split at h
    · cases h; exact .cons .rfl (.cons .rfl (.cons .rfl (.cons .rfl (.cons .rfl (.cons .rfl (.cons (.sl ‹_›) .nil))))))
    · cases h
  · cases h
theorem Rt  {cs:List V} {x:Mv} (h:N5 cs=some x):Fe cs (Ty.cells (.Po) x):=by
  unfold N5 at h
  split at h
  · split at h
    · cases h; exact .cons .rfl (.cons .rfl (.cons .rfl (.cons .rfl (.cons .rfl (.cons .rfl (.cons .rfl (.cons (.sl ‹_›) (.cons .rfl .nil))))))))
    · cases h
  · cases h
theorem Ru  {cs:List V} {x:Mw} (h:N6 cs=some x):Fe cs (Ty.cells (.Pp) x):=by
  unfold N6 at h
  split at h
  · split at h
    · cases h; exact .cons .rfl (.cons .rfl (.cons (.sl ‹_›) .nil))
    · cases h
  · cases h
theorem Rv  {cs:List V} {x:Mx} (h:N7 cs=some x):Fe cs (Ty.cells (.Pq) x):=by
  unfold N7 at h
  split at h
  · cases h; exact .cons .rfl (.cons .rfl (.cons .rfl .nil))
  · cases h
theorem Rw  {cs:List V} {x:JO} (h:N8 cs=some x):Fe cs (Ty.cells (.MA) x):=by
  unfold N8 at h
  split at h
  · cases h; exact .cons .rfl (.cons .rfl .nil)
  · cases h
theorem Rx  {cs:List V} {x:My} (h:N9 cs=some x):Fe cs (Ty.cells (.Pr) x):=by
  unfold N9 at h
  split at h
  · cases h; exact .cons .rfl (.cons .rfl (.cons .rfl (.cons .rfl .nil)))
  · cases h
theorem Ry  {cs:List V} {x:Mz} (h:Oa cs=some x):Fe cs (Ty.cells (.post) x):=by
  unfold Oa at h
  split at h
  · cases h; exact .cons .rfl (.cons .rfl .nil)
  · cases h
theorem T0  {cs:List V} {x:Yx} (h:Q8 cs=some x):Fe cs (Ty.cells (.ZP) x):=by
  unfold Q8 at h
  split at h
  · cases h; exact .cons .rfl (.cons .rfl (.cons .rfl (.cons .rfl .nil)))
  · cases h
theorem Oh  {cs:List V} {x:Cg} (h:Iq cs=some x):Fe cs (Ty.cells (.record) x):=by
  unfold Iq at h
  split at h
  · split at h
    · cases h; exact .cons .rfl (.cons (.sl ‹_›) (.cons .rfl .nil))
    · cases h
  · cases h

theorem dec_wk:∀(T:Ty) {cs:List V} {x:T.den},T.dec cs=some x→Fe cs (T.cells x)
  | .int k,_,_,h=>TS k h
  | .bool,_,_,h=>Rm h
  | .str,_,_,h=>TU h
  | .YJ,_,_,h=>TV h
  | .json,_,_,h=>Rn h
  | .raw,_,_,h=>TW h
  | .NY,_,_,h=>Ro h
  | .ZN,_,_,h=>TX h
  | .Pm,_,_,h=>Rp h
  | .token,_,_,h=>PK h
  | .stop,_,_,h=>Rq h
  | .Sz,_,_,h=>TY h
  | .order,_,_,h=>PL h
  | .Io,_,_,h=>Rr h
  | .layout,_,_,h=>Og h
  | .topic,_,_,h=>PM h
  | .state,_,_,h=>PN h
  | .ZO,_,_,h=>TZ h
  | .Pn,_,_,h=>Rs h
  | .Jl,_,_,h=>PO h
  | .Po,_,_,h=>Rt h
  | .Pp,_,_,h=>Ru h
  | .Pq,_,_,h=>Rv h
  | .MA,_,_,h=>Rw h
  | .Pr,_,_,h=>Rx h
  | .post,_,_,h=>Ry h
  | .ZP,_,_,h=>T0 h
  | .record,_,_,h=>Oh h

end Go.ax

namespace Go.ax
open Go.RowKit

section
variable {P:Program} {tt:dB} {w w':World} {h h':ay} {c c':jZ}

theorem mP (h:ay) (i j:Nat) (o:bR):ay.at (h.set i o) j=if i=j∧i<h.length then o else h.at j:=by
  unfold ay.at
  simp only[List.getD,List.getElem?_set]
  by_cases xk:i=j
  · subst xk
    by_cases hl:i<h.length
    · simp[hl]
    · simp[hl]
  · simp[xk]

theorem cP {i j:Nat} (o:bR) (xk:i≠j):ay.at (h.set i o) j=h.at j:=by rw[mP]; simp[xk]
theorem mC {i:Nat} (o:bR) (hi:i<h.length):ay.at (h.set i o) i=o:=by rw[mP]; simp[hi]

def jZ.put (c:jZ) (i:Nat) (b:Option Nat) (o:Nat):jZ:=⟨fun j=>if j=i then b else c.sb j,fun j=>if j=i then o else c.off j,c.ext⟩
theorem qe {i j:Nat} (b:Option Nat) (o:Nat) (h:j≠i):(c.put i b o).sb j=c.sb j:=by simp[jZ.put,h]
theorem xH {i j:Nat} (b:Option Nat) (o:Nat) (h:j≠i):(c.put i b o).off j=c.off j:=by simp[jZ.put,h]
theorem c6 (i:Nat) (b:Option Nat) (o:Nat):(c.put i b o).sb i=b:=by simp[jZ.put]
theorem ff (i:Nat) (b:Option Nat) (o:Nat):(c.put i b o).off i=o:=by simp[jZ.put]

theorem Ff {o:bR} (h1:o ≠ .free) (h2:o ≠ .dead):o.live:=by cases o <;> simp_all [bR.live]
theorem wk {o:bR} (h:o.live):o ≠ .dead:=by rintro rfl; exact h
theorem yx {b:Nat} {o:Obj} (h:w.heap[b]? = some o):b<w.heap.size:=(Array.getElem?_eq_some_iff.1 h).1

theorem nY.lt {i b:Nat} {o:bR} (ho:nY w h c i o) (hl:o.live) (hb:c.sb i=some b):b<w.heap.size:=by
  cases o <;> simp only[bR.live]at hl <;> simp only[nY]at ho
  · obtain ⟨b',arr,e,h1,h2,_⟩:=ho
    rw[h1]at hb; cases hb; exact yx h2
  · rcases ho with ⟨h1,_⟩|⟨b',arr,e,fz,h1,h2,_⟩
    · rw[h1]at hb; cases hb
    · rw[h1]at hb; cases hb; exact yx h2
  · rcases ho with h1|⟨b',arr,e,fz,h1,h2,_⟩
    · rw[h1]at hb; cases hb
    · rw[h1]at hb; cases hb; exact yx h2
  · obtain ⟨b',bs,h1,h2,_⟩:=ho
    rw[h1]at hb; cases hb; exact yx h2
  · obtain ⟨b',p,d,h1,h2,_⟩:=ho
    rw[h1]at hb; cases hb; exact yx h2
  · obtain ⟨b',es,cl,h1,h2,_⟩:=ho
    rw[h1]at hb; cases hb; exact yx h2

theorem nY.keep (x:Ext w h c w' h' c') {i:Nat} {o:bR} (ho:nY w h c i o) (hb:∀b,c.sb i=some b→w'.heap[b]? = w.heap[b]?) (e1:c'.sb i=c.sb i) (e2:c'.off i=c.off i) :
    nY w' h' c' i o:=by
  have SI:∀b x,c.sb i=some b→w'.frozen? ⟨b,x,none⟩=w.frozen? ⟨b,x,none⟩:=fun b x h=>by simp only[World.frozen?,hb b h]
  cases o <;> simp only[nY]at ho ⊢
  · obtain ⟨b,arr,e,h1,h2,h3⟩:=ho
    exact ⟨b,arr,e,e1▸h1,(hb b h1).trans h2,h3.mono x⟩
  · rcases ho with ⟨h1,h2⟩|⟨b,arr,e,fz,h1,h2,h3,h4,h5⟩
    · exact .inl ⟨e1▸h1,h2⟩
    · refine .inr ⟨b,arr,e,fz,e1▸h1,(hb b h1).trans h2,by rw[e2]; exact h3,fun x hx=>by rw[SI b x h1]; exact h4 x hx,fun n j y v hy hv => ?_⟩
      obtain ⟨d,g1,g2⟩:=h5 n j y v hy hv
      exact ⟨d,by rw[e2]; exact g1,g2.mono x⟩
  · rcases ho with h1|⟨b,arr,e,fz,h1,h2,h3,h4⟩
    · exact .inl (e1▸h1)
    · exact .inr ⟨b,arr,e,fz,e1▸h1,(hb b h1).trans h2,by rw[e2]; exact h3,by rw[e2]; exact h4⟩
  · obtain ⟨b,bs,h1,h2,h3⟩:=ho
    exact ⟨b,bs,e1▸h1,(hb b h1).trans h2,h3⟩
  · obtain ⟨b,p,d,h1,h2,h3,h4⟩:=ho
    exact ⟨b,p,d,e1▸h1,(hb b h1).trans h2,h3,h4.mono x⟩
  · obtain ⟨b,es,cl,h1,h2,h3,h4,h5,h6⟩:=ho
    exact ⟨b,es,cl,e1▸h1,(hb b h1).trans h2,h3,h4,h5,fun j q e hq he=>⟨(h6 j q e hq he).1.mono x,(h6 j q e hq he).2.mono x⟩⟩

theorem sf {b x:Nat} (h:w'.heap[b]? = w.heap[b]?):w'.cell? ⟨b,x,none⟩=w.cell? ⟨b,x,none⟩:=by simp only[World.cell?,h]

theorem uL (hb:Below w.heap.size w w') {id:Nat} (hf:h.at id = .free) (ob:bR) {nb:Option Nat} {no:Nat} (hn:∀b,nb=some b→w.heap.size≤b) :
    Ext w h c w' (h.set id ob) (c.put id nb no) where
  os:=hb.os
  tape:=hb.tape
  output:=hb.output
  size:=hb.size
  used:=fun i hi=>by
    have lp:id≠i:=by rintro rfl; exact hi.2 hf
    exact ⟨by simpa using hi.1,by rw[cP _ lp]; exact hi.2⟩
  same:=fun i hi hd=>by
    have lp:id≠i:=by rintro rfl; exact hi.2 hf
    rw[cP _ lp]at hd ⊢
    refine ⟨?_,qe _ _ (Ne.symm lp),xH _ _ (Ne.symm lp)⟩
    have h2:=hi.2
    revert hd h2
    cases h.at i <;> simp[bR.ir]
  cell:=fun b x hx _=>sf (hb.block b hx)
  block:=fun b hx _=>hb.block b hx
  vQ:=fun b x hx ho=>by
    obtain ⟨i,f,h1,h2,h3⟩:=ho
    by_cases lp:id=i
    · subst lp
      rw[c6]at h1
      have:=hn b h1
      omega
    · rw[qe _ _ (Ne.symm lp)]at h1
      rw[cP _ lp,xH _ _ (Ne.symm lp)]at h2
      exact ⟨i,f,h1,h2,h3⟩
  ext:=rfl
  arr:=fun b arr e fz hx=>⟨arr,fz,by rw[hb.block b (yx hx)]; exact hx,rfl⟩

theorem WF.rC (wf:WF w h c) {h':ay} {c':jZ} (x:Ext w h c w' h' c'):Laid w' h' c' :=
  ⟨oq.keep w w' (fun b hb=>x.block b (wf.lay.2 b hb).1 (wf.lay.2 b hb).2) wf.lay.1,
    fun b hb=>⟨Nat.lt_of_lt_of_le (wf.lay.2 b hb).1 x.size,fun y ho=>(wf.lay.2 b hb).2 y (x.vQ b y (wf.lay.2 b hb).1 ho)⟩⟩

theorem A6 (wf:WF w h c) (hb:Below w.heap.size w w') {id:Nat} (hid:id<h.length) (hf:h.at id = .free) {ob:bR} {nb:Option Nat} {no:Nat} (hn:∀b,nb=some b→w.heap.size≤b)
    (DW:nY w' (h.set id ob) (c.put id nb no) id ob):WF w' (h.set id ob) (c.put id nb no):=by
  have x:=uL (h:=h) (c:=c) hb hf ob (no:=no) hn
  constructor
  · intro b y ho he
    have ln:b<w.heap.size:=wf.o5 b y he
    exact wf.xG b y (x.vQ b y ln ho) he
  · intro b y he
    exact Nat.lt_of_lt_of_le (wf.o5 b y he) hb.size
  · intro i hi
    by_cases lp:id=i
    · subst lp; rw[mC _ hid]; exact DW
    · rw[cP _ lp]
      by_cases hl:(h.at i).live
      · have ho:=wf.obj i (by simpa using hi)
        exact ho.keep x (fun b SJ=>hb.block b (ho.lt hl SJ)) (qe _ _ (Ne.symm lp)) (xH _ _ (Ne.symm lp))
      · revert hl; cases h.at i <;> simp[bR.live,nY]
  · intro i j b hi hj h1 h2
    have ln:∀k,id≠k→(ay.at (h.set id ob) k).live→(c.put id nb no).sb k=some b→b<w.heap.size:=by
      intro k lp hl SJ
      rw[cP _ lp]at hl
      rw[qe _ _ (Ne.symm lp)]at SJ
      exact (wf.obj k (ay.gp rfl (wk hl))).lt hl SJ
    by_cases h3:id=i <;> by_cases h4:id=j
    · exact h3.symm.trans h4
    · subst h3
      rw[c6]at h1
      have:=hn b h1
      have:=ln j h4 hj h2
      omega
    · subst h4
      rw[c6]at h2
      have:=hn b h2
      have:=ln i h3 hi h1
      omega
    · rw[cP _ h3]at hi
      rw[cP _ h4]at hj
      rw[qe _ _ (Ne.symm h3)]at h1
      rw[qe _ _ (Ne.symm h4)]at h2
      exact wf.inj i j b hi hj h1 h2
  · exact wf.rC x

theorem KZ {T:Ty} {v:V} {d:Value} (r:dw w h c v d) {l:List T.den} (hs:Cu T v=some l):dw w h c (.sl T l .no) d:=by
  unfold Cu at hs
  split at hs
  · cases hs
    cases r
    exact .sl (fun _ _=>undef) (Nat.le_refl _) (by unfold mx; exact Nat.zero_le _) (fun i j hi=>by simp at hi) (fun i j x v hx=>by simp at hx) (by simp) (by simp)
  · rename_i T' l' t
    split at hs
    · rename_i e
      subst e
      cases hs
      cases r with
      | sl f lB sd hc hr xF mA=>exact .sl f lB sd hc hr (by simp) (by simp)
    · cases hs
  · cases hs

theorem Wk.rep {u v:V} {d:Value} (k:Wk u v) (r:dw w h c u d):dw w h c v d:=by
  rcases k with rfl|⟨T,l,rfl,e⟩
  · exact r
  · exact KZ r e

theorem Fe.rep {us vs:List V} (k:Fe us vs):∀ {ds:List Value},cz w h c us ds→cz w h c vs ds:=by
  induction k with
  | nil=>exact fun r=>r
  | cons a _ ih =>
    intro ds r
    cases ds with
    | nil=>have:=r.1; simp at this
    | cons d ds=>exact .cons (a.rep r.head) (ih r.tail)

theorem Fg {T:Ty} {cs:List V} {x:T.den} (hx:T.dec cs=some x) {ds:List Value} (r:cz w h c cs ds):cz w h c (T.cells x) ds:=(dec_wk T hx).rep r
end

section
variable {P:Program} {tt:dB} {w:World} {h:ay} {c:jZ} {R:Type}

def Iy (P:Program) (w:World) (h:ay) (c:jZ) (s:Sem Value) (ob:bR) (mk:Nat→V):Prop :=
  ∀id,id<h.length→h.at id = .free→∃v' w' c',s.run P w = .ok v' w'∧WF w' (h.set id ob) c'∧Ext w h c w' (h.set id ob) c'∧dw w' (h.set id ob) c' (mk id) v'

theorem p8 (w:World) (o:Obj):Below w.heap.size w (w.alloc o):=(Below.refl _ _).alloc (Nat.le_refl _) o

theorem tX {id:Nat} (hid:id<h.length) {ob:bR} (ho:ob ≠ .free):Used (h.set id ob) id:=⟨by simpa using hid,by rw[mC _ hid]; exact ho⟩

theorem Jr (wf:WF w h c) {cs:List V} {ds:Array Value} (r:cz w h c cs ds.toList) (e:TypeId) {s:Sem Value} (mn:s.run P w = .ok (.pointer (some ⟨w.heap.size,0,none⟩)) (w.alloc (.cells ds e))) :
    Iy P w h c s (.cells cs) fun i => .ptr i 0:=by
  intro id hid hf
  have hb:=p8 w (.cells ds e)
  have hn:∀b,some w.heap.size=some b→w.heap.size≤b:=by intro b hb; cases hb; exact Nat.le_refl _
  have x:=uL (h:=h) (c:=c) hb hf (.cells cs) (no:=0) hn
  have DW:nY (w.alloc (.cells ds e)) (h.set id (.cells cs)) (c.put id (some w.heap.size) 0) id (.cells cs):=by
    refine ⟨w.heap.size,ds,e,c6 _ _ _,heap_alloc_new w _,r.mono x⟩
  exact ⟨_,_,_,mn,A6 wf hb hid hf hn DW,x, .ptr (tX hid (by simp)) ⟨w.heap.size,rfl,fun _=>c6 _ _ _⟩⟩

theorem K0 (n:Nat):∀(m:Nat) (l:List V) (i:Nat),i<m→(chunks n m l)[i]? = some ((l.drop (i*n)).take n)
  | m+1,l,0,_=>by simp[chunks]
  | m+1,l,i+1,h=>by
    simp only[chunks,List.getElem?_cons_succ]
    rw[K0 n m (l.drop n) i (by omega),List.drop_drop]
    congr 3
    rw[Nat.add_mul]; omega

theorem Dd (n:Nat):∀(m:Nat) (l:List V),(chunks n m l).length=m
  | 0,_=>rfl
  | m+1,l=>by simp[chunks,Dd n m]

theorem De {T:Ty}:∀ {css:List (List V)} {l:List T.den},wg T css=some l→l.length=css.length
  | [],l,hd=>by simp[wg]at hd; subst hd; rfl
  | c::cs,l,hd=>by
    simp only[wg]at hd
    split at hd
    · cases hd; rename_i h1 h2; simp[De h2]
    · cases hd

theorem K1 {T:Ty}:∀ {css:List (List V)} {l:List T.den},wg T css=some l→∀(i:Nat) (x:T.den),l[i]? = some x→∃cs,css[i]? = some cs∧T.dec cs=some x
  | [],l,hd,i,x,hx=>by simp[wg]at hd; subst hd; simp at hx
  | c::cs,l,hd,i,x,hx=>by
    simp only[wg]at hd
    split at hd
    · cases hd
      rename_i y ys h1 h2
      cases i with
      | zero=>simp at hx; subst hx; exact ⟨c,rfl,h1⟩
      | succ i=>simp at hx; exact K1 h2 i x hx
    · cases hd

theorem T1 {T:Ty} {n:Nat} {cs:List V} {ds:List Value} (r:cz w h c cs ds) {l:List T.den} (hd:wg T (chunks T.sz n cs)=some l) :
    ∀(i j:Nat) (x:T.den) (v:V),l[i]? = some x→(T.cells x)[j]? = some v→dw w h c v (ds.getD (i*T.sz+j) undef):=by
  intro i j x v hx hv
  have hl:=De hd
  rw[Dd]at hl
  have hi:i<l.length:=(List.getElem?_eq_some_iff.1 hx).1
  obtain ⟨cs',h1,h2⟩:=K1 hd i x hx
  rw[K0 _ _ _ _ (by omega)]at h1
  cases h1
  have rr:=Fg h2 ((r.drop (i*T.sz)).take T.sz)
  have hj:j<(T.cells x).length:=(List.getElem?_eq_some_iff.1 hv).1
  rw[T.lh]at hj
  have hlen:=rr.1
  rw[T.lh]at hlen
  have TF:((ds.drop (i*T.sz)).take T.sz)[j]? = some (((ds.drop (i*T.sz)).take T.sz)[j]'(by omega)):=List.getElem?_eq_getElem _
  have:=rr.2 j v _ hv TF
  have e:ds.getD (i*T.sz+j) undef=((ds.drop (i*T.sz)).take T.sz)[j]'(by omega):=by
    rw[List.getElem?_take,if_pos hj,List.getElem?_drop]at TF
    simp[List.getD,TF]
  rw[e]; exact this

theorem MD (z:Array Value) (m:Nat):(madeCells z (z.size+m)).toList=z.toList++(madeCells z m).toList:=by
  simp only[madeCells,Array.toList_map,Array.toList_range,List.range_add,List.map_append,List.map_map]
  congr 1
  · apply List.ext_getElem
    · simp
    · intro i h1 h2
      simp only[List.length_map,List.length_range]at h1
      simp[Nat.mod_eq_of_lt h1,getElem!_pos z i h1]
  · apply List.map_congr_left
    intro k _
    simp

theorem PQ {zs:List V} {z:Array Value} (r:cz w h c zs z.toList):∀n:Nat,cz w h c (List.replicate n zs).flatten (madeCells z (n*z.size)).toList
  | 0=>by simp[madeCells]; exact .nil
  | n+1=>by
    have e:(n+1)*z.size=z.size+n*z.size:=by rw[Nat.add_mul]; omega
    rw[e,MD z _,List.replicate_succ,List.flatten_cons]
    exact r.append (PQ r n)

theorem Ci (wf:WF w h c) {id:Nat} (ob:bR) (no x:Nat) (hx:∀f,ob.from_ no=some f→¬f≤x) (hid:id<h.length):Fw (h.set id ob) (c.put id (some w.heap.size) no) w.heap.size x:=by
  refine ⟨?_,fun he=>Nat.lt_irrefl _ (wf.o5 _ _ he)⟩
  rintro ⟨i,f,h1,h2,h3⟩
  by_cases lp:id=i
  · subst lp
    rw[mC _ hid,ff]at h2
    exact hx f h2 h3
  · rw[cP _ lp,xH _ _ (Ne.symm lp)]at h2
    rw[qe _ _ (Ne.symm lp)]at h1
    have hl:(h.at i).live:=by revert h2; cases h.at i <;> simp[bR.from_,bR.live]
    have:=(wf.obj i (ay.gp rfl (wk hl))).lt hl h1
    omega

theorem PR (wf:WF w h c) {T:Ty} {n:Nat} {cs:List V} {ds:Array Value} (r:cz w h c cs ds.toList) {l:List T.den} (hd:wg T (chunks T.sz n cs)=some l) (p6:ds.size=n*T.sz) (hn:n≤mx)
    (e:TypeId) (Rz:Rg T 0 e) {s:Sem Value} (mn:s.run P w = .ok (.slice (some ⟨w.heap.size,0,none⟩) n n) (w.alloc (.cells ds e))) :
    Iy P w h c s .tok fun i => .sl T l (.own i):=by
  intro id hid hf
  have hb:=p8 w (.cells ds e)
  have Js:∀b,some w.heap.size=some b→w.heap.size≤b:=by intro b hb; cases hb; exact Nat.le_refl _
  have x:=uL (h:=h) (c:=c) hb hf .tok (no:=n*T.sz) Js
  have hl:l.length=n:=by rw[De hd,Dd]
  have Bw:=heap_alloc_new w (.cells ds e)
  have DW:nY (w.alloc (.cells ds e)) (h.set id .tok) (c.put id (some w.heap.size) (n*T.sz)) id .tok:=by
    refine .inr ⟨w.heap.size,ds,e,(0,0),c6 _ _ _,Bw,by rw[ff]; omega, .inl rfl⟩
  have hel:=T1 (r.mono x) hd
  refine ⟨_,_,_,mn,A6 wf hb hid hf Js DW,x,?_⟩
  subst hl
  refine .sl (fun i j=>ds.toList.getD (i*T.sz+j) undef) (Nat.le_refl _) hn (fun i j hi hj=>⟨w.heap.size,0,rfl,?_,?_⟩) hel (by simp) (fun i he => ?_)
  · have ln:i*T.sz+j<ds.size:=by
      have:=Nat.mul_le_mul_right T.sz hi
      rw[Nat.succ_mul]at this; omega
    rw[Nat.zero_add,cell_of_row _ _ _ _ _ _ Bw]
    simp[List.getD,ln]
  · refine Ci wf _ _ _ (fun f T2 => ?_) hid
    simp[bR.from_]at T2
    have:=Nat.mul_le_mul_right T.sz hi
    rw[Nat.succ_mul]at this; omega
  · cases he
    refine ⟨tX hid (by simp),fun _ => .inr ⟨w.heap.size,0,ds,e,(0,0),c6 _ _ _,rfl,by rw[ff,Nat.zero_add],Bw,by omega,Rz⟩⟩

theorem Hc (wf:WF w h c) {n sz:Nat} {cs:List V} {ds:Array Value} (r:cz w h c cs ds.toList) (p6:cs.length=n*sz) (hn:n≤mx)
    (e:TypeId) {s:Sem Value} (mn:s.run P w = .ok (.slice (some ⟨w.heap.size,0,none⟩) n n) (w.alloc (.cells ds e))) :
    Iy P w h c s .dead fun _ => .Mn n cs:=by
  intro id hid hf
  have hb:=p8 w (.cells ds e)
  have Js:∀b,some w.heap.size=some b→w.heap.size≤b:=by intro b hb; cases hb; exact Nat.le_refl _
  have x:=uL (h:=h) (c:=c) hb hf .dead (no:=0) Js
  have Bw:=heap_alloc_new w (.cells ds e)
  refine ⟨_,_,_,mn,A6 wf hb hid hf Js trivial,x,?_⟩
  have r':=r.mono x
  have hl:=r.1
  refine .Mn p6 hn (fun j=>ds.toList.getD j undef) (fun j hj=>⟨w.heap.size,0,rfl,?_,?_⟩) (fun j v hv => ?_)
  · rw[Nat.zero_add,cell_of_row _ _ _ _ _ _ Bw]
    have ln:j<ds.size:=by simp at hl; omega
    simp[List.getD,ln]
  · exact Ci wf _ _ _ (fun f T2=>by simp[bR.from_]at T2) hid
  · have hj:j<cs.length:=(List.getElem?_eq_some_iff.1 hv).1
    have ln:j<ds.toList.length:=by omega
    refine r'.2 j v _ hv ?_
    simp only[List.getD,List.getElem?_eq_getElem ln,Option.getD_some]

end

section
variable {P:Program} {tt:dB} {w:World} {h:ay} {c:jZ} {R:Type}

theorem vD {w:World} {b:Nat} {arr:Array Value} {e:TypeId} (hb:w.heap[b]? = some (.cells arr e (0,0))) (x:Nat):w.frozen? ⟨b,x,none⟩=false:=by
  simp[World.frozen?,hb]

theorem Iz (wf:WF w h c) {T:Ty} {l:List T.den} {ds:Array Value} {w':World} (hb:Below w.heap.size w w') {e:TypeId} {fz:Nat × Nat} (Bw:w'.heap[w.heap.size]? = some (.cells ds e fz))
    (SI:∀x,x<ds.size→w'.frozen? ⟨w.heap.size,x,none⟩=false) {cap:Nat} (lB:l.length≤cap) (sd:cap≤mx) (p6:cap*T.sz≤ds.size)
    (hr:∀(n j:Nat) (x:T.den) (v:V),l[n]? = some x→(T.cells x)[j]? = some v→∃d,ds[n*T.sz+j]? = some d∧∀(w:World) (h:ay) (c:jZ),dw w h c v d)
    {s:Sem Value} (mn:s.run P w = .ok (.slice (some ⟨w.heap.size,0,none⟩) l.length cap) w') :
    Iy P w h c s (.row T l) fun i => .row i l.length:=by
  intro id hid hf
  have Js:∀b,some w.heap.size=some b→w.heap.size≤b:=by intro b hb; cases hb; exact Nat.le_refl _
  have x:=uL (h:=h) (c:=c) hb hf (.row T l) (no:=0) Js
  have hm:l.length*T.sz≤cap*T.sz:=Nat.mul_le_mul_right _ lB
  have DW:nY w' (h.set id (.row T l)) (c.put id (some w.heap.size) 0) id (.row T l):=by
    refine .inr ⟨w.heap.size,ds,e,fz,c6 _ _ _,Bw,by rw[ff]; omega,SI,fun n j y v hy hv => ?_⟩
    obtain ⟨d,h1,h2⟩:=hr n j y v hy hv
    exact ⟨d,by rw[ff,Nat.zero_add]; exact h1,h2 _ _ _⟩
  refine ⟨_,_,_,mn,A6 wf hb hid hf Js DW,x,?_⟩
  refine .row (tX hid (by simp)) (by omega) ⟨_,_,rfl,fun _=>⟨_,rfl⟩,fun T' l' he => ?_⟩
  rw[mC _ hid]at he
  cases he
  exact ⟨rfl,lB,sd, .inr ⟨w.heap.size,ds,e,fz,c6 _ _ _,by rw[ff],Bw,by rw[ff]; omega⟩⟩

theorem IA (T:xh P tt) (wf:WF w h c) {t len:Nat} {parts:Array (Nat × Operand)} {ρ:Operand→V} {ρ':Operand→Value} (hρ:∀x,dw w h c (ρ x) (ρ' x)) {k:bR→(Nat→V)→Option R} {r:R}
    (hk:Vi tt (.buildSlice t len parts) ρ k=some r):∃ob mk,k ob mk=some r∧ob ≠ .free∧Iy P w h c (Instr.buildSlice t len (parts.map fun (i,x)=>(i,ρ' x))) ob mk:=by
  simp only[Vi]at hk
  split at hk
  · rename_i e hd
    split at hk
    · cases hk
    · rename_i G2
      simp only[Bool.or_eq_true,Bool.not_eq_true',decide_eq_true_eq,not_or,Bool.not_eq_false,Nat.not_lt]at G2
      obtain ⟨⟨p6,hsm⟩,sP⟩:=G2
      have hu:=eD T hd
      simp only[TD.Is]at hu
      have hse:=T.sizeOf (w:=w) sP
      obtain ⟨z,hz,YA,KU⟩:=T.zero (w:=w) sP
      have Db:=Nd hρ parts.toList
      have ZY:=PQ (w:=w) (h:=h) (c:=c) (KU w h c) len
      rw[YA]at ZY
      have key:∀cs,FX ((List.replicate len (tt.at e).zero).flatten) (parts.toList.map fun (i,x)=>(i*(tt.at e).size,(tt.at e).size,ρ x))=some cs →
          ∃ds:Array Value,cz w h c cs ds.toList∧ds.size=len*(tt.at e).size ∧
            (Instr.buildSlice t len (parts.map fun (i,x)=>(i,ρ' x))).run P w = .ok (.slice (some ⟨w.heap.size,0,none⟩) len len) (w.alloc (.cells ds e)):=by
        intro cs hf
        obtain ⟨Iv,h1,h2,h3⟩:=C9 (w:=w) (h:=h) (c:=c) (fun i=>some (i*(tt.at e).size,(tt.at e).size)) (parts.toList.map fun p=>(p.1,ρ p.2)) (parts.toList.map fun p=>(p.1,ρ' p.2))
          ((List.replicate len (tt.at e).zero).flatten) (madeCells z.cells (len*(tt.at e).size)) cs Db.1 Db.2 ZY (by
            rw[←hf,List.map_map]
            congr 1) (by rw[size_madeCells]; omega)
        rw[size_madeCells]at h3
        refine ⟨Iv,h2,h3,?_⟩
        have T3:¬(len*(tt.at e).size>2 ^ 24):=by omega
        simp only[Instr.buildSlice,Sem.run_bind,run_underlying hu,Result.andThen_ok,hse,if_neg T3]
        by_cases Jq:len*(tt.at e).size=0
        · simp only[Jq,if_true,Array.toList_map]
          have e0:madeCells z.cells (len*(tt.at e).size) = #[]:=by rw[Jq]; simp[madeCells]
          rw[e0]at h1
          simp only[Array.range_zero',Array.map_empty]
          rw[h1]
          simp[newRow]
        · simp only[if_neg Jq,Sem.run_bind,hz,Result.andThen_ok,Sem.run_pure,Array.toList_map]
          have e1:(Array.range (len*(tt.at e).size)).map (z.cells[· % z.cells.size]!)=madeCells z.cells (len*(tt.at e).size):=rfl
          rw[e1,h1]
          simp[newRow]
      split at hk
      · rename_i cs T' hf hty
        split at hk
        · rename_i hT
          obtain ⟨ds,g1,g2,g3⟩:=key cs hf
          split at hk
          · rename_i Bx
            simp only[Bool.and_eq_true,decide_eq_true_eq]at Bx
            obtain ⟨_,rfl⟩:=Bx
            have hds:ds.size=0:=by omega
            have Bw:=heap_alloc_new w (.cells ds e)
            exact ⟨_,_,hk,by simp,Iz (T:=T') (l := []) (cap:=0) wf (p8 w _) Bw (fun x _=>vD Bw x) (Nat.le_refl _) (by unfold mx; omega) (by omega) (fun n j x v hx=>by simp at hx) g3⟩
          split at hk
          · rename_i l hl
            rw[←hT]at hl g2
            exact ⟨_,_,hk,by simp,PR wf g1 hl g2 (by unfold mx; have:len≤len*(tt.at e).size:=Nat.le_mul_of_pos_right _ (by omega); omega) e (fun hT'=>⟨rfl,T.u8s e (by rw[hty,hT'])⟩) g3⟩
          · exact ⟨_,_,hk,by simp,Hc wf (sz:=(tt.at e).size) g1 (by have:=g1.1; simp at this; omega) (by unfold mx; have:len≤len*(tt.at e).size:=Nat.le_mul_of_pos_right _ (by omega); omega) e g3⟩
        · cases hk
      · rename_i cs hf hty
        obtain ⟨ds,g1,g2,g3⟩:=key cs hf
        exact ⟨_,_,hk,by simp,Hc wf (sz:=(tt.at e).size) g1 (by have:=g1.1; simp at this; omega) (by unfold mx; have:len≤len*(tt.at e).size:=Nat.le_mul_of_pos_right _ (by omega); omega) e g3⟩
      · cases hk
  · cases hk

theorem xI {o:Oper} {ρ':Operand→Value} {s:Sem Value} {ob:bR} {mk:Nat→V} (he:execOp ρ' o=(do pure (.value (←s)))) (ha:Iy P w h c s ob mk) :
    ∀id,id<h.length→h.at id = .free→∃v' w' c',(execOp ρ' o).run P w = .ok (.value v') w'∧WF w' (h.set id ob) c'∧Ext w h c w' (h.set id ob) c'∧dw w' (h.set id ob) c' (mk id) v':=by
  intro id hid hf
  obtain ⟨v',w',c',h1,h2⟩:=ha id hid hf
  exact ⟨v',w',c',by rw[he]; simp[h1],h2⟩

theorem IB (T:xh P tt) {t e:Nat} (hd:(tt.at t).d = .slice e) (sP:tt.ok e=true) {i j:IntKind} {a:Int} (h0:0≤a) (hb:a*(tt.at e).bytes≤140737488355328) (sd:a≤9223372036854775807) :
    ∃z:Value,z.cells.size=(tt.at e).size∧(∀(w:World) (h:ay) (c:jZ),cz w h c (tt.at e).zero z.cells.toList) ∧
      (Instr.makeSlice t (.int i a) (.int j a)).run P w = .ok (.slice (some ⟨w.heap.size,0,none⟩) a.toNat a.toNat) (w.alloc (.cells (madeCells z.cells (a.toNat*(tt.at e).size)) e)):=by
  have hu:=eD T hd
  simp only[TD.Is]at hu
  obtain ⟨inf,z,hi,hs,hby,hz,YA,hr⟩:=T.info e sP
  have mn:=run_make (P:=P) w t e inf z hu hi hz i j a a h0 (Int.le_refl _) (by rw[hby,Int.mul_comm]; omega) sd
  rw[hs]at mn
  exact ⟨z,by omega,hr,mn⟩

theorem T4 {z:Array Value} (n:Nat) {i j:Nat} (hi:i<n) (hj:j<z.size):(madeCells z (n*z.size))[i*z.size+j]? = some (z[j]):=by
  have ln:i*z.size+j<n*z.size:=by
    have:=Nat.mul_le_mul_right z.size hi
    rw[Nat.succ_mul]at this; omega
  simp only[madeCells,Array.getElem?_map]
  rw[Array.getElem?_eq_getElem (by simpa using ln)]
  simp only[Array.getElem_range,Option.map_some]
  congr 1
  rw[Nat.mul_comm,Nat.mul_add_mod,Nat.mod_eq_of_lt hj,getElem!_pos z j hj]

theorem Hd (e:TypeId) (s:ByteArray):∃(cap:Nat) (w':World),(Conv.stringToBytes e s).run P w = .ok (.slice (some ⟨w.heap.size,0,none⟩) s.size cap) w'∧Below w.heap.size w w'∧s.size≤cap∧(s.size≤mx→cap≤mx) ∧
    ∃ds:Array Value,w'.heap[w.heap.size]? = some (.cells ds e (ds.size,ds.size+1))∧ds.size=cap∧∀(i:Nat) (b:UInt8),s.data.toList[i]? = some b→ds[i]? = some (.int .u8 b.toNat):=by
  let cap:=(Question.appendCap s.size 0 e).cut (w.tape w.drawn (.appendCap s.size 0 e))
  have lB:s.size≤cap:=by simp only[cap,Question.cut]; omega
  let ds:Array Value:=(s.data.map fun b=>Value.int .u8 b.toNat)++Array.replicate (cap - s.size) (.int .u8 0)
  have hds:ds.size=cap:=by
    simp only[ds,Array.size_append,Array.size_map,Array.size_replicate]
    have:s.data.size=s.size:=rfl
    omega
  refine ⟨cap,(w.drew.alloc (.cells ds e)).freeze ⟨w.heap.size,ds.size,none⟩ 1,?_,?_,lB,fun hs => ?_,ds,?_,hds,fun i b hb => ?_⟩
  · have hf:(Question.appendCap s.size 0 e).forced=false:=rfl
    simp only[Conv.stringToBytes,Sem.run_bind,run_choose,hf]
    simp only[Bool.false_eq_true,if_false,Result.andThen_ok,newRow,Sem.run_bind,run_newObj,Sem.run_pure]
    have ZT:(w.drew.alloc (.cells ds e)).shape? w.heap.size=some (e,ds.size):=by
      have:=heap_alloc_new w.drew (.cells ds e)
      simp only[World.shape?]
      rw[show (w.drew.alloc (.cells ds e)).heap[w.heap.size]? = some (.cells ds e)from this]
    show ((markStringish ⟨w.heap.size,0,none⟩).run P (w.drew.alloc (.cells ds e))).andThen _=_
    simp only[markStringish,Sem.run_bind,run_shape,ZT,Result.andThen_ok,run_freeze]
    rfl
  · refine ⟨rfl,rfl,rfl,?_,fun k hk => ?_⟩
    · have:((w.drew.alloc (.cells ds e)).freeze ⟨w.heap.size,ds.size,none⟩ 1).heap.size=w.heap.size+1:=by simp[World.freeze]
      omega
    · simp only[World.freeze]
      rw[if_neg (by decide)]
      simp only[Array.getElem?_modify]
      rw[if_neg (by show ¬w.heap.size=k; omega)]
      exact Below.heap_alloc w.drew _ k hk
  · have ln:w.tape w.drawn (Question.appendCap s.size 0 e) % (2 ^ 63 - s.size)<2 ^ 63 - s.size:=Nat.mod_lt _ (by unfold mx at hs; omega)
    simp only[cap,Question.cut]
    unfold mx at hs ⊢
    omega
  · simp only[World.freeze]
    rw[if_neg (by decide)]
    simp only[Array.getElem?_modify]
    have:=heap_alloc_new w.drew (.cells ds e)
    rw[show (w.drew.alloc (.cells ds e)).heap[w.heap.size]? = some (.cells ds e)from this]
    simp
  · have ln:i<s.data.size:=by
      have:=(List.getElem?_eq_some_iff.1 hb).1
      simpa using this
    simp only[ds]
    rw[Array.getElem?_append_left (by simpa using ln)]
    simp only[Array.getElem?_map]
    have:s.data[i]? = some b:=by simpa using hb
    rw[this]; rfl

theorem T5 (T:xh P tt) (wf:WF w h c) {o:Oper} {ρ:Operand→V} {ρ':Operand→Value} (hρ:∀x,dw w h c (ρ x) (ρ' x)) {k:bR→(Nat→V)→Option R} {r:R}
    (hk:Vi tt o.op ρ k=some r):∃ob mk,k ob mk=some r∧ob ≠ .free∧∀id,id<h.length→h.at id = .free →
      ∃v' w' c',(execOp ρ' o).run P w = .ok (.value v') w'∧WF w' (h.set id ob) c'∧Ext w h c w' (h.set id ob) c'∧dw w' (h.set id ob) c' (mk id) v':=by
  obtain ⟨dst,op,type,pos,after,guard⟩:=o
  cases op <;> (try simp only[Vi]at hk) <;> try (first|cases hk)
  case alloc t =>
    split at hk
    · rename_i hb
      obtain ⟨rfl,hz0,sP⟩:=T.blds t hb
      obtain ⟨z,hz,YA,KU⟩:=T.zero (w:=w) sP
      refine ⟨_,_,hk,by simp,xI (s:=Instr.alloc oq.kq true (.tuple #[])) rfl ?_⟩
      have KU:=KU w h c
      rw[hz0]at KU
      have By:z.cells = #[.pointer none, .slice none 0 0]:=by
        generalize z.cells=q at KU
        obtain ⟨l⟩:=q
        match l,KU with
        | [p,d],KU =>
          have r0:=KU.head
          have r1:=KU.tail.head
          cases r0; cases r1; rfl
        | [],KU=>have:=KU.1; simp at this
        | [_],KU=>have:=KU.1; simp at this
        | _::_::_::_,KU=>have:=KU.1; simp at this
      intro id hid hf
      have hbel:=p8 w (.cells #[.pointer none, .slice none 0 0] oq.kq)
      have hn:∀b,some w.heap.size=some b→w.heap.size≤b:=by intro b hb; cases hb; exact Nat.le_refl _
      have x:=uL (h:=h) (c:=c) hbel hf (.kq .cw) (no:=0) hn
      have DW:nY (w.alloc (.cells #[.pointer none, .slice none 0 0] oq.kq)) (h.set id (.kq .cw)) (c.put id (some w.heap.size) 0) id (.kq .cw) :=
        ⟨w.heap.size,_,_,c6 _ _ _,heap_alloc_new w _, .inl rfl, .cw⟩
      exact ⟨_,_,_,by simp[Instr.alloc,hz,newVar,newRow,By],A6 wf hbel hid hf hn DW,x, .ptr (tX hid (by simp)) ⟨w.heap.size,rfl,fun _=>c6 _ _ _⟩⟩
    split at hk
    · rename_i sP
      obtain ⟨z,hz,YA,KU⟩:=T.zero (w:=w) sP
      exact ⟨_,_,hk,by simp,xI (s:=Instr.alloc t true (.tuple #[])) rfl (Jr wf (KU w h c) t (by simp[Instr.alloc,hz,newVar,newRow]))⟩
    · cases hk
  case box t x =>
    split at hk
    · rename_i cs By
      split at hk
      · obtain ⟨rv,_,_⟩:=Et (hρ x) By
        exact ⟨_,_,hk,by simp,xI (s:=Instr.box t (ρ' x)) rfl (Jr wf rv t (by simp[Instr.box,newVar,newRow]))⟩
      · cases hk
    · cases hk
  case buildSlice t len parts =>
    obtain ⟨ob,mk,h1,h0,h2⟩:=IA T wf hρ hk
    exact ⟨ob,mk,h1,h0,xI rfl h2⟩
  case makeSlice t n cc =>
    split at hk
    · rename_i e i a j b hd hn hc
      split at hk
      · rename_i T' hty
        split at hk
        · rename_i z hz
          split at hk
          · rename_i wj
            simp only[Bool.and_eq_true,decide_eq_true_eq]at wj
            obtain ⟨p6,sP⟩:=wj
            obtain ⟨hb,Gq⟩:=cq hk
            clear hk
            simp only[Bool.and_eq_true,decide_eq_true_eq]at hb
            obtain ⟨⟨⟨h0,rfl⟩,hby⟩,sd⟩:=hb
            have rn:=hρ n
            have rc:=hρ cc
            rw[hn]at rn; rw[hc]at rc
            obtain ⟨en,hn1,hn2⟩:=rn.iI
            obtain ⟨ec,hc1,hc2⟩:=rc.iI
            obtain ⟨zv,g1,g2,g3⟩:=IB (w:=w) (i:=i) (j:=j) T hd sP h0 hby (by omega)
            have Bw:=heap_alloc_new w (.cells (madeCells zv.cells (a.toNat*(tt.at e).size)) e)
            have hs:(Instr.makeSlice t (ρ' n) (ρ' cc)).run P w = .ok (.slice (some ⟨w.heap.size,0,none⟩) (List.replicate a.toNat z).length a.toNat) (w.alloc (.cells (madeCells zv.cells (a.toNat*(tt.at e).size)) e)):=by
              rw[en,ec,g3]; simp
            have:=Iz (T:=T') (l:=List.replicate a.toNat z) wf (p8 w _) Bw (fun x _=>vD Bw x) (by simp) (by unfold mx; omega) (by rw[size_madeCells,p6]; exact Nat.le_refl _) (fun n' j' x v hx hv=>by
              simp only[List.getElem?_replicate]at hx
              split at hx
              · rename_i ln
                cases hx
                have hj:j'<T'.sz:=by rw[←T'.lh z]; exact (List.getElem?_eq_some_iff.1 hv).1
                have Nc:j'<zv.cells.size:=by omega
                have hm:=T4 (z:=zv.cells) a.toNat ln Nc
                rw[g1]at hm
                rw[p6]
                refine ⟨_,hm,fun w h c => ?_⟩
                exact (Fg hz (g2 w h c)).2 j' v _ hv (by simp[Nc])
              · cases hx) hs
            have e2:(List.replicate a.toNat z).length=a.toNat:=List.length_replicate
            rw[e2]at this
            exact ⟨_,_,Gq,by simp,xI (o:=⟨dst, .makeSlice t n cc,type,pos,after,guard⟩) rfl this⟩
          · cases hk
        · cases hk
      · cases hk
    · cases hk
  case convert s d x =>
    split at hk
    · rename_i e t hs hd hx
      split at hk
      · rename_i he
        have rx:=hρ x
        rw[hx]at rx
        obtain ⟨bs,hv,rfl,hl⟩:=rx.kr
        have us:=eD T hs
        have ud:=eD T hd
        have ue:=eD T he
        simp only[TD.Is]at us ud ue
        obtain ⟨cap,w',g1,g2,g3,g4,ds,g5,g6,g7⟩:=Hd (P:=P) (w:=w) e bs
        obtain ⟨l,Vm⟩:∃l:List Int,l=bs.data.toList.map fun b=>(b.toNat:Int):=⟨_,rfl⟩
        have hlen:l.length=bs.size:=by rw[Vm,List.length_map,size_data]
        have Dc:∀(n:Nat) (z:Int),l[n]? = some z→∃b:UInt8,bs.data.toList[n]? = some b∧z=b.toNat:=fun n z hz=>by
          rw[Vm,List.getElem?_map]at hz
          cases hb:bs.data.toList[n]? with
          | none=>rw[hb]at hz; cases hz
          | some b=>rw[hb]at hz; simp at hz; exact ⟨b,rfl,hz.symm⟩
        have mn:(convert s d (ρ' x)).run P w = .ok (.slice (some ⟨w.heap.size,0,none⟩) l.length cap) w':=by
          rw[hv,hlen]
          simp only[convert,Sem.run_bind,run_underlying us,run_underlying ud,run_underlying ue,Result.andThen_ok,g1]
        have:=Iz (T := .int .u8) (l:=l) wf g2 g5 (fun y hy=>by
            simp only[World.frozen?,g5]
            simp; omega) (cap:=cap) (by show l.length≤cap; omega) (g4 hl) (by simp[Ty.sz]; omega) (fun n j y v hy hv=>by
            obtain ⟨b,h1,rfl⟩:=Dc n y hy
            have hj:j<1:=by
              have:=(List.getElem?_eq_some_iff.1 hv).1
              simpa [Ty.cells]using this
            obtain rfl:j=0:=by omega
            simp[Ty.cells]at hv
            subst hv
            exact ⟨_,by simpa [Ty.sz]using g7 n b h1,fun w h c => .int (KR _ (UInt8.toNat_lt b))⟩) mn
        have e2:List.length (α:=Int) l=bs.data.toList.length:=by rw[hlen,size_data]
        refine ⟨.row (.int .u8) l,fun i => .row i (List.length (α:=Int) l),?_,by simp,xI (o:=⟨dst, .convert s d x,type,pos,after,guard⟩) rfl this⟩
        rw[e2,Vm]; exact hk
      · cases hk
    · cases hk
  case makeMap t ZR =>
    split at hk <;> try (first|cases hk)
    rename_i VM
    split at hk <;> try (first|cases hk)
    rename_i kt vt hd
    split at hk <;> try (first|cases hk)
    rename_i K V' hK hV
    split at hk <;> try (first|cases hk)
    rename_i hf
    simp only[Bool.and_eq_true]at hf
    have hu:=eD T hd
    simp only[TD.Is]at hu
    refine ⟨_,_,hk,by simp,fun id hid hfr => ?_⟩
    have hb:=p8 w (.map #[] 0)
    have Js:∀b,some w.heap.size=some b→w.heap.size≤b:=by intro b hb; cases hb; exact Nat.le_refl _
    have x':=uL (h:=h) (c:=c) hb hfr (.uW K V' []) (no:=0) Js
    have DW:nY (w.alloc (.map #[] 0)) (h.set id (.uW K V' [])) (c.put id (some w.heap.size) 0) id (.uW K V' []) :=
      ⟨w.heap.size, #[],0,c6 _ _ _,heap_alloc_new w _,(KW hf.1).2,KX hf.2,rfl,fun j q e hq=>by simp at hq⟩
    refine ⟨.map (some w.heap.size),_,_,?_,A6 wf hb hid hfr Js DW,x', .map (tX hid (by simp)) ⟨w.heap.size,rfl,fun _=>c6 _ _ _⟩⟩
    cases ZR with
    | none=>simp[execOp,Instr.makeMap]
    | some x =>
      have rx:=hρ x
      unfold Cv at VM
      simp only at VM
      split at VM
      · rename_i i n hx
        rw[hx]at rx
        simp[execOp,Instr.makeMap,run_underlying hu,rx.iI.1,asInt,asIntOf]
      · cases VM
  case range t x =>
    split at hk
    · rename_i s hd hx
      have rx:=hρ x
      rw[hx]at rx
      obtain ⟨bs,hv,rfl,hl⟩:=rx.kr
      have hu:=eD T hd
      simp only[TD.Is]at hu
      refine ⟨_,_,hk,by simp,fun id hid hf => ?_⟩
      have hb:=p8 w (.stringIter bs 0)
      have Js:∀b,some w.heap.size=some b→w.heap.size≤b:=by intro b hb; cases hb; exact Nat.le_refl _
      have x':=uL (h:=h) (c:=c) hb hf (.iter bs.data.toList 0) (no:=0) Js
      have DW:nY (w.alloc (.stringIter bs 0)) (h.set id (.iter bs.data.toList 0)) (c.put id (some w.heap.size) 0) id (.iter bs.data.toList 0) :=
        ⟨w.heap.size,bs,c6 _ _ _,heap_alloc_new w _,rfl,hl⟩
      refine ⟨.pointer (some ⟨w.heap.size,0,none⟩),_,_,?_,A6 wf hb hid hf Js DW,x', .ptr (tX hid (by simp)) ⟨w.heap.size,rfl,fun _=>c6 _ _ _⟩⟩
      simp[execOp,hv,Instr.range,run_underlying hu]
    · cases hk
end

section
variable {P:Program} {tt:dB} {w w':World} {h:ay} {c:jZ} {R:Type}

structure K2 (w w':World) (b:Nat) (cur:Array Value) (e:TypeId) (fz:Nat × Nat):Prop where
  os:w'.os=w.os
  tape:w'.tape=w.tape
  output:w'.output=w.output
  size:w'.heap.size=w.heap.size
  other:∀k,k≠b→w'.heap[k]? = w.heap[k]?
  here:w'.heap[b]? = some (.cells cur e fz)

theorem CA {w:World} {b:Nat} {arr:Array Value} {e:TypeId} {lo hi:Nat} (hb:w.heap[b]? = some (.cells arr e (lo,hi))) (x:Nat):w.frozen? ⟨b,x,none⟩=(decide (lo≤x)&&decide (x<hi)):=by
  simp[World.frozen?,hb]

theorem RA {w:World} {b:Nat} {arr:Array Value} {e:TypeId} {fz:Nat × Nat} (hb:w.heap[b]? = some (.cells arr e fz)) {o x:Nat} (hf:fz.1=fz.2∨fz.2≤o) (hx:o≤x):w.frozen? ⟨b,x,none⟩=false:=by
  obtain ⟨lo,hi⟩:=fz
  rw[CA hb]
  simp only at hf
  rcases hf with rfl|hf
  · by_cases h:lo≤x
    · simp[h]
    · simp[h]
  · have:¬x<hi:=by omega
    simp[this]

theorem nH (b o:Nat) (e:TypeId) (fz:Nat × Nat):∀(vs:List Value) (i:Nat) (cur:Array Value) (w:World),w.heap[b]? = some (.cells cur e fz)→o+i+vs.length≤cur.size →
    (∀x,o+i≤x→x<o+i+vs.length→w.frozen? ⟨b,x,none⟩=false)→Ri vs →
    ∃(w':World) (nv:Array Value),(storeCells ⟨b,o,none⟩ vs i).run P w = .ok () w'∧K2 w w' b nv e fz∧nv.toList=cur.toList.take (o+i)++vs++cur.toList.drop (o+i+vs.length)
  | [],i,cur,w,hb,_,_,_=>⟨w,cur,by simp[storeCells],⟨rfl,rfl,rfl,rfl,fun _ _=>rfl,hb⟩,by simp⟩
  | v::vs,i,cur,w,hb,hs,hf,h1=>by
    simp only[List.length_cons]at hs hf
    have hv:v.oneCell'=true:=h1 v (by simp)
    have ln:o+i<cur.size:=by omega
    have xA:w.cell? ⟨b,o+i,none⟩=some cur[o+i]:=by rw[cell_of_row w b _ cur e fz hb]; exact Array.getElem?_eq_getElem ln
    have SI:=hf (o+i) (Nat.le_refl _) (by omega)
    have hstore:(store ((⟨b,o,none⟩:Addr).add i) v).run P w = .ok () (w.setCell ⟨b,o+i,none⟩ v):=by
      rw[sQ,run_store P w _ v _ hv,xA]
      simp[SI]
    have o6:(w.setCell ⟨b,o+i,none⟩ v).heap[b]? = some (.cells (cur.setIfInBounds (o+i) v) e fz):=by
      simp[World.setCell,Array.getElem?_modify,hb]
    obtain ⟨w',nv,g1,g2,g3⟩:=nH b o e fz vs (i+1) (cur.setIfInBounds (o+i) v) (w.setCell ⟨b,o+i,none⟩ v) o6 (by simp; omega)
      (fun x hx1 hx2=>by rw[World.frozen?_setCell]; exact hf x (by omega) (by omega)) (fun d hd=>h1 d (by simp[hd]))
    refine ⟨w',nv,?_,⟨g2.os,g2.tape,g2.output,by rw[g2.size]; simp,fun k hk => ?_,g2.here⟩,?_⟩
    · simp only[storeCells,Sem.run_bind,hstore,Result.andThen_ok,g1]
    · rw[g2.other k hk]; exact heap_setCell_other w _ k v hk
    · rw[g3]
      have:=VG [v] 0 (o+i) cur (by simp; omega)
      simp only[List.zipIdx_cons,List.zipIdx_nil,List.foldl_cons,List.foldl_nil,Nat.add_zero,List.length_singleton]at this
      rw[this]
      have e1:o+(i+1)=o+i+1:=by omega
      have l1:(cur.toList.take (o+i) ++ [v]).length=o+i+1:=by simp; omega
      rw[e1,List.take_append_of_le_length (by omega),List.take_of_length_le (by omega)]
      have e2:o+i+1+vs.length=(cur.toList.take (o+i) ++ [v]).length+vs.length:=by omega
      rw[e2,List.drop_append]
      have e3:(cur.toList.take (o+i) ++ [v]).length+vs.length - (cur.toList.take (o+i) ++ [v]).length=vs.length:=by omega
      rw[e3,List.drop_eq_nil_of_le (by omega),List.nil_append,List.drop_drop]
      simp only[List.append_assoc,List.length_cons,List.cons_append]
      rw[List.nil_append,show o+i+1+vs.length=o+i+(vs.length+1)from by omega]

theorem He {i b:Nat} {o':bR} {cur nv:Array Value} {e:TypeId} {fz:Nat × Nat} (hb:c.sb i=some b) (Hf:w.heap[b]? = some (.cells cur e fz)) (hw:K2 w w' b nv e fz) (p6:nv.size=cur.size)
    (rD:(h.at i).from_ (c.off i)=some 0) (K3:o'.from_ (c.off i)=some 0) (tw:(h.at i).ir o'):Ext w h c w' (h.set i o') c:=by
  have hi:i<h.length:=ay.gp rfl (bR.Cx tw).1
  have mA:∀x,tu h c b x:=fun x=>⟨i,0,hb,rD,Nat.zero_le _⟩
  constructor
  · exact hw.os
  · exact hw.tape
  · exact hw.output
  · rw[hw.size]; exact Nat.le_refl _
  · intro j hj
    by_cases xk:i=j
    · subst xk
      refine ⟨by simpa using hj.1,?_⟩
      rw[mC _ hi]
      intro he; subst he; simp[bR.from_]at K3
    · exact ⟨by simpa using hj.1,by rw[cP _ xk]; exact hj.2⟩
  · intro j hj hd
    refine ⟨?_,rfl,rfl⟩
    by_cases xk:i=j
    · subst xk; rw[mC _ hi]; exact tw
    · rw[cP _ xk]at hd ⊢
      have h2:=hj.2
      revert hd h2
      cases h.at j <;> simp[bR.ir]
  · intro b' x hx ho
    have lp:b'≠b:=by rintro rfl; exact ho (mA x)
    exact sf (hw.other b' lp)
  · intro b' hx ho
    have lp:b'≠b:=by rintro rfl; exact ho 0 (mA 0)
    exact hw.other b' lp
  · rintro b' x hx ⟨j,f,g1,g2,g3⟩
    by_cases xk:i=j
    · subst xk
      rw[hb]at g1; cases g1
      exact mA x
    · rw[cP _ xk]at g2
      exact ⟨j,f,g1,g2,g3⟩
  · rfl
  · intro b' arr el Fx ha
    by_cases lp:b'=b
    · subst lp
      rw[Hf]at ha; cases ha
      exact ⟨nv,fz,hw.here,p6⟩
    · exact ⟨arr,Fx,by rw[hw.other b' lp]; exact ha,rfl⟩

theorem sR {o:bR} {f g:Nat} (hf:o.from_ f=some g):o.live:=by revert hf; cases o <;> simp[bR.from_,bR.live]

theorem Oi (wf:WF w h c) {i b:Nat} {o':bR} {cur nv:Array Value} {e:TypeId} {fz:Nat × Nat} (hb:c.sb i=some b) (Hf:w.heap[b]? = some (.cells cur e fz)) (hw:K2 w w' b nv e fz) (p6:nv.size=cur.size)
    (rD:(h.at i).from_ (c.off i)=some 0) (K3:o'.from_ (c.off i)=some 0) (tw:(h.at i).ir o') (DW:nY w' (h.set i o') c i o'):WF w' (h.set i o') c:=by
  have hi:i<h.length:=ay.gp rfl (bR.Cx tw).1
  have x:=He hb Hf hw p6 rD K3 tw
  have hli:=sR rD
  have PS:∀j,(ay.at (h.set i o') j).live→(h.at j).live:=fun j hj=>by
    by_cases xk:i=j
    · subst xk; exact hli
    · rw[cP _ xk]at hj; exact hj
  constructor
  · intro b' y ho he
    exact wf.xG b' y (x.vQ b' y (wf.o5 b' y he) ho) he
  · intro b' y he
    rw[hw.size]; exact wf.o5 b' y he
  · intro j hj
    by_cases xk:i=j
    · subst xk; rw[mC _ hi]; exact DW
    · rw[cP _ xk]
      by_cases hl:(h.at j).live
      · refine (wf.obj j (by simpa using hj)).keep x (fun b' o6=>hw.other b' ?_) rfl rfl
        rintro rfl
        exact xk (wf.inj i j b' hli hl hb o6)
      · revert hl; cases h.at j <;> simp[bR.live,nY]
  · intro j k b' hj hk h1 h2
    exact wf.inj j k b' (PS j hj) (PS k hk) h1 h2
  · exact wf.rC x

theorem RB {cs vs:List V} {o:Nat} (h:o+vs.length≤cs.length):(zn cs o vs).length=cs.length:=by simp[zn]; omega
theorem K4 {cs vs:List V} {ds us:List Value} (r:cz w h c cs ds) (s:cz w h c vs us) (o:Nat):cz w h c (zn cs o vs) (ds.take o++us++ds.drop (o+us.length)):=by
  unfold zn
  rw[s.1]
  exact ((r.take o).append s).append (r.drop _)

theorem PT (wf:WF w h c) {t:Nat} (T:xh P tt) {i o:Nat} {cs vs:List V} {a' y':Value} (ra:dw w h c (.ptr i o) a') (By:h.at i = .cells cs) (rv:cz w h c vs y'.cells.toList) (h1:Ri y'.cells.toList)
    (sP:tt.ok t=true) (p6:vs.length=(tt.at t).size) (ln:o+vs.length≤cs.length) :
    ∃w',(Instr.storeAt t a' y').run P w = .ok () w'∧WF w' (h.set i (.cells (zn cs o vs))) c∧Ext w h c w' (h.set i (.cells (zn cs o vs))) c:=by
  have hi:=ay.gp By (by simp)
  have ho:=wf.obj i hi
  rw[By]at ho
  obtain ⟨b,arr,e,g1,g2,g3⟩:=ho
  cases ra with
  | ptr hu hv =>
    obtain ⟨b',rfl,o6⟩:=hv
    have:=o6 (by rw[By]; simp)
    rw[g1]at this; cases this
    have hl:=g3.1
    simp only[Array.length_toList]at hl
    have YD:=rv.1
    obtain ⟨w',nv,k1,k2,k3⟩:=nH (P:=P) b o e (0,0) y'.cells.toList 0 arr w g2 (by omega) (fun x _ _=>vD g2 x) h1
    have Gr:nv.size=arr.size:=by
      rw[←Array.length_toList,k3]; simp only[Array.length_toList,List.length_append,List.length_take,List.length_drop]at *; omega
    have rD:(h.at i).from_ (c.off i)=some 0:=by rw[By]; rfl
    have tw:(h.at i).ir (.cells (zn cs o vs)):=by rw[By]; exact (RB ln).symm
    have x:=He g1 g2 k2 Gr rD rfl tw
    refine ⟨w',?_,Oi wf g1 g2 k2 Gr rD rfl tw ⟨b,nv,e,g1,k2.here,?_⟩,x⟩
    · simp only[Instr.storeAt,Instr.sureAddr,Sem.run_bind,Sem.run_pure,Result.andThen_ok,storeVar,T.sizeOf sP]
      rw[if_neg (by simp only[Array.length_toList]at YD; omega)]
      simp only[k1]
    · rw[k3]
      exact K4 (g3.mono x) (rv.mono x) _

theorem T6 (wf:WF w h c) {t:Nat} (T:xh P tt) {i:Nat} {u v:V} {a' y':Value} (ra:dw w h c (.ptr i 1) a') (By:h.at i = .kq u) (rv:cz w h c [v] y'.cells.toList) (h1:Ri y'.cells.toList)
    (sP:tt.ok t=true) (p6:1=(tt.at t).size) :
    ∃w',(Instr.storeAt t a' y').run P w = .ok () w'∧WF w' (h.set i (.kq v)) c∧Ext w h c w' (h.set i (.kq v)) c:=by
  have hi:=ay.gp By (by simp)
  have ho:=wf.obj i hi
  rw[By]at ho
  obtain ⟨b,p,d,g1,g2,g3,g4⟩:=ho
  cases ra with
  | ptr hu hv =>
    obtain ⟨b',rfl,o6⟩:=hv
    have:=o6 (by rw[By]; simp)
    rw[g1]at this; cases this
    have YD:=rv.1
    simp only[List.length_cons,List.length_nil]at YD
    obtain ⟨w',nv,k1,k2,k3⟩:=nH (P:=P) b 1 oq.kq (0,0) y'.cells.toList 0 #[p,d] w g2 (by simp at YD ⊢; omega) (fun x _ _=>vD g2 x) h1
    have Gr:nv.size=(#[p,d]:Array Value).size:=by
      rw[←Array.length_toList,k3]; simp at YD ⊢; omega
    have rD:(h.at i).from_ (c.off i)=some 0:=by rw[By]; rfl
    have tw:(h.at i).ir (.kq v):=by rw[By]; trivial
    have x:=He g1 g2 k2 Gr rD rfl tw
    refine ⟨w',?_,Oi wf g1 g2 k2 Gr rD rfl tw ?_,x⟩
    · simp only[Instr.storeAt,Instr.sureAddr,Sem.run_bind,Sem.run_pure,Result.andThen_ok,storeVar,T.sizeOf sP]
      rw[if_neg (by simp at YD; omega)]
      simp only[k1]
    · match hy:y'.cells.toList,YD with
      | [q],_ =>
        rw[hy]at k3 rv
        have Ki:nv = #[p,q]:=by
          apply Array.ext'
          rw[k3]; rfl
        exact ⟨b,p,q,g1,by rw[←Ki]; exact k2.here,g3,rv.head.mono x⟩

theorem PU {T':Ty} (l:List T'.den) (j:Nat) (y:T'.den):(bR.row T' l).ir (.row T' (l.set j y)):=⟨rfl,by simp⟩

theorem T7 (wf:WF w h c) {t:Nat} (T:xh P tt) {i n j o:Nat} {T':Ty} {l:List T'.den} {vs:List V} {a' y':Value} (ra:dw w h c (.sN i n j o) a') (Bx:h.at i = .row T' l) (rv:cz w h c vs y'.cells.toList) (h1:Ri y'.cells.toList)
    (sP:tt.ok t=true) (hn:n=T'.sz) (p6:vs.length=(tt.at t).size) (hj:j<l.length) (ln:o+vs.length≤(T'.cells (l.getD j T'.cg)).length) {y:T'.den} (hy:T'.dec (zn (T'.cells (l.getD j T'.cg)) o vs)=some y) :
    ∃w',(Instr.storeAt t a' y').run P w = .ok () w'∧WF w' (h.set i (.row T' (l.set j y))) c∧Ext w h c w' (h.set i (.row T' (l.set j y))) c:=by
  have hi:=ay.gp Bx (by simp)
  have ho:=wf.obj i hi
  rw[Bx]at ho
  rw[getD_eq hj]at ln hy
  have hclen:=T'.lh l[j]
  rcases ho with ⟨_,rfl⟩|⟨b,arr,e,fz,g1,g2,g3,g4,g5⟩
  · simp at hj
  · cases ra with
    | sN hu hv =>
      obtain ⟨a,rfl,hv⟩:=hv
      obtain ⟨b',o6,rfl⟩:=hv T' l Bx hn hj
      rw[g1]at o6; cases o6
      have YD:=rv.1
      have hm:=Nat.mul_le_mul_right T'.sz hj
      rw[Nat.succ_mul]at hm
      obtain ⟨w',nv,k1,k2,k3⟩:=nH (P:=P) b (c.off i+j*T'.sz+o) e fz y'.cells.toList 0 arr w g2 (by omega) (fun x _ hx=>g4 x (by omega)) h1
      have Gr:nv.size=arr.size:=by
        rw[←Array.length_toList,k3]; simp only[Array.length_toList,List.length_append,List.length_take,List.length_drop]at *; omega
      have rD:(h.at i).from_ (c.off i)=some 0:=by rw[Bx]; rfl
      have tw:(h.at i).ir (.row T' (l.set j y)):=by rw[Bx]; exact PU l j y
      have x:=He g1 g2 k2 Gr rD rfl tw
      obtain ⟨fl,fh⟩:=fz
      refine ⟨w',?_,Oi wf g1 g2 k2 Gr rD rfl tw (.inr ⟨b,nv,e,(fl,fh),g1,k2.here,by rw[Gr]; simpa using g3,fun x hx => ?_,fun n' q z v hz YU => ?_⟩),x⟩
      · simp only[Instr.storeAt,Instr.sureAddr,Sem.run_bind,Sem.run_pure,Result.andThen_ok,storeVar,T.sizeOf sP]
        rw[if_neg (by simp only[Array.length_toList]at YD; omega)]
        simp only[k1]
      · have:=g4 x (by omega)
        rw[CA g2]at this
        rw[CA k2.here]; exact this
      · have hq:q<T'.sz:=by rw[←T'.lh z]; exact (List.getElem?_eq_some_iff.1 YU).1
        rw[List.getElem?_set]at hz
        have Dc:∀p:Nat,nv[p]? = nv.toList[p]? :=fun p=>Array.getElem?_toList.symm
        rw[Dc,k3]
        by_cases hjn:j=n'
        · subst hjn
          rw[if_pos rfl,if_pos hj]at hz
          cases hz
          -- the element that is written
          have base:cz w h c (T'.cells l[j]) ((arr.toList.drop (c.off i+j*T'.sz)).take T'.sz):=by
            refine ⟨by rw[hclen]; simp; omega,fun x v d hv hd => ?_⟩
            obtain ⟨d',p1,p2⟩:=g5 j x l[j] v (List.getElem?_eq_getElem hj) hv
            rw[List.getElem?_take]at hd
            split at hd
            · rw[List.getElem?_drop]at hd
              have e1:arr[c.off i+j*T'.sz+x]? = some d:=by simpa using hd
              rw[p1]at e1; cases e1; exact p2
            · cases hd
          have sp:=(Fg hy (K4 base rv o)).mono x
          have PV:=sp.1
          have VF:q<(((arr.toList.drop (c.off i+j*T'.sz)).take T'.sz).take o++y'.cells.toList++((arr.toList.drop (c.off i+j*T'.sz)).take T'.sz).drop (o+y'.cells.toList.length)).length:=by
            rw[←PV,T'.lh]; exact hq
          refine ⟨_,?_,sp.2 q v _ YU (List.getElem?_eq_getElem VF)⟩
          rw[←List.getElem?_eq_getElem VF]
          simp only[List.getElem?_append,List.length_append,List.length_take,List.length_drop,List.getElem?_take,List.getElem?_drop,Array.length_toList,Nat.add_zero]at *
          by_cases c1:q<o
          · have e1:c.off i+j*T'.sz+q<c.off i+j*T'.sz+o:=by omega
            have e2:c.off i+j*T'.sz+q<min (c.off i+j*T'.sz+o) arr.size:=by omega
            have e3:c.off i+j*T'.sz+q<min (c.off i+j*T'.sz+o) arr.size+y'.cells.size:=by omega
            have e4:q<min o (min T'.sz (arr.size - (c.off i+j*T'.sz))):=by omega
            have e5:q<min o (min T'.sz (arr.size - (c.off i+j*T'.sz)))+y'.cells.size:=by omega
            simp only[e1,e2,e3,e4,e5,c1,hq,if_true]
          · have m1:min (c.off i+j*T'.sz+o) arr.size=c.off i+j*T'.sz+o:=by omega
            have m2:min o (min T'.sz (arr.size - (c.off i+j*T'.sz)))=o:=by omega
            rw[m1,m2]
            by_cases c2:q<o+y'.cells.size
            · have e1:c.off i+j*T'.sz+q<c.off i+j*T'.sz+o+y'.cells.size:=by omega
              have e2:¬c.off i+j*T'.sz+q<c.off i+j*T'.sz+o:=by omega
              have e3:c.off i+j*T'.sz+q - (c.off i+j*T'.sz+o)=q - o:=by omega
              simp only[e1,e2,e3,c1,c2,if_true,if_false]
            · have e1:¬c.off i+j*T'.sz+q<c.off i+j*T'.sz+o+y'.cells.size:=by omega
              have e3:c.off i+j*T'.sz+o+y'.cells.size+(c.off i+j*T'.sz+q - (c.off i+j*T'.sz+o+y'.cells.size))=c.off i+j*T'.sz+(o+y'.cells.size+(q - (o+y'.cells.size))):=by omega
              have e4:o+y'.cells.size+(q - (o+y'.cells.size))<T'.sz:=by omega
              simp only[e1,e3,e4,c2,if_true,if_false]
        · rw[if_neg hjn]at hz
          obtain ⟨d,p1,p2⟩:=g5 n' q z v hz YU
          refine ⟨d,?_,p2.mono x⟩
          have Pe:n'<l.length:=(List.getElem?_eq_some_iff.1 hz).1
          have p1':arr.toList[c.off i+n'*T'.sz+q]? = some d:=by simpa using p1
          simp only[Array.length_toList]at YD
          simp only[List.getElem?_append,List.length_append,List.length_take,List.getElem?_take,List.getElem?_drop,Array.length_toList,Nat.add_zero]
          rcases Nat.lt_or_ge n' j with hlt'|hge
          · have YV:=Nat.mul_le_mul_right T'.sz hlt'
            rw[Nat.succ_mul]at YV
            have e1:c.off i+n'*T'.sz+q<c.off i+j*T'.sz+o:=by omega
            have e2:c.off i+n'*T'.sz+q<min (c.off i+j*T'.sz+o) arr.size:=by omega
            have e3:c.off i+n'*T'.sz+q<min (c.off i+j*T'.sz+o) arr.size+y'.cells.size:=by omega
            simp only[e1,e2,e3,if_true]; exact p1'
          · have YV:=Nat.mul_le_mul_right T'.sz (show j+1≤n' by omega)
            rw[Nat.succ_mul]at YV
            have m1:min (c.off i+j*T'.sz+o) arr.size=c.off i+j*T'.sz+o:=by omega
            have e1:¬c.off i+n'*T'.sz+q<c.off i+j*T'.sz+o+y'.cells.size:=by omega
            have e3:c.off i+j*T'.sz+o+y'.cells.size+(c.off i+n'*T'.sz+q - (c.off i+j*T'.sz+o+y'.cells.size))=c.off i+n'*T'.sz+q:=by omega
            rw[m1]
            simp only[e1,e3,if_false]; exact p1'
end

section
variable {P:Program} {tt:dB} {w w':World} {h:ay} {c:jZ} {R:Type}

def kF (T:Ty):List T.den→List V
  | [] => []
  | x::l=>T.cells x++kF T l

theorem kM (T:Ty):∀l:List T.den,(kF T l).length=l.length*T.sz
  | []=>by simp[kF]
  | x::l=>by simp only[kF,List.length_append,T.lh,kM T l,List.length_cons,Nat.succ_mul]; omega

theorem tY (T:Ty):∀l m:List T.den,kF T (l++m)=kF T l++kF T m
  | [],m=>rfl
  | x::l,m=>by simp only[List.cons_append,kF,tY T l m,List.append_assoc]

theorem xJ (T:Ty):∀(l:List T.den) (i j:Nat) (x:T.den),l[i]? = some x→j<T.sz→(kF T l)[i*T.sz+j]? = (T.cells x)[j]?
  | [],i,j,x,hx,_=>by simp at hx
  | y::l,0,j,x,hx,hj=>by
    simp at hx; subst hx
    simp only[kF,Nat.zero_mul,Nat.zero_add]
    rw[List.getElem?_append_left (by rw[T.lh]; exact hj)]
  | y::l,i+1,j,x,hx,hj=>by
    simp at hx
    simp only[kF]
    rw[List.getElem?_append_right (by rw[T.lh,Nat.succ_mul]; omega),T.lh]
    rw[show (i+1)*T.sz+j - T.sz=i*T.sz+j from by rw[Nat.succ_mul]; omega]
    exact xJ T l i j x hx hj

theorem T8 (T:Ty) (x:T.den):(T.cells x).all V.one=true:=by cases T <;> rfl
theorem K5 (T:Ty):∀l:List T.den,(kF T l).all V.one=true
  | []=>rfl
  | x::l=>by simp only[kF,List.all_append,T8,K5 T l,Bool.and_true]

theorem RC {T:Ty} {n:Nat}:∀ {cs:List V} {ds:List Value} {l:List T.den},cs.length=n*T.sz→cz w h c cs ds→wg T (chunks T.sz n cs)=some l→cz w h c (kF T l) ds:=by
  induction n with
  | zero =>
    intro cs ds l hl r hd
    simp[chunks,wg]at hd
    subst hd
    have h0:cs = []:=List.eq_nil_of_length_eq_zero (by simpa using hl)
    subst h0
    exact r
  | succ n ih =>
    intro cs ds l hl r hd
    simp only[chunks,wg]at hd
    split at hd
    · rename_i x xs h1 h2
      cases hd
      rw[Nat.succ_mul]at hl
      have r1:=Fg h1 (r.take T.sz)
      have r2:=ih (by simp; omega) (r.drop T.sz) h2
      have:=r1.append r2
      rw[List.take_append_drop]at this
      exact this
    · cases hd

theorem PW {T:Ty} {l:List T.den} {t:Tok} {A:Option Addr} {n cap:Nat} (r:dw w h c (.sl T l t) (.slice A n cap)) :
    ∃ds,cz w h c (kF T l) ds∧(l ≠ []→∃b o,A=some ⟨b,o,none⟩∧rB w b o ds∧∀x,o≤x→x<o+l.length*T.sz→Fw h c b x):=by
  cases r with
  | sl f lB sd hc hr xF mA =>
    refine ⟨(List.range (l.length*T.sz)).map fun k=>f (k / T.sz) (k % T.sz),⟨by simp[kM],fun k v d hv hd => ?_⟩,fun lp => ?_⟩
    · have hk:k<l.length*T.sz:=by rw[←kM]; exact (List.getElem?_eq_some_iff.1 hv).1
      have Iu:=T.Da
      have hi:k / T.sz<l.length:=(Nat.div_lt_iff_lt_mul Iu).2 hk
      have hj:=Nat.mod_lt k Iu
      have e:k / T.sz*T.sz+k % T.sz=k:=by rw[Nat.mul_comm]; exact Nat.div_add_mod _ _
      have:=xJ T l (k / T.sz) (k % T.sz) _ (List.getElem?_eq_getElem hi) hj
      rw[e]at this
      rw[this]at hv
      simp only[List.getElem?_map,List.getElem?_range hk,Option.map_some,Option.some.injEq]at hd
      subst hd
      exact hr _ _ _ v (List.getElem?_eq_getElem hi) hv
    · have Iu:0<l.length:=List.length_pos_iff.2 lp
      obtain ⟨b,o,rfl,_⟩:=hc 0 0 Iu T.Da
      have all:∀k,k<l.length*T.sz→w.cell? ⟨b,o+k,none⟩=some (f (k / T.sz) (k % T.sz))∧Fw h c b (o+k):=by
        intro k hk
        have hi:k / T.sz<l.length:=(Nat.div_lt_iff_lt_mul T.Da).2 hk
        obtain ⟨b',o',e',g1,g2⟩:=hc _ _ hi (Nat.mod_lt k T.Da)
        cases e'
        have e:k / T.sz*T.sz+k % T.sz=k:=by rw[Nat.mul_comm]; exact Nat.div_add_mod _ _
        rw[Nat.add_assoc,e]at g1 g2
        exact ⟨g1,g2⟩
      refine ⟨b,o,rfl,fun k d hd => ?_,fun x h1 h2 => ?_⟩
      · simp only[List.getElem?_map]at hd
        by_cases hk:k<l.length*T.sz
        · rw[List.getElem?_range hk]at hd
          simp at hd; subst hd
          exact (all k hk).1
        · rw[List.getElem?_eq_none (by simp; omega)]at hd; cases hd
      · have:=(all (x - o) (by omega)).2
        rw[show o+(x - o)=x from by omega]at this
        exact this

theorem BV {T:Ty} {l:List T.den} {t:Tok} {A:Option Addr} {cap:Nat} {ds:List Value} (r:cz w h c (kF T l) ds) (lB:l.length≤cap) (sd:cap≤mx)
    (hA:l ≠ []→∃b o,A=some ⟨b,o,none⟩∧rB w b o ds∧∀x,o≤x→x<o+l.length*T.sz→Fw h c b x) (xF:t = .nil→A=none∧cap=0)
    (mA:∀i,t = .own i→Used h i∧(h.at i = .tok →
        (c.sb i=none∧A=none∧cap=0)∨∃b o arr e fz,c.sb i=some b∧A=some ⟨b,o,none⟩∧c.off i=o+l.length*T.sz ∧
          w.heap[b]? = some (.cells arr e fz)∧o+cap*T.sz≤arr.size∧Rg T o e)):dw w h c (.sl T l t) (.slice A l.length cap):=by
  have hlen:=r.1
  rw[kM]at hlen
  refine .sl (fun i j=>ds.getD (i*T.sz+j) undef) lB sd (fun i j hi hj => ?_) (fun i j x v hx hv => ?_) xF mA
  · have hk:i*T.sz+j<l.length*T.sz:=by
      have:=Nat.mul_le_mul_right T.sz hi
      rw[Nat.succ_mul]at this; omega
    obtain ⟨b,o,e,h1,h2⟩:=hA (by intro e; subst e; simp at hi)
    refine ⟨b,o,e,?_,h2 _ (by omega) (by omega)⟩
    rw[Nat.add_assoc]
    refine h1 _ _ ?_
    rw[List.getElem?_eq_getElem (by omega)]
    simp[List.getD,List.getElem?_eq_getElem (show i*T.sz+j<ds.length by omega)]
  · have hj:j<T.sz:=by rw[←T.lh x]; exact (List.getElem?_eq_some_iff.1 hv).1
    have hi:i<l.length:=(List.getElem?_eq_some_iff.1 hx).1
    have hk:i*T.sz+j<ds.length:=by
      have:=Nat.mul_le_mul_right T.sz hi
      rw[Nat.succ_mul]at this; omega
    have:=xJ T l i j x hx hj
    refine r.2 (i*T.sz+j) v _ (this.trans hv) ?_
    rw[List.getElem?_eq_getElem hk]
    simp[List.getD,List.getElem?_eq_getElem hk]

theorem Eu {b o n sz:Nat} {cap:Nat} {ds:List Value} (hl:ds.length=n*sz) (hc:rB w b o ds):(Builtin.firstCells sz n (.slice (some ⟨b,o,none⟩) n cap)).run P w = .ok ds.toArray w:=by
  have:=run_loadCells_list (P:=P) w ⟨b,o,none⟩ ds (fun j v hv=>by rw[sQ]; exact hc j v hv)
  rw[hl]at this
  simpa [Builtin.firstCells]using this

theorem zp {A:Option Addr} {n sz cap:Nat} (hn:n*sz=0):(Builtin.firstCells sz n (.slice A n cap)).run P w = .ok #[] w:=by
  cases A with
  | none=>simp[Builtin.firstCells]
  | some a =>
    simp only[Builtin.firstCells,hn]
    exact run_loadCells_list (P:=P) w a [] (fun j v hv=>by simp at hv)

theorem wm (T:xh P tt) {t xt e:Nat} (ht:(tt.at t).d = .slice e) (sP:tt.ok e=true) (Oj:(∃e',P.underlying xt=some (.slice e'))∨P.underlying xt=some .string)
    {A:Option Addr} {n cap m:Nat} {x:Value} {olds news:List Value} (ty:Nat)
    (hlx:(Builtin.lenOf x).run P w = .ok m w) (VN:∀W:World,W.heap=w.heap→(Builtin.firstCells (tt.at e).size m x).run P W = .ok news.toArray W) (MB:news.length=m*(tt.at e).size) (h1:Ri news)
    (holds:olds.length=n*(tt.at e).size) (hold:n≠0→∃b o,A=some ⟨b,o,none⟩∧rB w b o olds) (hncap:n≤cap) (hcapmx:cap≤mx)
    (hA:(A=none∧cap=0)∨∃b o arr el fz,A=some ⟨b,o,none⟩∧w.heap[b]? = some (.cells arr el fz)∧o+cap*(tt.at e).size≤arr.size∧∀y,o+n*(tt.at e).size≤y→y<arr.size→w.frozen? ⟨b,y,none⟩=false)
    (BW:(n+m)*(tt.at e).bytes≤140737488355328) (sd:n+m≤mx) :
    (n+m≤cap∧A=none∧m=0∧(Builtin.append_ #[t,xt] ty #[.slice A n cap,x]).run P w = .ok (.slice A (n+m) cap) w) ∨
    (n+m≤cap∧∃b o arr el fz w' nv,A=some ⟨b,o,none⟩∧w.heap[b]? = some (.cells arr el fz)∧o+cap*(tt.at e).size≤arr.size ∧
      (Builtin.append_ #[t,xt] ty #[.slice A n cap,x]).run P w = .ok (.slice A (n+m) cap) w'∧K2 w w' b nv el fz ∧
      nv.toList=arr.toList.take (o+n*(tt.at e).size)++news++arr.toList.drop (o+n*(tt.at e).size+news.length)) ∨
    (∃tz ds,n+m≤tz∧tz≤mx∧ds.size=tz*(tt.at e).size∧ds.toList.take ((n+m)*(tt.at e).size)=olds++news ∧
      (Builtin.append_ #[t,xt] ty #[.slice A n cap,x]).run P w = .ok (.slice (some ⟨w.heap.size,0,none⟩) (n+m) tz) (w.drew.alloc (.cells ds e))):=by
  have hu:=eD T ht
  simp only[TD.Is]at hu
  have hs:=T.sizeOf (w:=w) sP
  obtain ⟨inf,z,hi,hsi,hby,hzv,YA,KU⟩:=T.info e sP
  have hx:∃d,P.underlying xt=some d∧((∃e',d = .slice e')∨d = .string):=by
    rcases Oj with ⟨e',hx⟩|hx
    · exact ⟨_,hx, .inl ⟨e',rfl⟩⟩
    · exact ⟨_,hx, .inr rfl⟩
  by_cases PX:n+m≤cap
  · rcases hA with ⟨rfl,rfl⟩|⟨b,o,arr,el,fz,rfl,hb,p6,SI⟩
    · have YW:m=0:=by omega
      subst YW
      refine .inl ⟨PX,rfl,rfl,?_⟩
      have hn0:news = []:=List.eq_nil_of_length_eq_zero (by simpa using MB)
      have hf:=VN w rfl
      subst hn0
      rcases Oj with ⟨e',hx⟩|hx <;>
        simp[Builtin.append_,run_underlying hu,run_underlying hx,hs,hlx,hf,show n=0 from by omega]
    · refine .inr (.inl ⟨PX,b,o,arr,el,fz,?_⟩)
      have hf:=VN w rfl
      obtain ⟨w',nv,k1,k2,k3⟩:=nH (P:=P) b (o+n*(tt.at e).size) el fz news 0 arr w hb (by
        have:(n+m)*(tt.at e).size≤cap*(tt.at e).size:=Nat.mul_le_mul_right _ PX
        rw[Nat.add_mul]at this; omega) (fun y h1 h2=>SI y h1 (by
        have:(n+m)*(tt.at e).size≤cap*(tt.at e).size:=Nat.mul_le_mul_right _ PX
        rw[Nat.add_mul]at this; omega)) h1
      refine ⟨w',nv,rfl,hb,p6,?_,k2,by simpa using k3⟩
      rcases Oj with ⟨e',hx⟩|hx <;>
        simp[Builtin.append_,run_underlying hu,run_underlying hx,hs,hlx,hf,PX,sQ,k1]
  · refine .inr (.inr ?_)
    let tz:=(Question.appendCap (n+m) cap e).cut (w.tape w.drawn (.appendCap (n+m) cap e))
    have hge:n+m≤tz:=by simp only[tz,Question.cut]; omega
    have ln:tz≤mx:=by
      have ln:w.tape w.drawn (Question.appendCap (n+m) cap e) % (2 ^ 63 - (n+m))<2 ^ 63 - (n+m):=Nat.mod_lt _ (by unfold mx at sd; omega)
      simp only[tz,Question.cut]
      unfold mx at sd ⊢
      omega
    let ds:Array Value:=olds.toArray++news.toArray++Builtin.zeroCells z.cells (tz - (n+m))
    have hzl:(Builtin.zeroCells z.cells (tz - (n+m))).size=(tz - (n+m))*(tt.at e).size:=by
      simp[Builtin.zeroCells]; rw[YA,hsi]
    have hds:ds.size=tz*(tt.at e).size:=by
      simp only[ds,Array.size_append,List.size_toArray,holds,MB,hzl]
      rw[←Nat.add_mul,←Nat.add_mul]
      congr 1; omega
    refine ⟨tz,ds,hge,ln,hds,?_,?_⟩
    · have:ds.toList=(olds++news)++(Builtin.zeroCells z.cells (tz - (n+m))).toList:=by simp[ds]
      rw[this,List.take_append_of_le_length (by simp[holds,MB,Nat.add_mul]),List.take_of_length_le (by simp[holds,MB,Nat.add_mul])]
    · have hfo:(Builtin.firstCells (tt.at e).size n (.slice A n cap)).run P w.drew = .ok olds.toArray w.drew:=by
        by_cases hn0:n=0
        · subst hn0
          have:olds = []:=List.eq_nil_of_length_eq_zero (by simpa using holds)
          subst this
          exact zp (by simp)
        · obtain ⟨b,o,rfl,hc⟩:=hold hn0
          exact Eu holds hc
      have hf:=VN w.drew rfl
      have h48':¬(281474976710656<Builtin.nextslicecap (n+m) cap*(tt.at e).bytes):=by
        have:=growslice_fits (need:=n+m) (old:=cap) (by omega) BW
        omega
      have h63':¬(9223372036854775807<((n:Int)+(m:Int))):=by unfold mx at sd; omega
      have hsd:(sizeOf e).run P w.drew = .ok (tt.at e).size w.drew:=T.sizeOf sP
      rcases Oj with ⟨e',hx⟩|hx <;>
        simp[Builtin.append_,run_underlying hu,run_underlying hx,hs,hlx,PX,h63',typeInfo,hi,hby,h48',Question.forced,hfo,hf,zeroValue,hzv,newRow,ds,tz]
end

section
variable {P:Program} {tt:dB} {w w':World} {h:ay} {c:jZ} {R:Type}

theorem Nf {i b x:Nat} (ho:tu (h.set i .dead) c b x):tu h c b x:=by
  obtain ⟨j,f,g1,g2,g3⟩:=ho
  rw[mP]at g2
  split at g2
  · simp[bR.from_]at g2
  · exact ⟨j,f,g1,g2,g3⟩

theorem Ev (i:Nat):Ext w h c w (h.set i .dead) c where
  os:=rfl
  tape:=rfl
  output:=rfl
  size:=Nat.le_refl _
  used:=fun j hj=>⟨by simpa using hj.1,by rw[mP]; split; simp; exact hj.2⟩
  same:=fun j hj hd=>by
    rw[mP]at hd ⊢
    split
    · rename_i hc; rw[if_pos hc]at hd; exact absurd rfl hd
    · rename_i hc
      rw[if_neg hc]at hd
      refine ⟨?_,rfl,rfl⟩
      have h2:=hj.2
      revert hd h2
      cases h.at j <;> simp[bR.ir]
  cell:=fun _ _ _ _=>rfl
  block:=fun _ _ _=>rfl
  vQ:=fun b x _ ho=>Nf ho
  ext:=rfl
  arr:=fun b arr e fz hb=>⟨arr,fz,hb,rfl⟩

theorem Ol (wf:WF w h c) (i:Nat):WF w (h.set i .dead) c where
  lay:=wf.rC (Ev i)
  xG:=fun b x ho=>wf.xG b x (Nf ho)
  o5:=wf.o5
  obj:=fun j hj=>by
    rw[mP]
    split
    · trivial
    · exact (wf.obj j (by simpa using hj)).keep (Ev i) (fun _ _=>rfl) rfl rfl
  inj:=fun j k b hj hk h1 h2=>by
    have key:∀j,(ay.at (h.set i .dead) j).live→(h.at j).live:=fun j hj=>by
      rw[mP]at hj
      split at hj
      · exact hj.elim
      · exact hj
    exact wf.inj j k b (key j hj) (key k hk) h1 h2

theorem xK (w:World) (o:Obj):Below w.heap.size w (w.drew.alloc o):=((Below.refl _ _).drew).alloc (Nat.le_refl _) o

theorem Ng (wf:WF w h c) {id:Nat} (hid:id<h.length) (hf:h.at id = .free) {T:Ty} {l:List T.den} {us:List Value} (r:cz w h c (kF T l) us) {ds:Array Value} {e:TypeId} (Rz:Rg T 0 e) {cap:Nat}
    (hds:ds.size=cap*T.sz) (VO:ds.toList.take (l.length*T.sz)=us) (lB:l.length≤cap) (sd:cap≤mx) :
    ∃c',WF (w.drew.alloc (.cells ds e)) (h.set id .tok) c'∧Ext w h c (w.drew.alloc (.cells ds e)) (h.set id .tok) c'∧dw (w.drew.alloc (.cells ds e)) (h.set id .tok) c' (.sl T l (.own id)) (.slice (some ⟨w.heap.size,0,none⟩) l.length cap):=by
  have hb:=xK w (.cells ds e)
  have Js:∀b,some w.heap.size=some b→w.heap.size≤b:=by intro b hb; cases hb; exact Nat.le_refl _
  have Bw:(w.drew.alloc (.cells ds e)).heap[w.heap.size]? = some (.cells ds e (0,0)):=heap_alloc_new w.drew (.cells ds e)
  have x:=uL (h:=h) (c:=c) hb hf .tok (no:=l.length*T.sz) Js
  have hm:l.length*T.sz≤cap*T.sz:=Nat.mul_le_mul_right _ lB
  have DW:nY (w.drew.alloc (.cells ds e)) (h.set id .tok) (c.put id (some w.heap.size) (l.length*T.sz)) id .tok :=
    .inr ⟨w.heap.size,ds,e,(0,0),c6 _ _ _,Bw,by rw[ff]; omega, .inl rfl⟩
  refine ⟨_,A6 wf hb hid hf Js DW,x,BV (r.mono x) lB sd (fun _=>⟨w.heap.size,0,rfl,fun j d hd => ?_,fun y _ hy => ?_⟩) (by simp) (fun i hi => ?_)⟩
  · rw[Nat.zero_add,cell_of_row _ _ _ _ _ _ Bw]
    rw[←VO,List.getElem?_take]at hd
    split at hd
    · simpa using hd
    · cases hd
  · refine Ci wf _ _ _ (fun f T2 => ?_) hid
    simp[bR.from_]at T2
    omega
  · cases hi
    exact ⟨tX hid (by simp),fun _ => .inr ⟨w.heap.size,0,ds,e,(0,0),c6 _ _ _,rfl,by rw[ff,Nat.zero_add],Bw,by omega,Rz⟩⟩

theorem Nh (wf:WF w h c) {id:Nat} (hid:id<h.length) (hf:h.at id = .free) {T:Ty} {l:List T.den} {us:List Value} (r:cz w h c (kF T l) us) {ds:Array Value} {e:TypeId} {cap:Nat}
    (hds:ds.size=cap*T.sz) (VO:ds.toList.take (l.length*T.sz)=us) (lB:l.length≤cap) (sd:cap≤mx) :
    ∃c',WF (w.drew.alloc (.cells ds e)) (h.set id (.row T l)) c'∧Ext w h c (w.drew.alloc (.cells ds e)) (h.set id (.row T l)) c' ∧
      dw (w.drew.alloc (.cells ds e)) (h.set id (.row T l)) c' (.row id l.length) (.slice (some ⟨w.heap.size,0,none⟩) l.length cap):=by
  have hb:=xK w (.cells ds e)
  have Js:∀b,some w.heap.size=some b→w.heap.size≤b:=by intro b hb; cases hb; exact Nat.le_refl _
  have Bw:(w.drew.alloc (.cells ds e)).heap[w.heap.size]? = some (.cells ds e (0,0)):=heap_alloc_new w.drew (.cells ds e)
  have x:=uL (h:=h) (c:=c) hb hf (.row T l) (no:=0) Js
  have hm:l.length*T.sz≤cap*T.sz:=Nat.mul_le_mul_right _ lB
  have r':=r.mono x
  have DW:nY (w.drew.alloc (.cells ds e)) (h.set id (.row T l)) (c.put id (some w.heap.size) 0) id (.row T l):=by
    refine .inr ⟨w.heap.size,ds,e,(0,0),c6 _ _ _,Bw,by rw[ff]; omega,fun y _=>vD Bw y,fun n j z v hz hv => ?_⟩
    have hj:j<T.sz:=by rw[←T.lh z]; exact (List.getElem?_eq_some_iff.1 hv).1
    have hn:n<l.length:=(List.getElem?_eq_some_iff.1 hz).1
    have ln:n*T.sz+j<l.length*T.sz:=by
      have:=Nat.mul_le_mul_right T.sz hn
      rw[Nat.succ_mul]at this; omega
    have hl:=r.1
    rw[kM]at hl
    have hg:=List.getElem?_eq_getElem (show n*T.sz+j<us.length by omega)
    refine ⟨us[n*T.sz+j]'(by omega),?_,r'.2 _ v _ ((xJ T l n j z hz hj).trans hv) hg⟩
    rw[ff,Nat.zero_add,←hg,←VO,List.getElem?_take,if_pos ln]
    simp
  refine ⟨_,A6 wf hb hid hf Js DW,x, .row (tX hid (by simp)) (by omega) ⟨_,_,rfl,fun _=>⟨_,rfl⟩,fun T' l' he => ?_⟩⟩
  rw[mC _ hid]at he
  cases he
  exact ⟨rfl,lB,sd, .inr ⟨w.heap.size,ds,e,(0,0),c6 _ _ _,by rw[ff],Bw,by rw[ff]; omega⟩⟩

theorem Hg (wf:WF w h c) {id:Nat} (hid:id<h.length) (hf:h.at id = .free) {T:Ty} :
    ∃c',WF w (h.set id .tok) c'∧Ext w h c w (h.set id .tok) c'∧dw w (h.set id .tok) c' (.sl T [] (.own id)) (.slice none 0 0):=by
  have Js:∀b,(none:Option Nat)=some b→w.heap.size≤b:=by intro b hb; cases hb
  have x:=uL (h:=h) (c:=c) (Below.refl w.heap.size w) hf .tok (no:=0) Js
  refine ⟨_,A6 wf (Below.refl _ _) hid hf Js (.inl (c6 _ _ _)),x,?_⟩
  exact BV (l := []) (ds := []) cz.nil (Nat.le_refl _) (by unfold mx; omega) (fun h=>absurd rfl h) (by simp) (fun i hi=>by
    cases hi; exact ⟨tX hid (by simp),fun _ => .inl ⟨c6 _ _ _,rfl,rfl⟩⟩)

theorem K6 (wf:WF w h c) {id:Nat} (hid:id<h.length) (hf:h.at id = .free) {T:Ty} :
    ∃c',WF w (h.set id (.row T [])) c'∧Ext w h c w (h.set id (.row T [])) c'∧dw w (h.set id (.row T [])) c' (.row id 0) (.slice none 0 0):=by
  have Js:∀b,(none:Option Nat)=some b→w.heap.size≤b:=by intro b hb; cases hb
  have x:=uL (h:=h) (c:=c) (Below.refl w.heap.size w) hf (.row T []) (no:=0) Js
  refine ⟨_,A6 wf (Below.refl _ _) hid hf Js (.inl ⟨c6 _ _ _,rfl⟩),x,?_⟩
  refine .row (tX hid (by simp)) (by unfold mx; omega) ⟨none,0,rfl,fun h=>by omega,fun T' l' he => ?_⟩
  rw[mC _ hid]at he
  cases he
  exact ⟨rfl,Nat.le_refl _,by unfold mx; omega, .inl ⟨c6 _ _ _,rfl,rfl⟩⟩

theorem Gt (s:ak):(Gj s).length=s.length := @List.length_map UInt8 Int s _
theorem Hh:∀s:ak,kF (.int .u8) (Gj s)=s.map fun b=>V.int .u8 b.toNat
  | []=>rfl
  | b::s=>by
    show V.int .u8 b.toNat::kF (.int .u8) (Gj s)=_
    rw[Hh s]; rfl

theorem Om (wf:WF w h c) {i:Nat} {T:Ty} {l:List T.den} (he:h.at i = .row T l) :
    ∃ds,cz w h c (kF T l) ds∧(l ≠ []→∃b,c.sb i=some b∧rB w b (c.off i) ds):=by
  have hi:=ay.gp he (by simp)
  have ho:=wf.obj i hi
  rw[he]at ho
  rcases ho with ⟨_,rfl⟩|⟨b,arr,e,fz,h1,h2,h3,h4,h5⟩
  · exact ⟨[], .nil,fun h=>absurd rfl h⟩
  · refine ⟨(arr.toList.drop (c.off i)).take (l.length*T.sz),⟨by rw[kM]; simp; omega,fun k v d hv hd => ?_⟩,fun _=>⟨b,h1,fun k d hd => ?_⟩⟩
    · have hk:k<l.length*T.sz:=by rw[←kM]; exact (List.getElem?_eq_some_iff.1 hv).1
      have hq:k / T.sz<l.length:=(Nat.div_lt_iff_lt_mul T.Da).2 hk
      have hj:=Nat.mod_lt k T.Da
      have e:k / T.sz*T.sz+k % T.sz=k:=by rw[Nat.mul_comm]; exact Nat.div_add_mod _ _
      have hg:=xJ T l (k / T.sz) (k % T.sz) _ (List.getElem?_eq_getElem hq) hj
      rw[e]at hg
      rw[hg]at hv
      obtain ⟨d',p1,p2⟩:=h5 _ _ _ v (List.getElem?_eq_getElem hq) hv
      rw[Nat.add_assoc,e]at p1
      rw[List.getElem?_take,if_pos hk,List.getElem?_drop]at hd
      have e1:arr[c.off i+k]? = some d:=by simpa using hd
      rw[p1]at e1; cases e1; exact p2
    · rw[List.getElem?_take]at hd
      split at hd
      · rw[List.getElem?_drop]at hd
        rw[cell_of_row w b _ arr e fz h2]; simpa using hd
      · cases hd

theorem T9 (wf:WF w h c) {T:Ty} {sz:Nat} (p6:T.sz=sz) {v:V} {v':Value} (rv:dw w h c v v') {m:List T.den} (hs:Jm T h v=some m) :
    ∃news,(Builtin.lenOf v').run P w = .ok m.length w∧(∀W:World,W.heap=w.heap→(Builtin.firstCells sz m.length v').run P W = .ok news.toArray W)∧cz w h c (kF T m) news∧m.length≤mx:=by
  subst p6
  have xA:∀(W:World) (b x:Nat),W.heap=w.heap→W.cell? ⟨b,x,none⟩=w.cell? ⟨b,x,none⟩:=fun W b x hW=>by simp only[World.cell?,hW]
  have key:∀(A:Option Addr) (cap:Nat) (news:List Value),cz w h c (kF T m) news→(m ≠ []→∃b o,A=some ⟨b,o,none⟩∧rB w b o news) →
      ∀W:World,W.heap=w.heap→(Builtin.firstCells T.sz m.length (.slice A m.length cap)).run P W = .ok news.toArray W:=by
    intro A cap news hr hA W hW
    have hl:=hr.1
    rw[kM]at hl
    by_cases hm:m = []
    · subst hm
      have:news = []:=List.eq_nil_of_length_eq_zero (by simpa using hl.symm)
      subst this
      exact zp (by simp)
    · obtain ⟨b,o,rfl,hc⟩:=hA hm
      exact Eu hl.symm (fun j d hd=>by rw[xA W _ _ hW]; exact hc j d hd)
  unfold Jm at hs
  split at hs
  · cases hs
    cases rv
    exact ⟨[],by simp[Builtin.lenOf],fun W hW=>zp (by simp), .nil,by simp⟩
  · rename_i T' l t
    split at hs
    · rename_i e
      subst e
      obtain rfl:l=m:=by simpa using hs
      obtain ⟨A,cap,rfl,h1,h2⟩:=Iw rv
      obtain ⟨ds,g1,g2⟩:=PW rv
      exact ⟨ds,by simp[Builtin.lenOf],key A cap ds g1 (fun lp=>by obtain ⟨b,o,q1,q2,_⟩:=g2 lp; exact ⟨b,o,q1,q2⟩),g1,by omega⟩
    · cases hs
  · rename_i i n
    split at hs
    · rename_i T' l Bx
      split at hs
      · rename_i e
        subst e
        obtain rfl:l=m:=by simpa using hs
        cases rv with
        | row hu hn hv =>
          obtain ⟨A,cap,rfl,hA,hv⟩:=hv
          obtain ⟨g1,g2,g3,g4⟩:=hv _ _ Bx
          obtain ⟨ds,k1,k2⟩:=Om wf Bx
          subst g1
          exact ⟨ds,by simp[Builtin.lenOf],key A cap ds k1 (fun lp=>by
            obtain ⟨b,q1,q2⟩:=k2 lp
            rcases g4 with ⟨p1,_⟩|⟨b',arr,el,fz,p1,p2,_⟩
            · rw[q1]at p1; cases p1
            · rw[q1]at p1; cases p1
              exact ⟨b,_,p2,q2⟩),k1,hn⟩
      · cases hs
    · cases hs
  · rename_i n cs
    split at hs
    · rename_i El
      cases rv with
      | @Mn _ sz' _ A hn sd f hc hr =>
        have ZU:cz w h c cs ((List.range cs.length).map f):=by
          refine ⟨by simp,fun j v d hv hd => ?_⟩
          have ln:j<cs.length:=(List.getElem?_eq_some_iff.1 hv).1
          simp only[List.getElem?_map,List.getElem?_range ln,Option.map_some,Option.some.injEq]at hd
          subst hd
          exact hr j v hv
        have G6:=RC El ZU hs
        have ZZ:m.length=n:=by rw[De hs,Dd]
        rw[←ZZ]
        exact ⟨_,by simp[Builtin.lenOf],key A m.length _ G6 (fun lp=>by
          have Iu:0<cs.length:=by
            have:=List.length_pos_iff.2 lp
            rw[El,←ZZ]
            exact Nat.mul_pos this T.Da
          obtain ⟨b,o,rfl,_⟩:=hc 0 Iu
          refine ⟨b,o,rfl,fun j d hd => ?_⟩
          simp only[List.getElem?_map]at hd
          by_cases ln:j<cs.length
          · rw[List.getElem?_range ln]at hd
            simp at hd; subst hd
            obtain ⟨b',o',e',q1,_⟩:=hc j ln
            cases e'
            exact q1
          · rw[List.getElem?_eq_none (by simp; omega)]at hd; cases hd),G6,by omega⟩
    · cases hs
  · rename_i s
    split at hs
    · rename_i e
      subst e
      obtain ⟨t,rfl,rfl,hl⟩:=rv.kr
      obtain rfl:Gj t.data.toList=m:=by simpa using hs
      refine ⟨t.data.toList.map fun b=>Value.int .u8 b.toNat,?_,fun W hW => ?_,?_,?_⟩
      · rw[Gt,size_data]; simp[Builtin.lenOf]
      · rw[Gt,size_data]
        simp only[Builtin.firstCells,Sem.run_pure]
        congr 1
        apply Array.ext'
        simp
      · rw[Hh]; exact cz.map _ fun b _ => .int (KR _ (UInt8.toNat_lt b))
      · rw[Gt,size_data]; exact hl
    · cases hs
  · cases hs

theorem YX (wf:WF w h c) {i id:Nat} (hi:h.at i = .tok) (hid:id<h.length) (hf:h.at id = .free) {b o:Nat} (hb:c.sb i=some b) {T:Ty} {l m:List T.den} (hoff:c.off i=o+l.length*T.sz)
    {arr nv:Array Value} {el:TypeId} (Rz:Rg T o el) {fz:Nat × Nat} (A7:w.heap[b]? = some (.cells arr el fz)) (hw:K2 w w' b nv el fz) {cap:Nat} (lB:(l++m).length≤cap) (sd:cap≤mx) (p6:o+cap*T.sz≤arr.size)
    {olds news:List Value} (ro:cz w h c (kF T l) olds) (rn:cz w h c (kF T m) news) (hold:l ≠ []→rB w b o olds) (hun:∀x,o≤x→x<o+l.length*T.sz→Fw h c b x)
    (Hf:nv.toList=arr.toList.take (o+l.length*T.sz)++news++arr.toList.drop (o+l.length*T.sz+news.length)) :
    ∃c',WF w' ((h.set i .dead).set id .tok) c'∧Ext w h c w' ((h.set i .dead).set id .tok) c'∧dw w' ((h.set i .dead).set id .tok) c' (.sl T (l++m) (.own id)) (.slice (some ⟨b,o,none⟩) (l++m).length cap):=by
  have lp:i≠id:=by rintro rfl; rw[hi]at hf; cases hf
  have Ua:=ay.gp hi (by simp)
  have PY:=ro.1
  have PV:=rn.1
  rw[kM]at PY PV
  have hmul:(l++m).length*T.sz≤cap*T.sz:=Nat.mul_le_mul_right _ lB
  have hlm:(l++m).length*T.sz=l.length*T.sz+m.length*T.sz:=by rw[List.length_append,Nat.add_mul]
  have By:nv.size=arr.size:=by
    rw[←Array.length_toList,Hf]; simp only[List.length_append,List.length_take,List.length_drop,Array.length_toList]; omega
  have Ub:id<(h.set i .dead).length:=by simpa using hid
  have Pf:∀j,ay.at ((h.set i .dead).set id .tok) j=if id=j then .tok else if i=j then .dead else h.at j:=by
    intro j
    rw[mP,mP]
    by_cases h1:id=j
    · simp[h1]; intro h2; subst h1; omega
    · simp only[h1,false_and,if_false]
      by_cases h2:i=j
      · subst h2; simp[Ua]
      · simp[h2]
  have Ki:∀j,j≠id→(c.put id (some b) (o+(l++m).length*T.sz)).sb j=c.sb j∧(c.put id (some b) (o+(l++m).length*T.sz)).off j=c.off j:=fun j hj=>⟨qe _ _ hj,xH _ _ hj⟩
  have IC:∀j,j≠i→(h.at j).live→c.sb j≠some b:=fun j hj hl hbj=>hj (wf.inj j i b hl (by rw[hi]; trivial) hbj hb)
  have VP:∀x,x<o+l.length*T.sz→w'.cell? ⟨b,x,none⟩=w.cell? ⟨b,x,none⟩:=by
    intro x hx
    rw[cell_of_row w' b x nv el fz hw.here,cell_of_row w b x arr el fz A7,←Array.getElem?_toList,←Array.getElem?_toList,Hf,List.append_assoc,
      List.getElem?_append_left (by simp only[List.length_take,Array.length_toList]; omega),List.getElem?_take,if_pos hx]
  have Hi:∀b' x,tu ((h.set i .dead).set id .tok) (c.put id (some b) (o+(l++m).length*T.sz)) b' x→tu h c b' x:=by
    rintro b' x ⟨j,f,g1,g2,g3⟩
    rw[Pf]at g2
    by_cases h1:id=j
    · subst h1
      rw[c6]at g1
      cases g1
      rw[if_pos rfl,ff]at g2
      simp only[bR.from_,Option.some.injEq]at g2
      exact ⟨i,c.off i,hb,by rw[hi]; rfl,by omega⟩
    · rw[if_neg h1]at g2
      split at g2
      · simp[bR.from_]at g2
      · obtain ⟨e1,e2⟩:=Ki j (Ne.symm h1)
        rw[e1]at g1; rw[e2]at g2
        exact ⟨j,f,g1,g2,g3⟩
  have x:Ext w h c w' ((h.set i .dead).set id .tok) (c.put id (some b) (o+(l++m).length*T.sz)):=by
    constructor
    · exact hw.os
    · exact hw.tape
    · exact hw.output
    · rw[hw.size]; exact Nat.le_refl _
    · intro j hj
      refine ⟨by simpa using hj.1,?_⟩
      rw[Pf]
      split
      · simp
      · split
        · simp
        · exact hj.2
    · intro j hj hd
      have RD:id≠j:=by rintro rfl; exact hj.2 hf
      rw[Pf,if_neg RD]at hd ⊢
      split
      · rename_i h2; rw[if_pos h2]at hd; exact absurd rfl hd
      · rename_i h2
        rw[if_neg h2]at hd
        refine ⟨?_,(Ki j (Ne.symm RD)).1,(Ki j (Ne.symm RD)).2⟩
        have h3:=hj.2
        revert hd h3
        cases h.at j <;> simp[bR.ir]
    · intro b' y hy ho
      by_cases SK:b'=b
      · subst SK
        refine VP y ?_
        rcases Nat.lt_or_ge y (o+l.length*T.sz)with h1|h1
        · exact h1
        · exact absurd ⟨i,c.off i,hb,by rw[hi]; rfl,by omega⟩ ho
      · exact sf (hw.other b' SK)
    · intro b' o6 ho
      have SK:b'≠b:=by
        rintro rfl
        exact ho (c.off i) ⟨i,c.off i,hb,by rw[hi]; rfl,Nat.le_refl _⟩
      exact hw.other b' SK
    · intro b' y _ ho; exact Hi b' y ho
    · rfl
    · intro b' Es e' Fx ha
      by_cases SK:b'=b
      · subst SK
        rw[A7]at ha; cases ha
        exact ⟨nv,fz,hw.here,By⟩
      · exact ⟨Es,Fx,by rw[hw.other b' SK]; exact ha,rfl⟩
  obtain ⟨fl,fh⟩:=fz
  have hti:=wf.obj i Ua
  rw[hi]at hti
  have SI:fl=fh∨fh≤o+l.length*T.sz:=by
    rcases hti with h0|⟨b',Es,e',Fx,p1,p2,p3,p4⟩
    · rw[hb]at h0; cases h0
    · rw[hb]at p1; cases p1
      rw[A7]at p2; cases p2
      rw[hoff]at p4
      exact p4
  have SL:WF w' ((h.set i .dead).set id .tok) (c.put id (some b) (o+(l++m).length*T.sz)):=by
    constructor
    · intro b' y ho; exact wf.xG b' y (Hi b' y ho)
    · intro b' y he; rw[hw.size]; exact wf.o5 b' y he
    · intro j hj
      rw[Pf]
      by_cases h1:id=j
      · subst h1
        rw[if_pos rfl]
        refine .inr ⟨b,nv,el,(fl,fh),c6 _ _ _,hw.here,by rw[ff]; omega,?_⟩
        rw[ff]
        have:l.length*T.sz≤(l++m).length*T.sz:=Nat.mul_le_mul_right _ (by simp)
        exact SI.imp (fun e=>e) fun hh=>Nat.le_trans hh (by omega)
      · rw[if_neg h1]
        split
        · trivial
        · rename_i h2
          by_cases hl:(h.at j).live
          · refine (wf.obj j (by simpa using hj)).keep x (fun b' o6=>hw.other b' ?_) (Ki j (Ne.symm h1)).1 (Ki j (Ne.symm h1)).2
            rintro rfl
            exact IC j (Ne.symm h2) hl o6
          · revert hl; cases h.at j <;> simp[bR.live,nY]
    · intro j k b' hj hk h1 h2
      rw[Pf]at hj hk
      by_cases e1:id=j <;> by_cases e2:id=k
      · exact e1.symm.trans e2
      · subst e1
        rw[c6]at h1; cases h1
        rw[if_neg e2]at hk
        rw[(Ki k (Ne.symm e2)).1]at h2
        split at hk
        · exact hk.elim
        · rename_i h3; exact absurd h2 (IC k (Ne.symm h3) hk)
      · subst e2
        rw[c6]at h2; cases h2
        rw[if_neg e1]at hj
        rw[(Ki j (Ne.symm e1)).1]at h1
        split at hj
        · exact hj.elim
        · rename_i h3; exact absurd h1 (IC j (Ne.symm h3) hj)
      · rw[if_neg e1]at hj
        rw[if_neg e2]at hk
        rw[(Ki j (Ne.symm e1)).1]at h1
        rw[(Ki k (Ne.symm e2)).1]at h2
        split at hj
        · exact hj.elim
        · split at hk
          · exact hk.elim
          · exact wf.inj j k b' hj hk h1 h2
    · exact wf.rC x
  refine ⟨_,SL,x,?_⟩
  have rr:cz w' ((h.set i .dead).set id .tok) (c.put id (some b) (o+(l++m).length*T.sz)) (kF T (l++m)) (olds++news):=by
    rw[tY]; exact (ro.mono x).append (rn.mono x)
  refine BV rr lB sd (fun _=>⟨b,o,rfl,fun j d hd => ?_,fun y h1 h2=>⟨fun ho => ?_,fun he => ?_⟩⟩) (by simp) (fun k hk => ?_)
  · by_cases hj:j<olds.length
    · rw[List.getElem?_append_left hj]at hd
      have hlne:l ≠ []:=by rintro rfl; simp at PY; omega
      rw[VP (o+j) (by omega)]
      exact hold hlne j d hd
    · rw[List.getElem?_append_right (by omega)]at hd
      have hj2:j - olds.length<news.length:=(List.getElem?_eq_some_iff.1 hd).1
      have l1:(arr.toList.take (o+l.length*T.sz)).length=o+l.length*T.sz:=by simp only[List.length_take,Array.length_toList]; omega
      rw[cell_of_row w' b _ nv el (fl,fh) hw.here,←Array.getElem?_toList,Hf,List.append_assoc,List.getElem?_append_right (by omega),l1,List.getElem?_append_left (by omega)]
      rw[←hd]; congr 1; omega
  · obtain ⟨j,f,g1,g2,g3⟩:=ho
    rw[Pf]at g2
    by_cases e1:id=j
    · subst e1
      rw[if_pos rfl,ff]at g2
      simp only[bR.from_,Option.some.injEq]at g2
      omega
    · rw[if_neg e1]at g2
      rw[(Ki j (Ne.symm e1)).1]at g1
      split at g2
      · simp[bR.from_]at g2
      · rename_i h3; exact IC j (Ne.symm h3) (sR g2) g1
  · rcases Nat.lt_or_ge y (o+l.length*T.sz)with q|q
    · exact (hun y h1 q).2 he
    · exact wf.xG b y ⟨i,c.off i,hb,by rw[hi]; rfl,by omega⟩ he
  · cases hk
    refine ⟨⟨by simpa using hid,by rw[Pf,if_pos rfl]; simp⟩,fun _ => .inr ⟨b,o,nv,el,(fl,fh),c6 _ _ _,rfl,ff _ _ _,hw.here,by rw[By]; exact p6,Rz⟩⟩
end

section
variable {P:Program} {tt:dB} {w w':World} {h:ay} {c:jZ} {R:Type}

theorem On {T:Ty} {l:List T.den} {us:List Value} (r:cz w h c (kF T l) us) {arr:Array Value} {off:Nat} (ha:∀(k:Nat) (d:Value),us[k]? = some d→arr[off+k]? = some d) :
    ∀(n j:Nat) (x:T.den) (v:V),l[n]? = some x→(T.cells x)[j]? = some v→∃d,arr[off+n*T.sz+j]? = some d∧dw w h c v d:=by
  intro n j z v hz hv
  have hj:j<T.sz:=by rw[←T.lh z]; exact (List.getElem?_eq_some_iff.1 hv).1
  have hn:n<l.length:=(List.getElem?_eq_some_iff.1 hz).1
  have ln:n*T.sz+j<l.length*T.sz:=by
    have:=Nat.mul_le_mul_right T.sz hn
    rw[Nat.succ_mul]at this; omega
  have hl:=r.1
  rw[kM]at hl
  have hg:=List.getElem?_eq_getElem (show n*T.sz+j<us.length by omega)
  exact ⟨_,by rw[Nat.add_assoc]; exact ha _ _ hg,r.2 _ v _ ((xJ T l n j z hz hj).trans hv) hg⟩

theorem YY (wf:WF w h c) {i id:Nat} {T:Ty} {l m:List T.den} (hi:h.at i = .row T l) (hid:id<h.length) (hf:h.at id = .free) {b:Nat} (hb:c.sb i=some b)
    {arr nv:Array Value} {el:TypeId} {fz:Nat × Nat} (A7:w.heap[b]? = some (.cells arr el fz)) (hw:K2 w w' b nv el fz) {cap:Nat} (lB:(l++m).length≤cap) (sd:cap≤mx) (p6:c.off i+cap*T.sz≤arr.size)
    {olds news:List Value} (ro:cz w h c (kF T l) olds) (rn:cz w h c (kF T m) news) (hold:l ≠ []→rB w b (c.off i) olds)
    (Hf:nv.toList=arr.toList.take (c.off i+l.length*T.sz)++news++arr.toList.drop (c.off i+l.length*T.sz+news.length)) :
    ∃c',WF w' ((h.set i .dead).set id (.row T (l++m))) c'∧Ext w h c w' ((h.set i .dead).set id (.row T (l++m))) c' ∧
      dw w' ((h.set i .dead).set id (.row T (l++m))) c' (.row id (l++m).length) (.slice (some ⟨b,c.off i,none⟩) (l++m).length cap):=by
  have lp:i≠id:=by rintro rfl; rw[hi]at hf; cases hf
  have Ua:=ay.gp hi (by simp)
  have PY:=ro.1
  have PV:=rn.1
  rw[kM]at PY PV
  have hmul:(l++m).length*T.sz≤cap*T.sz:=Nat.mul_le_mul_right _ lB
  have hlm:(l++m).length*T.sz=l.length*T.sz+m.length*T.sz:=by rw[List.length_append,Nat.add_mul]
  have By:nv.size=arr.size:=by
    rw[←Array.length_toList,Hf]; simp only[List.length_append,List.length_take,List.length_drop,Array.length_toList]; omega
  have Pf:∀j,ay.at ((h.set i .dead).set id (.row T (l++m))) j=if id=j then .row T (l++m)else if i=j then .dead else h.at j:=by
    intro j
    rw[mP,mP]
    by_cases h1:id=j
    · simp[h1]; intro h2; subst h1; omega
    · simp only[h1,false_and,if_false]
      by_cases h2:i=j
      · subst h2; simp[Ua]
      · simp[h2]
  have Ki:∀j,j≠id→(c.put id (some b) (c.off i)).sb j=c.sb j∧(c.put id (some b) (c.off i)).off j=c.off j:=fun j hj=>⟨qe _ _ hj,xH _ _ hj⟩
  have IC:∀j,j≠i→(h.at j).live→c.sb j≠some b:=fun j hj hl hbj=>hj (wf.inj j i b hl (by rw[hi]; trivial) hbj hb)
  have mA:∀y,tu h c b y:=fun y=>⟨i,0,hb,by rw[hi]; rfl,Nat.zero_le _⟩
  have Hi:∀b' x,tu ((h.set i .dead).set id (.row T (l++m))) (c.put id (some b) (c.off i)) b' x→tu h c b' x:=by
    rintro b' x ⟨j,f,g1,g2,g3⟩
    rw[Pf]at g2
    by_cases h1:id=j
    · subst h1
      rw[c6]at g1
      cases g1
      exact mA x
    · rw[if_neg h1]at g2
      split at g2
      · simp[bR.from_]at g2
      · obtain ⟨e1,e2⟩:=Ki j (Ne.symm h1)
        rw[e1]at g1; rw[e2]at g2
        exact ⟨j,f,g1,g2,g3⟩
  have x:Ext w h c w' ((h.set i .dead).set id (.row T (l++m))) (c.put id (some b) (c.off i)):=by
    constructor
    · exact hw.os
    · exact hw.tape
    · exact hw.output
    · rw[hw.size]; exact Nat.le_refl _
    · intro j hj
      refine ⟨by simpa using hj.1,?_⟩
      rw[Pf]
      split
      · simp
      · split
        · simp
        · exact hj.2
    · intro j hj hd
      have RD:id≠j:=by rintro rfl; exact hj.2 hf
      rw[Pf,if_neg RD]at hd ⊢
      split
      · rename_i h2; rw[if_pos h2]at hd; exact absurd rfl hd
      · rename_i h2
        rw[if_neg h2]at hd
        refine ⟨?_,(Ki j (Ne.symm RD)).1,(Ki j (Ne.symm RD)).2⟩
        have h3:=hj.2
        revert hd h3
        cases h.at j <;> simp[bR.ir]
    · intro b' y hy ho
      have SK:b'≠b:=by rintro rfl; exact ho (mA y)
      exact sf (hw.other b' SK)
    · intro b' o6 ho
      have SK:b'≠b:=by rintro rfl; exact ho 0 (mA 0)
      exact hw.other b' SK
    · intro b' y _ ho; exact Hi b' y ho
    · rfl
    · intro b' Es e' Fx ha
      by_cases SK:b'=b
      · subst SK
        rw[A7]at ha; cases ha
        exact ⟨nv,fz,hw.here,By⟩
      · exact ⟨Es,Fx,by rw[hw.other b' SK]; exact ha,rfl⟩
  obtain ⟨fl,fh⟩:=fz
  have hti:=wf.obj i Ua
  rw[hi]at hti
  have SI:∀y,y<arr.size→w.frozen? ⟨b,y,none⟩=false:=by
    rcases hti with ⟨h0,_⟩|⟨b',Es,e',Fx,p1,p2,p3,p4,p5⟩
    · rw[hb]at h0; cases h0
    · rw[hb]at p1; cases p1
      rw[A7]at p2; cases p2
      exact p4
  have rr:cz w' ((h.set i .dead).set id (.row T (l++m))) (c.put id (some b) (c.off i)) (kF T (l++m)) (olds++news):=by
    rw[tY]; exact (ro.mono x).append (rn.mono x)
  have Ch:∀(k:Nat) (d:Value),(olds++news)[k]? = some d→nv[c.off i+k]? = some d:=by
    intro k d hd
    have l1:(arr.toList.take (c.off i+l.length*T.sz)).length=c.off i+l.length*T.sz:=by simp only[List.length_take,Array.length_toList]; omega
    rw[←Array.getElem?_toList,Hf,List.append_assoc]
    by_cases hk:k<olds.length
    · rw[List.getElem?_append_left hk]at hd
      have hlne:l ≠ []:=by rintro rfl; simp at PY; omega
      have hc1:=hold hlne k d hd
      rw[cell_of_row w b _ arr el (fl,fh) A7]at hc1
      rw[List.getElem?_append_left (by omega),List.getElem?_take,if_pos (by omega),Array.getElem?_toList]
      exact hc1
    · rw[List.getElem?_append_right (by omega)]at hd
      have hj2:k - olds.length<news.length:=(List.getElem?_eq_some_iff.1 hd).1
      rw[List.getElem?_append_right (by omega),l1,List.getElem?_append_left (by omega)]
      rw[←hd]; congr 1; omega
  have SL:WF w' ((h.set i .dead).set id (.row T (l++m))) (c.put id (some b) (c.off i)):=by
    constructor
    · intro b' y ho; exact wf.xG b' y (Hi b' y ho)
    · intro b' y he; rw[hw.size]; exact wf.o5 b' y he
    · intro j hj
      rw[Pf]
      by_cases h1:id=j
      · subst h1
        rw[if_pos rfl]
        refine .inr ⟨b,nv,el,(fl,fh),c6 _ _ _,hw.here,by rw[ff]; omega,fun y h1 => ?_,?_⟩
        · have:=SI y (by omega)
          rw[CA A7]at this
          rw[CA hw.here]; exact this
        · rw[ff]; exact On rr Ch
      · rw[if_neg h1]
        split
        · trivial
        · rename_i h2
          by_cases hl:(h.at j).live
          · refine (wf.obj j (by simpa using hj)).keep x (fun b' o6=>hw.other b' ?_) (Ki j (Ne.symm h1)).1 (Ki j (Ne.symm h1)).2
            rintro rfl
            exact IC j (Ne.symm h2) hl o6
          · revert hl; cases h.at j <;> simp[bR.live,nY]
    · intro j k b' hj hk h1 h2
      rw[Pf]at hj hk
      by_cases e1:id=j <;> by_cases e2:id=k
      · exact e1.symm.trans e2
      · subst e1
        rw[c6]at h1; cases h1
        rw[if_neg e2]at hk
        rw[(Ki k (Ne.symm e2)).1]at h2
        split at hk
        · exact hk.elim
        · rename_i h3; exact absurd h2 (IC k (Ne.symm h3) hk)
      · subst e2
        rw[c6]at h2; cases h2
        rw[if_neg e1]at hj
        rw[(Ki j (Ne.symm e1)).1]at h1
        split at hj
        · exact hj.elim
        · rename_i h3; exact absurd h1 (IC j (Ne.symm h3) hj)
      · rw[if_neg e1]at hj
        rw[if_neg e2]at hk
        rw[(Ki j (Ne.symm e1)).1]at h1
        rw[(Ki k (Ne.symm e2)).1]at h2
        split at hj
        · exact hj.elim
        · split at hk
          · exact hk.elim
          · exact wf.inj j k b' hj hk h1 h2
    · exact wf.rC x
  refine ⟨_,SL,x, .row ⟨by simpa using hid,by rw[Pf,if_pos rfl]; simp⟩ (by omega) ⟨_,_,rfl,fun _=>⟨_,rfl⟩,fun T' l' he => ?_⟩⟩
  rw[Pf,if_pos rfl]at he
  cases he
  exact ⟨rfl,lB,sd, .inr ⟨b,nv,el,(fl,fh),c6 _ _ _,by rw[ff],hw.here,by rw[ff,By]; exact p6⟩⟩

def Oo (P:Program) (w:World) (h:ay) (c:jZ) (s:Sem Value) (k:V→ay→Option R) (r:R):Prop :=
  ∃v h' v' w' c',s.run P w = .ok v' w'∧WF w' h' c'∧Ext w h c w' h' c'∧dw w' h' c' v v'∧k v h'=some r

theorem Hj (T:xh P tt) (wf:WF w h c) {t xt e id:Nat} (ht:(tt.at t).d = .slice e) (Oj:(∃e',P.underlying xt=some (.slice e'))∨P.underlying xt=some .string) {s x:V} {s' x':Value}
    (rs:dw w h c s s') (rx:dw w h c x x') (hid:id<h.length) (hf:h.at id = .free) (ty:Nat) {k:V→ay→Option R} {r:R} (hk:nT tt e s x h id k=some r) :
    Oo P w h c (Builtin.append_ #[t,xt] ty #[s',x']) k r:=by
  unfold nT at hk
  split at hk <;> try (first|cases hk)
  rename_i T' hty
  split at hk <;> try (first|cases hk)
  rename_i wj
  simp only[Bool.and_eq_true,decide_eq_true_eq,bne_iff_ne,ne_eq]at wj
  obtain ⟨⟨p6,hnz⟩,sP⟩:=wj
  split at hk <;> try (first|cases hk)
  rename_i m hsrc
  obtain ⟨news,n1,n2,n3,n4⟩:=T9 (P:=P) wf p6 rx hsrc
  have MB:=n3.1
  rw[kM,p6]at MB
  have SM:=SC n3 (K5 T' m)
  have hbig:∀n:Nat,(n+m.length)*(tt.at e).bytes≤140737488355328→n+m.length≤mx:=fun n hb=>by
    have:n+m.length≤(n+m.length)*(tt.at e).bytes:=Nat.le_mul_of_pos_right _ (by omega)
    unfold mx; omega
  have Rz:∀o:Nat,o=0→Rg T' o e:=fun o ho hT=>⟨ho,T.u8s e (by rw[hty,hT])⟩
  have SN:((0+m.length)*(tt.at e).bytes≤140737488355328)→k (.sl T' m (.own id)) (h.set id .tok)=some r→Oo P w h c (Builtin.append_ #[t,xt] ty #[.slice none 0 0,x']) k r:=by
    intro BW hk
    have:=wm (P:=P) (w:=w) (A:=none) (n:=0) (cap:=0) (m:=m.length) (x:=x') (olds := []) (news:=news) T ht sP Oj ty n1 n2 MB.symm SM (by simp) (fun h=>absurd rfl h) (Nat.le_refl _) (by unfold mx; omega) (.inl ⟨rfl,rfl⟩) BW (by omega)
    rcases this with ⟨h1,_,YW,mn⟩|⟨_,b,o,arr,el,fz,w',nv,hA,_⟩|⟨cap,ds,h1,h2,h3,h4,mn⟩
    · have hm:m = []:=List.eq_nil_of_length_eq_zero YW
      subst hm
      obtain ⟨c',g1,g2,g3⟩:=Hg wf hid hf (T:=T')
      exact ⟨_,_,_,w,c',mn,g1,g2,g3,hk⟩
    · cases hA
    · rw[Nat.zero_add]at h1 h4 mn
      rw[←p6]at h3 h4
      obtain ⟨c',g1,g2,g3⟩:=Ng wf hid hf n3 (Rz 0 rfl) h3 (by simpa using h4) h1 h2 (e:=e)
      exact ⟨_,_,_,_,c',mn,g1,g2,g3,hk⟩
  have Er:((0+m.length)*(tt.at e).bytes≤140737488355328)→k (.row id m.length) (h.set id (.row T' m))=some r→Oo P w h c (Builtin.append_ #[t,xt] ty #[.slice none 0 0,x']) k r:=by
    intro BW hk
    have:=wm (P:=P) (w:=w) (A:=none) (n:=0) (cap:=0) (m:=m.length) (x:=x') (olds := []) (news:=news) T ht sP Oj ty n1 n2 MB.symm SM (by simp) (fun h=>absurd rfl h) (Nat.le_refl _) (by unfold mx; omega) (.inl ⟨rfl,rfl⟩) BW (by omega)
    rcases this with ⟨h1,_,YW,mn⟩|⟨_,b,o,arr,el,fz,w',nv,hA,_⟩|⟨cap,ds,h1,h2,h3,h4,mn⟩
    · have hm:m = []:=List.eq_nil_of_length_eq_zero YW
      subst hm
      obtain ⟨c',g1,g2,g3⟩:=K6 wf hid hf (T:=T')
      exact ⟨_,_,_,w,c',mn,g1,g2,g3,hk⟩
    · cases hA
    · rw[Nat.zero_add]at h1 h4 mn
      rw[←p6]at h3 h4
      obtain ⟨c',g1,g2,g3⟩:=Nh wf hid hf n3 h3 (by simpa using h4) h1 h2 (e:=e)
      exact ⟨_,_,_,_,c',mn,g1,g2,g3,hk⟩
  split at hk <;> try (first|cases hk)
  · obtain ⟨BW,hk⟩:=cq hk
    cases rs
    split at hk
    · exact Er (by simpa using BW) hk
    · exact SN (by simpa using BW) hk
  · rename_i T'' l tk
    split at hk <;> try (first|cases hk)
    rename_i q
    subst q
    simp only at hk
    split at hk <;> try (first|cases hk)
    · obtain ⟨BW,hk⟩:=cq hk
      cases rs with
      | sl f lB sd hc hr xF mA =>
        obtain ⟨rfl,rfl⟩:=xF rfl
        have Jq:l = []:=List.eq_nil_of_length_eq_zero (by omega)
        subst Jq
        exact SN (by simpa using BW) hk
    · rename_i i
      split at hk <;> try (first|cases hk)
      rename_i KO
      obtain ⟨BW,hk⟩:=cq hk
      have K7:(l.length+m.length)*(tt.at e).bytes≤140737488355328:=by simpa using BW
      have lp:i≠id:=by rintro rfl; rw[KO]at hf; cases hf
      have Ub:id<(h.set i .dead).length:=by simpa using hid
      have PH:ay.at (h.set i .dead) id = .free:=by rw[cP _ lp]; exact hf
      obtain ⟨A,cap,rfl,lB,sd⟩:=Iw rs
      obtain ⟨olds,ro,ho⟩:=PW rs
      have hol:=ro.1
      rw[kM,p6]at hol
      have mA:(c.sb i=none∧A=none∧cap=0)∨∃b o arr e fz,c.sb i=some b∧A=some ⟨b,o,none⟩∧c.off i=o+l.length*T''.sz∧w.heap[b]? = some (.cells arr e fz)∧o+cap*T''.sz≤arr.size∧Rg T'' o e:=by
        cases rs with
        | sl f lB sd hc hr xF mA=>exact (mA i rfl).2 KO
      have VQ:=wf.obj i (ay.gp KO (by simp))
      rw[KO]at VQ
      have hA:(A=none∧cap=0)∨∃b o arr el fz,A=some ⟨b,o,none⟩∧w.heap[b]? = some (.cells arr el fz)∧o+cap*(tt.at e).size≤arr.size∧∀y,o+l.length*(tt.at e).size≤y→y<arr.size→w.frozen? ⟨b,y,none⟩=false:=by
        rcases mA with ⟨_,h1,h2⟩|⟨b,o,arr,el,fz,g1,g2,g3,g4,g5,_⟩
        · exact .inl ⟨h1,h2⟩
        · refine .inr ⟨b,o,arr,el,fz,g2,g4,by rw[←p6]; exact g5,?_⟩
          rcases VQ with h0|⟨b',Es,e',Fx,p1,p2,p3,p4⟩
          · rw[g1]at h0; cases h0
          · rw[g1]at p1; cases p1
            rw[g4]at p2; cases p2
            intro y h1 h2
            exact RA g4 p4 (by rw[g3,p6]; exact h1)
      have:=wm (P:=P) (w:=w) (n:=l.length) (olds:=olds) T ht sP Oj ty n1 n2 MB.symm SM hol.symm (fun hn=>by
        obtain ⟨b,o,q1,q2,_⟩:=ho (by rintro rfl; exact hn rfl)
        exact ⟨b,o,q1,q2⟩) lB sd hA K7 (hbig _ K7)
      have k1:=Ev (w:=w) (h:=h) (c:=c) i
      have k2:=Ol wf i
      rcases this with ⟨h1,Z0,YW,mn⟩|⟨PX,b,o,arr,el,fz,w',nv,YZ,A7,hsz1,mn,hw,Hf⟩|⟨cap',ds,h1,h2,h3,h4,mn⟩
      · have hm:m = []:=List.eq_nil_of_length_eq_zero YW
        subst hm
        have Jq:l = []:=by
          rcases mA with ⟨_,_,G2⟩|⟨b,o,arr,el,fz,_,g2,_⟩
          · exact List.eq_nil_of_length_eq_zero (by omega)
          · rw[g2]at Z0; cases Z0
        subst Jq
        have G2:cap=0:=by
          rcases mA with ⟨_,_,G2⟩|⟨b,o,arr,el,fz,_,g2,_⟩
          · exact G2
          · rw[g2]at Z0; cases Z0
        subst G2
        subst Z0
        obtain ⟨c',g1,g2,g3⟩:=Hg k2 Ub PH (T:=T'')
        exact ⟨_,_,_,w,c',mn,g1,k1.trans g2,g3,hk⟩
      · rcases mA with ⟨_,hA2,_⟩|⟨b',o',Es,el',Fx,g1,g2,g3,g4,g5,g6⟩
        · rw[hA2]at YZ; cases YZ
        · rw[g2]at YZ; cases YZ
          rw[g4]at A7; cases A7
          subst g2
          have hlen:(l++m).length=l.length+m.length:=List.length_append
          obtain ⟨c',q1,q2,q3⟩:=YX (l:=l) (m:=m) wf KO hid hf g1 g3 g6 g4 hw (by omega) sd g5 ro n3 (fun lp=>by
            obtain ⟨b2,o2,p1,p2,_⟩:=ho lp
            cases p1; exact p2) (fun y y1 y2=>by
            by_cases lp:l = []
            · subst lp; simp at y2; omega
            · obtain ⟨b2,o2,p1,_,p3⟩:=ho lp
              cases p1; exact p3 y y1 y2) (by rw[p6]; exact Hf)
          rw[hlen]at q3
          exact ⟨_,_,_,w',c',mn,q1,q2,q3,hk⟩
      · have hlen:(l++m).length=l.length+m.length:=List.length_append
        obtain ⟨c',q1,q2,q3⟩:=Ng (l:=l++m) k2 Ub PH (by rw[tY]; exact (ro.mono k1).append (n3.mono k1)) (Rz 0 rfl) (by rw[p6]; exact h3) (by rw[hlen,p6]; exact h4) (by omega) h2 (e:=e)
        rw[hlen]at q3
        exact ⟨_,_,_,_,c',mn,q1,k1.trans q2,q3,hk⟩
  · rename_i i n
    split at hk <;> try (first|cases hk)
    rename_i T'' l Bx
    split at hk <;> try (first|cases hk)
    rename_i q
    subst q
    obtain ⟨BW,hk⟩:=cq hk
    simp only at hk
    have K7:(l.length+m.length)*(tt.at e).bytes≤140737488355328:=by simpa using BW
    have lp:i≠id:=by rintro rfl; rw[Bx]at hf; cases hf
    have Ub:id<(h.set i .dead).length:=by simpa using hid
    have PH:ay.at (h.set i .dead) id = .free:=by rw[cP _ lp]; exact hf
    obtain ⟨olds,ro,ho⟩:=Om wf Bx
    have hol:=ro.1
    rw[kM,p6]at hol
    have VQ:=wf.obj i (ay.gp Bx (by simp))
    rw[Bx]at VQ
    cases rs with
    | row hu hn hv =>
      obtain ⟨A,cap,rfl,Z0,hv⟩:=hv
      obtain ⟨hnl',lB,sd,mA⟩:=hv _ _ Bx
      subst hnl'
      have hA:(A=none∧cap=0)∨∃b o arr el fz,A=some ⟨b,o,none⟩∧w.heap[b]? = some (.cells arr el fz)∧o+cap*(tt.at e).size≤arr.size∧∀y,o+l.length*(tt.at e).size≤y→y<arr.size→w.frozen? ⟨b,y,none⟩=false:=by
        rcases mA with ⟨_,h1,h2⟩|⟨b,arr,el,fz,g1,g2,g4,g5⟩
        · exact .inl ⟨h1,h2⟩
        · refine .inr ⟨b,c.off i,arr,el,fz,g2,g4,by rw[←p6]; exact g5,?_⟩
          rcases VQ with ⟨h0,_⟩|⟨b',Es,e',Fx,p1,p2,p3,p4,_⟩
          · rw[g1]at h0; cases h0
          · rw[g1]at p1; cases p1
            rw[g4]at p2; cases p2
            intro y _ h2
            exact p4 y h2
      have:=wm (P:=P) (w:=w) (n:=l.length) (olds:=olds) T ht sP Oj ty n1 n2 MB.symm SM hol.symm (fun hn=>by
        obtain ⟨b,q1,q2⟩:=ho (by rintro rfl; exact hn rfl)
        rcases mA with ⟨p1,_⟩|⟨b',arr,el,fz,p1,p2,_⟩
        · rw[q1]at p1; cases p1
        · rw[q1]at p1; cases p1
          exact ⟨b,_,p2,q2⟩) lB sd hA K7 (hbig _ K7)
      have k1:=Ev (w:=w) (h:=h) (c:=c) i
      have k2:=Ol wf i
      have hlen:(l++m).length=l.length+m.length:=List.length_append
      rcases this with ⟨h1,hAn,YW,mn⟩|⟨PX,b,o,arr,el,fz,w',nv,YZ,A7,hsz1,mn,hw,Hf⟩|⟨cap',ds,h1,h2,h3,h4,mn⟩
      · have hm:m = []:=List.eq_nil_of_length_eq_zero YW
        subst hm
        have G2:cap=0:=by
          rcases mA with ⟨_,_,G2⟩|⟨b,arr,el,fz,_,g2,_⟩
          · exact G2
          · rw[g2]at hAn; cases hAn
        have Jq:l = []:=List.eq_nil_of_length_eq_zero (by omega)
        subst Jq
        subst G2
        subst hAn
        obtain ⟨c',g1,g2,g3⟩:=K6 k2 Ub PH (T:=T'')
        exact ⟨_,_,_,w,c',mn,g1,k1.trans g2,g3,hk⟩
      · rcases mA with ⟨_,hA2,_⟩|⟨b',Es,el',Fx,g1,g2,g4,g5⟩
        · rw[hA2]at YZ; cases YZ
        · rw[g2]at YZ; cases YZ
          rw[g4]at A7; cases A7
          subst g2
          obtain ⟨c',q1,q2,q3⟩:=YY (l:=l) (m:=m) wf Bx hid hf g1 g4 hw (by omega) sd g5 ro n3 (fun lp=>by
            obtain ⟨b2,p1,p2⟩:=ho lp
            rw[g1]at p1; cases p1; exact p2) (by rw[p6]; exact Hf)
          rw[hlen]at q3
          exact ⟨_,_,_,w',c',mn,q1,q2,q3,hk⟩
      · obtain ⟨c',q1,q2,q3⟩:=Nh (l:=l++m) k2 Ub PH (by rw[tY]; exact (ro.mono k1).append (n3.mono k1)) (by rw[p6]; exact h3) (by rw[hlen,p6]; exact h4) (by omega) h2 (e:=e)
        rw[hlen]at q3
        exact ⟨_,_,_,_,c',mn,q1,k1.trans q2,q3,hk⟩
end

section
variable {P:Program} {tt:dB} {w w':World} {h:ay} {c:jZ} {R:Type}

def Obj.SO:Obj→Bool
  | .cells _ _ _=>true
  | _=>false

theorem Oq (wf:WF w h c) {i b:Nat} {o':bR} {o1 o2:Obj} (hb:c.sb i=some b) (h1:w.heap[b]? = some o1) (hn1:Obj.SO o1=false)
    (rD:(h.at i).from_ (c.off i)=some 0) (K3:o'.from_ (c.off i)=some 0) (tw:(h.at i).ir o')
    (DW:Ext w h c { w with heap:=w.heap.setIfInBounds b o2 } (h.set i o') c→nY { w with heap:=w.heap.setIfInBounds b o2 } (h.set i o') c i o') :
    WF { w with heap:=w.heap.setIfInBounds b o2 } (h.set i o') c∧Ext w h c { w with heap:=w.heap.setIfInBounds b o2 } (h.set i o') c:=by
  have hi:i<h.length:=ay.gp rfl (bR.Cx tw).1
  have mA:∀x,tu h c b x:=fun x=>⟨i,0,hb,rD,Nat.zero_le _⟩
  have Ot:∀k,k≠b→(w.heap.setIfInBounds b o2)[k]? = w.heap[k]? :=fun k hk=>by
    rw[Array.getElem?_setIfInBounds]; simp[Ne.symm hk]
  have hli:=sR rD
  have x:Ext w h c { w with heap:=w.heap.setIfInBounds b o2 } (h.set i o') c:=by
    constructor
    · rfl
    · rfl
    · rfl
    · simp
    · intro j hj
      by_cases xk:i=j
      · subst xk
        refine ⟨by simpa using hj.1,?_⟩
        rw[mC _ hi]
        intro he; subst he; simp[bR.from_]at K3
      · exact ⟨by simpa using hj.1,by rw[cP _ xk]; exact hj.2⟩
    · intro j hj hd
      refine ⟨?_,rfl,rfl⟩
      by_cases xk:i=j
      · subst xk; rw[mC _ hi]; exact tw
      · rw[cP _ xk]at hd ⊢
        have h2:=hj.2
        revert hd h2
        cases h.at j <;> simp[bR.ir]
    · intro b' x hx ho
      have lp:b'≠b:=by rintro rfl; exact ho (mA x)
      exact sf (Ot b' lp)
    · intro b' hx ho
      have lp:b'≠b:=by rintro rfl; exact ho 0 (mA 0)
      exact Ot b' lp
    · rintro b' x hx ⟨j,f,g1,g2,g3⟩
      by_cases xk:i=j
      · subst xk
        rw[hb]at g1; cases g1
        exact mA x
      · rw[cP _ xk]at g2
        exact ⟨j,f,g1,g2,g3⟩
    · rfl
    · intro b' arr el Fx ha
      by_cases lp:b'=b
      · subst lp
        rw[h1]at ha; cases ha
        simp[Obj.SO]at hn1
      · exact ⟨arr,Fx,by rw[Ot b' lp]; exact ha,rfl⟩
  have PS:∀j,(ay.at (h.set i o') j).live→(h.at j).live:=fun j hj=>by
    by_cases xk:i=j
    · subst xk; exact hli
    · rw[cP _ xk]at hj; exact hj
  refine ⟨?_,x⟩
  constructor
  · intro b' y ho he
    exact wf.xG b' y (x.vQ b' y (wf.o5 b' y he) ho) he
  · intro b' y he
    simpa using wf.o5 b' y he
  · intro j hj
    by_cases xk:i=j
    · subst xk; rw[mC _ hi]; exact DW x
    · rw[cP _ xk]
      by_cases hl:(h.at j).live
      · refine (wf.obj j (by simpa using hj)).keep x (fun b' o6=>Ot b' ?_) rfl rfl
        rintro rfl
        exact xk (wf.inj i j b' hli hl hb o6)
      · revert hl; cases h.at j <;> simp[bR.live,nY]
  · intro j k b' hj hk h1 h2
    exact wf.inj j k b' (PS j hj) (PS k hk) h1 h2
  · exact wf.rC x

theorem ID (s:ByteArray) (i:Nat):(Utf8.decode s i).1<2097152∧1≤(Utf8.decode s i).2∧(Utf8.decode s i).2≤4:=by
  have hb:∀k,(s.get! k).toNat<256:=fun k=>UInt8.toNat_lt _
  have h0:=hb (i+0)
  unfold Utf8.decode
  simp only
  split
  · exact ⟨by omega,by simp,by simp⟩
  · split
    · split
      · exact ⟨by simp only; omega,by simp,by simp⟩
      · exact ⟨by simp[Utf8.runeError],by simp,by simp⟩
    · split
      · split
        · exact ⟨by simp only; omega,by simp,by simp⟩
        · exact ⟨by simp[Utf8.runeError],by simp,by simp⟩
      · split
        · split
          · exact ⟨by simp only; omega,by simp,by simp⟩
          · exact ⟨by simp[Utf8.runeError],by simp,by simp⟩
        · exact ⟨by simp[Utf8.runeError],by simp,by simp⟩

theorem PZ (n:Nat) (h:n<2097152):IntKind.i32.has (n:Int):=by
  unfold IntKind.has; simp[IntKind.min,IntKind.max,IntKind.signed,IntKind.bits]; omega

theorem RE (wf:WF w h c) {i:Nat} {s:ak} {pos:Nat} {a':Value} (ra:dw w h c (.ptr i 0) a') (hit:h.at i = .iter s pos) (ty:TypeId) {k:V→ay→Option R} {r:R}
    (hk:(bif decide (pos<s.length)then k (.tuple [.bool true, .int .i64 pos, .int .i32 (mi s pos).1]) (h.set i (.iter s (pos+(mi s pos).2)))else k (.tuple [.bool false]) h)=some r) :
    Oo P w h c (Instr.next a' true ty) k r:=by
  have hi:=ay.gp hit (by simp)
  have ho:=wf.obj i hi
  rw[hit]at ho
  obtain ⟨b,bs,g1,g2,g3,g4⟩:=ho
  cases ra with
  | ptr hu hv =>
    obtain ⟨b',rfl,o6⟩:=hv
    have:=o6 (by rw[hit]; simp)
    rw[g1]at this; cases this
    have hlen:s.length=bs.size:=by rw[←g3,size_data]
    have hbs:bs=⟨s.toArray⟩:=se (by rw[g3])
    have hdec:Utf8.decode bs pos=mi s pos:=by rw[hbs]; rfl
    have Dc:(getObj b).run P w = .ok (.stringIter bs pos) w:=by simp[getObj,Sem.run,g2]
    by_cases hp:pos<s.length
    · have hc:decide (pos<s.length)=true:=by simpa using hp
      rw[hc]at hk
      have RF:(setObj b (.stringIter bs (pos+(mi s pos).2))).run P w = .ok () { w with heap:=w.heap.setIfInBounds b (.stringIter bs (pos+(mi s pos).2)) }:=by
        simp[setObj,Sem.run,g2]
      have ln:b<w.heap.size:=yx g2
      have Z1:=(ID bs pos).1
      rw[hdec]at Z1
      have rD:(h.at i).from_ (c.off i)=some 0:=by rw[hit]; rfl
      have tw:(h.at i).ir (.iter s (pos+(mi s pos).2)):=by rw[hit]; trivial
      obtain ⟨q1,q2⟩:=Oq wf (o' := .iter s (pos+(mi s pos).2)) (o2 := .stringIter bs (pos+(mi s pos).2)) g1 g2 rfl rD rfl tw
        (fun _=>⟨b,bs,g1,by simp[Array.getElem?_setIfInBounds,ln],g3,g4⟩)
      refine ⟨_,_, .tuple #[.bool true,goInt pos, .int .i32 (mi s pos).1],_,c,?_,q1,q2,?_,hk⟩
      · simp only[Instr.next,Sem.run_bind,Dc,Result.andThen_ok]
        rw[if_pos (by omega),hdec]
        simp only[Sem.run_bind,RF,Result.andThen_ok,Sem.run_pure]
      · refine .tuple rfl fun j v d hv hd => ?_
        match j,hv,hd with
        | 0,hv,hd=>simp at hv hd; subst hv; subst hd; exact .bool _
        | 1,hv,hd=>simp[goInt]at hv hd; subst hv; subst hd; exact .int (C8 _ (by omega))
        | 2,hv,hd=>simp at hv hd; subst hv; subst hd; exact .int (PZ _ Z1)
        | j+3,hv,_=>simp at hv
    · have hc:decide (pos<s.length)=false:=by simpa using hp
      rw[hc]at hk
      refine ⟨_,_, .tuple #[.bool false],w,c,?_,wf, .refl _ _ _,?_,hk⟩
      · simp only[Instr.next,Sem.run_bind,Dc,Result.andThen_ok]
        rw[if_neg (by omega)]
        rfl
      · refine .tuple rfl fun j v d hv hd => ?_
        match j,hv,hd with
        | 0,hv,hd=>simp at hv hd; subst hv; subst hd; exact .bool _
        | j+1,hv,_=>simp at hv
end
end Go.ax

namespace Go.ax
open Go.RowKit Go.MapKept

section
variable {P:Program} {tt:dB} {w w':World} {h:ay} {c:jZ} {R:Type}

theorem Hk (T:xh P tt) (wf:WF w h c) {t kt vt i:Nat} {K V':Ty} {l:List (K.den × V'.den)} (ht:(tt.at t).d = .map kt vt) {m d y:Value} (rm:dw w h c (.map i) m) (hm:h.at i = .uW K V' l)
    (hf:(wc tt kt K&&zm tt vt V')=true) {v u:V} (rk:dw w h c v d) (ru:dw w h c u y) {kx:K.den} {vx:V'.den} (hx:Yy K v=some kx) (hy:Yy V' u=some vx) :
    ∃w',(Instr.mapUpdate t m d y).run P w = .ok () w'∧WF w' (h.set i (.uW K V' (wa K V' kx vx l))) c∧Ext w h c w' (h.set i (.uW K V' (wa K V' kx vx l))) c:=by
  simp only[Bool.and_eq_true]at hf
  obtain ⟨PH,hf2⟩:=hf
  have hi:=ay.gp hm (by simp)
  have ho:=wf.obj i hi
  rw[hm]at ho
  obtain ⟨b,es,clock,g1,g2,g3,g4,g5,g6⟩:=ho
  cases rm with
  | map hu hv =>
    obtain ⟨b',rfl,o6⟩:=hv
    have:=o6 (by rw[hm]; simp)
    rw[g1]at this; cases this
    have hut:P.underlying t=some (.map kt vt):=eD T ht
    have e:=Rk hx (KW PH).1
    subst e
    have e:=Rk hy (KX hf2)
    subst e
    have hl:es.toList.length=l.length:=by simpa using g5
    have hr:∀(j:Nat) (x:K.den × V'.den) (e:MapEntry),l[j]? = some x→es.toList[j]? = some e→dw w h c (Mo K x.1) e.key:=fun j x e hx he=>(g6 j x e hx (by simpa using he)).1
    obtain ⟨u,YB,hik,_⟩:=Ha T PH rk rk
    have Hb:=run_findKey (w:=w) YB (KV T PH rk YB l es.toList 0 hl hr)
    have VL:=run_checkKey (w:=w) YB hik false 9999
    have Dc:=Go.MapKept.run_getObj_map (P:=P) g2
    have ln:b<w.heap.size:=yx g2
    have rD:(h.at i).from_ (c.off i)=some 0:=by rw[hm]; rfl
    have tw:∀l':List (K.den × V'.den),(h.at i).ir (.uW K V' l'):=fun l'=>by rw[hm]; exact ⟨rfl,rfl⟩
    rcases Ix (K:=K) (T:=V') (k:=kx) l es.toList 0 hl with ⟨h1,h2,h3,h4⟩|⟨j,x,e,h1,h2,h3,h4,h5,h6,h7⟩
    · rw[h1]at Hb
      rw[h4 vx]
      have RF:=Go.MapKept.run_setObj_map (P:=P) (.map (es.push { key:=d,val:=y,born:=clock }) (clock+1)) g2
      obtain ⟨q1,q2⟩:=Oq wf (o' := .uW K V' (l ++ [(kx,vx)])) (o2 := .map (es.push { key:=d,val:=y,born:=clock }) (clock+1)) g1 g2 rfl rD rfl (tw _) (fun x=>by
        refine ⟨b,es.push { key:=d,val:=y,born:=clock },clock+1,g1,by simp[Array.getElem?_setIfInBounds,ln],g3,g4,by simp[g5],fun j q e hq he => ?_⟩
        by_cases hj:j<l.length
        · rw[List.getElem?_append_left hj]at hq
          rw[Array.getElem?_push,if_neg (by omega)]at he
          exact ⟨(g6 j q e hq he).1.mono x,(g6 j q e hq he).2.mono x⟩
        · have hj2:j=l.length:=by
            have:=(List.getElem?_eq_some_iff.1 hq).1
            simp at this; omega
          subst hj2
          rw[List.getElem?_append_right (Nat.le_refl _)]at hq
          simp at hq; subst hq
          rw[Array.getElem?_push,if_pos g5.symm]at he
          cases he
          exact ⟨rk.mono x,ru.mono x⟩)
      refine ⟨_,?_,q1,q2⟩
      simp[Instr.mapUpdate,run_underlying hut,Dc,VL,Hb,RF]
    · rw[Nat.zero_add]at h1
      rw[h1]at Hb
      rw[h7 vx]
      have hej:es[j]? = some e:=by simpa using h3
      have VR:e.key=d:=by
        obtain ⟨u2,_,_,_,_,q⟩:=Ha T PH rk (g6 j x e h2 hej).1
        exact q h4
      have hget2:((es[j]?).map (·.key)).getD d=d:=by rw[hej]; simpa using VR
      have hstay:=run_keyThatStays (P:=P) (w:=w) hik
      have RF:=Go.MapKept.run_setObj_map (P:=P) (.map (es.modify j fun e => { e with key:=d,val:=y }) clock) g2
      obtain ⟨q1,q2⟩:=Oq wf (o' := .uW K V' (l.set j (kx,vx))) (o2 := .map (es.modify j fun e => { e with key:=d,val:=y }) clock) g1 g2 rfl rD rfl (tw _) (fun x'=>by
        refine ⟨b,es.modify j fun e => { e with key:=d,val:=y },clock,g1,by simp[Array.getElem?_setIfInBounds,ln],g3,g4,by simp[g5],fun j' q e' hq he => ?_⟩
        rw[Array.getElem?_modify]at he
        rw[List.getElem?_set]at hq
        by_cases hj:j=j'
        · subst hj
          rw[if_pos rfl]at hq he
          rw[hej]at he
          simp at he; subst he
          split at hq
          · cases hq; exact ⟨rk.mono x',ru.mono x'⟩
          · cases hq
        · rw[if_neg hj]at hq he
          exact ⟨(g6 j' q e' hq he).1.mono x',(g6 j' q e' hq he).2.mono x'⟩)
      refine ⟨_,?_,q1,q2⟩
      simp only[Instr.mapUpdate,Sem.run_bind,run_underlying hut,Result.andThen_ok,Dc,VL,Hb,hget2,hstay,RF]
end
end Go.ax

namespace Go.ax
open Go.RowKit

section
variable {P:Program} {tt:dB} {w w':World} {h:ay} {c:jZ} {R:Type}

theorem Uc (T:xh P tt) (wf:WF w h c) {o:Oper} {ρ:Operand→V} {ρ':Operand→Value} (hρ:∀x,dw w h c (ρ x) (ρ' x)) {id:Nat} (hid:id<h.length) (hf:h.at id = .free) {k:V→ay→Option R} {r:R}
    (hk:Kk tt o.op ρ h id k=some r) :
    ∃v h' v' w' c' nx,(execOp ρ' o).run P w = .ok nx w'∧(nx = .value v'∨nx = .skip∧v'=undef)∧WF w' h' c'∧Ext w h c w' h' c'∧dw w' h' c' v v'∧k v h'=some r:=by
  obtain ⟨dst,op,type,pos,after,guard⟩:=o
  cases op <;> (try simp only[Kk]at hk) <;> try (first|cases hk)
  case store t x y =>
    split at hk <;> try (first|cases hk)
    rename_i vs hvs
    obtain ⟨rv,h1,_⟩:=Et (hρ y) hvs
    split at hk <;> try (first|cases hk)
    rename_i wj
    simp only[Bool.and_eq_true,decide_eq_true_eq]at wj
    obtain ⟨sP,p6⟩:=wj
    have rx:=hρ x
    split at hk <;> try (first|cases hk)
    · rename_i i o hx
      rw[hx]at rx
      split at hk <;> try (first|cases hk)
      · rename_i cs By
        split at hk <;> try (first|cases hk)
        rename_i ln
        obtain ⟨w',g1,g2,g3⟩:=PT (P:=P) wf T rx By rv h1 sP p6 ln
        exact ⟨_,_,undef,w',c, .skip,by simp[execOp,g1], .inr ⟨rfl,rfl⟩,g2,g3, .undef _,hk⟩
      rename_i u By
      split at hk <;> try (first|cases hk)
      rename_i v
      obtain ⟨w',g1,g2,g3⟩:=T6 (P:=P) wf T rx By rv h1 sP (by simpa using p6)
      exact ⟨_,_,undef,w',c, .skip,by simp[execOp,g1], .inr ⟨rfl,rfl⟩,g2,g3, .undef _,hk⟩
    · rename_i i sz j o hx
      rw[hx]at rx
      split at hk <;> try (first|cases hk)
      rename_i T' l Bx
      split at hk <;> try (first|cases hk)
      rename_i hn
      split at hk <;> try (first|cases hk)
      rename_i ln
      split at hk <;> try (first|cases hk)
      rename_i z hz
      obtain ⟨hj,hk⟩:=cq hk
      simp only[decide_eq_true_eq]at hj
      obtain ⟨w',g1,g2,g3⟩:=T7 (P:=P) wf T rx Bx rv h1 sP hn p6 hj ln hz
      exact ⟨_,_,undef,w',c, .skip,by simp[execOp,g1], .inr ⟨rfl,rfl⟩,g2,g3, .undef _,hk⟩
  case mapUpdate t m x y =>
    have rm:=hρ m
    split at hk <;> try (first|cases hk)
    rename_i kt vt i ht hx
    rw[hx]at rm
    split at hk <;> try (first|cases hk)
    rename_i K V' l hm
    split at hk <;> try (first|cases hk)
    rename_i hf
    split at hk <;> try (first|cases hk)
    rename_i kx vx YT Y0
    obtain ⟨w',g1,g2,g3⟩:=Hk (P:=P) T wf ht rm hm hf (hρ x) (hρ y) YT Y0
    exact ⟨_,_,undef,w',c, .skip,by simp[execOp,g1], .inr ⟨rfl,rfl⟩,g2,g3, .undef _,hk⟩
  case insert t m x y =>
    have rm:=hρ m
    split at hk <;> try (first|cases hk)
    rename_i kt vt i ht hx
    rw[hx]at rm
    split at hk <;> try (first|cases hk)
    rename_i K V' l hm
    split at hk <;> try (first|cases hk)
    rename_i hf
    split at hk <;> try (first|cases hk)
    rename_i kx vx YT Y0
    obtain ⟨w',g1,g2,g3⟩:=Hk (P:=P) T wf ht rm hm hf (hρ x) (hρ y) YT Y0
    exact ⟨_,_,undef,w',c, .skip,by simp[execOp,g1], .inr ⟨rfl,rfl⟩,g2,g3, .undef _,hk⟩
  case next x str =>
    have rx:=hρ x
    split at hk <;> try (first|cases hk)
    rename_i i hx
    rw[hx]at rx
    split at hk <;> try (first|cases hk)
    rename_i s pos hit
    obtain ⟨v,h',v',w',c',g1,g2,g3,g4,g5⟩:=RE (P:=P) wf rx hit type hk
    exact ⟨v,h',v',w',c', .value v',by simp[execOp,g1], .inl rfl,g2,g3,g4,g5⟩
  case call cl =>
    obtain ⟨callee,args,argTypes⟩:=cl
    simp only at hk
    split at hk <;> try (first|cases hk)
    rename_i s x t xt ha Pf
    obtain rfl:args = #[s,x]:=by cases args; simp_all
    obtain rfl:argTypes = #[t,xt]:=by cases argTypes; simp_all
    split at hk <;> try (first|cases hk)
    · rename_i e e' ht Oj
      have hu:=eD T Oj
      simp only[TD.Is]at hu
      obtain ⟨v,h',v',w',c',g1,g2,g3,g4,g5⟩:=Hj T wf ht (.inl ⟨_,hu⟩) (hρ s) (hρ x) hid hf type hk
      exact ⟨v,h',v',w',c', .value v',by simp[execOp,resolve,invoke,builtin,g1], .inl rfl,g2,g3,g4,g5⟩
    · rename_i e ht Oj
      have hu:=eD T Oj
      simp only[TD.Is]at hu
      obtain ⟨v,h',v',w',c',g1,g2,g3,g4,g5⟩:=Hj T wf ht (.inr hu) (hρ s) (hρ x) hid hf type hk
      exact ⟨v,h',v',w',c', .value v',by simp[execOp,resolve,invoke,builtin,g1], .inl rfl,g2,g3,g4,g5⟩
end

section
variable {w w':World} {h h2:ay} {c c2:jZ}

theorem Kn (ρ:Nat→Option Nat):∀l:List V,V.xD ρ l=l.map (V.pn ρ)
  | []=>rfl
  | v::l=>by simp only[V.xD,List.map_cons,Kn ρ l]

theorem tZ (ρ:Nat→Option Nat) (l:List V):(V.xD ρ l).length=l.length:=by simp[Kn]
theorem A8 (ρ:Nat→Option Nat) (l:List V) (j:Nat):(V.xD ρ l)[j]? = (l[j]?).map (V.pn ρ):=by simp[Kn]

structure Ni (ρ:Nat→Option Nat) (h:ay) (c:jZ) (h2:ay) (c2:jZ):Prop where
  used:∀i j,ρ i=some j→Used h i→Used h2 j
  obj:∀i j,ρ i=some j→h2.at j ≠ .dead→h.at i ≠ .dead∧c2.sb j=c.sb i∧c2.off j=c.off i
  tok:∀i j,ρ i=some j→h2.at j = .tok→h.at i = .tok
  row:∀i j,ρ i=some j→∀(T:Ty) (l:List T.den),h2.at j = .row T l→h.at i = .row T l
  free:∀b x,Fw h c b x→Fw h2 c2 b x

theorem dw.pn {ρ:Nat→Option Nat} (k:Ni ρ h c h2 c2) {v:V} {d:Value} (r:dw w h c v d):dw w h2 c2 (v.pn ρ) d:=by
  induction r with
  | undef v=>exact .undef v
  | int hn=>exact .int hn
  | bool b=>exact .bool b
  | str hl=>exact .str hl
  | eC=>exact .eC
  | cw=>exact .cw
  | aS=>exact .aS
  | n8=>exact .n8
  | cJ=>exact .cJ
  | iface t v=>exact .iface t v
  | Em hn=>exact .Em hn
  | Fv b=>exact .Fv b
  | @ptr i o v hi hv =>
    obtain ⟨b,hv,hb⟩:=hv
    simp only[V.pn]
    cases e:ρ i with
    | none=>exact .undef _
    | some j=>exact .ptr (k.used i j e hi) ⟨b,hv,fun hd=>by obtain ⟨h1,h2,_⟩:=k.obj i j e hd; rw[h2]; exact hb h1⟩
  | @map i v hi hv =>
    obtain ⟨b,hv,hb⟩:=hv
    simp only[V.pn]
    cases e:ρ i with
    | none=>exact .undef _
    | some j=>exact .map (k.used i j e hi) ⟨b,hv,fun hd=>by obtain ⟨h1,h2,_⟩:=k.obj i j e hd; rw[h2]; exact hb h1⟩
  | @xi cs b o f hc _ ih =>
    simp only[V.pn]
    refine .xi f (fun j hj => ?_) (fun j v hv => ?_)
    · rw[tZ]at hj
      exact ⟨(hc j hj).1,k.free _ _ (hc j hj).2⟩
    · rw[A8]at hv
      cases e:cs[j]? with
      | none=>rw[e]at hv; cases hv
      | some u=>rw[e]at hv; simp at hv; subst hv; exact ih j u e
  | @sl T l t A cap f lB sd hc hr xF mA ih =>
    simp only[V.pn]
    refine .sl f lB sd (fun i j hi hj => ?_) (fun i j x v hx hv => ?_) (fun ht => ?_) (fun j ht => ?_)
    · obtain ⟨b,o,hA,h1,h2⟩:=hc i j hi hj
      exact ⟨b,o,hA,h1,k.free _ _ h2⟩
    · have:=ih i j x v hx hv
      have e:v.pn ρ=v:=by
        have El:∀(T:Ty) (x:T.den) (j:Nat) (v:V),(T.cells x)[j]? = some v→v.pn ρ=v:=by
          intro T x
          have:∀v∈T.cells x,v.pn ρ=v:=by
            cases T <;> simp[Ty.cells,V.pn,Tok.pn]
          intro j v hv
          exact this v (List.mem_of_getElem? hv)
        exact El T x j v hv
      rw[e]at this; exact this
    · cases t with
      | no=>cases ht
      | nil=>exact xF rfl
      | own i=>simp only[Tok.pn]at ht; split at ht <;> cases ht
    · cases t with
      | no=>cases ht
      | nil=>cases ht
      | own i =>
        simp only[Tok.pn]at ht
        split at ht
        · rename_i j' e
          cases ht
          obtain ⟨hu,ho⟩:=mA i rfl
          refine ⟨k.used i j e hu,fun KO => ?_⟩
          obtain ⟨_,e1,e2⟩:=k.obj i j e (by rw[KO]; simp)
          rw[e1,e2]
          exact ho (k.tok i j e KO)
        · cases ht
  | @Mn n sz cs A hn sd f hc _ ih =>
    simp only[V.pn]
    refine .Mn (sz:=sz) (by rw[tZ]; exact hn) sd f (fun j hj => ?_) (fun j v hv => ?_)
    · rw[tZ]at hj
      obtain ⟨b,o,hA,h1,h2⟩:=hc j hj
      exact ⟨b,o,hA,h1,k.free _ _ h2⟩
    · rw[A8]at hv
      cases e:cs[j]? with
      | none=>rw[e]at hv; cases hv
      | some u=>rw[e]at hv; simp at hv; subst hv; exact ih j u e
  | @row i n v hi hn hv =>
    simp only[V.pn]
    cases e:ρ i with
    | none=>exact .undef _
    | some j =>
      obtain ⟨A,cap,Tx,hA,hv⟩:=hv
      refine .row (k.used i j e hi) hn ⟨A,cap,Tx,hA,fun T l he => ?_⟩
      obtain ⟨_,e1,e2⟩:=k.obj i j e (by rw[he]; simp)
      rw[e1,e2]
      exact hv T l (k.row i j e T l he)
  | @Ct i q n v hi hn hv =>
    simp only[V.pn]
    cases e:ρ i with
    | none=>exact .undef _
    | some j =>
      obtain ⟨A,cap,Tx,hA,hv⟩:=hv
      refine .Ct (k.used i j e hi) hn ⟨A,cap,Tx,hA,fun T l he => ?_⟩
      obtain ⟨_,e1,e2⟩:=k.obj i j e (by rw[he]; simp)
      rw[e1,e2]
      exact hv T l (k.row i j e T l he)
  | @sN i n q o v hi hv =>
    simp only[V.pn]
    cases e:ρ i with
    | none=>exact .undef _
    | some j =>
      obtain ⟨a,ha,hv⟩:=hv
      refine .sN (k.used i j e hi) ⟨a,ha,fun T l he hn hj => ?_⟩
      obtain ⟨_,e1,e2⟩:=k.obj i j e (by rw[he]; simp)
      rw[e1,e2]
      exact hv T l (k.row i j e T l he) hn hj
  | @func f a b x y ha hb _ _ iha ihb =>
    simp only[V.pn]
    refine .func (by rw[tZ]; exact ha) (by rw[tZ]; exact hb) (fun j v d hv hd => ?_) (fun j v d hv hd => ?_)
    · rw[A8]at hv
      cases e:a[j]? with
      | none=>rw[e]at hv; cases hv
      | some u=>rw[e]at hv; simp at hv; subst hv; exact iha j u d e hd
    · rw[A8]at hv
      cases e:b[j]? with
      | none=>rw[e]at hv; cases hv
      | some u=>rw[e]at hv; simp at hv; subst hv; exact ihb j u d e hd
  | @agg cs x hl _ ih =>
    simp only[V.pn]
    refine .agg (by rw[tZ]; exact hl) (fun j v d hv hd => ?_)
    rw[A8]at hv
    cases e:cs[j]? with
    | none=>rw[e]at hv; cases hv
    | some u=>rw[e]at hv; simp at hv; subst hv; exact ih j u d e hd
  | @tuple cs x hl _ ih =>
    simp only[V.pn]
    refine .tuple (by rw[tZ]; exact hl) (fun j v d hv hd => ?_)
    rw[A8]at hv
    cases e:cs[j]? with
    | none=>rw[e]at hv; cases hv
    | some u=>rw[e]at hv; simp at hv; subst hv; exact ih j u d e hd

theorem cz.pn {ρ:Nat→Option Nat} (k:Ni ρ h c h2 c2) {cs:List V} {ds:List Value} (r:cz w h c cs ds):cz w h2 c2 (V.xD ρ cs) ds:=by
  refine ⟨by rw[tZ]; exact r.1,fun j v d hv hd => ?_⟩
  rw[A8]at hv
  cases e:cs[j]? with
  | none=>rw[e]at hv; cases hv
  | some u=>rw[e]at hv; simp at hv; subst hv; exact (r.2 j u d e hd).pn k

theorem Ud (ρ:Nat→Option Nat) (T:Ty) (x:T.den):∀v∈T.cells x,v.pn ρ=v:=by cases T <;> simp[Ty.cells,V.pn,Tok.pn]

theorem nY.pn {ρ:Nat→Option Nat} (k:Ni ρ h c h2 c2) {i j:Nat} {o:bR} (e1:c2.sb j=c.sb i) (e2:c2.off j=c.off i) (ho:nY w h c i o):nY w h2 c2 j (o.pn ρ):=by
  cases o <;> simp only[nY,bR.pn]at ho ⊢
  · obtain ⟨b,arr,e,h1,VJ,h3⟩:=ho
    exact ⟨b,arr,e,e1▸h1,VJ,h3.pn k⟩
  · rw[e1,e2]
    rcases ho with h1|⟨b,arr,e,fz,h1,VJ,h3,h4,h5⟩
    · exact .inl h1
    · refine .inr ⟨b,arr,e,fz,h1,VJ,h3,h4,fun n q x v hx hv => ?_⟩
      obtain ⟨d,g1,g2⟩:=h5 n q x v hx hv
      refine ⟨d,g1,?_⟩
      have:=g2.pn k
      rw[Ud ρ _ x v (List.mem_of_getElem? hv)]at this
      exact this
  · rw[e1,e2]; exact ho
  · rw[e1]; exact ho
  · rw[e1]
    obtain ⟨b,p,d,h1,VJ,h3,h4⟩:=ho
    exact ⟨b,p,d,h1,VJ,h3,h4.pn k⟩
  · rw[e1]
    obtain ⟨b,es,cl,h1,VJ,h3,h4,h5,h6⟩:=ho
    refine ⟨b,es,cl,h1,VJ,h3,h4,h5,fun j q e hq he => ?_⟩
    obtain ⟨g1,g2⟩:=h6 j q e hq he
    have g1':=g1.pn k
    have g2':=g2.pn k
    have key:∀(T:Ty) (x:T.den),(Kj T=true∨T.one=true)→(Mo T x).pn ρ=Mo T x:=by
      intro T x hT
      cases T <;> first|(simp[Mo,Ty.one,Ty.cells,V.pn]; done)|(simp[Mo,Ty.one,Ty.cells,V.pn,V.xD]; done)|(simp[Kj,Ty.one]at hT)
    rw[key _ _ (.inl h3)]at g1'
    rw[key _ _ (.inr h4)]at g2'
    exact ⟨g1',g2'⟩

def jZ.pick (c:jZ) (ord:List Nat) (ext:Pv):jZ :=
  ⟨fun j=>(ord[j]?).bind c.sb,fun j=>c.off (ord.getD j 0),ext⟩

theorem A9 {ord:List Nat} {i j:Nat} (e:xx ord i=some j):ord[j]? = some i:=by
  unfold xx at e
  simp only at e
  split at e
  · rename_i ln
    cases e
    rw[List.getElem?_eq_getElem ln,List.getElem_idxOf ln]
  · cases e

theorem uM (h:ay) (ord:List Nat) (j:Nat):ay.at (h.pick ord) j=match ord[j]? with|some i=>(h.at i).pn (xx ord)|none => .dead:=by
  unfold ay.at ay.pick
  simp only[List.getD,List.getElem?_map]
  cases ord[j]? <;> rfl

theorem Hl {ρ:Nat→Option Nat} {o:bR}:o.pn ρ = .dead↔o = .dead:=by cases o <;> simp[bR.pn]
theorem CB {ρ:Nat→Option Nat} {o:bR}:o.pn ρ = .free↔o = .free:=by cases o <;> simp[bR.pn]
theorem SP {ρ:Nat→Option Nat} {o:bR}:o.pn ρ = .tok↔o = .tok:=by cases o <;> simp[bR.pn]
theorem SQ {ρ:Nat→Option Nat} {o:bR} {T:Ty} {l:List T.den}:o.pn ρ = .row T l↔o = .row T l:=by cases o <;> simp[bR.pn]
theorem P0 {ρ:Nat→Option Nat} {o:bR} {f:Nat}:(o.pn ρ).from_ f=o.from_ f:=by cases o <;> rfl
theorem CC {ρ:Nat→Option Nat} {o:bR}:(o.pn ρ).live↔o.live:=by cases o <;> simp[bR.pn,bR.live]

theorem CD {ord:List Nat} {ext:Pv} {b x:Nat} (ho:tu (h.pick ord) (c.pick ord ext) b x):∃i∈ord,∃f,c.sb i=some b∧(h.at i).from_ (c.off i)=some f∧f≤x:=by
  obtain ⟨j,f,g1,g2,g3⟩:=ho
  rw[uM]at g2
  cases e:ord[j]? with
  | none=>rw[e]at g2; cases g2
  | some i =>
    rw[e]at g2
    simp only[jZ.pick,e,Option.bind_some]at g1
    simp only[P0,jZ.pick,List.getD,e,Option.getD_some]at g2
    exact ⟨i,List.mem_of_getElem? e,f,g1,g2,g3⟩

theorem K8 {ord:List Nat} {ext:Pv} (VS:∀b x,Fw h c b x→¬ext b x):Ni (xx ord) h c (h.pick ord) (c.pick ord ext) where
  used:=fun i j e hu=>by
    have hj:=A9 e
    refine ⟨?_,?_⟩
    · have:=(List.getElem?_eq_some_iff.1 hj).1
      simpa [ay.pick]using this
    · rw[uM,hj]
      simp only[ne_eq,CB]
      exact hu.2
  obj:=fun i j e hd=>by
    have hj:=A9 e
    rw[uM,hj]at hd
    simp only[ne_eq,Hl]at hd
    exact ⟨hd,by simp[jZ.pick,hj],by simp[jZ.pick,List.getD,hj]⟩
  tok:=fun i j e ht=>by
    rw[uM,A9 e]at ht
    exact SP.1 ht
  row:=fun i j e T l ht=>by
    rw[uM,A9 e]at ht
    exact SQ.1 ht
  free:=fun b x hf=>⟨fun ho=>by
    obtain ⟨i,_,f,g1,g2,g3⟩:=CD ho
    exact hf.1 ⟨i,f,g1,g2,g3⟩,VS b x hf⟩

theorem SR (wf:WF w h c) {ord:List Nat} (DX:ord.Nodup) {ext:Pv} (VS:∀b x,Fw h c b x→¬ext b x) (ln:∀b x,ext b x→b<w.heap.size)
    (hdis:∀b x,(∃i∈ord,∃f,c.sb i=some b∧(h.at i).from_ (c.off i)=some f∧f≤x)→¬ext b x):WF w (h.pick ord) (c.pick ord ext) where
  lay:=⟨wf.lay.1,fun b hb=>⟨(wf.lay.2 b hb).1,fun x ho=>by
    obtain ⟨i,_,f,g1,g2,g3⟩:=CD ho
    exact (wf.lay.2 b hb).2 x ⟨i,f,g1,g2,g3⟩⟩⟩
  xG:=fun b x ho=>hdis b x (CD ho)
  o5:=ln
  obj:=fun j hj=>by
    rw[uM]
    cases e:ord[j]? with
    | none=>trivial
    | some i =>
      by_cases hl:(h.at i).live
      · exact (wf.obj i (ay.gp rfl (wk hl))).pn (K8 VS) (by simp[jZ.pick,e]) (by simp[jZ.pick,List.getD,e])
      · have h0:h.at i = .free∨h.at i = .dead:=by revert hl; cases h.at i <;> simp[bR.live]
        rcases h0 with h0|h0 <;> simp only[h0,bR.pn] <;> trivial
  inj:=fun j k b hj hk h1 h2=>by
    rw[uM]at hj hk
    cases e1:ord[j]? with
    | none=>rw[e1]at hj; exact hj.elim
    | some i1 =>
      cases e2:ord[k]? with
      | none=>rw[e2]at hk; exact hk.elim
      | some i2 =>
        rw[e1]at hj; rw[e2]at hk
        simp only[jZ.pick,e1,e2,Option.bind_some]at h1 h2
        have:=wf.inj i1 i2 b (CC.1 hj) (CC.1 hk) h1 h2
        subst this
        obtain ⟨Nc,Z2⟩:=List.getElem?_eq_some_iff.1 e1
        obtain ⟨rX,e2'⟩:=List.getElem?_eq_some_iff.1 e2
        have hp:=List.pairwise_iff_getElem.1 DX
        rcases Nat.lt_trichotomy j k with ln|rfl|ln
        · exact (hp j k Nc rX ln (Z2.trans e2'.symm)).elim
        · rfl
        · exact (hp k j rX Nc ln (e2'.trans Z2.symm)).elim

theorem BX (h:ay):∀(n:Nat) (todo seen:List Nat),seen.Nodup→(reach h n todo seen).Nodup
  | 0,_,_,hn=>hn
  | n+1, [],_,hn=>hn
  | n+1,i::todo,seen,hn=>by
    simp only[reach]
    split
    · exact BX h n _ _ hn
    · rename_i hc
      refine BX h n _ _ ?_
      rw[List.nodup_append]
      refine ⟨hn,by simp,fun a ha b hb => ?_⟩
      simp at hb; subst hb
      rintro rfl
      simp at hc
      exact hc ha
end
end Go.ax

