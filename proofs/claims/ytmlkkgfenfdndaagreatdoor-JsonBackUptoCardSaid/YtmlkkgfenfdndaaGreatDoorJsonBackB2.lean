/-
  JsonBack: for every input whose bulk is at most 1048576 the law returns true, and each argument reads behind the call as it read before; part 2 of 8 of the proof: an interpreter of the model's code over typed data, proved sound; the functions that the law reaches, printed as Lean functions and tied; the plain law. Own texts laid one behind the other.
-/
import Derived.Laws.StructEq
import Derived.WalkKit
import Derived.MapKept
import Derived.Laws.BytesString
import Derived.Laws.Cover4
import Derived.Laws.Rows
import Derived.Laws.MakeOwn
import Derived.Laws.Append
import Derived.Test.YtmlkkgfenfdndaaGreatDoorJsonBackB1
set_option linter.unusedSimpArgs false
set_option linter.unnecessarySimpa false
set_option linter.unusedVariables false
set_option linter.unusedSectionVars false
namespace Go.ay
open Go.RowKit

def TD.Is (P:Program) (t:Nat):TD→Prop
  | .bool=>P.underlying t=some .bool
  | .int k=>P.underlying t=some (.int k)
  | .string=>P.underlying t=some .string
  | .ptr e=>P.underlying t=some (.pointer e)
  | .slice e=>P.underlying t=some (.slice e)
  | .arr n e=>P.underlying t=some (.array n e)
  | .map k e=>P.underlying t=some (.map k e)
  | .struct fs=>∃F,P.underlying t=some (.struct F)∧F.toList.map (fun f=>(f.offset,f.type))=fs
  | .func=>∃a b c,P.underlying t=some (.func a b c)
  | .iface=>∃a,P.underlying t=some (.interface a)
  | .other=>True

structure xy (P:Program) (tt:dJ):Prop where
  und:∀t,(tt.at t).d.Is P t
  info:∀t,tt.ok t=true→∃i z,P.info? t=some i∧i.size=(tt.at t).size∧i.bytes=(tt.at t).bytes∧i.zero=some z∧z.cells.size=i.size ∧
    ∀(w:World) (h:az) (c:kh),cH w h c (tt.at t).zero z.cells.toList
  eqs:∀t,∀(w:World) (h:az) (c:kh) (cs ds:List V) (xs ys:Array Value) (b:Bool),O8 (tt.at t) cs ds=true→cH w h c cs xs.toList→cH w h c ds ys.toList →
    mh cs ds=some b→P.eqGuardType P.depth t=false∧(Op.equalIn 10000 t (.agg xs) (.agg ys)).run P w = .ok b w
  u8s:∀e,(tt.at e).ty=some (.int .u8)→e=oJ.u8
  blds:∀t,(tt.at t).kI=true→t=oJ.kI∧(tt.at t).zero = [.eN, .cF]∧tt.ok t=true
  ones:∀t,tt.ok t=true→∀i z,P.info? t=some i→i.zero=some z→z.oneCell' = !tt.isAgg t

section
variable {P:Program} {tt:dJ} {w:World}

theorem xy.isAgg (T:xy P tt) {t:Nat} (h:tt.ok t=true):(isAgg t).run P w = .ok (tt.isAgg t) w:=by
  have hu:=T.und t
  unfold dJ.ok at h
  unfold dJ.isAgg
  cases hd:(tt.at t).d <;> rw[hd]at hu h <;> simp only[TD.Is]at hu
  case struct fs=>obtain ⟨F,hF,_⟩:=hu; simp[Go.isAgg,run_underlying hF]
  case func=>obtain ⟨a,b,c,hF⟩:=hu; simp[Go.isAgg,run_underlying hF]
  case iface=>obtain ⟨a,hF⟩:=hu; simp[Go.isAgg,run_underlying hF]
  case other=>cases h
  all_goals simp[Go.isAgg,run_underlying hu]

theorem xy.sizeOf (T:xy P tt) {t:Nat} (h:tt.ok t=true):(sizeOf t).run P w = .ok (tt.at t).size w:=by
  obtain ⟨i,z,hi,hs,_⟩:=T.info t h
  simp[Go.sizeOf,typeInfo,hi,hs]

theorem xy.zero (T:xy P tt) {t:Nat} (h:tt.ok t=true):∃z,(zeroValue t).run P w = .ok z w∧z.cells.size=(tt.at t).size ∧
    ∀(w:World) (h:az) (c:kh),cH w h c (tt.at t).zero z.cells.toList:=by
  obtain ⟨i,z,hi,hs,_,hz,Z9,hr⟩:=T.info t h
  exact ⟨z,by simp[Go.zeroValue,typeInfo,hi,hz],by omega,hr⟩

theorem eO (T:xy P tt) {t:Nat} {d:TD} (h:(tt.at t).d=d):d.Is P t:=h▸T.und t

theorem Hz (T:xy P tt) {t f off ty:Nat} {fs:List (Nat × Nat)} (h:(tt.at t).d = .struct fs) (hf:fs[f]? = some (off,ty)) :
    ∃F fd,P.underlying t=some (.struct F)∧F[f]? = some fd∧fd.offset=off∧fd.type=ty:=by
  obtain ⟨F,hF,e⟩:=eO T h
  subst e
  rw[List.getElem?_map]at hf
  cases hx:F.toList[f]? with
  | none=>rw[hx]at hf; cases hf
  | some fd =>
    rw[hx]at hf
    simp at hf
    exact ⟨F,fd,hF,by simpa using hx,hf.1,hf.2⟩

variable {h:az} {c:kh} {R:Type}

theorem JV (T:xy P tt) {t off:Nat} {cs:List V} {x:Array Value} (hr:cH w h c cs x.toList) {k:V→Option R} {r:R} (hk:rT tt t cs off k=some r) :
    ∃v v',(part t x off).run P w = .ok v' w∧dC w h c v v'∧k v=some r:=by
  unfold rT at hk
  split at hk
  · rename_i rU
    have hlen:cs.length=x.size:=by have:=hr.1; simpa using this
    split at hk
    · rename_i Ls
      split at hk
      · rename_i qs
        refine ⟨_, .agg (x.extract off (off+(tt.at t).size)),?_,?_,hk⟩
        · simp[part,T.isAgg rU,Ls,T.sizeOf rU]
        · have HA:=(hr.drop off).take (tt.at t).size
          refine .agg ?_ fun j v d hv hd=>HA.2 j v d hv ?_
          · simp[hlen]; omega
          · simp only[Array.getElem?_extract]at hd
            rw[List.getElem?_take,List.getElem?_drop]
            split at hd
            · rename_i hj
              have N2:j<(tt.at t).size:=by omega
              simp only[N2,if_true]; simpa using hd
            · cases hd
      · cases hk
    · rename_i Ls
      split at hk
      · rename_i v hv
        have kY:off<cs.length:=(List.getElem?_eq_some_iff.1 hv).1
        have hx:x[off]? = some (x[off]'(by omega)):=Array.getElem?_eq_getElem (by omega)
        refine ⟨v,x[off]'(by omega),?_,hr.2 off v _ hv (by simp),hk⟩
        simp[part,T.isAgg rU,Ls,hx]
      · cases hk
  · cases hk
end

section
variable {P:Program} {tt:dJ} {w:World} {h:az} {c:kh} {R:Type}

theorem Lt (k:IntKind) (n:Int):k.has (k.wrap n):=by
  unfold IntKind.has
  cases k <;> simp only[IntKind.wrap,IntKind.min,IntKind.max,IntKind.signed,IntKind.bits] <;> simp <;> omega

theorem cx {b:Bool} {k:Option R} {r:R} (hk:cX b k=some r):b=true∧k=some r:=by
  unfold cX at hk; cases b <;> simp_all

theorem dC.iQ {k:IntKind} {n:Int} {v:Value} (r:dC w h c (.int k n) v):v = .int k n∧k.has n:=by cases r; exact ⟨rfl, ‹_›⟩
theorem dC.CW {b:Bool} {v:Value} (r:dC w h c (.bool b) v):v = .bool b:=by cases r; rfl
theorem dC.kJ {s:aj} {v:Value} (r:dC w h c (.str s) v):∃t,v = .string t∧t.data.toList=s∧t.size≤mx:=by cases r; exact ⟨_,rfl,rfl, ‹_›⟩

theorem Lu (n:Nat) (hn:n<256):IntKind.u8.has (n:Int):=by unfold IntKind.has; simp[IntKind.min,IntKind.max,IntKind.signed,IntKind.bits]; omega
theorem Dz (n:Nat) (hn:n≤mx):IntKind.i64.has (n:Int):=by unfold IntKind.has; unfold mx at hn; simp[IntKind.min,IntKind.max,IntKind.signed,IntKind.bits]; omega

theorem HB (v:Value):dC w h c (EU v) v:=by
  unfold EU
  split
  · exact .bool _
  · split
    · rename_i hk; unfold inK at hk; simp at hk; exact .int hk
    · exact .undef _
  · split
    · exact .str ‹_›
    · exact .undef _
  · exact .eN
  · exact .cF
  · exact .aV
  · exact .ow
  · exact .cR
  · exact .undef _

theorem JW (v:Value):dC w h c (ofConst v) v:=by
  unfold ofConst
  split
  · refine .agg (by simp) fun j v d hv hd => ?_
    rw[List.getElem?_map,Array.getElem?_toList,hd]at hv
    cases hv
    exact HB d
  · exact HB v

theorem sA {a b:ByteArray} (h:a.data.toList=b.data.toList):a=b:=by
  obtain ⟨⟨x⟩⟩:=a; obtain ⟨⟨y⟩⟩:=b; simp at h; subst h; rfl
theorem toList_data (a:ByteArray):a.toList=a.data.toList:=ByteArray.toList_eq a
theorem size_data (a:ByteArray):a.data.toList.length=a.size:=by rw[Array.length_toList]; rfl
theorem Au {s:aj} (t:ByteArray) (e:t.data.toList=s) (hl:s.length≤mx):dC w h c (.str s) (.string t):=by
  subst e; rw[size_data]at hl; exact .str hl

theorem Lv:∀a b:aj,Op.bytesLess a b=Ce a b
  | [], []=>rfl
  | [],_::_=>rfl
  | _::_, []=>rfl
  | a::x,b::y=>by simp[Op.bytesLess,Ce,Lv x y]

def oK (P:Program) (w:World) (h:az) (c:kh) (s:Sem Value) (k:V→Option R) (r:R):Prop:=∃v v',s.run P w = .ok v' w∧dC w h c v v'∧k v=some r

theorem Qp (a b:Int):(0≤a→0≤a.tmod b∧a.tmod b≤a)∧(a≤0→a≤a.tmod b∧a.tmod b≤0):=by
  have key:∀m:Nat,∀b:Int,0≤(m:Int).tmod b∧(m:Int).tmod b≤m:=fun m b=>by
    cases b with
    | ofNat n =>
      have:((m:Int).tmod (Int.ofNat n))=((m % n:Nat):Int):=rfl
      have h:=Nat.mod_le m n
      rw[this]; omega
    | negSucc n =>
      have:((m:Int).tmod (Int.negSucc n))=((m % (n+1):Nat):Int):=rfl
      have h:=Nat.mod_le m (n+1)
      rw[this]; omega
  constructor
  · intro h
    obtain ⟨m,rfl⟩:=Int.eq_ofNat_of_zero_le h
    exact key m b
  · intro h
    obtain ⟨m,hm⟩:=Int.eq_ofNat_of_zero_le (show 0 ≤ -a by omega)
    have e:a = -(m:Int):=by omega
    subst e
    rw[Int.neg_tmod]
    have:=key m b
    omega

theorem W6 {op:BinOp} {i j:IntKind} {a b:Int} (hb:j.has b) (t:TypeId) (x y:Operand) {k:V→Option R} {r:R} (hk:xB op (.int i a) (.int j b) k=some r) (ha:i.has a) :
    oK P w h c (do eqGuard op t x y (.int i a) (.int j b); binOp op t (.int i a) (.int j b)) k r:=by
  have hg:∀op:BinOp,(eqGuard op t x y (.int i a) (.int j b)).run P w = .ok () w:=fun op=>by cases op <;> simp[eqGuard]
  unfold oK
  simp only[Sem.run_bind,hg,Result.andThen_ok]
  have hw:=fun n=>Lt i n
  by_cases hsh:op = .shl∨op = .shr
  · rcases hsh with rfl|rfl
    · simp only[xB]at hk
      obtain ⟨h0,hk⟩:=cx hk
      simp at h0
      exact ⟨_,_,by simp[binOp,Op.shift]; intro hn; omega, .int (hw _),hk⟩
    · simp only[xB]at hk
      obtain ⟨h0,hk⟩:=cx hk
      simp at h0
      refine ⟨_,_,by simp[binOp,Op.shift]; intro hn; omega, .int ?_,hk⟩
      have hp:(0:Int)<2 ^ (min b.toNat i.bits):=Int.pow_pos (by decide)
      have h1:(1:Int)≤2 ^ (min b.toNat i.bits):=hp
      unfold IntKind.has at ha ⊢
      have W7:i.min≤0:=by cases i <;> simp[IntKind.min,IntKind.signed,IntKind.bits]
      have hmax:0≤i.max:=by cases i <;> simp[IntKind.max,IntKind.signed,IntKind.bits]
      rw[Int.fdiv_eq_ediv_of_nonneg _ (Int.le_of_lt hp)]
      constructor
      · rcases Int.lt_or_le a 0 with hn|hn
        · have:a≤a / 2 ^ (min b.toNat i.bits):=by
            refine (Int.le_ediv_iff_mul_le hp).2 ?_
            have h2:=Int.mul_nonneg (show 0 ≤ -a by omega) (show 0≤(2:Int) ^ (min b.toNat i.bits) - 1 by omega)
            rw[Int.mul_sub,Int.neg_mul]at h2
            omega
          omega
        · have:=Int.ediv_nonneg hn (Int.le_of_lt hp); omega
      · rcases Int.lt_or_le a 0 with hn|hn
        · have:=Int.ediv_neg_of_neg_of_pos hn hp; omega
        · have:=Int.ediv_le_self (2 ^ (min b.toNat i.bits)) hn; omega
  · have qT:(if i=j then (match op with
        | .add=>k (.int i (i.wrap (a+b)))
        | .sub=>k (.int i (i.wrap (a - b)))
        | .mul=>k (.int i (i.wrap (a*b)))
        | .quo=>cX (!decide (b=0)) (k (.int i (i.wrap (a.tdiv b))))
        | .rem=>cX (!decide (b=0)) (k (.int i (a.tmod b)))
        | .and=>k (.int i (i.wrap (BitVec.ofInt i.bits a &&& BitVec.ofInt i.bits b).toNat))
        | .or=>k (.int i (i.wrap (BitVec.ofInt i.bits a ||| BitVec.ofInt i.bits b).toNat))
        | .xor=>k (.int i (i.wrap (BitVec.ofInt i.bits a ^^^ BitVec.ofInt i.bits b).toNat))
        | .eql=>k (.bool (a==b))
        | .neq=>k (.bool (a != b))
        | .lss=>k (.bool (decide (a<b)))
        | .leq=>k (.bool (decide (a≤b)))
        | .gtr=>k (.bool (decide (a>b)))
        | .geq=>k (.bool (decide (a≥b)))
        | _=>none)else none)=some r:=by
      cases op <;> first|exact absurd (.inl rfl) hsh|exact absurd (.inr rfl) hsh|exact hk
    clear hk
    split at qT
    · rename_i xC
      subst xC
      cases op <;> simp only at qT <;> try (first|exact absurd (.inl rfl) hsh|exact absurd (.inr rfl) hsh|cases qT)
      case add=>exact ⟨_,_,by simp[binOp,Op.intArith], .int (hw _),qT⟩
      case sub=>exact ⟨_,_,by simp[binOp,Op.intArith], .int (hw _),qT⟩
      case mul=>exact ⟨_,_,by simp[binOp,Op.intArith], .int (hw _),qT⟩
      case quo =>
        obtain ⟨h0,qT⟩:=cx qT
        simp at h0
        exact ⟨_,_,by simp[binOp,Op.intDiv,h0], .int (hw _),qT⟩
      case rem =>
        obtain ⟨h0,qT⟩:=cx qT
        simp at h0
        refine ⟨_,_,by simp[binOp,Op.intDiv,h0], .int ?_,qT⟩
        unfold IntKind.has at ha ⊢
        have W7:i.min≤0:=by cases i <;> simp[IntKind.min,IntKind.signed,IntKind.bits]
        have hmax:0≤i.max:=by cases i <;> simp[IntKind.max,IntKind.signed,IntKind.bits]
        have hb:=Qp a b
        rcases Int.lt_or_le a 0 with hn|hn
        · have:=hb.2 (by omega); omega
        · have:=hb.1 hn; omega
      case and=>exact ⟨_,_,by simp[binOp,Op.intBits], .int (hw _),qT⟩
      case or=>exact ⟨_,_,by simp[binOp,Op.intBits], .int (hw _),qT⟩
      case xor=>exact ⟨_,_,by simp[binOp,Op.intBits], .int (hw _),qT⟩
      case eql=>exact ⟨_,_,by simp[binOp,Op.intCmp], .bool _,qT⟩
      case neq=>exact ⟨_,_,by simp[binOp,Op.intCmp], .bool _,qT⟩
      case lss=>exact ⟨_,_,by simp[binOp,Op.intCmp], .bool _,qT⟩
      case leq=>exact ⟨_,_,by simp[binOp,Op.intCmp], .bool _,qT⟩
      case gtr=>exact ⟨_,_,by simp[binOp,Op.intCmp], .bool _,qT⟩
      case geq=>exact ⟨_,_,by simp[binOp,Op.intCmp], .bool _,qT⟩
    · cases qT
end

section
variable {P:Program} {tt:dJ} {w:World} {h:az} {c:kh} {R:Type}

theorem W8 (a b:ByteArray):(a.toList==b.toList)=(a.data.toList==b.data.toList):=by rw[toList_data,toList_data]

theorem size_append (a b:ByteArray):(a++b).size=a.size+b.size:=ByteArray.size_append

theorem W9 {op:BinOp} {a b:ByteArray} (t:TypeId) (x y:Operand) {k:V→Option R} {r:R}
    (hk:xB op (.str a.data.toList) (.str b.data.toList) k=some r) :
    oK P w h c (do eqGuard op t x y (.string a) (.string b); binOp op t (.string a) (.string b)) k r:=by
  have hg:∀op:BinOp,(eqGuard op t x y (.string a) (.string b)).run P w = .ok () w:=fun op=>by cases op <;> simp[eqGuard]
  have he:(a.toList==b.toList)=(a.data.toList==b.data.toList):=W8 a b
  have hl:Op.bytesLess a.toList b.toList=Ce a.data.toList b.data.toList:=by rw[toList_data,toList_data,Lv]
  unfold oK
  simp only[Sem.run_bind,hg,Result.andThen_ok]
  cases op <;> simp only[xB]at hk <;> try (first|cases hk)
  case add =>
    obtain ⟨h0,hk⟩:=cx hk
    simp at h0
    refine ⟨_, .string (a++b),?_,Au (a++b) (by simp) (by simp; exact h0),hk⟩
    have:¬(((a.size+b.size:Nat):Int)>IntKind.i64.max):=by
      have e:IntKind.i64.max=9223372036854775807:=by decide
      rw[e]; omega
    simp only[binOp,Op.stringOp]
    rw[if_neg this]; rfl
  case eql=>exact ⟨_, .bool _,by simp only[binOp,Op.stringOp,he]; rfl, .bool _,hk⟩
  case neq=>exact ⟨_, .bool _,by simp only[binOp,Op.stringOp,he]; rfl, .bool _,hk⟩
  case lss=>exact ⟨_, .bool _,by simp only[binOp,Op.stringOp,hl]; rfl, .bool _,hk⟩
  case leq=>exact ⟨_, .bool _,by simp only[binOp,Op.stringOp,hl,he]; rfl, .bool _,hk⟩
  case gtr=>exact ⟨_, .bool _,by simp only[binOp,Op.stringOp,hl,he]; rfl, .bool _,hk⟩
  case geq=>exact ⟨_, .bool _,by simp only[binOp,Op.stringOp,hl]; rfl, .bool _,hk⟩

theorem UQ (T:xy P tt) {op:BinOp} {a b:Bool} {t:TypeId} (ht:(tt.at t).d = .bool) (x y:Operand) {k:V→Option R} {r:R}
    (hk:xB op (.bool a) (.bool b) k=some r):oK P w h c (do eqGuard op t x y (.bool a) (.bool b); binOp op t (.bool a) (.bool b)) k r:=by
  have hu:P.underlying t=some .bool:=eO T ht
  have hg:∀op:BinOp,(eqGuard op t x y (.bool a) (.bool b)).run P w = .ok () w:=fun op=>by cases op <;> simp[eqGuard]
  have hq:=run_equalIn_bool w 9999 t a b hu
  unfold oK
  simp only[Sem.run_bind,hg,Result.andThen_ok]
  cases op <;> simp only[xB,eqV]at hk <;> try (first|cases hk)
  case eql=>exact ⟨_, .bool (a==b),by simp[binOp,Op.equal,Op.maxDepth,hq], .bool _,hk⟩
  case neq=>exact ⟨_, .bool (!(a==b)),by simp[binOp,Op.equal,Op.maxDepth,hq], .bool _,hk⟩

theorem Xa (T:xy P tt) {op:BinOp} {cs ds:List V} {xs ys:Array Value} {t:TypeId} (ht:O8 (tt.at t) cs ds=true) (rx:cH w h c cs xs.toList) (ry:cH w h c ds ys.toList)
    (x y:Operand) {k:V→Option R} {r:R} (hk:xB op (.agg cs) (.agg ds) k=some r) :
    oK P w h c (do eqGuard op t x y (.agg xs) (.agg ys); binOp op t (.agg xs) (.agg ys)) k r:=by
  cases op <;> simp only[xB,eqV]at hk <;> try (first|cases hk)
  all_goals
    split at hk
    · rename_i b hb
      obtain ⟨hg,hq⟩:=T.eqs t w h c cs ds xs ys b ht rx ry hb
      have hg':=fun op=>run_eqGuard_agg (P:=P) (w:=w) op t x y xs ys hg
      unfold oK
      simp only[Sem.run_bind,hg',Result.andThen_ok]
      first
        | exact ⟨_, .bool b,by simp only[binOp]; unfold Op.equal Op.maxDepth; simp[hq], .bool _,hk⟩
        | exact ⟨_, .bool (!b),by simp only[binOp]; unfold Op.equal Op.maxDepth; simp[hq], .bool _,hk⟩
    · cases hk

theorem GR (d:Nat) (t e:TypeId) (q:Option Addr) (hu:P.underlying t=some (.pointer e)) :
    (Op.equalIn (d+1) t (.pointer q) (.pointer none)).run P w = .ok q.isNone w:=by
  cases q <;> simp[Op.equalIn,run_underlying hu]

theorem CX (t e:TypeId) (q:Option Addr) (hu:P.underlying t=some (.pointer e)) :
    (Op.equal t (.pointer q) (.pointer none)).run P w = .ok q.isNone w:=GR 9999 t e q hu

theorem Sf (T:xy P tt) {op:BinOp} {a b:V} {u v:Value} {t e:TypeId} (ht:(tt.at t).d = .ptr e) (ra:dC w h c a u) (rb:dC w h c b v) (x y:Operand)
    {k:V→Option R} {r:R} (hk:O7 op a b k=some r):oK P w h c (do eqGuard op t x y u v; binOp op t u v) k r:=by
  have hu:P.underlying t=some (.pointer e):=eO T ht
  unfold O7 at hk
  split at hk
  · cases rb
    have key:∀r,R7 a=some r→∃q:Option Addr,u = .pointer q∧r=q.isNone:=by
      intro r hr
      unfold R7 at hr
      split at hr <;> try cases hr
      · cases ra; exact ⟨none,rfl,rfl⟩
      · cases ra with|ptr _ hv=>obtain ⟨b,hv,_⟩:=hv; exact ⟨_,hv,rfl⟩
      · cases ra; exact ⟨_,rfl,rfl⟩
      · cases ra with|s8 _ hv=>obtain ⟨b,hv,_⟩:=hv; exact ⟨_,hv,rfl⟩
    split at hk
    · rename_i q hq
      obtain ⟨q,rfl,rfl⟩:=key _ hq
      refine ⟨_, .bool q.isNone,?_, .bool _,hk⟩
      have hq:=CX (w:=w) t e q hu
      cases q <;> simp[eqGuard,binOp,hq]
    · rename_i q hq
      obtain ⟨q,rfl,rfl⟩:=key _ hq
      refine ⟨_, .bool (!q.isNone),?_, .bool _,hk⟩
      have hq:=CX (w:=w) t e q hu
      cases q <;> simp[eqGuard,binOp,hq]
    · cases hk
  · cases hk

theorem dC.Pa {t:Nat} {k:IntKind} {n:Int} {v:Value} (r:dC w h c (.ET t k n) v):v = .iface t (.int k n)∧k.has n:=by cases r; exact ⟨rfl, ‹_›⟩

theorem UR (T:xy P tt) {op:BinOp} {a b:V} {u v:Value} {t:TypeId} (ht:(tt.at t).d = .iface) (ra:dC w h c a u) (rb:dC w h c b v) (x y:Operand)
    {k:V→Option R} {r:R} (hk:ifK op y a b k=some r):oK P w h c (do eqGuard op t x y u v; binOp op t u v) k r:=by
  obtain ⟨ms,hu⟩:=eO T ht
  have hq:∀(d:Nat) (u:Value),(u = .nilIface∨∃t x,u = .iface t x)→(Op.equalIn (d+1) t u .nilIface).run P w = .ok (match u with | .nilIface=>true|_=>false) w:=by
    rintro d u (rfl|⟨t',x',rfl⟩) <;> simp[Op.equalIn,run_underlying hu]
  have hq1:=hq 9999 .nilIface (.inl rfl)
  unfold ifK at hk
  split at hk <;> try (first|cases hk)
  · cases ra; cases rb
    refine ⟨_, .bool true,?_, .bool _,hk⟩
    simp[eqGuard,binOp,Op.equal,Op.maxDepth,hq1]
  · cases ra; cases rb
    refine ⟨_, .bool false,?_, .bool _,hk⟩
    simp[eqGuard,binOp,Op.equal,Op.maxDepth,hq1]
  · cases ra with
    | iface t' v' =>
      cases rb
      have US:=hq 9999 (.iface t' v') (.inr ⟨_,_,rfl⟩)
      refine ⟨_, .bool false,?_, .bool _,hk⟩
      simp[eqGuard,binOp,Op.equal,Op.maxDepth,US]
  · cases ra with
    | iface t' v' =>
      cases rb
      have US:=hq 9999 (.iface t' v') (.inr ⟨_,_,rfl⟩)
      refine ⟨_, .bool true,?_, .bool _,hk⟩
      simp[eqGuard,binOp,Op.equal,Op.maxDepth,US]
  · obtain ⟨rfl,_⟩:=ra.Pa
    cases rb
    refine ⟨_, .bool false,?_, .bool _,hk⟩
    simp[eqGuard,binOp,Op.equal,Op.maxDepth,hq 9999 (.iface _ (.int _ _)) (.inr ⟨_,_,rfl⟩)]
  · obtain ⟨rfl,_⟩:=ra.Pa
    cases rb
    refine ⟨_, .bool true,?_, .bool _,hk⟩
    simp[eqGuard,binOp,Op.equal,Op.maxDepth,hq 9999 (.iface _ (.int _ _)) (.inr ⟨_,_,rfl⟩)]

theorem Ty.sz_pos' (T:Ty):0<T.sz:=by cases T <;> simp[Ty.sz]

theorem Cg (d:Nat) (t e:TypeId) (A:Option Addr) (n cap:Nat) (hu:P.underlying t=some (.slice e)) :
    (Op.equalIn (d+1) t (.slice A n cap) (.slice none 0 0)).run P w = .ok A.isNone w:=by
  cases A <;> simp[Op.equalIn,run_underlying hu]

theorem UT (T:xy P tt) {op:BinOp} {a b:V} {u v:Value} {t e:TypeId} (ht:(tt.at t).d = .slice e) (ra:dC w h c a u) (rb:dC w h c b v) (x y:Operand)
    {k:V→Option R} {r:R} (hk:slK op a b k=some r):oK P w h c (do eqGuard op t x y u v; binOp op t u v) k r:=by
  have hu:P.underlying t=some (.slice e):=eO T ht
  unfold slK at hk
  split at hk
  · cases rb
    have key:∀(neg:Bool) (k:V→Option R),Ef a (fun r=>k (Lj neg r))=some r→∃A n cap,u = .slice A n cap∧∃z,dC w h c z (.bool (bif neg then !A.isNone else A.isNone))∧k z=some r:=by
      intro neg k hk
      unfold Ef at hk
      split at hk <;> try cases hk
      · cases ra; exact ⟨none,0,0,rfl, .bool (bif neg then false else true),by cases neg <;> exact .bool _,by cases neg <;> exact hk⟩
      · rename_i T l tk _
        cases ra with
        | @sl _ _ _ A cap f lO sw hc hr xR mR =>
          refine ⟨A,_,cap,rfl,?_⟩
          cases hl:l.isEmpty with
          | true=>rw[hl]at hk; exact ⟨.FZ, .FZ _,hk⟩
          | false =>
            rw[hl]at hk
            have HC:0<l.length:=List.length_pos_iff.2 (by intro e; rw[e]at hl; cases hl)
            obtain ⟨b,o,rfl,_⟩:=hc 0 0 HC (Ty.sz_pos' T)
            exact ⟨_, .bool _,hk⟩
      · rename_i i n _
        cases ra with
        | row hi hn hv =>
          obtain ⟨A,cap,rfl,hA,_⟩:=hv
          refine ⟨A,n,cap,rfl,?_⟩
          cases hl:decide (n=0)with
          | true=>rw[hl]at hk; exact ⟨.FZ, .FZ _,hk⟩
          | false =>
            rw[hl]at hk
            obtain ⟨q,rfl⟩:=hA (Nat.pos_of_ne_zero (by simpa using hl))
            exact ⟨_, .bool _,hk⟩
    split at hk
    · obtain ⟨A,n,cap,rfl,z,rz,hk⟩:=key false k hk
      refine ⟨_, .bool A.isNone,?_,rz,hk⟩
      have hq:=Cg (w:=w) 9999 t e A n cap hu
      simp[eqGuard,binOp,Op.equal,Op.maxDepth,hq]
    · obtain ⟨A,n,cap,rfl,z,rz,hk⟩:=key true k hk
      refine ⟨_, .bool (!A.isNone),?_,rz,hk⟩
      have hq:=Cg (w:=w) 9999 t e A n cap hu
      simp[eqGuard,binOp,Op.equal,Op.maxDepth,hq]
    · cases hk
  · cases hk
end

section
variable {P:Program} {tt:dJ} {w:World} {h:az} {c:kh} {R:Type}

theorem Qq {v:V} {d:Value} (r:dC w h c v d) (h1:v.one=true):d.oneCell'=true∧d.cells = #[d]:=by
  cases r <;> simp_all [V.one,Value.oneCell',Value.cells]
  case ptr hi hv=>obtain ⟨b,rfl,_⟩:=hv; simp
  case s8 hi hv=>obtain ⟨b,rfl,_⟩:=hv; simp
  case row hi _ hv=>obtain ⟨A,cap,rfl,_,_⟩:=hv; simp
  case CR hi _ hv=>obtain ⟨A,cap,rfl,_,_⟩:=hv; simp
  case map hi hv=>obtain ⟨b,rfl,_⟩:=hv; simp

def Sg (ds:List Value):Prop:=∀d∈ds,d.oneCell'=true

theorem TP {cs:List V} {ds:List Value} (r:cH w h c cs ds) (h1:cs.all V.one=true):Sg ds:=by
  intro d hd
  obtain ⟨j,hj,rfl⟩:=List.mem_iff_getElem.1 hd
  have N2:j<cs.length:=by have:=r.1; omega
  have:=r.2 j cs[j] ds[j] (List.getElem?_eq_getElem N2) (List.getElem?_eq_getElem hj)
  exact (Qq this (by simpa using List.all_eq_true.1 h1 _ (List.getElem_mem N2))).1

theorem EZ {v:V} {d:Value} (r:dC w h c v d) {cs:List V} (hf:NY v=some cs):cH w h c cs d.cells.toList∧Sg d.cells.toList∧cs.all V.one=true:=by
  unfold NY at hf
  split at hf
  · split at hf
    · rename_i ze
      cases hf
      cases r with
      | @agg _ x hl hr =>
        have hr':cH w h c cs x.toList:=⟨by rw[hl,Array.length_toList],fun j v d hv hd=>hr j v d hv (by simpa using hd)⟩
        exact ⟨hr',TP hr' ze,ze⟩
    · cases hf
  · split at hf
    · rename_i h1
      cases hf
      obtain ⟨ho,hc⟩:=Qq r h1
      rw[hc]
      refine ⟨.cons r .nil,fun d' hd => ?_,by simp[h1]⟩
      simp at hd; subst hd; exact ho
    · cases hf

theorem Xb (xs:List Value):∀(k off:Nat) (a:Array Value),off+k+xs.length≤a.size →
    ((xs.zipIdx k).foldl (fun cs (p:Value × Nat)=>cs.setIfInBounds (off+p.2) p.1) a).toList=a.toList.take (off+k)++xs++a.toList.drop (off+k+xs.length):=by
  induction xs with
  | nil=>intro k off a hs; simp
  | cons x xs ih =>
    intro k off a hs
    simp only[List.length_cons]at hs
    simp only[List.zipIdx_cons,List.foldl_cons]
    rw[ih (k+1) off _ (by simp; omega)]
    simp only[Array.toList_setIfInBounds]
    have kY:off+k<a.toList.length:=by simp; omega
    apply List.ext_getElem?
    intro i
    simp only[List.getElem?_append,List.length_take,List.length_set,List.getElem?_take,List.getElem?_drop,List.getElem?_set,List.length_cons,List.length_append,List.getElem?_cons]
    simp only[Array.length_toList]at kY ⊢
    by_cases h1:i<off+k
    · have e1:off+k≠i:=by omega
      have e2:i<off+(k+1):=by omega
      have e3:i<min (off+(k+1)) a.size:=by omega
      have e4:i<min (off+k) a.size:=by omega
      have e5:i<min (off+(k+1)) a.size+xs.length:=by omega
      have e6:i<min (off+k) a.size+(xs.length+1):=by omega
      simp[h1,e1,e2,e3,e4,e5,e6]
    · by_cases h2:i=off+k
      · subst h2
        have m1:min (off+(k+1)) a.size=off+k+1:=by omega
        have m2:min (off+k) a.size=off+k:=by omega
        have e2:off+k<off+(k+1):=by omega
        have e3:off+k<a.size:=by omega
        rw[m1,m2]
        simp[e2,e3]
        intro h7; omega
      · have m1:min (off+(k+1)) a.size=off+k+1:=by omega
        have m2:min (off+k) a.size=off+k:=by omega
        rw[m1,m2]
        by_cases h3:i<off+k+1+xs.length
        · have e1:¬i<off+k+1:=by omega
          have e2:¬i<off+k:=by omega
          have e4:i<off+k+(xs.length+1):=by omega
          have e5:¬(i - (off+k)=0):=by omega
          have e6:i - (off+k) - 1=i - (off+k+1):=by omega
          simp[h3,e1,e2,e4,e5,e6]
        · have e1:¬i<off+k+1:=by omega
          have e4:¬i<off+k+(xs.length+1):=by omega
          have e8:off+(k+1)+xs.length+(i - (off+k+1+xs.length))=off+k+(xs.length+1)+(i - (off+k+(xs.length+1))):=by omega
          simp[h3,e4,e8]
          intro hh; omega

theorem putCells (cells:Array Value) (d:Value) (off:Nat) (hs:off+d.cells.size≤cells.size) :
    (d.cells.zipIdx.foldl (fun cs (p:Value × Nat)=>cs.setIfInBounds (off+p.2) p.1) cells).toList=cells.toList.take off++d.cells.toList++cells.toList.drop (off+d.cells.size):=by
  have h:=Xb d.cells.toList 0 off cells (by simpa using hs)
  simp only[Nat.add_zero,Array.length_toList]at h
  rw[←h,←Array.foldl_toList,Array.toList_zipIdx]

theorem cH.len {cs:List V} {ds:List Value} (r:cH w h c cs ds):cs.length=ds.length:=r.1

theorem DA (place:Nat→Option (Nat × Nat)):∀(parts:List (Nat × V)) (GS:List (Nat × Value)) (cs:List V) (cells:Array Value) (out:List V),
    (parts.map Prod.fst=GS.map Prod.fst)→cH w h c (parts.map Prod.snd) (GS.map Prod.snd)→cH w h c cs cells.toList →
    Gp cs (parts.map fun p=>(((place p.1).getD (0,1000000)).1,((place p.1).getD (0,1000000)).2,p.2))=some out→cells.size<1000000 →
    ∃I4,Instr.fill place cells GS=some I4∧cH w h c out I4.toList∧I4.size=cells.size
  | [],GS,cs,cells,out,he,_,rc,hf,_=>by
    cases GS with
    | nil=>simp[Gp]at hf; subst hf; exact ⟨cells,rfl,rc,rfl⟩
    | cons p ps=>simp at he
  | (i,v)::parts,GS,cs,cells,out,he,rp,rc,hf,hno=>by
    cases GS with
    | nil=>simp at he
    | cons p ps =>
      obtain ⟨i',d⟩:=p
      simp only[List.map_cons,List.cons.injEq]at he
      obtain ⟨rfl,he⟩:=he
      simp only[List.map_cons]at rp hf
      simp only[Gp]at hf
      split at hf
      · rename_i vs hvs
        split at hf
        · rename_i wD
          simp only[Bool.and_eq_true,decide_eq_true_eq]at wD
          obtain ⟨hlen,qs⟩:=wD
          obtain ⟨rv,_,_⟩:=EZ rp.head hvs
          have hl1:=rv.len
          have P8:=rc.len
          simp only[Array.length_toList]at hl1 P8
          cases WM:place i with
          | none =>
            rw[WM]at qs
            simp at qs; omega
          | some q =>
            obtain ⟨off,size⟩:=q
            simp only[WM,Option.getD_some]at hlen qs hf
            have CB:=putCells cells d off (by omega)
            have HA:cH w h c (cs.take off++vs++cs.drop (off+size)) (d.cells.zipIdx.foldl (fun cs (p:Value × Nat)=>cs.setIfInBounds (off+p.2) p.1) cells).toList:=by
              rw[CB]
              have hd:d.cells.size=size:=by omega
              rw[hd]
              exact ((rc.take off).append rv).append (rc.drop _)
            obtain ⟨I4,h1,h2,h3⟩:=DA place parts ps _ _ out he rp.tail HA hf (by rw[←Array.length_toList,CB]; simp; omega)
            refine ⟨I4,?_,h2,?_⟩
            · simp only[Instr.fill,WM]
              rw[if_neg]
              · exact h1
              · simp; omega
            · rw[h3,←Array.length_toList,CB]; simp; omega
        · cases hf
      · cases hf
end

section
variable {P:Program} {tt:dJ} {w:World} {h:az} {c:kh} {R:Type}

theorem ta (b o n:Nat):(⟨b,o,none⟩:Addr).add n=⟨b,o+n,none⟩:=by unfold Addr.add; split <;> simp_all

theorem TQ {T:Ty} {l:List T.den} {t:Tok} {A:Option Addr} {n cap:Nat} (r:dC w h c (.sl T l t) (.slice A n cap)) (lo hi:Nat) (h1:lo≤hi) (h2:hi≤l.length) :
    dC w h c (.sl T ((l.drop lo).take (hi - lo)) .no) (.slice (if cap=lo then A else A.map (·.add (lo*T.sz))) (hi - lo) (cap - lo)):=by
  cases r with
  | sl f lO sw hc hr xR mR =>
    have hlen:((l.drop lo).take (hi - lo)).length=hi - lo:=by simp; omega
    have key:=dC.sl (w:=w) (h:=h) (c:=c) (T:=T) (l:=(l.drop lo).take (hi - lo)) (t := .no) (A:=if cap=lo then A else A.map (·.add (lo*T.sz))) (cap:=cap - lo)
      (fun i j=>f (lo+i) j) (by omega) (by omega) ?_ ?_ (by simp) (by simp)
    · rw[hlen]at key; exact key
    · intro i j hi' hj
      rw[hlen]at hi'
      obtain ⟨b,o,hA,xO,Xc⟩:=hc (lo+i) j (by omega) hj
      rw[if_neg (by omega)]
      refine ⟨b,o+lo*T.sz,by rw[hA]; simp[ta],?_⟩
      have e:o+lo*T.sz+i*T.sz+j=o+(lo+i)*T.sz+j:=by rw[Nat.add_mul]; omega
      rw[e]
      exact ⟨xO,Xc⟩
    · intro i j x v hx hv
      rw[List.getElem?_take,List.getElem?_drop]at hx
      split at hx
      · exact hr _ j x v hx hv
      · cases hx

theorem I5 {T:Ty} {l:List T.den} {t:Tok} {v:Value} (r:dC w h c (.sl T l t) v):∃A cap,v = .slice A l.length cap∧l.length≤cap∧cap≤mx:=by
  cases r with
  | sl f lO sw hc hr xR mR=>exact ⟨_,_,rfl,lO,sw⟩

theorem Ty.DB (T:Ty):0<T.sz:=by cases T <;> simp[Ty.sz]
theorem Ty.lD (T:Ty) (x:T.den):(T.cells x).length=T.sz:=by cases T <;> rfl

theorem Bl {v:Option V} {v':Option Value} (hv:match v,v' with|none,none=>True|some a,some b=>dC w h c a b|_,_=>False) {d:Int} {k:Int→Option R} {r:R}
    (hk:EV v d k=some r):∃n,k n=some r∧((v'=none∧n=d)∨∃i,v'=some (.int i n)):=by
  unfold EV at hk
  split at hk
  · split at hv <;> simp_all
  · rename_i i n
    cases v' with
    | none=>exact hv.elim
    | some b=>exact ⟨n,hk, .inr ⟨_,by rw[(show dC w h c (.int i n) b from hv).iQ.1]⟩⟩
  · cases hk

theorem HD {ρ:Operand→V} {ρ':Operand→Value} (hρ:∀x,dC w h c (ρ x) (ρ' x)) (o:Option Operand) :
    match o.map ρ,o.map ρ' with|none,none=>True|some a,some b=>dC w h c a b|_,_=>False:=by
  cases o <;> simp[hρ]

theorem uX (isSlice:Bool) (len cap:Nat) (lo hi:Option Value) (l hh:Int) (hlo:(lo=none∧l=0)∨∃k,lo=some (.int k l))
    (hhi:(hi=none∧hh=len)∨∃k,hi=some (.int k hh)) (h0:0≤l) (h1:l≤hh) (h2:hh≤cap) :
    (Instr.sliceBounds isSlice len cap lo hi none).run P w = .ok (l.toNat,hh.toNat,cap) w:=by
  have hb:∀(k:IntKind) (n:Int) (y:Nat) (code:BoundsCode),0≤n→n≤y→(Instr.sliceBound (.int k n) y code).run P w = .ok n.toNat w:=by
    intro k n y code h0 h1
    simp[Instr.sliceBound,asIntOf,h0,h1]
  rcases hlo with ⟨rfl,rfl⟩|⟨k,rfl⟩ <;> rcases hhi with ⟨rfl,rfl⟩|⟨k',rfl⟩
  · simp[Instr.sliceBounds]
  · simp[Instr.sliceBounds,hb _ _ _ _ (show 0≤hh by omega) h2]
  · simp[Instr.sliceBounds,hb _ _ _ _ h0 h1]
  · simp only[Instr.sliceBounds]
    have e:((hh.toNat:Nat):Int)=hh:=by omega
    simp[hb _ _ _ _ (show 0≤hh by omega) h2,hb k l hh.toNat .sliceB h0 (by omega)]

theorem Lw {v:V} {d:Value} (r0:dC w h c v d) {k:Int→Option R} {r:R} (hk:idxOf v k=some r):∃i n,d = .int i n∧k n=some r:=by
  unfold idxOf at hk
  split at hk
  · exact ⟨_,_,r0.iQ.1,hk⟩
  · cases hk

theorem Kj (T:xy P tt) {t:Nat} {a i:V} {a' i':Value} (ra:dC w h c a a') (ri:dC w h c i i') {k:V→Option R} {r:R}
    (hk:(idxOf i fun n =>
      match (generalizing:=false) (tt.at t).d,a with
      | .slice e, .sl T l _=>if T.sz=(tt.at e).size&&tt.ok e then cX (decide (0≤n)&&decide (n<l.length)) (k (.xA (T.cells (l.getD n.toNat T.cn))))else none
      | .slice e, .row id m=>if tt.ok e then cX (decide (0≤n)&&decide (n<m)) (k (.s8 id (tt.at e).size n.toNat 0))else none
      | .arr m e, .ptr id o=>if tt.ok e then cX (decide (0≤n)&&decide (n<m)) (k (.ptr id (o+n.toNat*(tt.at e).size)))else none
      | _,_=>none)=some r):oK P w h c (Instr.indexAt t a' i') k r:=by
  obtain ⟨ik,n,rfl,GU⟩:=Lw ri hk
  clear hk
  split at GU
  · rename_i e T' l tk hd
    split at GU
    · rename_i wD
      simp only[Bool.and_eq_true,decide_eq_true_eq]at wD
      obtain ⟨qs,rU⟩:=wD
      obtain ⟨hb,hk⟩:=cx GU
      simp only[Bool.and_eq_true,decide_eq_true_eq]at hb
      have hu:P.underlying t=some (.slice e):=eO T hd
      have GV:=T.sizeOf (w:=w) rU
      cases ra with
      | @sl _ _ _ A cap f lO sw hc hr xR mR =>
        have Nt:n.toNat<l.length:=by omega
        have hxd:l.getD n.toNat T'.cn=l[n.toNat]:=by simp[List.getD,List.getElem?_eq_getElem Nt]
        have hx:l[n.toNat]? = some l[n.toNat]:=List.getElem?_eq_getElem Nt
        obtain ⟨b,o,rfl,_,_⟩:=hc n.toNat 0 Nt T'.DB
        refine ⟨_, .pointer (some ⟨b,o+n.toNat*T'.sz,none⟩),?_,?_,hk⟩
        · simp[Instr.indexAt,asIntOf,run_underlying hu,hb.1,hb.2,GV,←qs,ta]
        · refine .xA (fun j=>f n.toNat j) (fun j hj => ?_) (fun j v hv=>hr n.toNat j _ v hx (by rw[hxd]at hv; exact hv))
          rw[Ty.lD]at hj
          obtain ⟨b',o',e',h1,h2⟩:=hc n.toNat j Nt hj
          cases e'
          exact ⟨h1,h2⟩
    · cases GU
  · rename_i e id m hd
    split at GU
    · rename_i rU
      obtain ⟨hb,hk⟩:=cx GU
      simp only[Bool.and_eq_true,decide_eq_true_eq]at hb
      have hu:P.underlying t=some (.slice e):=eO T hd
      have GV:=T.sizeOf (w:=w) rU
      cases ra with
      | row hi _ hv =>
        obtain ⟨A,cap,rfl,hA,hv⟩:=hv
        obtain ⟨a,rfl⟩:=hA (by omega)
        refine ⟨_, .pointer (some (a.add (n.toNat*(tt.at e).size))),?_,?_,hk⟩
        · simp[Instr.indexAt,asIntOf,run_underlying hu,hb.1,hb.2,GV]
        · refine .s8 hi ⟨_,rfl,fun T' l' he qs hj => ?_⟩
          obtain ⟨_,_,_,h3⟩:=hv T' l' he
          rcases h3 with ⟨_,h3,_⟩|⟨b,arr,el,fz,g1,g2,_,_⟩
          · cases h3
          · cases g2
            exact ⟨b,g1,by rw[qs,ta]; rfl⟩
    · cases GU
  · rename_i m e id o hd
    split at GU
    · rename_i rU
      obtain ⟨hb,hk⟩:=cx GU
      simp only[Bool.and_eq_true,decide_eq_true_eq]at hb
      have hu:P.underlying t=some (.array m e):=eO T hd
      have GV:=T.sizeOf (w:=w) rU
      cases ra with
      | ptr hi hv =>
        obtain ⟨b,rfl,hv⟩:=hv
        refine ⟨_, .pointer (some (Addr.add ⟨b,o,none⟩ (n.toNat*(tt.at e).size))),?_,?_,hk⟩
        · simp[Instr.indexAt,asIntOf,run_underlying hu,hb.1,hb.2,GV,Instr.sureAddr]
        · exact .ptr hi ⟨b,by rw[ta],hv⟩
    · cases GU
  · cases GU
end

section
variable {P:Program} {tt:dJ} {w:World} {h:az} {c:kh} {R:Type}

theorem Qr {t off:Nat} {cs:List V} {k:V→Option R} {r:R} (hk:rT tt t cs off k=some r):tt.ok t=true:=by
  unfold rT at hk
  split at hk
  · assumption
  · cases hk

theorem Kk (T:xy P tt) {s f:Nat} {a:V} {a':Value} (ra:dC w h c a a') {k:V→Option R} {r:R}
    (hk:(match (generalizing:=false) (tt.at s).d with
    | .struct fs =>
      (match (generalizing:=false) fs[f]? with
       | some (off,t) =>
         if (tt.at t).size=0 || !tt.ok t then none else
         (match (generalizing:=false) a with
          | .ptr i o=>k (.ptr i (o+off))
          | .xA cs=>k (.xA (cs.drop off))
          | .s8 i n j o=>k (.s8 i n j (o+off))
          | _=>none)
       | none=>none)
    | _=>none)=some r):oK P w h c (Instr.fieldAt s a' f) k r:=by
  split at hk
  · rename_i fs hd
    split at hk
    · rename_i off t hf
      split at hk
      · cases hk
      · rename_i Hu
        simp only[Bool.or_eq_true,decide_eq_true_eq,Bool.not_eq_true',not_or,Bool.not_eq_false]at Hu
        obtain ⟨qs,rU⟩:=Hu
        obtain ⟨F,fd,hu,hfd,rfl,rfl⟩:=Hz T hd hf
        have hs:=T.sizeOf (w:=w) rU
        have run:∀b o,(Instr.fieldAt s (.pointer (some ⟨b,o,none⟩)) f).run P w = .ok (.pointer (some ⟨b,o+fd.offset,none⟩)) w:=by
          intro b o
          simp[Instr.fieldAt,run_underlying hu,hfd,Instr.sureAddr,fieldPlace,hs,qs,ta]
        have run':∀a:Addr,(Instr.fieldAt s (.pointer (some a)) f).run P w = .ok (.pointer (some (a.add fd.offset))) w:=by
          intro a
          simp[Instr.fieldAt,run_underlying hu,hfd,Instr.sureAddr,fieldPlace,hs,qs]
        split at hk
        · rename_i ra
          cases ra with
          | ptr hi hv =>
            obtain ⟨b,rfl,hb⟩:=hv
            exact ⟨_,_,run _ _, .ptr hi ⟨b,rfl,hb⟩,hk⟩
        · rename_i ra
          cases ra with
          | xA g hc hr =>
            refine ⟨_,_,run _ _, .xA (fun j=>g (fd.offset+j)) (fun j hj => ?_) (fun j v hv => ?_),hk⟩
            · simp at hj
              have:=hc (fd.offset+j) (by omega)
              rw[Nat.add_assoc]; exact this
            · rw[List.getElem?_drop]at hv
              exact hr _ v hv
        · rename_i ra
          cases ra with
          | s8 hi hv =>
            obtain ⟨a,rfl,hv⟩:=hv
            refine ⟨_,_,run' a, .s8 hi ⟨_,rfl,fun T' l he hn hj => ?_⟩,hk⟩
            obtain ⟨b,hb,rfl⟩:=hv T' l he hn hj
            exact ⟨b,hb,by rw[ta,Nat.add_assoc]⟩
        · cases hk
    · cases hk
  · cases hk

theorem Qs (T:xy P tt) {s f:Nat} {a:V} {a':Value} (ra:dC w h c a a') {k:V→Option R} {r:R}
    (hk:(match (generalizing:=false) (tt.at s).d,a with
    | .struct fs, .agg cs=>(match (generalizing:=false) fs[f]? with|some (off,t)=>rT tt t cs off k|none=>none)
    | _,_=>none)=some r):oK P w h c (Instr.field s a' f) k r:=by
  split at hk
  · have hd := ‹(tt.at s).d = .struct _›
    have ra := ‹dC w h c (.agg _) a'›
    split at hk
    · rename_i off t hf
      obtain ⟨F,fd,hu,hfd,rfl,rfl⟩:=Hz T hd hf
      cases ra with
      | @agg _ x hl hr =>
        obtain ⟨v,v',h1,h2,h3⟩:=JV (x:=x) T ⟨by rw[hl,Array.length_toList],fun j v d hv hd=>hr j v d hv (by simpa using hd)⟩ hk
        exact ⟨v,v',by simp[Instr.field,run_underlying hu,hfd,asAgg,h1],h2,h3⟩
    · cases hk
  · cases hk

theorem UU {s:ByteArray} {n:Int} (h0:0≤n) (h1:n<s.data.toList.length):(if 0≤n then s[n.toNat]? else none)=some (s.data.toList.getD n.toNat 0):=by
  have kY:n.toNat<s.size:=by rw[←size_data]; omega
  have e:s[n.toNat]? = some (s[n.toNat]'kY):=getElem?_pos s n.toNat kY
  rw[if_pos h0,e]
  have:s[n.toNat]'kY=s.data.toList.getD n.toNat 0:=by
    have hl:n.toNat<s.data.toList.length:=by omega
    simp only[List.getD,List.getElem?_eq_getElem hl,Option.getD_some]
    rfl
  rw[this]

theorem Qt (T:xy P tt) {t:Nat} {a i:V} {a' i':Value} (ra:dC w h c a a') (ri:dC w h c i i') {k:V→Option R} {r:R}
    (hk:(idxOf i fun n =>
    match (generalizing:=false) (tt.at t).d,a with
    | .string, .str s=>cX (decide (0≤n)&&decide (n<s.length)) (k (.int .u8 (s.getD n.toNat 0).toNat))
    | .arr m e, .agg cs=>cX (decide (0≤n)&&decide (n<m)) (rT tt e cs (n.toNat*(tt.at e).size) k)
    | _,_=>none)=some r):oK P w h c (Instr.index t a' i') k r:=by
  obtain ⟨ik,n,rfl,GU⟩:=Lw ri hk
  clear hk
  split at GU
  · have hd := ‹(tt.at t).d = .string›
    have ra := ‹dC w h c (.str _) a'›
    obtain ⟨hb,hk⟩:=cx GU
    simp only[Bool.and_eq_true,decide_eq_true_eq]at hb
    have hu:P.underlying t=some .string:=eO T hd
    obtain ⟨t',rfl,rfl,_⟩:=ra.kJ
    refine ⟨_,_,?_, .int (Lu _ (UInt8.toNat_lt _)),hk⟩
    have:=UU hb.1 hb.2
    simp only[Instr.index,Sem.run_bind,asIntOf,Sem.run_pure,Result.andThen_ok,run_underlying hu,this]
  · have hd := ‹(tt.at t).d = .arr _ _›
    have ra := ‹dC w h c (.agg _) a'›
    obtain ⟨hb,hk⟩:=cx GU
    simp only[Bool.and_eq_true,decide_eq_true_eq]at hb
    have hu:=eO T hd
    simp only[TD.Is]at hu
    have rU:=Qr hk
    have hs:=T.sizeOf (w:=w) rU
    cases ra with
    | @agg _ x hl hr =>
      obtain ⟨v,v',h1,h2,h3⟩:=JV (x:=x) T ⟨by rw[hl,Array.length_toList],fun j v d hv hd=>hr j v d hv (by simpa using hd)⟩ hk
      exact ⟨v,v',by simp[Instr.index,asIntOf,run_underlying hu,hb.1,hb.2,hs,h1],h2,h3⟩
  · cases GU

theorem UW {s:ByteArray} {l hh:Nat}:(s.extract l hh).data.toList=(s.data.toList.drop l).take (hh - l):=by
  simp[ByteArray.data_extract,List.extract]

theorem Qu (T:xy P tt) {t:Nat} {a:V} {a':Value} (ra:dC w h c a a') {ρ:Operand→V} {ρ':Operand→Value} (hρ:∀x,dC w h c (ρ x) (ρ' x)) (lo hi:Option Operand)
    {k:V→Option R} {r:R}
    (hk:(match (generalizing:=false) (tt.at t).d,a with
       | .string, .str s =>
         EV (hi.map ρ) s.length fun h=>EV (lo.map ρ) 0 fun l =>
         cX (decide (0≤h)&&decide (h≤s.length)) (cX (decide (0≤l)&&decide (l≤h)) (k (.str ((s.drop l.toNat).take (h.toNat - l.toNat)))))
       | .slice e, .sl T s _ =>
         if T.sz=(tt.at e).size&&tt.ok e then
         EV (lo.map ρ) 0 fun l =>
         (match (generalizing:=false) hi with
          | none=>cX (decide (0≤l)&&decide (l≤s.length)) (k (.sl T (s.drop l.toNat) .no))
          | some hi =>
            EV (some (ρ hi)) 0 fun h =>
            cX (decide (0≤h)&&decide (h≤s.length)) (cX (decide (0≤l)&&decide (l≤h)) (k (.sl T ((s.drop l.toNat).take (h.toNat - l.toNat)) .no))))
         else none
       | .slice e, .cF =>
         if !tt.ok e then none else
         EV (hi.map ρ) 0 fun h=>EV (lo.map ρ) 0 fun l=>cX (decide (h=0)&&decide (l=0)) (k .cF)
       | _,_=>none)=some r):oK P w h c (Instr.sliceAt t a' (lo.map ρ') (hi.map ρ') none) k r:=by
  split at hk
  · have hd := ‹(tt.at t).d = .string›
    have ra := ‹dC w h c (.str _) a'›
    have hu:P.underlying t=some .string:=eO T hd
    obtain ⟨hh,hk,hhi⟩:=Bl (HD hρ hi) hk
    obtain ⟨l,hk,hlo⟩:=Bl (HD hρ lo) hk
    obtain ⟨hb,hk⟩:=cx hk
    obtain ⟨pA,hk⟩:=cx hk
    simp only[Bool.and_eq_true,decide_eq_true_eq]at hb pA
    obtain ⟨t',rfl,rfl,sw⟩:=ra.kJ
    rw[size_data]at hb hhi
    have mI:=uX (P:=P) (w:=w) false t'.size t'.size (lo.map ρ') (hi.map ρ') l hh hlo hhi pA.1 pA.2 hb.2
    refine ⟨_, .string (t'.extract l.toNat hh.toNat),?_,Au _ UW ?_,hk⟩
    · simp[Instr.sliceAt,Instr.slice,run_underlying hu,mI]
    · simp; omega
  · have hd := ‹(tt.at t).d = .slice _›
    have ra := ‹dC w h c (.sl _ _ _) a'›
    rename_i s _ _ _
    split at hk
    · rename_i wD
      simp only[Bool.and_eq_true,decide_eq_true_eq]at wD
      obtain ⟨qs,rU⟩:=wD
      have hu:=eO T hd
      simp only[TD.Is]at hu
      have hs:=T.sizeOf (w:=w) rU
      obtain ⟨A,cap,rfl,lO,sw⟩:=I5 ra
      obtain ⟨l,hk,hlo⟩:=Bl (HD hρ lo) hk
      cases hi with
      | none =>
        obtain ⟨hb,hk⟩:=cx hk
        simp only[Bool.and_eq_true,decide_eq_true_eq]at hb
        have mI:=uX (P:=P) (w:=w) true s.length cap (lo.map ρ') none l s.length hlo (.inl ⟨rfl,rfl⟩) hb.1 hb.2 (by omega)
        have hc:=TQ ra l.toNat s.length (by omega) (Nat.le_refl _)
        rw[List.take_of_length_le (by simp)]at hc
        refine ⟨_,_,?_,hc,hk⟩
        simp[Instr.sliceAt,Instr.slice,run_underlying hu,mI,hs,←qs]
      | some hi =>
        obtain ⟨hh,hk,hhi⟩:=Bl (v':=some (ρ' hi)) (hρ hi) hk
        obtain ⟨hb,hk⟩:=cx hk
        obtain ⟨pA,hk⟩:=cx hk
        simp only[Bool.and_eq_true,decide_eq_true_eq]at hb pA
        have mI:=uX (P:=P) (w:=w) true s.length cap (lo.map ρ') (some (ρ' hi)) l hh hlo (hhi.imp (fun x=>by cases x.1) id) pA.1 pA.2 (by omega)
        have hc:=TQ ra l.toNat hh.toNat (by omega) (by omega)
        refine ⟨_,_,?_,hc,hk⟩
        simp[Instr.sliceAt,Instr.slice,run_underlying hu,mI,hs,←qs]
    · cases hk
  · have hd := ‹(tt.at t).d = .slice _›
    have ra := ‹dC w h c .cF a'›
    split at hk
    · cases hk
    · rename_i rU
      simp at rU
      have hu:=eO T hd
      simp only[TD.Is]at hu
      have hs:=T.sizeOf (w:=w) rU
      obtain ⟨hh,hk,hhi⟩:=Bl (HD hρ hi) hk
      obtain ⟨l,hk,hlo⟩:=Bl (HD hρ lo) hk
      obtain ⟨hb,hk⟩:=cx hk
      simp only[Bool.and_eq_true,decide_eq_true_eq]at hb
      obtain ⟨rfl,rfl⟩:=hb
      have mI:=uX (P:=P) (w:=w) true 0 0 (lo.map ρ') (hi.map ρ') 0 0 hlo hhi (by omega) (by omega) (by omega)
      cases ra
      refine ⟨_, .slice none 0 0,?_, .cF,hk⟩
      simp[Instr.sliceAt,Instr.slice,run_underlying hu,mI,hs]
  · cases hk
end

section
variable {P:Program} {tt:dJ} {w:World} {h:az} {c:kh} {R:Type}

theorem oC {s:Sem Value} {k:V→Option R} {r:R} (hm:oK P w h c s k r) :
    ∃v v',((do pure (Next.value (←s))):Sem Next).run P w = .ok (.value v') w∧dC w h c v v'∧k v=some r:=by
  obtain ⟨v,v',h1,h2,h3⟩:=hm
  exact ⟨v,v',by simp[h1],h2,h3⟩

theorem Qv (T:xy P tt) {op:BinOp} {t:Nat} (x y:Operand) {a b:V} {a' b':Value} (ra:dC w h c a a') (rb:dC w h c b b') {k:V→Option R} {r:R}
    (hk:(match (generalizing:=false) a,b with
    | .agg a, .agg b=>if O8 (tt.at t) a b then xB op (.agg a) (.agg b) k else none
    | .bool a, .bool b=>(match (generalizing:=false) (tt.at t).d with | .bool=>xB op (.bool a) (.bool b) k|_=>none)
    | .int i a, .int j b=>xB op (.int i a) (.int j b) k
    | .str a, .str b=>xB op (.str a) (.str b) k
    | a,b=>(match (generalizing:=false) (tt.at t).d with | .ptr _=>O7 op a b k | .slice _=>slK op a b k | .iface=>ifK op y a b k|_=>none))=some r) :
    oK P w h c (do eqGuard op t x y a' b'; binOp op t a' b') k r:=by
  split at hk
  · have ra := ‹dC w h c (.agg _) a'›
    have rb := ‹dC w h c (.agg _) b'›
    split at hk
    · rename_i heq
      cases ra with
      | @agg _ u hl hr =>
        cases rb with
        | @agg _ v WN hr' =>
          exact Xa T heq ⟨by rw[hl,Array.length_toList],fun j v d hv hd=>hr j v d hv (by simpa using hd)⟩
            ⟨by rw[WN,Array.length_toList],fun j v d hv hd=>hr' j v d hv (by simpa using hd)⟩ x y hk
    · cases hk
  · have ra := ‹dC w h c (.bool _) a'›
    have rb := ‹dC w h c (.bool _) b'›
    split at hk
    · rename_i hd
      rw[ra.CW,rb.CW]
      exact UQ T hd x y hk
    · cases hk
  · have ra := ‹dC w h c (.int _ _) a'›
    have rb := ‹dC w h c (.int _ _) b'›
    rename_i i m j n _ _
    have e1:=ra.iQ
    have e2:=rb.iQ
    rw[e1.1,e2.1]
    exact W6 e2.2 t x y hk e1.2
  · have ra := ‹dC w h c (.str _) a'›
    have rb := ‹dC w h c (.str _) b'›
    obtain ⟨s,rfl,rfl,_⟩:=ra.kJ
    obtain ⟨u,rfl,rfl,_⟩:=rb.kJ
    exact W9 t x y hk
  · split at hk
    · rename_i hd
      exact Sf T hd ra rb x y hk
    · rename_i hd
      exact UT T hd ra rb x y hk
    · rename_i hd
      exact UR T hd ra rb x y hk
    · cases hk

theorem Nu (T:xy P tt) {s d:Nat} {a:V} {a':Value} (ra:dC w h c a a') {k:V→Option R} {r:R}
    (hk:(match (generalizing:=false) (tt.at d).d,a with
    | .int i, .int _ n=>k (.int i (i.wrap n))
    | .string, .str t=>(match (generalizing:=false) (tt.at s).d with | .string=>k (.str t)|_=>none)
    | _,_=>none)=some r)
    (hs:tt.ok s=true):oK P w h c (convert s d a') k r:=by
  split at hk
  · have hd := ‹(tt.at d).d = .int _›
    have ra := ‹dC w h c (.int _ _) a'›
    have hu:=eO T hd
    simp only[TD.Is]at hu
    obtain ⟨rfl,_⟩:=ra.iQ
    have hsu:=T.und s
    refine ⟨_,_,?_, .int (Lt _ _),hk⟩
    unfold dJ.ok at hs
    cases UX:(tt.at s).d <;> rw[UX]at hsu hs <;> simp only[TD.Is]at hsu
    case struct fs=>obtain ⟨F,hF,_⟩:=hsu; simp[convert,run_underlying hu,run_underlying hF,Conv.intToInt]
    case func=>obtain ⟨x,y,z,hF⟩:=hsu; simp[convert,run_underlying hu,run_underlying hF,Conv.intToInt]
    case iface=>obtain ⟨x,hF⟩:=hsu; simp[convert,run_underlying hu,run_underlying hF,Conv.intToInt]
    case other=>cases hs
    all_goals simp[convert,run_underlying hu,run_underlying hsu,Conv.intToInt]
  · have hd := ‹(tt.at d).d = .string›
    have ra := ‹dC w h c (.str _) a'›
    have hu:=eO T hd
    simp only[TD.Is]at hu
    split at hk
    · have Xd := ‹(tt.at s).d = .string›
      have TR:=eO T Xd
      simp only[TD.Is]at TR
      have ra':=ra
      obtain ⟨t,rfl,rfl,hl⟩:=ra.kJ
      exact ⟨_,_,by simp[convert,run_underlying hu,run_underlying TR],ra',hk⟩
    · cases hk
  · cases hk

theorem UY (T:xy P tt) {t:Nat} {o:Nat} {a:V} {a':Value} (ra:dC w h c a a') {k:V→Option R} {r:R}
    (hk:(match (generalizing:=false) (tt.at t).d,a with
          | .string, .str s=>k (.int .i64 s.length)
          | .slice _, .sl _ l _=>k (.int .i64 l.length)
          | .slice _, .Na n _=>k (.int .i64 n)
          | .slice _, .row _ n=>k (.int .i64 n)
          | .slice _, .cF=>k (.int .i64 0)
          | _,_=>none)=some r):oK P w h c (Builtin.len_ #[t] o #[a']) k r:=by
  have key:∀(e:TypeId) (A:Option Addr) (n m:Nat),P.underlying t=some (.slice e)→(Builtin.len_ #[t] o #[.slice A n m]).run P w = .ok (.int .i64 n) w:=by
    intro e A n m hu; simp[Builtin.len_,run_underlying hu,goInt]
  split at hk
  · have hu:P.underlying t=some .string:=eO T ‹(tt.at t).d = .string›
    have ra := ‹dC w h c (.str _) a'›
    obtain ⟨s,rfl,rfl,hl⟩:=ra.kJ
    refine ⟨_, .int .i64 s.size,by simp[Builtin.len_,run_underlying hu,goInt],?_,hk⟩
    rw[size_data]; exact .int (Dz _ hl)
  · have hu:=eO T ‹(tt.at t).d = .slice _›
    simp only[TD.Is]at hu
    have ra := ‹dC w h c (.sl _ _ _) a'›
    obtain ⟨A,cap,rfl,h1,h2⟩:=I5 ra
    exact ⟨_,_,key _ _ _ _ hu, .int (Dz _ (by omega)),hk⟩
  · have hu:=eO T ‹(tt.at t).d = .slice _›
    simp only[TD.Is]at hu
    have ra := ‹dC w h c (.Na _ _) a'›
    cases ra with
    | Na hn sw f hc hr=>exact ⟨_,_,key _ _ _ _ hu, .int (Dz _ sw),hk⟩
  · have hu:=eO T ‹(tt.at t).d = .slice _›
    simp only[TD.Is]at hu
    have ra := ‹dC w h c (.row _ _) a'›
    cases ra with
    | row hi hn hv =>
      obtain ⟨A,cap,rfl,_,_⟩:=hv
      exact ⟨_,_,key _ _ _ _ hu, .int (Dz _ hn),hk⟩
  · have hu:=eO T ‹(tt.at t).d = .slice _›
    simp only[TD.Is]at hu
    have ra := ‹dC w h c .cF a'›
    cases ra
    exact ⟨_,_,key _ _ 0 0 hu, .int (Dz 0 (by unfold mx; omega)),hk⟩
  · cases hk

theorem Qw (T:xy P tt) (F:Array Field) (rU:∀f∈F.toList,tt.ok f.type=true) :
    (F.mapM (m:=Sem) fun f=>do pure (f.offset,←Go.sizeOf f.type)).run P w = .ok (F.map fun f=>(f.offset,(tt.at f.type).size)) w:=by
  rw[Array.mapM_eq_mapM_toList]
  have key:∀l:List Field,(∀f∈l,tt.ok f.type=true)→(l.mapM (m:=Sem) fun f=>do pure (f.offset,←Go.sizeOf f.type)).run P w = .ok (l.map fun f=>(f.offset,(tt.at f.type).size)) w:=by
    intro l
    induction l with
    | nil=>intro _; simp
    | cons f l ih =>
      intro h
      have hs:=T.sizeOf (w:=w) (h f (by simp))
      have:=ih fun g hg=>h g (by simp[hg])
      simp only[List.mapM_cons,Sem.run_bind,hs,Result.andThen_ok,Sem.run_pure,this,List.map_cons]
  simp only[Sem.run_map,key _ rU,Result.andThen_ok]
  congr 1
  apply Array.ext'
  simp

theorem mem_fs {fs:List (Nat × Nat)} {F:Array Field} (e:F.toList.map (fun f=>(f.offset,f.type))=fs) (ze:fs.all (fun f=>tt.ok f.2)=true):∀f∈F.toList,tt.ok f.type=true:=by
  intro f hf
  have:(f.offset,f.type)∈fs:=by rw[←e]; exact List.mem_map.2 ⟨f,hf,rfl⟩
  exact List.all_eq_true.1 ze _ this

theorem TS (T:xy P tt) {t:Nat} (h:tt.ok t=true):(tt.at t).zero.length=(tt.at t).size:=by
  obtain ⟨z,_,h2,h3⟩:=T.zero (w:=default) h
  have:=(h3 default [] ⟨fun _=>none,fun _=>0,⟨fun _ _=>False⟩⟩).1
  simp at this; omega

theorem N3 {ρ:Operand→V} {ρ':Operand→Value} (hρ:∀x,dC w h c (ρ x) (ρ' x)) (parts:List (Nat × Operand)) :
    (parts.map fun p=>(p.1,ρ p.2)).map Prod.fst=(parts.map fun p=>(p.1,ρ' p.2)).map Prod.fst ∧
    cH w h c ((parts.map fun p=>(p.1,ρ p.2)).map Prod.snd) ((parts.map fun p=>(p.1,ρ' p.2)).map Prod.snd):=by
  refine ⟨by simp[Function.comp_def],?_⟩
  simp only[List.map_map]
  exact cH.map parts fun p _=>hρ p.2

theorem Qx (T:xy P tt) {t:Nat} {parts:Array (Nat × Operand)} {ρ:Operand→V} {ρ':Operand→Value} (hρ:∀x,dC w h c (ρ x) (ρ' x)) {k:V→Option R} {r:R}
    (hk:(match (generalizing:=false) (tt.at t).d with
    | .struct fs =>
      if !fs.all (fun f=>tt.ok f.2) || !tt.ok t||decide (1000000≤(tt.at t).zero.length)then none else
      (match (generalizing:=false) Gp (tt.at t).zero (parts.toList.map fun (i,x)=>((fs.getD i (0,0)).1,if i<fs.length then (tt.at (fs.getD i (0,0)).2).size else 1000000,ρ x))with
       | some cs=>k (.agg cs)|none=>none)
    | .arr _ e =>
      if !tt.ok e || !tt.ok t||decide (1000000≤(tt.at t).zero.length)then none else
      (match (generalizing:=false) Gp (tt.at t).zero (parts.toList.map fun (i,x)=>(i*(tt.at e).size,(tt.at e).size,ρ x))with
       | some cs=>k (.agg cs)|none=>none)
    | _=>none)=some r):oK P w h c (Instr.build t (parts.map fun (i,x)=>(i,ρ' x))) k r:=by
  have DC:=N3 hρ parts.toList
  split at hk
  · rename_i fs hd
    split at hk
    · cases hk
    · rename_i Hu
      simp only[Bool.or_eq_true,Bool.not_eq_true',decide_eq_true_eq,not_or,Bool.not_eq_false,Nat.not_le]at Hu
      obtain ⟨⟨ze,rU⟩,hsm⟩:=Hu
      obtain ⟨F,hu,he⟩:=eO T hd
      obtain ⟨z,hz,Z9,Lx⟩:=T.zero (w:=w) rU
      split at hk
      · rename_i cs hf
        have hplaces:=Qw (w:=w) T F (mem_fs he ze)
        have hl:=TS T rU
        obtain ⟨I4,h1,h2,h3⟩:=DA (w:=w) (h:=h) (c:=c) (fun i=>(F.map fun f=>(f.offset,(tt.at f.type).size))[i]?) (parts.toList.map fun p=>(p.1,ρ p.2)) (parts.toList.map fun p=>(p.1,ρ' p.2))
          (tt.at t).zero z.cells cs DC.1 DC.2 (Lx w h c) (by
            rw[←hf,List.map_map]
            congr 1
            apply List.map_congr_left
            intro p _
            obtain ⟨i,x⟩:=p
            subst he
            simp only[Function.comp,List.length_map,Array.length_toList,Array.getElem?_map]
            by_cases hi:i<F.size
            · simp[hi,List.getD]
            · simp[hi,List.getD]) (by omega)
        have Xe:dC w h c (.agg cs) (.agg I4) := .agg (by have:=h2.1; simpa using this) (fun j v d hv hd=>h2.2 j v d hv (by simpa using hd))
        refine ⟨.agg cs, .agg I4,?_,Xe,hk⟩
        simp only[Instr.build,Sem.run_bind,hz,Result.andThen_ok,run_underlying hu,hplaces,Array.toList_map]
        rw[h1]
        rfl
      · cases hk
  · rename_i n e hd
    split at hk
    · cases hk
    · rename_i Hu
      simp only[Bool.or_eq_true,Bool.not_eq_true',decide_eq_true_eq,not_or,Bool.not_eq_false,Nat.not_le]at Hu
      obtain ⟨⟨hoke,rU⟩,hsm⟩:=Hu
      have hu:=eO T hd
      simp only[TD.Is]at hu
      obtain ⟨z,hz,Z9,Lx⟩:=T.zero (w:=w) rU
      have hse:=T.sizeOf (w:=w) hoke
      split at hk
      · rename_i cs hf
        have hl:=TS T rU
        obtain ⟨I4,h1,h2,h3⟩:=DA (w:=w) (h:=h) (c:=c) (fun i=>some (i*(tt.at e).size,(tt.at e).size)) (parts.toList.map fun p=>(p.1,ρ p.2)) (parts.toList.map fun p=>(p.1,ρ' p.2))
          (tt.at t).zero z.cells cs DC.1 DC.2 (Lx w h c) (by
            rw[←hf,List.map_map]
            congr 1) (by omega)
        have Xe:dC w h c (.agg cs) (.agg I4) := .agg (by have:=h2.1; simpa using this) (fun j v d hv hd=>h2.2 j v d hv (by simpa using hd))
        refine ⟨.agg cs, .agg I4,?_,Xe,hk⟩
        simp[Instr.build,hz,run_underlying hu,hse,h1]
      · cases hk
  · cases hk
end

section
variable {P:Program} {tt:dJ} {w:World} {h:az} {c:kh} {R:Type}

theorem Xf {ρ:Operand→V} {ρ':Operand→Value} (hρ:∀x,dC w h c (ρ x) (ρ' x)) (l:List Operand):cH w h c (l.map ρ) (l.map ρ'):=cH.map l fun x _=>hρ x

theorem Qy {ρ:Operand→V} {ρ':Operand→Value} (hρ:∀x,dC w h c (ρ x) (ρ' x)) (l:Array Operand) :
    (l.toList.map ρ).length=(l.map ρ').size∧∀(j:Nat) (v:V) (d:Value),(l.toList.map ρ)[j]? = some v→(l.map ρ')[j]? = some d→dC w h c v d:=by
  have:=Xf hρ l.toList
  exact ⟨by simp,fun j v d hv hd=>this.2 j v d hv (by simpa using hd)⟩

theorem UZ {ts:Array TypeId} {o:Nat} {x y:V} {x' y':Value} (rx:dC w h c x x') (ry:dC w h c y y') {k:V→Option R} {r:R}
    (hk:(match (generalizing:=false) x,y with | .int i a, .int j b=>if i=j then k (.int i (min a b))else none|_,_=>none)=some r):oK P w h c (Builtin.min_ ts o #[x',y']) k r:=by
  split at hk
  · rename_i i a j b'
    split at hk
    · rename_i xC
      subst xC
      obtain ⟨rfl,ha⟩:=rx.iQ
      obtain ⟨rfl,hb⟩:=ry.iQ
      refine ⟨_, .int i (min a b'),?_, .int (by unfold IntKind.has at *; omega),hk⟩
      rw[run_min_int2]
      congr 2
      split <;> omega
    · cases hk
  · cases hk

theorem U0 {ts:Array TypeId} {o:Nat} {x y:V} {x' y':Value} (rx:dC w h c x x') (ry:dC w h c y y') {k:V→Option R} {r:R}
    (hk:(match (generalizing:=false) x,y with | .int i a, .int j b=>if i=j then k (.int i (max a b))else none|_,_=>none)=some r):oK P w h c (Builtin.max_ ts o #[x',y']) k r:=by
  split at hk
  · rename_i i a j b'
    split at hk
    · rename_i xC
      subst xC
      obtain ⟨rfl,ha⟩:=rx.iQ
      obtain ⟨rfl,hb⟩:=ry.iQ
      refine ⟨_, .int i (max a b'),?_, .int (by unfold IntKind.has at *; omega),hk⟩
      rw[run_max_int2]
      congr 2
      split <;> omega
    · cases hk
  · cases hk

theorem U1 (T:xy P tt) {o:Oper} {ρ:Operand→V} {ρ':Operand→Value} (hρ:∀x,dC w h c (ρ x) (ρ' x)) {k:V→Option R} {r:R}
    (hk:Z8 tt o.op ρ k=some r):∃v v',(execOp ρ' o).run P w = .ok (.value v') w∧dC w h c v v'∧k v=some r:=by
  obtain ⟨dst,op,type,pos,after,guard⟩:=o
  cases op <;> simp only[Z8]at hk <;> try (first|cases hk)
  case move x=>exact ⟨_,_,by simp[execOp],hρ x,hk⟩
  case assign x=>exact ⟨_,_,by simp[execOp],hρ x,hk⟩
  case pick cc a b =>
    have rc:=hρ cc
    have ra:=hρ a
    have rb:=hρ b
    split at hk
    · rename_i t ht
      rw[ht]at rc
      have ec:=rc.CW
      have run:(execOp ρ' ⟨dst, .pick cc a b,type,pos,after,guard⟩).run P w = .ok (.value (if t then ρ' a else ρ' b)) w:=by
        simp[execOp,ec,asBool]
      split at hk
      · rename_i u v hu hv
        rw[hu]at ra; rw[hv]at rb
        refine ⟨_,_,run,?_,hk⟩
        rw[ra.CW,rb.CW]
        cases t <;> exact .bool _
      · cases t
        · exact ⟨_,_,run,rb,hk⟩
        · exact ⟨_,_,run,ra,hk⟩
    · cases hk
  case nilCheck x =>
    have rx:=hρ x
    split at hk <;> try (first|cases hk)
    · rename_i i o hx
      rw[hx]at rx
      have rx':=rx
      cases rx with
      | ptr hi hv=>obtain ⟨b,hv,_⟩:=hv; exact ⟨_,ρ' x,by simp[execOp,hv],rx',hk⟩
    · rename_i cs hx
      rw[hx]at rx
      have rx':=rx
      generalize hy:ρ' x=y at rx
      cases rx with
      | xA f hc hr=>exact ⟨_,ρ' x,by simp[execOp,hy],rx',hk⟩
    · rename_i i n j o hx
      rw[hx]at rx
      have rx':=rx
      cases rx with
      | s8 hi hv=>obtain ⟨b,hv,_⟩:=hv; exact ⟨_,ρ' x,by simp[execOp,hv],rx',hk⟩
    · rename_i f a b hx
      rw[hx]at rx
      have rx':=rx
      generalize hy:ρ' x=y at rx
      cases rx with
      | func ha hb hra hrb=>exact ⟨_,ρ' x,by simp[execOp,hy],rx',hk⟩
  case binOp op t x y ty =>
    exact oC (Qv T x y (hρ x) (hρ y) hk)
  case unOp op t x =>
    have rx:=hρ x
    split at hk <;> try (first|cases hk)
    · rename_i i n hx
      rw[hx]at rx
      exact ⟨_, .int i (i.wrap (0 - n)),by simp[execOp,Op.unary,rx.iQ.1,Op.intArith], .int (Lt _ _),hk⟩
    · rename_i b hx
      rw[hx]at rx
      exact ⟨_,_,by simp[execOp,Op.unary,rx.CW], .bool _,hk⟩
  case convert s d x =>
    split at hk
    · cases hk
    · rename_i hs
      exact oC (Nu T (hρ x) hk (by simpa using hs))
  case makeInterface t x =>
    have rx:=hρ x
    split at hk <;> try (first|cases hk)
    rename_i k0 i n hd hx
    rw[hx]at rx
    have hu:=eO T hd
    simp only[TD.Is]at hu
    exact ⟨_, .iface t (.int i n),by simp[execOp,Instr.makeInterface,run_underlying hu,rx.iQ.1], .ET rx.iQ.2,hk⟩
  case fieldAddr s x f=>exact oC (Kk T (hρ x) hk)
  case field s x f=>exact oC (Qs T (hρ x) hk)
  case indexAddr t x i=>exact oC (Kj T (hρ x) (hρ i) hk)
  case index t x i=>exact oC (Qt T (hρ x) (hρ i) hk)
  case slice t x lo hi mx =>
    split at hk
    · cases hk
    · exact oC (Qu T (hρ x) hρ lo hi hk)
  case makeFunc fn first cap =>
    cases fn <;> simp only at hk <;> try (first|cases hk)
    rename_i f
    obtain ⟨l1,r1⟩:=Qy hρ first
    obtain ⟨l2,r2⟩:=Qy hρ cap
    exact ⟨_, .func (.func f) (first.map ρ') (cap.map ρ'),by simp[execOp,Instr.makeFunc], .func l1 l2 r1 r2,hk⟩
  case extract t i =>
    have rt:=hρ t
    split at hk <;> try (first|cases hk)
    rename_i vs ht
    rw[ht]at rt
    split at hk
    · rename_i v hv
      generalize hy:ρ' t=y at rt
      cases rt with
      | @tuple _ x hl hr =>
        have kY:i<vs.length:=(List.getElem?_eq_some_iff.1 hv).1
        have hx:x[i]? = some (x[i]'(by omega)):=Array.getElem?_eq_getElem (by omega)
        exact ⟨v,_,by simp[execOp,hy,Instr.extract,hx],hr i v _ hv hx,hk⟩
    · cases hk
  case build t parts=>exact oC (Qx T hρ hk)
  case call cl =>
    obtain ⟨callee,args,argTypes⟩:=cl
    simp only at hk
    split at hk <;> try (first|cases hk)
    · rename_i x ha
      obtain rfl:args = #[x]:=by cases args; simp_all
      split at hk <;> try (first|cases hk)
      rename_i t ht
      obtain rfl:argTypes = #[t]:=by cases argTypes; simp_all
      have:=oC (UY (P:=P) (o:=type) T (hρ x) hk)
      simpa [execOp,resolve,invoke,builtin]using this
    · rename_i x y ha
      obtain rfl:args = #[x,y]:=by cases args; simp_all
      have:=oC (UZ (P:=P) (ts:=argTypes) (o:=type) (hρ x) (hρ y) hk)
      simpa [execOp,resolve,invoke,builtin]using this
    · rename_i x y ha
      obtain rfl:args = #[x,y]:=by cases args; simp_all
      have:=oC (U0 (P:=P) (ts:=argTypes) (o:=type) (hρ x) (hρ y) hk)
      simpa [execOp,resolve,invoke,builtin]using this
end
end Go.ay

namespace Go.ay
open Go.RowKit Go.MapKept

section
variable {P:Program} {tt:dJ} {w w':World} {h:az} {c:kh} {R:Type}

def HE (K T:Ty) (k:K.den):List (K.den × T.den)→List MapEntry→Nat→Option (Nat × Value)
  | x::l,e::es,i=>if xL K k x.1 then some (i,e.val)else HE K T k l es (i+1)
  | _,_,_=>none

theorem I6 {K T:Ty} {k:K.den}:∀(l:List (K.den × T.den)) (es:List MapEntry) (i:Nat),es.length=l.length →
    (HE K T k l es i=none∧Du K T k l=false∧nA K T k l=T.cn∧∀v,wy K T k v l=l ++ [(k,v)]) ∨
    ∃j x e,HE K T k l es i=some (i+j,e.val)∧l[j]? = some x∧es[j]? = some e∧xL K k x.1=true∧Du K T k l=true∧nA K T k l=x.2∧∀v,wy K T k v l=l.set j (k,v)
  | [], [],_,_ => .inl ⟨rfl,rfl,rfl,fun _=>rfl⟩
  | [],_::_,_,hl=>by cases hl
  | _::_, [],_,hl=>by cases hl
  | x::l,e::es,i,hl=>by
    cases hk:xL K k x.1 with
    | true=>exact .inr ⟨0,x,e,by simp[HE,hk],rfl,rfl,hk,by simp[Du,hk],by simp[nA,hk],fun v=>by simp[wy,hk]⟩
    | false =>
      rcases I6 (T:=T) (k:=k) l es (i+1) (by simpa using hl)with ⟨h1,h2,h3,h4⟩|⟨j,y,f,h1,h2,h3,h4,h5,h6,h7⟩
      · exact .inl ⟨by simp[HE,hk,h1],by simp[Du,hk,h2],by simp[nA,hk,h3],fun v=>by simp[wy,hk,h4 v]⟩
      · exact .inr ⟨j+1,y,f,by simp[HE,hk,h1]; omega,by simpa using h2,by simpa using h3,h4,by simp[Du,hk,h5],by simp[nA,hk,h6],fun v=>by simp[wy,hk,h7 v]⟩

theorem TU {kx:aj} {d:Value} (r:dC w h c (Nb .str kx) d):∃s,d = .string s∧s.data.toList=kx:=by
  obtain ⟨s,h1,h2,_⟩:=dC.kJ (s:=kx) r
  exact ⟨s,h1,h2⟩
theorem TV {k:IntKind} {n:Int} {d:Value} (r:dC w h c (Nb (.int k) n) d):d = .int k n:=(dC.iQ (n:=n) r).1

theorem U2 {a b:ByteArray}:(a==b)=(a.data.toList==b.data.toList):=by
  rw[Bool.eq_iff_iff]
  rw[bytes_beq]
  simp only[beq_iff_eq]
  exact ⟨fun e=>by rw[e],fun e=>sA e⟩

theorem HF {kt:Nat} (T:xy P tt) {K:Ty} (hk:wz tt kt K=true) {kx ky:K.den} {d e:Value} (rk:dC w h c (Nb K kx) d) (re:dC w h c (Nb K ky) e) :
    ∃u,P.underlying kt=some u∧IsKey u d∧IsKey u e∧Instr.sameNow u d e=some (xL K kx ky)∧(xL K kx ky=true→e=d):=by
  unfold wz at hk
  split at hk
  · split at hk
    · rename_i hd
      have hu:P.underlying kt=some .string:=eO T hd
      obtain ⟨s,rfl,hs⟩:=TU rk
      obtain ⟨t,rfl,ht⟩:=TU re
      subst hs; subst ht
      refine ⟨_,hu,by simp[IsKey],by simp[IsKey],?_,fun he => ?_⟩
      · simp only[Instr.sameNow,xL,U2]
      · have:s.data.toList=t.data.toList:=by simpa [xL]using he
        rw[sA this]
    · cases hk
  · rename_i k
    split at hk
    · rename_i k' hd
      have e:k'=k:=by simpa using hk
      subst e
      have hu:P.underlying kt=some (.int k'):=eO T hd
      have e1:=TV rk
      have e2:=TV re
      subst e1; subst e2
      refine ⟨_,hu,by simp[IsKey],by simp[IsKey],?_,fun he => ?_⟩
      · simp[Instr.sameNow,xL]
      · have h' : @BEq.beq Int _ kx ky=true:=he
        have:kx=ky := @eq_of_beq Int _ _ kx ky h'
        rw[this]
    · cases hk
  · cases hk

theorem Ly {kt:Nat} (T:xy P tt) {K V':Ty} (hk:wz tt kt K=true) {kx:K.den} {d:Value} (rk:dC w h c (Nb K kx) d) {u:TypeDesc} (hu:P.underlying kt=some u) :
    ∀(l:List (K.den × V'.den)) (es:List MapEntry) (i:Nat),es.length=l.length→(∀(j:Nat) (x:K.den × V'.den) (e:MapEntry),l[j]? = some x→es[j]? = some e→dC w h c (Nb K x.1) e.key) →
      Instr.findNow u d es i=some (HE K V' kx l es i)
  | [], [],_,_,_=>rfl
  | [],_::_,_,hl,_=>by cases hl
  | _::_, [],_,hl,_=>by cases hl
  | x::l,e::es,i,hl,hr=>by
    obtain ⟨u',hu',_,_,hs,_⟩:=HF T hk rk (hr 0 x e rfl rfl)
    rw[hu]at hu'; cases hu'
    have ih:=Ly T hk rk hu l es (i+1) (by simpa using hl) fun j y f hy hf=>hr (j+1) y f (by simpa using hy) (by simpa using hf)
    simp only[Instr.findNow,hs]
    cases hb:xL K kx x.1 with
    | true=>simp[HE,hb]
    | false=>simp[HE,hb,ih]

theorem Lz {kt:Nat} {K:Ty} (hk:wz tt kt K=true):K.one=true∧KQ K=true:=by
  cases K <;> first|exact ⟨rfl,rfl⟩|(simp[wz]at hk)
theorem LA {kt:Nat} {K:Ty} (hk:zH tt kt K=true):K.one=true:=by
  cases K <;> first|rfl|(simp[zH]at hk)

theorem U3 {k:IntKind} {v:V} {x:Int} (h:Lc k [v]=some x):v = .int k x:=by
  unfold Lc at h
  split at h
  · rename_i e
    simp only[List.cons.injEq,and_true]at e
    split at h
    · rename_i e2; cases h; subst e2; exact e
    · cases h
  · cases h
theorem Sh {v:V} {x:Bool} (h:Hx [v]=some x):v = .bool x:=by
  unfold Hx at h
  split at h
  · rename_i e
    simp only[List.cons.injEq,and_true]at e
    cases h; exact e
  · cases h
theorem U4 {v:V} {x:aj} (h:Ld [v]=some x):v = .str x:=by
  unfold Ld at h
  split at h
  · rename_i e
    simp only[List.cons.injEq,and_true]at e
    cases h; exact e
  · cases h

theorem Si {K:Ty} {v:V} {x:K.den} (hx:Z7 K v=some x) (ho:K.one=true):v=Nb K x:=by
  have hd:K.dec [v]=some x:=by
    unfold Z7 at hx
    split at hx <;> simp only[ho,cond_true]at hx
    · cases hx
    · exact hx
  cases K <;> simp only[Ty.one]at ho <;> try (first|cases ho)
  · exact U3 hd
  · exact Sh hd
  · exact U4 hd

theorem ok_fits {vt:Nat} {V':Ty} (hv:zH tt vt V'=true):tt.ok vt=true∧tt.isAgg vt=false:=by
  unfold zH at hv
  unfold dJ.ok dJ.isAgg
  split at hv
  · split at hv
    · rename_i hd _; rw[hd]; exact ⟨rfl,rfl⟩
    · cases hv
  · split at hv
    · rename_i hd _; rw[hd]; exact ⟨rfl,rfl⟩
    · cases hv
  · cases hv

theorem U5 {z:Value} (h:z.oneCell'=true):z.cells.toList = [z]:=by
  cases z <;> simp_all [Value.oneCell',Value.cells]

theorem Qz (T:xy P tt) {vt:Nat} {V':Ty} (hv:zH tt vt V'=true):∃z,(zeroValue vt).run P w = .ok z w∧dC w h c (Nb V' V'.cn) z:=by
  obtain ⟨rU,hag⟩:=ok_fits hv
  obtain ⟨i,z,hi,hs,hby,hz,Z9,hr⟩:=T.info vt rU
  have h1:=T.ones vt rU i z hi hz
  rw[hag]at h1
  have h3:=hr w h c
  rw[U5 h1]at h3
  refine ⟨z,by simp[Go.zeroValue,typeInfo,hi,hz],?_⟩
  unfold zH at hv
  split at hv
  · split at hv
    · rename_i hd hz'
      rw[hz']at h3
      exact h3.head
    · cases hv
  · split at hv
    · rename_i hd hz'
      have e:_=_:=of_decide_eq_true hv
      subst e
      rw[hz']at h3
      exact h3.head
    · cases hv
  · cases hv

theorem Pb (T:xy P tt) (wf:WF w h c) {t kt vt i:Nat} {K V':Ty} {l:List (K.den × V'.den)} (ht:(tt.at t).d = .map kt vt) {m d:Value} (rm:dC w h c (.map i) m) (hm:h.at i = .vg K V' l)
    (hf:(wz tt kt K&&zH tt vt V')=true) {v:V} (rk:dC w h c v d) {kx:K.den} (hx:Z7 K v=some kx) (ok:Bool) :
    ∃r,(Instr.lookup t m d ok).run P w = .ok r w∧dC w h c (bif ok then .tuple [Nb V' (nA K V' kx l), .bool (Du K V' kx l)]else Nb V' (nA K V' kx l)) r:=by
  simp only[Bool.and_eq_true]at hf
  obtain ⟨QA,hf2⟩:=hf
  have hi:i<h.length:=by
    unfold az.at at hm
    rcases Nat.lt_or_ge i (List.length h)with hi|hi
    · exact hi
    · simp[List.getD,List.getElem?_eq_none hi]at hm
  have ho:=wf.obj i hi
  rw[hm]at ho
  obtain ⟨b,es,clock,g1,g2,g3,g4,g5,g6⟩:=ho
  cases rm with
  | map hu hv =>
    obtain ⟨b',rfl,pA⟩:=hv
    have:=pA (by rw[hm]; simp)
    rw[g1]at this; cases this
    have hut:P.underlying t=some (.map kt vt):=eO T ht
    have e:=Si hx (Lz QA).1
    subst e
    have hl:es.toList.length=l.length:=by simpa using g5
    have hr:∀(j:Nat) (x:K.den × V'.den) (e:MapEntry),l[j]? = some x→es.toList[j]? = some e→dC w h c (Nb K x.1) e.key:=fun j x e hx he=>(g6 j x e hx (by simpa using he)).1
    obtain ⟨z,hz,rz⟩:=Qz (w:=w) (h:=h) (c:=c) T hf2
    have hkey:∃u,P.underlying kt=some u∧IsKey u d:=by
      obtain ⟨u,q1,q2,_⟩:=HF T QA rk rk
      exact ⟨u,q1,q2⟩
    obtain ⟨u,hu',hik⟩:=hkey
    have HG:=run_findKey (w:=w) hu' (Ly T QA rk hu' l es.toList 0 hl hr)
    have Xg:=run_checkKey (w:=w) hu' hik es.isEmpty 9999
    have CC:=Go.MapKept.run_getObj_map (P:=P) g2
    rcases I6 (K:=K) (T:=V') (k:=kx) l es.toList 0 hl with ⟨h1,h2,h3,_⟩|⟨j,x,e,h1,h2,h3,h4,h5,h6,_⟩
    · rw[h1]at HG
      rw[h2,h3]
      refine ⟨if ok then .tuple #[z, .bool false]else z,?_,?_⟩
      · simp[Instr.lookup,run_underlying hut,CC,Xg,HG,hz]
      · cases ok with
        | true =>
          refine .tuple rfl fun j v d hv hd => ?_
          match j,hv,hd with
          | 0,hv,hd=>simp at hv hd; subst hv; subst hd; exact rz
          | 1,hv,hd=>simp at hv hd; subst hv; subst hd; exact .bool _
          | j+2,hv,_=>simp at hv
        | false=>exact rz
    · rw[h1]at HG
      rw[h5,h6]
      have re:=(g6 j x e h2 (by simpa using h3)).2
      refine ⟨if ok then .tuple #[e.val, .bool true]else e.val,?_,?_⟩
      · simp[Instr.lookup,run_underlying hut,CC,Xg,HG]
      · cases ok with
        | true =>
          refine .tuple rfl fun j v d hv hd => ?_
          match j,hv,hd with
          | 0,hv,hd=>simp at hv hd; subst hv; subst hd; exact re
          | 1,hv,hd=>simp at hv hd; subst hv; subst hd; exact .bool _
          | j+2,hv,_=>simp at hv
        | false=>exact re
end
end Go.ay

namespace Go.ay
open Go.RowKit

section
variable {P:Program} {tt:dJ} {w:World} {h:az} {c:kh} {R:Type}

def rV (w:World) (b o:Nat) (ds:List Value):Prop:=∀(j:Nat) (d:Value),ds[j]? = some d→w.cell? ⟨b,o+j,none⟩=some d

theorem yI (T:xy P tt) {t b o off:Nat} {cs:List V} {ds:List Value} (hr:cH w h c cs ds) (hc:rV w b o ds) {k:V→Option R} {r:R} (hk:rT tt t cs off k=some r) :
    oK P w h c (loadVar t ⟨b,o+off,none⟩) k r:=by
  have rU:=Qr hk
  unfold rT at hk
  rw[if_pos rU]at hk
  split at hk
  · rename_i Ls
    split at hk
    · rename_i qs
      have hlen:((ds.drop off).take (tt.at t).size).length=(tt.at t).size:=by have:=hr.1; simp; omega
      have HA:=(hr.drop off).take (tt.at t).size
      have CB:=run_loadCells_list (P:=P) w ⟨b,o+off,none⟩ ((ds.drop off).take (tt.at t).size) (fun j v hv=>by
        rw[List.getElem?_take]at hv
        split at hv
        · rw[List.getElem?_drop]at hv
          rw[ta,Nat.add_assoc]
          exact hc _ v hv
        · cases hv)
      rw[hlen]at CB
      refine ⟨_, .agg ((ds.drop off).take (tt.at t).size).toArray,?_, .agg (by have:=HA.1; simpa using this) (fun j v d hv hd=>HA.2 j v d hv (by simpa using hd)),hk⟩
      simp[loadVar,T.isAgg rU,Ls,T.sizeOf rU,CB]
    · cases hk
  · rename_i Ls
    split at hk
    · rename_i v hv
      have kY:off<cs.length:=(List.getElem?_eq_some_iff.1 hv).1
      have hd:ds[off]? = some (ds[off]'(by have:=hr.1; omega)):=List.getElem?_eq_getElem _
      refine ⟨v,_,?_,hr.2 off v _ hv hd,hk⟩
      simp[loadVar,T.isAgg rU,Ls,hc off _ hd]
    · cases hk

theorem az.gD {i:Nat} {o:bY} (e:h.at i=o) (hl:o ≠ .dead):i<h.length:=by
  unfold az.at at e
  rcases Nat.lt_or_ge i (List.length h)with hi|hi
  · exact hi
  · simp[List.getD,List.getElem?_eq_none hi]at e
    exact absurd e.symm hl

theorem foldl_push (ns:List Int):∀s:ByteArray,(ns.foldl (fun (r:ByteArray) n=>r.push (UInt8.ofNat n.toNat)) s).data.toList=s.data.toList++ns.map fun n=>UInt8.ofNat n.toNat:=by
  induction ns with
  | nil=>intro s; simp
  | cons n ns ih=>intro s; simp only[List.foldl_cons]; rw[ih]; simp[ByteArray.push]

theorem U6 (wf:WF w h c) {i:Nat} {T':Ty} {l:List T'.den} (he:h.at i = .row T' l) {j:Nat} (hj:j<l.length) :
    ∃b ds,c.su i=some b∧rV w b (c.off i+j*T'.sz) ds∧cH w h c (T'.cells l[j]) ds:=by
  have hi:=az.gD he (by simp)
  have ho:=wf.obj i hi
  rw[he]at ho
  rcases ho with ⟨_,rfl⟩|⟨b,arr,e,fz,h1,h2,h3,h4,h5⟩
  · simp at hj
  · have hlen:=T'.lD l[j]
    have hm:(j+1)*T'.sz≤l.length*T'.sz:=Nat.mul_le_mul_right _ hj
    rw[Nat.add_mul]at hm
    refine ⟨b,(arr.toList.drop (c.off i+j*T'.sz)).take T'.sz,h1,fun x d hd => ?_,?_,fun x v d hv hd => ?_⟩
    · rw[List.getElem?_take]at hd
      split at hd
      · rw[List.getElem?_drop]at hd
        rw[cell_of_row w b _ arr e fz h2]
        simpa using hd
      · cases hd
    · rw[hlen]; simp; omega
    · obtain ⟨d',g1,g2⟩:=h5 j x l[j] v (List.getElem?_eq_getElem hj) hv
      rw[List.getElem?_take]at hd
      split at hd
      · rw[List.getElem?_drop]at hd
        have:d'=d:=by
          have e1:arr[c.off i+j*T'.sz+x]? = some d:=by simpa using hd
          rw[g1]at e1; exact Option.some.inj e1
        subst this
        exact g2
      · cases hd

theorem getD_eq {T':Ty} {l:List T'.den} {j:Nat} (hj:j<l.length):l.getD j T'.cn=l[j]:=by simp[List.getD,List.getElem?_eq_getElem hj]

theorem LB (T:xy P tt) (wf:WF w h c) {t:Nat} {a:V} {a':Value} (ra:dC w h c a a') {lim:Option Nat} {k:V→Option R} {r:R}
    (hk:(match (generalizing:=false) a with
    | .ptr i o =>
      if Eg lim i then
        match (generalizing:=false) h.at i with
        | .cells cs=>rT tt t cs o k
        | .kI v=>rT tt t [.undef,v] o k
        | _=>none
      else none
    | .xA cs=>rT tt t cs 0 k
    | .s8 i sz j o =>
      if Eg lim i then
        match (generalizing:=false) h.at i with
        | .row T l=>if sz=T.sz then cX (decide (j<l.length)) (rT tt t (T.cells (l.getD j T.cn)) o k)else none
        | _=>none
      else none
    | _=>none)=some r):oK P w h c (Instr.loadAt t a') k r:=by
  split at hk
  · rename_i i o
    split at hk
    · split at hk
      · rename_i cs he
        have hi:=az.gD he (by simp)
        have ho:=wf.obj i hi
        rw[he]at ho
        obtain ⟨b,arr,e,h1,h2,h3⟩:=ho
        cases ra with
        | ptr hu hv =>
          obtain ⟨b',rfl,hb⟩:=hv
          have pA:=hb (by rw[he]; simp)
          rw[h1]at pA
          cases pA
          have:=yI (w:=w) (b:=b) (o:=0) T h3 (fun j d hd=>by
            rw[cell_of_row w b _ arr e _ h2]; simpa using hd) hk
          simpa [oK,Instr.loadAt,Instr.sureAddr]using this
      · rename_i v he
        have hi:=az.gD he (by simp)
        have ho:=wf.obj i hi
        rw[he]at ho
        obtain ⟨b,p,d,h1,h2,_,h3⟩:=ho
        cases ra with
        | ptr hu hv =>
          obtain ⟨b',rfl,hb⟩:=hv
          have pA:=hb (by rw[he]; simp)
          rw[h1]at pA
          cases pA
          have:=yI (w:=w) (b:=b) (o:=0) T (cH.cons (.undef p) (cH.cons h3 .nil)) (fun j d hd=>by
            rw[cell_of_row w b _ _ _ _ h2]
            match j,hd with
            | 0,hd=>simpa using hd
            | 1,hd=>simpa using hd
            | j+2,hd=>simp at hd) hk
          simpa [oK,Instr.loadAt,Instr.sureAddr]using this
      · cases hk
    · cases hk
  · rename_i cs
    cases ra with
    | @xA _ b o f hc hr =>
      have hr':cH w h c cs ((List.range cs.length).map f):=by
        refine ⟨by simp,fun j v d hv hd => ?_⟩
        simp only[List.getElem?_map]at hd
        have kY:j<cs.length:=(List.getElem?_eq_some_iff.1 hv).1
        rw[List.getElem?_range kY]at hd
        simp at hd; subst hd
        exact hr j v hv
      have:=yI (w:=w) (b:=b) (o:=o) (off:=0) T hr' (fun j d hd=>by
        simp only[List.getElem?_map]at hd
        by_cases kY:j<cs.length
        · rw[List.getElem?_range kY]at hd
          simp at hd; subst hd
          exact (hc j kY).1
        · rw[List.getElem?_eq_none (by simp; omega)]at hd; cases hd) hk
      simpa [oK,Instr.loadAt,Instr.sureAddr]using this
  · rename_i i sz j o
    split at hk
    · split at hk
      · rename_i T' l he
        split at hk
        · rename_i qs
          obtain ⟨hj,hk⟩:=cx hk
          simp at hj
          rw[getD_eq hj]at hk
          obtain ⟨b,ds,h1,h2,h3⟩:=U6 wf he hj
          cases ra with
          | s8 hu hv =>
            obtain ⟨a,rfl,hv⟩:=hv
            obtain ⟨b',pA,rfl⟩:=hv T' l he qs hj
            rw[h1]at pA
            cases pA
            have:=yI T h3 h2 hk
            simpa [oK,Instr.loadAt,Instr.sureAddr]using this
        · cases hk
      · cases hk
    · cases hk
  · cases hk

theorem U7 (wf:WF w h c) {i:Nat} {ik:IntKind} {l:List Int} (hl:h.at i = .row (.int ik) l) (j7:l ≠ []) :
    ∃b,c.su i=some b∧rV w b (c.off i) (l.map (Value.int ik)):=by
  have hi:=az.gD hl (by simp)
  have ho:=wf.obj i hi
  rw[hl]at ho
  rcases ho with ⟨_,rfl⟩|⟨b,arr,el,fz,p1,p2,p3,p4,p5⟩
  · exact absurd rfl j7
  · have p5':∀(n:Nat) (z:Int),l[n]? = some z→arr[c.off i+n]? = some (.int ik z):=fun n z hz=>by
      obtain ⟨d,t1,t2⟩:=p5 n 0 z (.int ik z) hz rfl
      rw[t2.iQ.1]at t1
      simpa [Ty.sz]using t1
    refine ⟨b,p1,fun j d hd => ?_⟩
    simp only[List.getElem?_map]at hd
    cases hlj:l[j]? with
    | none=>rw[hlj]at hd; cases hd
    | some z =>
      rw[hlj]at hd; simp at hd; subst hd
      rw[cell_of_row w b _ arr el fz p2]
      exact p5' j z hlj

theorem QB {ik:IntKind} {l:List Int} {t:Tok} {A:Option Addr} {n cap:Nat} (r:dC w h c (.sl (.int ik) l t) (.slice A n cap)) (j7:l ≠ []) :
    ∃b o,A=some ⟨b,o,none⟩∧n=l.length∧rV w b o (l.map (Value.int ik)):=by
  cases r with
  | sl f lO sw hc hr xR mR =>
    have HC:0<l.length:=List.length_pos_iff.2 j7
    obtain ⟨b,o,rfl,_⟩:=hc 0 0 HC (by simp[Ty.sz])
    refine ⟨b,o,rfl,rfl,fun j d hd => ?_⟩
    simp only[List.getElem?_map]at hd
    cases hlj:l[j]? with
    | none=>rw[hlj]at hd; cases hd
    | some z =>
      rw[hlj]at hd; simp at hd; subst hd
      have kY:j<l.length:=(List.getElem?_eq_some_iff.1 hlj).1
      obtain ⟨b',o',e',g1,_⟩:=hc j 0 kY (by simp[Ty.sz])
      cases e'
      have:=hr j 0 z (.int ik z) hlj rfl
      rw[this.iQ.1]at g1
      simpa [Ty.sz]using g1

theorem GW {s d e:TypeId} (us:P.underlying s=some (.slice e)) (ue:P.underlying e=some (.int .u8)) (ud:P.underlying d=some .string) {l:List Int} {A:Option Addr} {n cap:Nat}
    (hn:n=l.length) (xO:l ≠ []→∃b o,A=some ⟨b,o,none⟩∧rV w b o (l.map (Value.int .u8))) :
    ∃t,(convert s d (.slice A n cap)).run P w = .ok (.string t) w∧t.data.toList=l.map fun n=>UInt8.ofNat n.toNat:=by
  rw[run_convert_bytes_string w s d e A n cap us ue ud]
  by_cases JX:l = []
  · subst JX
    subst hn
    refine ⟨.empty,?_,rfl⟩
    cases A with
    | none=>simp[Conv.bytesToString]
    | some a =>
      have hlc:=run_loadCells_list (P:=P) w a [] (fun j v hv=>by simp at hv)
      exact run_bytesToString (P:=P) w a 0 cap [] (by simpa using hlc)
  · obtain ⟨b,o,rfl,hc⟩:=xO JX
    have hlc:=run_loadCells_list (P:=P) w ⟨b,o,none⟩ (l.map (Value.int .u8)) (fun j v hv=>by rw[ta]; exact hc j v hv)
    rw[List.length_map,←hn]at hlc
    exact ⟨_,run_bytesToString (P:=P) w ⟨b,o,none⟩ n cap l hlc,by rw[foldl_push]; rfl⟩

theorem QC (l:List Int):∀s:ByteArray,(l.foldl (fun r n=>r++Utf8.encode n) s).data.toList=s.data.toList++ox l:=by
  induction l with
  | nil=>intro s; simp[ox]
  | cons n l ih=>intro s; simp only[List.foldl_cons]; rw[ih]; simp[ox]

theorem Kl (l:List Int):(Go.runesBytes l).data.toList=ox l:=by
  unfold Go.runesBytes
  rw[QC]
  simp

theorem Sj {s d e:TypeId} (us:P.underlying s=some (.slice e)) (ue:P.underlying e=some (.int .i32)) (ud:P.underlying d=some .string) {l:List Int} {A:Option Addr} {n cap:Nat}
    (hn:n=l.length) (xO:l ≠ []→∃b o,A=some ⟨b,o,none⟩∧rV w b o (l.map (Value.int .i32))) :
    ∃t,(convert s d (.slice A n cap)).run P w = .ok (.string t) w∧t.data.toList=ox l∧t.size≤4*l.length:=by
  have hcv:(convert s d (.slice A n cap)).run P w=(Conv.runesToString (.slice A n cap)).run P w:=by
    unfold convert
    simp[run_underlying us,run_underlying ue,run_underlying ud]
  rw[hcv]
  by_cases JX:l = []
  · subst JX
    subst hn
    refine ⟨.empty,?_,rfl,by simp⟩
    cases A with
    | none=>simp[Conv.runesToString]
    | some a =>
      have hlc:=run_loadCells_list (P:=P) w a [] (fun j v hv=>by simp at hv)
      exact Go.run_runesToString (P:=P) w a 0 cap [] (by simpa using hlc)
  · obtain ⟨b,o,rfl,hc⟩:=xO JX
    have hlc:=run_loadCells_list (P:=P) w ⟨b,o,none⟩ (l.map (Value.int .i32)) (fun j v hv=>by rw[ta]; exact hc j v hv)
    rw[List.length_map,←hn]at hlc
    exact ⟨_,Go.run_runesToString (P:=P) w ⟨b,o,none⟩ n cap l hlc,Kl l,Go.runesBytes_size_le l⟩

theorem U8 (T:xy P tt) (wf:WF w h c) {o:Oper} {ρ:Operand→V} {ρ':Operand→Value} (hρ:∀x,dC w h c (ρ x) (ρ' x)) {lim:Option Nat} {k:V→Option R} {r:R}
    (hk:UL tt o.op ρ h lim k=some r):∃v v',(execOp ρ' o).run P w = .ok (.value v') w∧dC w h c v v'∧k v=some r:=by
  obtain ⟨dst,op,type,pos,after,guard⟩:=o
  cases op <;> simp only[UL]at hk <;> try (first|cases hk)
  case load t x=>exact oC (LB T wf (hρ x) hk)
  case lookup t x ix ok =>
    have rx:=hρ x
    split at hk <;> try (first|cases hk)
    rename_i kt vt i ht hx
    rw[hx]at rx
    split at hk <;> try (first|cases hk)
    split at hk <;> try (first|cases hk)
    rename_i K V' l hm
    split at hk <;> try (first|cases hk)
    rename_i hf
    split at hk <;> try (first|cases hk)
    rename_i kx hkx
    obtain ⟨v',g1,g2⟩:=Pb T wf ht rx hm hf (hρ ix) hkx ok
    refine ⟨_,v',by simp[execOp,g1],g2,?_⟩
    cases ok <;> exact hk
  case convert s d x =>
    have rx:=hρ x
    split at hk <;> try (first|cases hk)
    · rename_i e i n hd hs hx
      rw[hx]at rx
      split at hk
      · split at hk <;> try (first|cases hk)
        rename_i l he hl
        have ud:=eO T hd
        have us:=eO T hs
        have ue:=eO T he
        simp only[TD.Is]at ud us ue
        cases rx with
        | row hu hn hv =>
          obtain ⟨A,cap,hv',hA,hv⟩:=hv
          obtain ⟨g1,g2,g3,g4⟩:=hv _ _ hl
          obtain ⟨t,h1,h2⟩:=GW (w:=w) (A:=A) (cap:=cap) (l:=l) us ue ud g1 (fun j7=>by
            obtain ⟨b,hb,hc⟩:=U7 wf hl j7
            rcases g4 with ⟨q0,_⟩|⟨b',arr,el,fz,q1,rfl,q2,q3⟩
            · rw[hb]at q0; cases q0
            · rw[hb]at q1; cases q1
              exact ⟨b,_,rfl,hc⟩)
          refine ⟨_, .string t,?_,Au t h2 ?_,hk⟩
          · simp only[execOp,Sem.run_bind,hv',h1,Result.andThen_ok,Sem.run_pure]
          · refine Nat.le_trans (Nat.le_of_eq (@List.length_map Int UInt8 (l:List Int) _)) ?_
            exact (show l.length≤mx from g1▸hn)
      · cases hk
    · rename_i e T' l tk hd hs hx
      rw[hx]at rx
      split at hk <;> try (first|cases hk)
      · rename_i l he
        have ud:=eO T hd
        have us:=eO T hs
        have ue:=eO T he
        simp only[TD.Is]at ud us ue
        obtain ⟨A,cap,hv,lO,sw⟩:=I5 rx
        rw[hv]at rx
        obtain ⟨t,h1,h2⟩:=GW (w:=w) (A:=A) (cap:=cap) (l:=l) (n:=List.length l) us ue ud rfl (fun j7=>by
          obtain ⟨b,o,e1,_,e3⟩:=QB rx j7
          exact ⟨b,o,e1,e3⟩)
        refine ⟨_, .string t,?_,Au t h2 ?_,hk⟩
        · simp only[execOp,Sem.run_bind,hv,h1,Result.andThen_ok,Sem.run_pure]
        · refine Nat.le_trans (Nat.le_of_eq (@List.length_map Int UInt8 (l:List Int) _)) ?_
          exact Nat.le_trans lO sw
      · rename_i l he
        obtain ⟨hb,hk⟩:=cx hk
        have ud:=eO T hd
        have us:=eO T hs
        have ue:=eO T he
        simp only[TD.Is]at ud us ue
        obtain ⟨A,cap,hv,lO,sw⟩:=I5 rx
        rw[hv]at rx
        obtain ⟨t,h1,h2,h3⟩:=Sj (w:=w) (A:=A) (cap:=cap) (l:=l) (n:=List.length l) us ue ud rfl (fun j7=>by
          obtain ⟨b,o,e1,_,e3⟩:=QB rx j7
          exact ⟨b,o,e1,e3⟩)
        refine ⟨_, .string t,?_,Au t h2 ?_,hk⟩
        · simp only[execOp,Sem.run_bind,hv,h1,Result.andThen_ok,Sem.run_pure]
        · rw[←h2]
          have pA:4*List.length (l:List Int)≤9223372036854775807:=of_decide_eq_true hb
          refine Nat.le_trans ?_ pA
          exact h3
    · rename_i e hd hs hx
      rw[hx]at rx
      split at hk <;> try (first|cases hk)
      rename_i he
      have ud:=eO T hd
      have us:=eO T hs
      have ue:=eO T he
      simp only[TD.Is]at ud us ue
      generalize hv:ρ' x=xv at rx
      cases rx
      obtain ⟨t,h1,h2⟩:=GW (w:=w) (A:=none) (cap:=0) (l := []) (n:=0) us ue ud rfl (fun j7=>(j7 rfl).elim)
      refine ⟨_, .string t,?_,Au t h2 (Nat.zero_le _),hk⟩
      simp only[execOp,Sem.run_bind,hv,h1,Result.andThen_ok,Sem.run_pure]
end
end Go.ay

namespace Go.ay

def Wk (u v:V):Prop:=u=v∨∃(T:Ty) (l:List T.den),v = .sl T l .no∧CS T u=some l

inductive FL:List V→List V→Prop where
  | nil:FL [] []
  | cons {u v:V} {us vs:List V} (h:Wk u v) (t:FL us vs):FL (u::us) (v::vs)

theorem Wk.rfl {u:V}:Wk u u := .inl _root_.rfl
theorem Wk.sl {T:Ty} {u:V} {l:List T.den} (h:CS T u=some l):Wk u (.sl T l .no) := .inr ⟨T,l,_root_.rfl,h⟩

theorem U9 (k:IntKind) {cs:List V} {x:Int} (h:Lc k cs=some x):FL cs (Ty.cells (.int k) x):=by
  unfold Lc at h
  split at h
  · split at h
    · rename_i e; subst e; cases h; exact .cons .rfl .nil
    · cases h
  · cases h
theorem Sk  {cs:List V} {x:Bool} (h:Hx cs=some x):FL cs (Ty.cells (.bool) x):=by
  unfold Hx at h
  split at h
  · cases h; exact .cons .rfl .nil
  · cases h
theorem Va  {cs:List V} {x:aj} (h:Ld cs=some x):FL cs (Ty.cells (.str) x):=by
  unfold Ld at h
  split at h
  · cases h; exact .cons .rfl .nil
  · cases h
theorem Vb  {cs:List V} {x:iO} (h:R1 cs=some x):FL cs (Ty.cells (.dcm) x):=by
  unfold R1 at h
  split at h
  · cases h; exact .cons .rfl (.cons .rfl .nil)
  · cases h
theorem Sl  {cs:List V} {x:Json} (h:OV cs=some x):FL cs (Ty.cells (.json) x):=by
  unfold OV at h
  split at h
  · split at h
    · cases h; exact .cons .rfl (.cons .rfl (.cons .rfl (.cons .rfl (.cons (.sl ‹_›) (.cons (.sl ‹_›) .nil)))))
    · cases h
  · cases h
theorem Vc  {cs:List V} {x:Raw} (h:R2 cs=some x):FL cs (Ty.cells (.raw) x):=by
  unfold R2 at h
  split at h
  · split at h
    · cases h; exact .cons .rfl (.cons .rfl (.cons .rfl (.cons (.sl ‹_›) (.cons (.sl ‹_›) .nil))))
    · cases h
  · cases h
theorem Sm  {cs:List V} {x:FY} (h:OW cs=some x):FL cs (Ty.cells (.OU) x):=by
  unfold OW at h
  split at h
  · split at h
    · cases h; exact .cons .rfl (.cons .rfl (.cons .rfl (.cons (.sl ‹_›) .nil)))
    · cases h
  · cases h
theorem Vd  {cs:List V} {x:Z4} (h:R3 cs=some x):FL cs (Ty.cells (.fld) x):=by
  unfold R3 at h
  split at h
  · cases h; exact .cons .rfl (.cons .rfl (.cons .rfl (.cons .rfl (.cons .rfl .nil))))
  · cases h
theorem Sn  {cs:List V} {x:Nj} (h:OX cs=some x):FL cs (Ty.cells (.Qf) x):=by
  unfold OX at h
  split at h
  · cases h; exact .cons .rfl (.cons .rfl (.cons .rfl .nil))
  · cases h
theorem QD  {cs:List V} {x:Token} (h:Le cs=some x):FL cs (Ty.cells (.token) x):=by
  unfold Le at h
  split at h
  · cases h; exact .cons .rfl (.cons .rfl (.cons .rfl (.cons .rfl (.cons .rfl .nil))))
  · cases h
theorem So  {cs:List V} {x:Stop} (h:OY cs=some x):FL cs (Ty.cells (.stop) x):=by
  unfold OY at h
  split at h
  · cases h; exact .cons .rfl (.cons .rfl (.cons .rfl .nil))
  · cases h
theorem Ve  {cs:List V} {x:Way} (h:R4 cs=some x):FL cs (Ty.cells (.TM) x):=by
  unfold R4 at h
  split at h
  · cases h; exact .cons .rfl (.cons .rfl (.cons .rfl .nil))
  · cases h
theorem QE  {cs:List V} {x:Order} (h:Lf cs=some x):FL cs (Ty.cells (.order) x):=by
  unfold Lf at h
  split at h
  · split at h
    · cases h; exact .cons .rfl (.cons .rfl (.cons .rfl (.cons .rfl (.cons (.sl ‹_›) (.cons (.sl ‹_›) .nil)))))
    · cases h
  · cases h
theorem Sp  {cs:List V} {x:Edge} (h:OZ cs=some x):FL cs (Ty.cells (.I0) x):=by
  unfold OZ at h
  split at h
  · cases h; exact .cons .rfl (.cons .rfl (.cons .rfl .nil))
  · cases h
theorem Pc  {cs:List V} {x:Cz} (h:I1 cs=some x):FL cs (Ty.cells (.layout) x):=by
  unfold I1 at h
  split at h
  · split at h
    · cases h; exact .cons .rfl (.cons (.sl ‹_›) .nil)
    · cases h
  · cases h
theorem QF  {cs:List V} {x:Gn} (h:Lg cs=some x):FL cs (Ty.cells (.topic) x):=by
  unfold Lg at h
  split at h
  · cases h; exact .cons .rfl (.cons .rfl (.cons .rfl .nil))
  · cases h
theorem QG  {cs:List V} {x:State} (h:Lh cs=some x):FL cs (Ty.cells (.state) x):=by
  unfold Lh at h
  split at h
  · cases h; exact .cons .rfl (.cons .rfl (.cons .rfl (.cons .rfl (.cons .rfl (.cons .rfl (.cons .rfl (.cons .rfl (.cons .rfl (.cons .rfl .nil)))))))))
  · cases h
theorem Vf  {cs:List V} {x:Z5} (h:R5 cs=some x):FL cs (Ty.cells (.ctl) x):=by
  unfold R5 at h
  split at h
  · split at h
    · cases h; exact .cons .rfl (.cons .rfl (.cons .rfl (.cons .rfl (.cons .rfl (.cons .rfl (.cons (.sl ‹_›) (.cons .rfl (.cons .rfl (.cons .rfl (.cons .rfl (.cons .rfl (.cons .rfl (.cons .rfl (.cons .rfl (.cons (.sl ‹_›) (.cons (.sl ‹_›) .nil))))))))))))))))
    · cases h
  · cases h
theorem Sq  {cs:List V} {x:Nk} (h:O0 cs=some x):FL cs (Ty.cells (.Qg) x):=by
  unfold O0 at h
  split at h
  · cases h; exact .cons .rfl (.cons .rfl (.cons .rfl (.cons .rfl (.cons .rfl .nil))))
  · cases h
theorem QH  {cs:List V} {x:Ee} (h:Li cs=some x):FL cs (Ty.cells (.JS) x):=by
  unfold Li at h
  split at h
  · split at h
    · cases h; exact .cons .rfl (.cons .rfl (.cons .rfl (.cons .rfl (.cons .rfl (.cons .rfl (.cons (.sl ‹_›) .nil))))))
    · cases h
  · cases h
theorem Sr  {cs:List V} {x:Nl} (h:O1 cs=some x):FL cs (Ty.cells (.Qh) x):=by
  unfold O1 at h
  split at h
  · split at h
    · cases h; exact .cons .rfl (.cons .rfl (.cons .rfl (.cons .rfl (.cons .rfl (.cons .rfl (.cons .rfl (.cons (.sl ‹_›) (.cons .rfl .nil))))))))
    · cases h
  · cases h
theorem Ss  {cs:List V} {x:Nn} (h:O2 cs=some x):FL cs (Ty.cells (.Qi) x):=by
  unfold O2 at h
  split at h
  · split at h
    · cases h; exact .cons .rfl (.cons .rfl (.cons (.sl ‹_›) .nil))
    · cases h
  · cases h
theorem Su  {cs:List V} {x:Np} (h:O3 cs=some x):FL cs (Ty.cells (.Qj) x):=by
  unfold O3 at h
  split at h
  · cases h; exact .cons .rfl (.cons .rfl (.cons .rfl .nil))
  · cases h
theorem Sv  {cs:List V} {x:Kh} (h:O4 cs=some x):FL cs (Ty.cells (.Ns) x):=by
  unfold O4 at h
  split at h
  · cases h; exact .cons .rfl (.cons .rfl .nil)
  · cases h
theorem Sw  {cs:List V} {x:Nq} (h:O5 cs=some x):FL cs (Ty.cells (.Qk) x):=by
  unfold O5 at h
  split at h
  · cases h; exact .cons .rfl (.cons .rfl (.cons .rfl (.cons .rfl .nil)))
  · cases h
theorem Sx  {cs:List V} {x:Nr} (h:O6 cs=some x):FL cs (Ty.cells (.post) x):=by
  unfold O6 at h
  split at h
  · cases h; exact .cons .rfl (.cons .rfl .nil)
  · cases h
theorem Vg  {cs:List V} {x:Z6} (h:R6 cs=some x):FL cs (Ty.cells (.job) x):=by
  unfold R6 at h
  split at h
  · cases h; exact .cons .rfl (.cons .rfl (.cons .rfl (.cons .rfl .nil)))
  · cases h
theorem Pd  {cs:List V} {x:CA} (h:I2 cs=some x):FL cs (Ty.cells (.record) x):=by
  unfold I2 at h
  split at h
  · split at h
    · cases h; exact .cons .rfl (.cons (.sl ‹_›) (.cons .rfl .nil))
    · cases h
  · cases h

theorem dec_wk:∀(T:Ty) {cs:List V} {x:T.den},T.dec cs=some x→FL cs (T.cells x)
  | .int k,_,_,h=>U9 k h
  | .bool,_,_,h=>Sk h
  | .str,_,_,h=>Va h
  | .dcm,_,_,h=>Vb h
  | .json,_,_,h=>Sl h
  | .raw,_,_,h=>Vc h
  | .OU,_,_,h=>Sm h
  | .fld,_,_,h=>Vd h
  | .Qf,_,_,h=>Sn h
  | .token,_,_,h=>QD h
  | .stop,_,_,h=>So h
  | .TM,_,_,h=>Ve h
  | .order,_,_,h=>QE h
  | .I0,_,_,h=>Sp h
  | .layout,_,_,h=>Pc h
  | .topic,_,_,h=>QF h
  | .state,_,_,h=>QG h
  | .ctl,_,_,h=>Vf h
  | .Qg,_,_,h=>Sq h
  | .JS,_,_,h=>QH h
  | .Qh,_,_,h=>Sr h
  | .Qi,_,_,h=>Ss h
  | .Qj,_,_,h=>Su h
  | .Ns,_,_,h=>Sv h
  | .Qk,_,_,h=>Sw h
  | .post,_,_,h=>Sx h
  | .job,_,_,h=>Vg h
  | .record,_,_,h=>Pd h

end Go.ay

namespace Go.ay
open Go.RowKit

section
variable {P:Program} {tt:dJ} {w w':World} {h h':az} {c c':kh}

theorem ni (h:az) (i j:Nat) (o:bY):az.at (h.set i o) j=if i=j∧i<h.length then o else h.at j:=by
  unfold az.at
  simp only[List.getD,List.getElem?_set]
  by_cases xC:i=j
  · subst xC
    by_cases hl:i<h.length
    · simp[hl]
    · simp[hl]
  · simp[xC]

theorem cZ {i j:Nat} (o:bY) (xC:i≠j):az.at (h.set i o) j=h.at j:=by rw[ni]; simp[xC]
theorem mT {i:Nat} (o:bY) (hi:i<h.length):az.at (h.set i o) i=o:=by rw[ni]; simp[hi]

def kh.put (c:kh) (i:Nat) (b:Option Nat) (o:Nat):kh:=⟨fun j=>if j=i then b else c.su j,fun j=>if j=i then o else c.off j,c.ext⟩
theorem qz {i j:Nat} (b:Option Nat) (o:Nat) (h:j≠i):(c.put i b o).su j=c.su j:=by simp[kh.put,h]
theorem xT {i j:Nat} (b:Option Nat) (o:Nat) (h:j≠i):(c.put i b o).off j=c.off j:=by simp[kh.put,h]
theorem dj (i:Nat) (b:Option Nat) (o:Nat):(c.put i b o).su i=b:=by simp[kh.put]
theorem fv (i:Nat) (b:Option Nat) (o:Nat):(c.put i b o).off i=o:=by simp[kh.put]

theorem FM {o:bY} (h1:o ≠ .free) (h2:o ≠ .dead):o.live:=by cases o <;> simp_all [bY.live]
theorem wE {o:bY} (h:o.live):o ≠ .dead:=by rintro rfl; exact h
theorem yJ {b:Nat} {o:Obj} (h:w.heap[b]? = some o):b<w.heap.size:=(Array.getElem?_eq_some_iff.1 h).1

theorem oq.lt {i b:Nat} {o:bY} (ho:oq w h c i o) (hl:o.live) (hb:c.su i=some b):b<w.heap.size:=by
  cases o <;> simp only[bY.live]at hl <;> simp only[oq]at ho
  · obtain ⟨b',arr,e,h1,h2,_⟩:=ho
    rw[h1]at hb; cases hb; exact yJ h2
  · rcases ho with ⟨h1,_⟩|⟨b',arr,e,fz,h1,h2,_⟩
    · rw[h1]at hb; cases hb
    · rw[h1]at hb; cases hb; exact yJ h2
  · rcases ho with h1|⟨b',arr,e,fz,h1,h2,_⟩
    · rw[h1]at hb; cases hb
    · rw[h1]at hb; cases hb; exact yJ h2
  · obtain ⟨b',bs,h1,h2,_⟩:=ho
    rw[h1]at hb; cases hb; exact yJ h2
  · obtain ⟨b',p,d,h1,h2,_⟩:=ho
    rw[h1]at hb; cases hb; exact yJ h2
  · obtain ⟨b',es,cl,h1,h2,_⟩:=ho
    rw[h1]at hb; cases hb; exact yJ h2

theorem oq.keep (x:Ext w h c w' h' c') {i:Nat} {o:bY} (ho:oq w h c i o) (hb:∀b,c.su i=some b→w'.heap[b]? = w.heap[b]?) (e1:c'.su i=c.su i) (e2:c'.off i=c.off i) :
    oq w' h' c' i o:=by
  have TW:∀b x,c.su i=some b→w'.frozen? ⟨b,x,none⟩=w.frozen? ⟨b,x,none⟩:=fun b x h=>by simp only[World.frozen?,hb b h]
  cases o <;> simp only[oq]at ho ⊢
  · obtain ⟨b,arr,e,h1,h2,h3⟩:=ho
    exact ⟨b,arr,e,e1▸h1,(hb b h1).trans h2,h3.mono x⟩
  · rcases ho with ⟨h1,h2⟩|⟨b,arr,e,fz,h1,h2,h3,h4,h5⟩
    · exact .inl ⟨e1▸h1,h2⟩
    · refine .inr ⟨b,arr,e,fz,e1▸h1,(hb b h1).trans h2,by rw[e2]; exact h3,fun x hx=>by rw[TW b x h1]; exact h4 x hx,fun n j y v hy hv => ?_⟩
      obtain ⟨d,g1,g2⟩:=h5 n j y v hy hv
      exact ⟨d,by rw[e2]; exact g1,g2.mono x⟩
  · rcases ho with h1|⟨b,arr,e,fz,h1,h2,h3,h4⟩
    · exact .inl (e1▸h1)
    · exact .inr ⟨b,arr,e,fz,e1▸h1,(hb b h1).trans h2,by rw[e2]; exact h3,by rw[e2]; exact h4⟩
  · obtain ⟨b,bs,h1,h2,h3⟩:=ho
    exact ⟨b,bs,e1▸h1,(hb b h1).trans h2,h3⟩
  · obtain ⟨b,p,d,h1,h2,h3,h4⟩:=ho
    exact ⟨b,p,d,e1▸h1,(hb b h1).trans h2,h3,h4.mono x⟩
  · obtain ⟨b,es,cl,h1,h2,h3,h4,h5,h6⟩:=ho
    exact ⟨b,es,cl,e1▸h1,(hb b h1).trans h2,h3,h4,h5,fun j q e hq he=>⟨(h6 j q e hq he).1.mono x,(h6 j q e hq he).2.mono x⟩⟩

theorem sB {b x:Nat} (h:w'.heap[b]? = w.heap[b]?):w'.cell? ⟨b,x,none⟩=w.cell? ⟨b,x,none⟩:=by simp only[World.cell?,h]

theorem uY (hb:Below w.heap.size w w') {id:Nat} (hf:h.at id = .free) (ob:bY) {nb:Option Nat} {no:Nat} (hn:∀b,nb=some b→w.heap.size≤b) :
    Ext w h c w' (h.set id ob) (c.put id nb no) where
  os:=hb.os
  tape:=hb.tape
  output:=hb.output
  size:=hb.size
  used:=fun i hi=>by
    have j7:id≠i:=by rintro rfl; exact hi.2 hf
    exact ⟨by simpa using hi.1,by rw[cZ _ j7]; exact hi.2⟩
  same:=fun i hi hd=>by
    have j7:id≠i:=by rintro rfl; exact hi.2 hf
    rw[cZ _ j7]at hd ⊢
    refine ⟨?_,qz _ _ (Ne.symm j7),xT _ _ (Ne.symm j7)⟩
    have h2:=hi.2
    revert hd h2
    cases h.at i <;> simp[bY.iF]
  cell:=fun b x hx _=>sB (hb.block b hx)
  block:=fun b hx _=>hb.block b hx
  wa:=fun b x hx ho=>by
    obtain ⟨i,f,h1,h2,h3⟩:=ho
    by_cases j7:id=i
    · subst j7
      rw[dj]at h1
      have:=hn b h1
      omega
    · rw[qz _ _ (Ne.symm j7)]at h1
      rw[cZ _ j7,xT _ _ (Ne.symm j7)]at h2
      exact ⟨i,f,h1,h2,h3⟩
  ext:=rfl
  arr:=fun b arr e fz hx=>⟨arr,fz,by rw[hb.block b (yJ hx)]; exact hx,rfl⟩

theorem WF.rW (wf:WF w h c) {h':az} {c':kh} (x:Ext w h c w' h' c'):Laid w' h' c' :=
  ⟨oJ.keep w w' (fun b hb=>x.block b (wf.lay.2 b hb).1 (wf.lay.2 b hb).2) wf.lay.1,
    fun b hb=>⟨Nat.lt_of_lt_of_le (wf.lay.2 b hb).1 x.size,fun y ho=>(wf.lay.2 b hb).2 y (x.wa b y (wf.lay.2 b hb).1 ho)⟩⟩

theorem Bs (wf:WF w h c) (hb:Below w.heap.size w w') {id:Nat} (hid:id<h.length) (hf:h.at id = .free) {ob:bY} {nb:Option Nat} {no:Nat} (hn:∀b,nb=some b→w.heap.size≤b)
    (Es:oq w' (h.set id ob) (c.put id nb no) id ob):WF w' (h.set id ob) (c.put id nb no):=by
  have x:=uY (h:=h) (c:=c) hb hf ob (no:=no) hn
  constructor
  · intro b y ho he
    have kY:b<w.heap.size:=wf.pz b y he
    exact wf.xS b y (x.wa b y kY ho) he
  · intro b y he
    exact Nat.lt_of_lt_of_le (wf.pz b y he) hb.size
  · intro i hi
    by_cases j7:id=i
    · subst j7; rw[mT _ hid]; exact Es
    · rw[cZ _ j7]
      by_cases hl:(h.at i).live
      · have ho:=wf.obj i (by simpa using hi)
        exact ho.keep x (fun b TX=>hb.block b (ho.lt hl TX)) (qz _ _ (Ne.symm j7)) (xT _ _ (Ne.symm j7))
      · revert hl; cases h.at i <;> simp[bY.live,oq]
  · intro i j b hi hj h1 h2
    have kY:∀k,id≠k→(az.at (h.set id ob) k).live→(c.put id nb no).su k=some b→b<w.heap.size:=by
      intro k j7 hl TX
      rw[cZ _ j7]at hl
      rw[qz _ _ (Ne.symm j7)]at TX
      exact (wf.obj k (az.gD rfl (wE hl))).lt hl TX
    by_cases h3:id=i <;> by_cases h4:id=j
    · exact h3.symm.trans h4
    · subst h3
      rw[dj]at h1
      have:=hn b h1
      have:=kY j h4 hj h2
      omega
    · subst h4
      rw[dj]at h2
      have:=hn b h2
      have:=kY i h3 hi h1
      omega
    · rw[cZ _ h3]at hi
      rw[cZ _ h4]at hj
      rw[qz _ _ (Ne.symm h3)]at h1
      rw[qz _ _ (Ne.symm h4)]at h2
      exact wf.inj i j b hi hj h1 h2
  · exact wf.rW x

theorem LC {T:Ty} {v:V} {d:Value} (r:dC w h c v d) {l:List T.den} (hs:CS T v=some l):dC w h c (.sl T l .no) d:=by
  unfold CS at hs
  split at hs
  · cases hs
    cases r
    exact .sl (fun _ _=>undef) (Nat.le_refl _) (by unfold mx; exact Nat.zero_le _) (fun i j hi=>by simp at hi) (fun i j x v hx=>by simp at hx) (by simp) (by simp)
  · rename_i T' l' t
    split at hs
    · rename_i e
      subst e
      cases hs
      cases r with
      | sl f lO sw hc hr xR mR=>exact .sl f lO sw hc hr (by simp) (by simp)
    · cases hs
  · cases hs

theorem Wk.rep {u v:V} {d:Value} (k:Wk u v) (r:dC w h c u d):dC w h c v d:=by
  rcases k with rfl|⟨T,l,rfl,e⟩
  · exact r
  · exact LC r e

theorem FL.rep {us vs:List V} (k:FL us vs):∀ {ds:List Value},cH w h c us ds→cH w h c vs ds:=by
  induction k with
  | nil=>exact fun r=>r
  | cons a _ ih =>
    intro ds r
    cases ds with
    | nil=>have:=r.1; simp at this
    | cons d ds=>exact .cons (a.rep r.head) (ih r.tail)

theorem FN {T:Ty} {cs:List V} {x:T.den} (hx:T.dec cs=some x) {ds:List Value} (r:cH w h c cs ds):cH w h c (T.cells x) ds:=(dec_wk T hx).rep r
end

section
variable {P:Program} {tt:dJ} {w:World} {h:az} {c:kh} {R:Type}

def I7 (P:Program) (w:World) (h:az) (c:kh) (s:Sem Value) (ob:bY) (mk:Nat→V):Prop :=
  ∀id,id<h.length→h.at id = .free→∃v' w' c',s.run P w = .ok v' w'∧WF w' (h.set id ob) c'∧Ext w h c w' (h.set id ob) c'∧dC w' (h.set id ob) c' (mk id) v'

theorem qv (w:World) (o:Obj):Below w.heap.size w (w.alloc o):=(Below.refl _ _).alloc (Nat.le_refl _) o

theorem uw {id:Nat} (hid:id<h.length) {ob:bY} (ho:ob ≠ .free):Used (h.set id ob) id:=⟨by simpa using hid,by rw[mT _ hid]; exact ho⟩

theorem JY (wf:WF w h c) {cs:List V} {ds:Array Value} (r:cH w h c cs ds.toList) (e:TypeId) {s:Sem Value} (mI:s.run P w = .ok (.pointer (some ⟨w.heap.size,0,none⟩)) (w.alloc (.cells ds e))) :
    I7 P w h c s (.cells cs) fun i => .ptr i 0:=by
  intro id hid hf
  have hb:=qv w (.cells ds e)
  have hn:∀b,some w.heap.size=some b→w.heap.size≤b:=by intro b hb; cases hb; exact Nat.le_refl _
  have x:=uY (h:=h) (c:=c) hb hf (.cells cs) (no:=0) hn
  have Es:oq (w.alloc (.cells ds e)) (h.set id (.cells cs)) (c.put id (some w.heap.size) 0) id (.cells cs):=by
    refine ⟨w.heap.size,ds,e,dj _ _ _,heap_alloc_new w _,r.mono x⟩
  exact ⟨_,_,_,mI,Bs wf hb hid hf hn Es,x, .ptr (uw hid (by simp)) ⟨w.heap.size,rfl,fun _=>dj _ _ _⟩⟩

theorem LD (n:Nat):∀(m:Nat) (l:List V) (i:Nat),i<m→(chunks n m l)[i]? = some ((l.drop (i*n)).take n)
  | m+1,l,0,_=>by simp[chunks]
  | m+1,l,i+1,h=>by
    simp only[chunks,List.getElem?_cons_succ]
    rw[LD n m (l.drop n) i (by omega),List.drop_drop]
    congr 3
    rw[Nat.add_mul]; omega

theorem DE (n:Nat):∀(m:Nat) (l:List V),(chunks n m l).length=m
  | 0,_=>rfl
  | m+1,l=>by simp[chunks,DE n m]

theorem DF {T:Ty}:∀ {css:List (List V)} {l:List T.den},wA T css=some l→l.length=css.length
  | [],l,hd=>by simp[wA]at hd; subst hd; rfl
  | c::cs,l,hd=>by
    simp only[wA]at hd
    split at hd
    · cases hd; rename_i h1 h2; simp[DF h2]
    · cases hd

theorem LF {T:Ty}:∀ {css:List (List V)} {l:List T.den},wA T css=some l→∀(i:Nat) (x:T.den),l[i]? = some x→∃cs,css[i]? = some cs∧T.dec cs=some x
  | [],l,hd,i,x,hx=>by simp[wA]at hd; subst hd; simp at hx
  | c::cs,l,hd,i,x,hx=>by
    simp only[wA]at hd
    split at hd
    · cases hd
      rename_i y ys h1 h2
      cases i with
      | zero=>simp at hx; subst hx; exact ⟨c,rfl,h1⟩
      | succ i=>simp at hx; exact LF h2 i x hx
    · cases hd

theorem Vh {T:Ty} {n:Nat} {cs:List V} {ds:List Value} (r:cH w h c cs ds) {l:List T.den} (hd:wA T (chunks T.sz n cs)=some l) :
    ∀(i j:Nat) (x:T.den) (v:V),l[i]? = some x→(T.cells x)[j]? = some v→dC w h c v (ds.getD (i*T.sz+j) undef):=by
  intro i j x v hx hv
  have hl:=DF hd
  rw[DE]at hl
  have hi:i<l.length:=(List.getElem?_eq_some_iff.1 hx).1
  obtain ⟨cs',h1,h2⟩:=LF hd i x hx
  rw[LD _ _ _ _ (by omega)]at h1
  cases h1
  have rr:=FN h2 ((r.drop (i*T.sz)).take T.sz)
  have hj:j<(T.cells x).length:=(List.getElem?_eq_some_iff.1 hv).1
  rw[T.lD]at hj
  have hlen:=rr.1
  rw[T.lD]at hlen
  have UX:((ds.drop (i*T.sz)).take T.sz)[j]? = some (((ds.drop (i*T.sz)).take T.sz)[j]'(by omega)):=List.getElem?_eq_getElem _
  have:=rr.2 j v _ hv UX
  have e:ds.getD (i*T.sz+j) undef=((ds.drop (i*T.sz)).take T.sz)[j]'(by omega):=by
    rw[List.getElem?_take,if_pos hj,List.getElem?_drop]at UX
    simp[List.getD,UX]
  rw[e]; exact this

theorem Nv (z:Array Value) (m:Nat):(madeCells z (z.size+m)).toList=z.toList++(madeCells z m).toList:=by
  simp only[madeCells,Array.toList_map,Array.toList_range,List.range_add,List.map_append,List.map_map]
  congr 1
  · apply List.ext_getElem
    · simp
    · intro i h1 h2
      simp only[List.length_map,List.length_range]at h1
      simp[Nat.mod_eq_of_lt h1,getElem!_pos z i h1]
  · apply List.map_congr_left
    intro k _
    simp

theorem QI {zs:List V} {z:Array Value} (r:cH w h c zs z.toList):∀n:Nat,cH w h c (List.replicate n zs).flatten (madeCells z (n*z.size)).toList
  | 0=>by simp[madeCells]; exact .nil
  | n+1=>by
    have e:(n+1)*z.size=z.size+n*z.size:=by rw[Nat.add_mul]; omega
    rw[e,Nv z _,List.replicate_succ,List.flatten_cons]
    exact r.append (QI r n)

theorem CD (wf:WF w h c) {id:Nat} (ob:bY) (no x:Nat) (hx:∀f,ob.from_ no=some f→¬f≤x) (hid:id<h.length):F0 (h.set id ob) (c.put id (some w.heap.size) no) w.heap.size x:=by
  refine ⟨?_,fun he=>Nat.lt_irrefl _ (wf.pz _ _ he)⟩
  rintro ⟨i,f,h1,h2,h3⟩
  by_cases j7:id=i
  · subst j7
    rw[mT _ hid,fv]at h2
    exact hx f h2 h3
  · rw[cZ _ j7,xT _ _ (Ne.symm j7)]at h2
    rw[qz _ _ (Ne.symm j7)]at h1
    have hl:(h.at i).live:=by revert h2; cases h.at i <;> simp[bY.from_,bY.live]
    have:=(wf.obj i (az.gD rfl (wE hl))).lt hl h1
    omega

theorem QJ (wf:WF w h c) {T:Ty} {n:Nat} {cs:List V} {ds:Array Value} (r:cH w h c cs ds.toList) {l:List T.den} (hd:wA T (chunks T.sz n cs)=some l) (qs:ds.size=n*T.sz) (hn:n≤mx)
    (e:TypeId) (Sy:Se T 0 e) {s:Sem Value} (mI:s.run P w = .ok (.slice (some ⟨w.heap.size,0,none⟩) n n) (w.alloc (.cells ds e))) :
    I7 P w h c s .tok fun i => .sl T l (.own i):=by
  intro id hid hf
  have hb:=qv w (.cells ds e)
  have IW:∀b,some w.heap.size=some b→w.heap.size≤b:=by intro b hb; cases hb; exact Nat.le_refl _
  have x:=uY (h:=h) (c:=c) hb hf .tok (no:=n*T.sz) IW
  have hl:l.length=n:=by rw[DF hd,DE]
  have BS:=heap_alloc_new w (.cells ds e)
  have Es:oq (w.alloc (.cells ds e)) (h.set id .tok) (c.put id (some w.heap.size) (n*T.sz)) id .tok:=by
    refine .inr ⟨w.heap.size,ds,e,(0,0),dj _ _ _,BS,by rw[fv]; omega, .inl rfl⟩
  have hel:=Vh (r.mono x) hd
  refine ⟨_,_,_,mI,Bs wf hb hid hf IW Es,x,?_⟩
  subst hl
  refine .sl (fun i j=>ds.toList.getD (i*T.sz+j) undef) (Nat.le_refl _) hn (fun i j hi hj=>⟨w.heap.size,0,rfl,?_,?_⟩) hel (by simp) (fun i he => ?_)
  · have kY:i*T.sz+j<ds.size:=by
      have:=Nat.mul_le_mul_right T.sz hi
      rw[Nat.succ_mul]at this; omega
    rw[Nat.zero_add,cell_of_row _ _ _ _ _ _ BS]
    simp[List.getD,kY]
  · refine CD wf _ _ _ (fun f Vi => ?_) hid
    simp[bY.from_]at Vi
    have:=Nat.mul_le_mul_right T.sz hi
    rw[Nat.succ_mul]at this; omega
  · cases he
    refine ⟨uw hid (by simp),fun _ => .inr ⟨w.heap.size,0,ds,e,(0,0),dj _ _ _,rfl,by rw[fv,Nat.zero_add],BS,by omega,Sy⟩⟩

theorem HH (wf:WF w h c) {n sz:Nat} {cs:List V} {ds:Array Value} (r:cH w h c cs ds.toList) (qs:cs.length=n*sz) (hn:n≤mx)
    (e:TypeId) {s:Sem Value} (mI:s.run P w = .ok (.slice (some ⟨w.heap.size,0,none⟩) n n) (w.alloc (.cells ds e))) :
    I7 P w h c s .dead fun _ => .Na n cs:=by
  intro id hid hf
  have hb:=qv w (.cells ds e)
  have IW:∀b,some w.heap.size=some b→w.heap.size≤b:=by intro b hb; cases hb; exact Nat.le_refl _
  have x:=uY (h:=h) (c:=c) hb hf .dead (no:=0) IW
  have BS:=heap_alloc_new w (.cells ds e)
  refine ⟨_,_,_,mI,Bs wf hb hid hf IW trivial,x,?_⟩
  have r':=r.mono x
  have hl:=r.1
  refine .Na qs hn (fun j=>ds.toList.getD j undef) (fun j hj=>⟨w.heap.size,0,rfl,?_,?_⟩) (fun j v hv => ?_)
  · rw[Nat.zero_add,cell_of_row _ _ _ _ _ _ BS]
    have kY:j<ds.size:=by simp at hl; omega
    simp[List.getD,kY]
  · exact CD wf _ _ _ (fun f Vi=>by simp[bY.from_]at Vi) hid
  · have hj:j<cs.length:=(List.getElem?_eq_some_iff.1 hv).1
    have kY:j<ds.toList.length:=by omega
    refine r'.2 j v _ hv ?_
    simp only[List.getD,List.getElem?_eq_getElem kY,Option.getD_some]

end

section
variable {P:Program} {tt:dJ} {w:World} {h:az} {c:kh} {R:Type}

theorem vP {w:World} {b:Nat} {arr:Array Value} {e:TypeId} (hb:w.heap[b]? = some (.cells arr e (0,0))) (x:Nat):w.frozen? ⟨b,x,none⟩=false:=by
  simp[World.frozen?,hb]

theorem I8 (wf:WF w h c) {T:Ty} {l:List T.den} {ds:Array Value} {w':World} (hb:Below w.heap.size w w') {e:TypeId} {fz:Nat × Nat} (BS:w'.heap[w.heap.size]? = some (.cells ds e fz))
    (TW:∀x,x<ds.size→w'.frozen? ⟨w.heap.size,x,none⟩=false) {cap:Nat} (lO:l.length≤cap) (sw:cap≤mx) (qs:cap*T.sz≤ds.size)
    (hr:∀(n j:Nat) (x:T.den) (v:V),l[n]? = some x→(T.cells x)[j]? = some v→∃d,ds[n*T.sz+j]? = some d∧∀(w:World) (h:az) (c:kh),dC w h c v d)
    {s:Sem Value} (mI:s.run P w = .ok (.slice (some ⟨w.heap.size,0,none⟩) l.length cap) w') :
    I7 P w h c s (.row T l) fun i => .row i l.length:=by
  intro id hid hf
  have IW:∀b,some w.heap.size=some b→w.heap.size≤b:=by intro b hb; cases hb; exact Nat.le_refl _
  have x:=uY (h:=h) (c:=c) hb hf (.row T l) (no:=0) IW
  have hm:l.length*T.sz≤cap*T.sz:=Nat.mul_le_mul_right _ lO
  have Es:oq w' (h.set id (.row T l)) (c.put id (some w.heap.size) 0) id (.row T l):=by
    refine .inr ⟨w.heap.size,ds,e,fz,dj _ _ _,BS,by rw[fv]; omega,TW,fun n j y v hy hv => ?_⟩
    obtain ⟨d,h1,h2⟩:=hr n j y v hy hv
    exact ⟨d,by rw[fv,Nat.zero_add]; exact h1,h2 _ _ _⟩
  refine ⟨_,_,_,mI,Bs wf hb hid hf IW Es,x,?_⟩
  refine .row (uw hid (by simp)) (by omega) ⟨_,_,rfl,fun _=>⟨_,rfl⟩,fun T' l' he => ?_⟩
  rw[mT _ hid]at he
  cases he
  exact ⟨rfl,lO,sw, .inr ⟨w.heap.size,ds,e,fz,dj _ _ _,by rw[fv],BS,by rw[fv]; omega⟩⟩

theorem I9 (T:xy P tt) (wf:WF w h c) {t len:Nat} {parts:Array (Nat × Operand)} {ρ:Operand→V} {ρ':Operand→Value} (hρ:∀x,dC w h c (ρ x) (ρ' x)) {k:bY→(Nat→V)→Option R} {r:R}
    (hk:WJ tt (.buildSlice t len parts) ρ k=some r):∃ob mk,k ob mk=some r∧ob ≠ .free∧I7 P w h c (Instr.buildSlice t len (parts.map fun (i,x)=>(i,ρ' x))) ob mk:=by
  simp only[WJ]at hk
  split at hk
  · rename_i e hd
    split at hk
    · cases hk
    · rename_i Hu
      simp only[Bool.or_eq_true,Bool.not_eq_true',decide_eq_true_eq,not_or,Bool.not_eq_false,Nat.not_lt]at Hu
      obtain ⟨⟨qs,hsm⟩,rU⟩:=Hu
      have hu:=eO T hd
      simp only[TD.Is]at hu
      have hse:=T.sizeOf (w:=w) rU
      obtain ⟨z,hz,Z9,Lx⟩:=T.zero (w:=w) rU
      have DC:=N3 hρ parts.toList
      have hmade:=QI (w:=w) (h:=h) (c:=c) (Lx w h c) len
      rw[Z9]at hmade
      have key:∀cs,Gp ((List.replicate len (tt.at e).zero).flatten) (parts.toList.map fun (i,x)=>(i*(tt.at e).size,(tt.at e).size,ρ x))=some cs →
          ∃ds:Array Value,cH w h c cs ds.toList∧ds.size=len*(tt.at e).size ∧
            (Instr.buildSlice t len (parts.map fun (i,x)=>(i,ρ' x))).run P w = .ok (.slice (some ⟨w.heap.size,0,none⟩) len len) (w.alloc (.cells ds e)):=by
        intro cs hf
        obtain ⟨I4,h1,h2,h3⟩:=DA (w:=w) (h:=h) (c:=c) (fun i=>some (i*(tt.at e).size,(tt.at e).size)) (parts.toList.map fun p=>(p.1,ρ p.2)) (parts.toList.map fun p=>(p.1,ρ' p.2))
          ((List.replicate len (tt.at e).zero).flatten) (madeCells z.cells (len*(tt.at e).size)) cs DC.1 DC.2 hmade (by
            rw[←hf,List.map_map]
            congr 1) (by rw[size_madeCells]; omega)
        rw[size_madeCells]at h3
        refine ⟨I4,h2,h3,?_⟩
        have Pe:¬(len*(tt.at e).size>2 ^ 24):=by omega
        simp only[Instr.buildSlice,Sem.run_bind,run_underlying hu,Result.andThen_ok,hse,if_neg Pe]
        by_cases JX:len*(tt.at e).size=0
        · simp only[JX,if_true,Array.toList_map]
          have e0:madeCells z.cells (len*(tt.at e).size) = #[]:=by rw[JX]; simp[madeCells]
          rw[e0]at h1
          simp only[Array.range_zero',Array.map_empty]
          rw[h1]
          simp[newRow]
        · simp only[if_neg JX,Sem.run_bind,hz,Result.andThen_ok,Sem.run_pure,Array.toList_map]
          have e1:(Array.range (len*(tt.at e).size)).map (z.cells[· % z.cells.size]!)=madeCells z.cells (len*(tt.at e).size):=rfl
          rw[e1,h1]
          simp[newRow]
      split at hk
      · rename_i cs T' hf hty
        split at hk
        · rename_i hT
          obtain ⟨ds,g1,g2,g3⟩:=key cs hf
          split at hk
          · rename_i BT
            simp only[Bool.and_eq_true,decide_eq_true_eq]at BT
            obtain ⟨_,rfl⟩:=BT
            have hds:ds.size=0:=by omega
            have BS:=heap_alloc_new w (.cells ds e)
            exact ⟨_,_,hk,by simp,I8 (T:=T') (l := []) (cap:=0) wf (qv w _) BS (fun x _=>vP BS x) (Nat.le_refl _) (by unfold mx; omega) (by omega) (fun n j x v hx=>by simp at hx) g3⟩
          split at hk
          · rename_i l hl
            rw[←hT]at hl g2
            exact ⟨_,_,hk,by simp,QJ wf g1 hl g2 (by unfold mx; have:len≤len*(tt.at e).size:=Nat.le_mul_of_pos_right _ (by omega); omega) e (fun hT'=>⟨rfl,T.u8s e (by rw[hty,hT'])⟩) g3⟩
          · exact ⟨_,_,hk,by simp,HH wf (sz:=(tt.at e).size) g1 (by have:=g1.1; simp at this; omega) (by unfold mx; have:len≤len*(tt.at e).size:=Nat.le_mul_of_pos_right _ (by omega); omega) e g3⟩
        · cases hk
      · rename_i cs hf hty
        obtain ⟨ds,g1,g2,g3⟩:=key cs hf
        exact ⟨_,_,hk,by simp,HH wf (sz:=(tt.at e).size) g1 (by have:=g1.1; simp at this; omega) (by unfold mx; have:len≤len*(tt.at e).size:=Nat.le_mul_of_pos_right _ (by omega); omega) e g3⟩
      · cases hk
  · cases hk

theorem xU {o:Oper} {ρ':Operand→Value} {s:Sem Value} {ob:bY} {mk:Nat→V} (he:execOp ρ' o=(do pure (.value (←s)))) (ha:I7 P w h c s ob mk) :
    ∀id,id<h.length→h.at id = .free→∃v' w' c',(execOp ρ' o).run P w = .ok (.value v') w'∧WF w' (h.set id ob) c'∧Ext w h c w' (h.set id ob) c'∧dC w' (h.set id ob) c' (mk id) v':=by
  intro id hid hf
  obtain ⟨v',w',c',h1,h2⟩:=ha id hid hf
  exact ⟨v',w',c',by rw[he]; simp[h1],h2⟩

theorem Ja (T:xy P tt) {t e:Nat} (hd:(tt.at t).d = .slice e) (rU:tt.ok e=true) {i j:IntKind} {a:Int} (h0:0≤a) (hb:a*(tt.at e).bytes≤140737488355328) (sw:a≤9223372036854775807) :
    ∃z:Value,z.cells.size=(tt.at e).size∧(∀(w:World) (h:az) (c:kh),cH w h c (tt.at e).zero z.cells.toList) ∧
      (Instr.makeSlice t (.int i a) (.int j a)).run P w = .ok (.slice (some ⟨w.heap.size,0,none⟩) a.toNat a.toNat) (w.alloc (.cells (madeCells z.cells (a.toNat*(tt.at e).size)) e)):=by
  have hu:=eO T hd
  simp only[TD.Is]at hu
  obtain ⟨inf,z,hi,hs,hby,hz,Z9,hr⟩:=T.info e rU
  have mI:=run_make (P:=P) w t e inf z hu hi hz i j a a h0 (Int.le_refl _) (by rw[hby,Int.mul_comm]; omega) sw
  rw[hs]at mI
  exact ⟨z,by omega,hr,mI⟩

theorem Vj {z:Array Value} (n:Nat) {i j:Nat} (hi:i<n) (hj:j<z.size):(madeCells z (n*z.size))[i*z.size+j]? = some (z[j]):=by
  have kY:i*z.size+j<n*z.size:=by
    have:=Nat.mul_le_mul_right z.size hi
    rw[Nat.succ_mul]at this; omega
  simp only[madeCells,Array.getElem?_map]
  rw[Array.getElem?_eq_getElem (by simpa using kY)]
  simp only[Array.getElem_range,Option.map_some]
  congr 1
  rw[Nat.mul_comm,Nat.mul_add_mod,Nat.mod_eq_of_lt hj,getElem!_pos z j hj]

theorem HI (e:TypeId) (s:ByteArray):∃(cap:Nat) (w':World),(Conv.stringToBytes e s).run P w = .ok (.slice (some ⟨w.heap.size,0,none⟩) s.size cap) w'∧Below w.heap.size w w'∧s.size≤cap∧(s.size≤mx→cap≤mx) ∧
    ∃ds:Array Value,w'.heap[w.heap.size]? = some (.cells ds e (ds.size,ds.size+1))∧ds.size=cap∧∀(i:Nat) (b:UInt8),s.data.toList[i]? = some b→ds[i]? = some (.int .u8 b.toNat):=by
  let cap:=(Question.appendCap s.size 0 e).cut (w.tape w.drawn (.appendCap s.size 0 e))
  have lO:s.size≤cap:=by simp only[cap,Question.cut]; omega
  let ds:Array Value:=(s.data.map fun b=>Value.int .u8 b.toNat)++Array.replicate (cap - s.size) (.int .u8 0)
  have hds:ds.size=cap:=by
    simp only[ds,Array.size_append,Array.size_map,Array.size_replicate]
    have:s.data.size=s.size:=rfl
    omega
  refine ⟨cap,(w.drew.alloc (.cells ds e)).freeze ⟨w.heap.size,ds.size,none⟩ 1,?_,?_,lO,fun hs => ?_,ds,?_,hds,fun i b hb => ?_⟩
  · have hf:(Question.appendCap s.size 0 e).forced=false:=rfl
    simp only[Conv.stringToBytes,Sem.run_bind,run_choose,hf]
    simp only[Bool.false_eq_true,if_false,Result.andThen_ok,newRow,Sem.run_bind,run_newObj,Sem.run_pure]
    have hsh:(w.drew.alloc (.cells ds e)).shape? w.heap.size=some (e,ds.size):=by
      have:=heap_alloc_new w.drew (.cells ds e)
      simp only[World.shape?]
      rw[show (w.drew.alloc (.cells ds e)).heap[w.heap.size]? = some (.cells ds e)from this]
    show ((markStringish ⟨w.heap.size,0,none⟩).run P (w.drew.alloc (.cells ds e))).andThen _=_
    simp only[markStringish,Sem.run_bind,run_shape,hsh,Result.andThen_ok,run_freeze]
    rfl
  · refine ⟨rfl,rfl,rfl,?_,fun k hk => ?_⟩
    · have:((w.drew.alloc (.cells ds e)).freeze ⟨w.heap.size,ds.size,none⟩ 1).heap.size=w.heap.size+1:=by simp[World.freeze]
      omega
    · simp only[World.freeze]
      rw[if_neg (by decide)]
      simp only[Array.getElem?_modify]
      rw[if_neg (by show ¬w.heap.size=k; omega)]
      exact Below.heap_alloc w.drew _ k hk
  · have kY:w.tape w.drawn (Question.appendCap s.size 0 e) % (2 ^ 63 - s.size)<2 ^ 63 - s.size:=Nat.mod_lt _ (by unfold mx at hs; omega)
    simp only[cap,Question.cut]
    unfold mx at hs ⊢
    omega
  · simp only[World.freeze]
    rw[if_neg (by decide)]
    simp only[Array.getElem?_modify]
    have:=heap_alloc_new w.drew (.cells ds e)
    rw[show (w.drew.alloc (.cells ds e)).heap[w.heap.size]? = some (.cells ds e)from this]
    simp
  · have kY:i<s.data.size:=by
      have:=(List.getElem?_eq_some_iff.1 hb).1
      simpa using this
    simp only[ds]
    rw[Array.getElem?_append_left (by simpa using kY)]
    simp only[Array.getElem?_map]
    have:s.data[i]? = some b:=by simpa using hb
    rw[this]; rfl

theorem Vk (T:xy P tt) (wf:WF w h c) {o:Oper} {ρ:Operand→V} {ρ':Operand→Value} (hρ:∀x,dC w h c (ρ x) (ρ' x)) {k:bY→(Nat→V)→Option R} {r:R}
    (hk:WJ tt o.op ρ k=some r):∃ob mk,k ob mk=some r∧ob ≠ .free∧∀id,id<h.length→h.at id = .free →
      ∃v' w' c',(execOp ρ' o).run P w = .ok (.value v') w'∧WF w' (h.set id ob) c'∧Ext w h c w' (h.set id ob) c'∧dC w' (h.set id ob) c' (mk id) v':=by
  obtain ⟨dst,op,type,pos,after,guard⟩:=o
  cases op <;> (try simp only[WJ]at hk) <;> try (first|cases hk)
  case alloc t =>
    split at hk
    · rename_i hb
      obtain ⟨rfl,hz0,rU⟩:=T.blds t hb
      obtain ⟨z,hz,Z9,Lx⟩:=T.zero (w:=w) rU
      refine ⟨_,_,hk,by simp,xU (s:=Instr.alloc oJ.kI true (.tuple #[])) rfl ?_⟩
      have Lx:=Lx w h c
      rw[hz0]at Lx
      have BU:z.cells = #[.pointer none, .slice none 0 0]:=by
        generalize z.cells=q at Lx
        obtain ⟨l⟩:=q
        match l,Lx with
        | [p,d],Lx =>
          have r0:=Lx.head
          have r1:=Lx.tail.head
          cases r0; cases r1; rfl
        | [],Lx=>have:=Lx.1; simp at this
        | [_],Lx=>have:=Lx.1; simp at this
        | _::_::_::_,Lx=>have:=Lx.1; simp at this
      intro id hid hf
      have hbel:=qv w (.cells #[.pointer none, .slice none 0 0] oJ.kI)
      have hn:∀b,some w.heap.size=some b→w.heap.size≤b:=by intro b hb; cases hb; exact Nat.le_refl _
      have x:=uY (h:=h) (c:=c) hbel hf (.kI .cF) (no:=0) hn
      have Es:oq (w.alloc (.cells #[.pointer none, .slice none 0 0] oJ.kI)) (h.set id (.kI .cF)) (c.put id (some w.heap.size) 0) id (.kI .cF) :=
        ⟨w.heap.size,_,_,dj _ _ _,heap_alloc_new w _, .inl rfl, .cF⟩
      exact ⟨_,_,_,by simp[Instr.alloc,hz,newVar,newRow,BU],Bs wf hbel hid hf hn Es,x, .ptr (uw hid (by simp)) ⟨w.heap.size,rfl,fun _=>dj _ _ _⟩⟩
    split at hk
    · rename_i rU
      obtain ⟨z,hz,Z9,Lx⟩:=T.zero (w:=w) rU
      exact ⟨_,_,hk,by simp,xU (s:=Instr.alloc t true (.tuple #[])) rfl (JY wf (Lx w h c) t (by simp[Instr.alloc,hz,newVar,newRow]))⟩
    · cases hk
  case box t x =>
    split at hk
    · rename_i cs BU
      split at hk
      · obtain ⟨rv,_,_⟩:=EZ (hρ x) BU
        exact ⟨_,_,hk,by simp,xU (s:=Instr.box t (ρ' x)) rfl (JY wf rv t (by simp[Instr.box,newVar,newRow]))⟩
      · cases hk
    · cases hk
  case buildSlice t len parts =>
    obtain ⟨ob,mk,h1,h0,h2⟩:=I9 T wf hρ hk
    exact ⟨ob,mk,h1,h0,xU rfl h2⟩
  case makeSlice t n cc =>
    split at hk
    · rename_i e i a j b hd hn hc
      split at hk
      · rename_i T' hty
        split at hk
        · rename_i z hz
          split at hk
          · rename_i wD
            simp only[Bool.and_eq_true,decide_eq_true_eq]at wD
            obtain ⟨qs,rU⟩:=wD
            obtain ⟨hb,GU⟩:=cx hk
            clear hk
            simp only[Bool.and_eq_true,decide_eq_true_eq]at hb
            obtain ⟨⟨⟨h0,rfl⟩,hby⟩,sw⟩:=hb
            have rn:=hρ n
            have rc:=hρ cc
            rw[hn]at rn; rw[hc]at rc
            obtain ⟨en,hn1,hn2⟩:=rn.iQ
            obtain ⟨ec,hc1,hc2⟩:=rc.iQ
            obtain ⟨zv,g1,g2,g3⟩:=Ja (w:=w) (i:=i) (j:=j) T hd rU h0 hby (by omega)
            have BS:=heap_alloc_new w (.cells (madeCells zv.cells (a.toNat*(tt.at e).size)) e)
            have hs:(Instr.makeSlice t (ρ' n) (ρ' cc)).run P w = .ok (.slice (some ⟨w.heap.size,0,none⟩) (List.replicate a.toNat z).length a.toNat) (w.alloc (.cells (madeCells zv.cells (a.toNat*(tt.at e).size)) e)):=by
              rw[en,ec,g3]; simp
            have:=I8 (T:=T') (l:=List.replicate a.toNat z) wf (qv w _) BS (fun x _=>vP BS x) (by simp) (by unfold mx; omega) (by rw[size_madeCells,qs]; exact Nat.le_refl _) (fun n' j' x v hx hv=>by
              simp only[List.getElem?_replicate]at hx
              split at hx
              · rename_i kY
                cases hx
                have hj:j'<T'.sz:=by rw[←T'.lD z]; exact (List.getElem?_eq_some_iff.1 hv).1
                have N2:j'<zv.cells.size:=by omega
                have hm:=Vj (z:=zv.cells) a.toNat kY N2
                rw[g1]at hm
                rw[qs]
                refine ⟨_,hm,fun w h c => ?_⟩
                exact (FN hz (g2 w h c)).2 j' v _ hv (by simp[N2])
              · cases hx) hs
            have e2:(List.replicate a.toNat z).length=a.toNat:=List.length_replicate
            rw[e2]at this
            exact ⟨_,_,GU,by simp,xU (o:=⟨dst, .makeSlice t n cc,type,pos,after,guard⟩) rfl this⟩
          · cases hk
        · cases hk
      · cases hk
    · cases hk
  case convert s d x =>
    split at hk
    · rename_i e t hs hd hx
      split at hk
      · rename_i he
        have rx:=hρ x
        rw[hx]at rx
        obtain ⟨bs,hv,rfl,hl⟩:=rx.kJ
        have us:=eO T hs
        have ud:=eO T hd
        have ue:=eO T he
        simp only[TD.Is]at us ud ue
        obtain ⟨cap,w',g1,g2,g3,g4,ds,g5,g6,g7⟩:=HI (P:=P) (w:=w) e bs
        obtain ⟨l,WN⟩:∃l:List Int,l=bs.data.toList.map fun b=>(b.toNat:Int):=⟨_,rfl⟩
        have hlen:l.length=bs.size:=by rw[WN,List.length_map,size_data]
        have CC:∀(n:Nat) (z:Int),l[n]? = some z→∃b:UInt8,bs.data.toList[n]? = some b∧z=b.toNat:=fun n z hz=>by
          rw[WN,List.getElem?_map]at hz
          cases hb:bs.data.toList[n]? with
          | none=>rw[hb]at hz; cases hz
          | some b=>rw[hb]at hz; simp at hz; exact ⟨b,rfl,hz.symm⟩
        have mI:(convert s d (ρ' x)).run P w = .ok (.slice (some ⟨w.heap.size,0,none⟩) l.length cap) w':=by
          rw[hv,hlen]
          simp only[convert,Sem.run_bind,run_underlying us,run_underlying ud,run_underlying ue,Result.andThen_ok,g1]
        have:=I8 (T := .int .u8) (l:=l) wf g2 g5 (fun y hy=>by
            simp only[World.frozen?,g5]
            simp; omega) (cap:=cap) (by show l.length≤cap; omega) (g4 hl) (by simp[Ty.sz]; omega) (fun n j y v hy hv=>by
            obtain ⟨b,h1,rfl⟩:=CC n y hy
            have hj:j<1:=by
              have:=(List.getElem?_eq_some_iff.1 hv).1
              simpa [Ty.cells]using this
            obtain rfl:j=0:=by omega
            simp[Ty.cells]at hv
            subst hv
            exact ⟨_,by simpa [Ty.sz]using g7 n b h1,fun w h c => .int (Lu _ (UInt8.toNat_lt b))⟩) mI
        have e2:List.length (α:=Int) l=bs.data.toList.length:=by rw[hlen,size_data]
        refine ⟨.row (.int .u8) l,fun i => .row i (List.length (α:=Int) l),?_,by simp,xU (o:=⟨dst, .convert s d x,type,pos,after,guard⟩) rfl this⟩
        rw[e2,WN]; exact hk
      · cases hk
    · cases hk
  case makeMap t rsv =>
    split at hk <;> try (first|cases hk)
    rename_i Xh
    split at hk <;> try (first|cases hk)
    rename_i kt vt hd
    split at hk <;> try (first|cases hk)
    rename_i K V' hK hV
    split at hk <;> try (first|cases hk)
    rename_i hf
    simp only[Bool.and_eq_true]at hf
    have hu:=eO T hd
    simp only[TD.Is]at hu
    refine ⟨_,_,hk,by simp,fun id hid hfr => ?_⟩
    have hb:=qv w (.map #[] 0)
    have IW:∀b,some w.heap.size=some b→w.heap.size≤b:=by intro b hb; cases hb; exact Nat.le_refl _
    have x':=uY (h:=h) (c:=c) hb hfr (.vg K V' []) (no:=0) IW
    have Es:oq (w.alloc (.map #[] 0)) (h.set id (.vg K V' [])) (c.put id (some w.heap.size) 0) id (.vg K V' []) :=
      ⟨w.heap.size, #[],0,dj _ _ _,heap_alloc_new w _,(Lz hf.1).2,LA hf.2,rfl,fun j q e hq=>by simp at hq⟩
    refine ⟨.map (some w.heap.size),_,_,?_,Bs wf hb hid hfr IW Es,x', .map (uw hid (by simp)) ⟨w.heap.size,rfl,fun _=>dj _ _ _⟩⟩
    cases rsv with
    | none=>simp[execOp,Instr.makeMap]
    | some x =>
      have rx:=hρ x
      unfold CT at Xh
      simp only at Xh
      split at Xh
      · rename_i i n hx
        rw[hx]at rx
        simp[execOp,Instr.makeMap,run_underlying hu,rx.iQ.1,asInt,asIntOf]
      · cases Xh
  case range t x =>
    split at hk
    · rename_i s hd hx
      have rx:=hρ x
      rw[hx]at rx
      obtain ⟨bs,hv,rfl,hl⟩:=rx.kJ
      have hu:=eO T hd
      simp only[TD.Is]at hu
      refine ⟨_,_,hk,by simp,fun id hid hf => ?_⟩
      have hb:=qv w (.stringIter bs 0)
      have IW:∀b,some w.heap.size=some b→w.heap.size≤b:=by intro b hb; cases hb; exact Nat.le_refl _
      have x':=uY (h:=h) (c:=c) hb hf (.iter bs.data.toList 0) (no:=0) IW
      have Es:oq (w.alloc (.stringIter bs 0)) (h.set id (.iter bs.data.toList 0)) (c.put id (some w.heap.size) 0) id (.iter bs.data.toList 0) :=
        ⟨w.heap.size,bs,dj _ _ _,heap_alloc_new w _,rfl,hl⟩
      refine ⟨.pointer (some ⟨w.heap.size,0,none⟩),_,_,?_,Bs wf hb hid hf IW Es,x', .ptr (uw hid (by simp)) ⟨w.heap.size,rfl,fun _=>dj _ _ _⟩⟩
      simp[execOp,hv,Instr.range,run_underlying hu]
    · cases hk
end

section
variable {P:Program} {tt:dJ} {w w':World} {h:az} {c:kh} {R:Type}

structure LG (w w':World) (b:Nat) (cur:Array Value) (e:TypeId) (fz:Nat × Nat):Prop where
  os:w'.os=w.os
  tape:w'.tape=w.tape
  output:w'.output=w.output
  size:w'.heap.size=w.heap.size
  other:∀k,k≠b→w'.heap[k]? = w.heap[k]?
  here:w'.heap[b]? = some (.cells cur e fz)

theorem CY {w:World} {b:Nat} {arr:Array Value} {e:TypeId} {lo hi:Nat} (hb:w.heap[b]? = some (.cells arr e (lo,hi))) (x:Nat):w.frozen? ⟨b,x,none⟩=(decide (lo≤x)&&decide (x<hi)):=by
  simp[World.frozen?,hb]

theorem Sz {w:World} {b:Nat} {arr:Array Value} {e:TypeId} {fz:Nat × Nat} (hb:w.heap[b]? = some (.cells arr e fz)) {o x:Nat} (hf:fz.1=fz.2∨fz.2≤o) (hx:o≤x):w.frozen? ⟨b,x,none⟩=false:=by
  obtain ⟨lo,hi⟩:=fz
  rw[CY hb]
  simp only at hf
  rcases hf with rfl|hf
  · by_cases h:lo≤x
    · simp[h]
    · simp[h]
  · have:¬x<hi:=by omega
    simp[this]

theorem nX (b o:Nat) (e:TypeId) (fz:Nat × Nat):∀(vs:List Value) (i:Nat) (cur:Array Value) (w:World),w.heap[b]? = some (.cells cur e fz)→o+i+vs.length≤cur.size →
    (∀x,o+i≤x→x<o+i+vs.length→w.frozen? ⟨b,x,none⟩=false)→Sg vs →
    ∃(w':World) (nQ:Array Value),(storeCells ⟨b,o,none⟩ vs i).run P w = .ok () w'∧LG w w' b nQ e fz∧nQ.toList=cur.toList.take (o+i)++vs++cur.toList.drop (o+i+vs.length)
  | [],i,cur,w,hb,_,_,_=>⟨w,cur,by simp[storeCells],⟨rfl,rfl,rfl,rfl,fun _ _=>rfl,hb⟩,by simp⟩
  | v::vs,i,cur,w,hb,hs,hf,h1=>by
    simp only[List.length_cons]at hs hf
    have hv:v.oneCell'=true:=h1 v (by simp)
    have kY:o+i<cur.size:=by omega
    have xO:w.cell? ⟨b,o+i,none⟩=some cur[o+i]:=by rw[cell_of_row w b _ cur e fz hb]; exact Array.getElem?_eq_getElem kY
    have TW:=hf (o+i) (Nat.le_refl _) (by omega)
    have hstore:(store ((⟨b,o,none⟩:Addr).add i) v).run P w = .ok () (w.setCell ⟨b,o+i,none⟩ v):=by
      rw[ta,run_store P w _ v _ hv,xO]
      simp[TW]
    have pA:(w.setCell ⟨b,o+i,none⟩ v).heap[b]? = some (.cells (cur.setIfInBounds (o+i) v) e fz):=by
      simp[World.setCell,Array.getElem?_modify,hb]
    obtain ⟨w',nQ,g1,g2,g3⟩:=nX b o e fz vs (i+1) (cur.setIfInBounds (o+i) v) (w.setCell ⟨b,o+i,none⟩ v) pA (by simp; omega)
      (fun x hx1 hx2=>by rw[World.frozen?_setCell]; exact hf x (by omega) (by omega)) (fun d hd=>h1 d (by simp[hd]))
    refine ⟨w',nQ,?_,⟨g2.os,g2.tape,g2.output,by rw[g2.size]; simp,fun k hk => ?_,g2.here⟩,?_⟩
    · simp only[storeCells,Sem.run_bind,hstore,Result.andThen_ok,g1]
    · rw[g2.other k hk]; exact heap_setCell_other w _ k v hk
    · rw[g3]
      have:=Xb [v] 0 (o+i) cur (by simp; omega)
      simp only[List.zipIdx_cons,List.zipIdx_nil,List.foldl_cons,List.foldl_nil,Nat.add_zero,List.length_singleton]at this
      rw[this]
      have e1:o+(i+1)=o+i+1:=by omega
      have l1:(cur.toList.take (o+i) ++ [v]).length=o+i+1:=by simp; omega
      rw[e1,List.take_append_of_le_length (by omega),List.take_of_length_le (by omega)]
      have e2:o+i+1+vs.length=(cur.toList.take (o+i) ++ [v]).length+vs.length:=by omega
      rw[e2,List.drop_append]
      have e3:(cur.toList.take (o+i) ++ [v]).length+vs.length - (cur.toList.take (o+i) ++ [v]).length=vs.length:=by omega
      rw[e3,List.drop_eq_nil_of_le (by omega),List.nil_append,List.drop_drop]
      simp only[List.append_assoc,List.length_cons,List.cons_append]
      rw[List.nil_append,show o+i+1+vs.length=o+i+(vs.length+1)from by omega]

theorem HJ {i b:Nat} {o':bY} {cur nQ:Array Value} {e:TypeId} {fz:Nat × Nat} (hb:c.su i=some b) (HK:w.heap[b]? = some (.cells cur e fz)) (hw:LG w w' b nQ e fz) (qs:nQ.size=cur.size)
    (rX:(h.at i).from_ (c.off i)=some 0) (LH:o'.from_ (c.off i)=some 0) (tP:(h.at i).iF o'):Ext w h c w' (h.set i o') c:=by
  have hi:i<h.length:=az.gD rfl (bY.CV tP).1
  have mR:∀x,tO h c b x:=fun x=>⟨i,0,hb,rX,Nat.zero_le _⟩
  constructor
  · exact hw.os
  · exact hw.tape
  · exact hw.output
  · rw[hw.size]; exact Nat.le_refl _
  · intro j hj
    by_cases xC:i=j
    · subst xC
      refine ⟨by simpa using hj.1,?_⟩
      rw[mT _ hi]
      intro he; subst he; simp[bY.from_]at LH
    · exact ⟨by simpa using hj.1,by rw[cZ _ xC]; exact hj.2⟩
  · intro j hj hd
    refine ⟨?_,rfl,rfl⟩
    by_cases xC:i=j
    · subst xC; rw[mT _ hi]; exact tP
    · rw[cZ _ xC]at hd ⊢
      have h2:=hj.2
      revert hd h2
      cases h.at j <;> simp[bY.iF]
  · intro b' x hx ho
    have j7:b'≠b:=by rintro rfl; exact ho (mR x)
    exact sB (hw.other b' j7)
  · intro b' hx ho
    have j7:b'≠b:=by rintro rfl; exact ho 0 (mR 0)
    exact hw.other b' j7
  · rintro b' x hx ⟨j,f,g1,g2,g3⟩
    by_cases xC:i=j
    · subst xC
      rw[hb]at g1; cases g1
      exact mR x
    · rw[cZ _ xC]at g2
      exact ⟨j,f,g1,g2,g3⟩
  · rfl
  · intro b' arr el F1 ha
    by_cases j7:b'=b
    · subst j7
      rw[HK]at ha; cases ha
      exact ⟨nQ,fz,hw.here,qs⟩
    · exact ⟨arr,F1,by rw[hw.other b' j7]; exact ha,rfl⟩

theorem td {o:bY} {f g:Nat} (hf:o.from_ f=some g):o.live:=by revert hf; cases o <;> simp[bY.from_,bY.live]

theorem Pf (wf:WF w h c) {i b:Nat} {o':bY} {cur nQ:Array Value} {e:TypeId} {fz:Nat × Nat} (hb:c.su i=some b) (HK:w.heap[b]? = some (.cells cur e fz)) (hw:LG w w' b nQ e fz) (qs:nQ.size=cur.size)
    (rX:(h.at i).from_ (c.off i)=some 0) (LH:o'.from_ (c.off i)=some 0) (tP:(h.at i).iF o') (Es:oq w' (h.set i o') c i o'):WF w' (h.set i o') c:=by
  have hi:i<h.length:=az.gD rfl (bY.CV tP).1
  have x:=HJ hb HK hw qs rX LH tP
  have hli:=td rX
  have QK:∀j,(az.at (h.set i o') j).live→(h.at j).live:=fun j hj=>by
    by_cases xC:i=j
    · subst xC; exact hli
    · rw[cZ _ xC]at hj; exact hj
  constructor
  · intro b' y ho he
    exact wf.xS b' y (x.wa b' y (wf.pz b' y he) ho) he
  · intro b' y he
    rw[hw.size]; exact wf.pz b' y he
  · intro j hj
    by_cases xC:i=j
    · subst xC; rw[mT _ hi]; exact Es
    · rw[cZ _ xC]
      by_cases hl:(h.at j).live
      · refine (wf.obj j (by simpa using hj)).keep x (fun b' pA=>hw.other b' ?_) rfl rfl
        rintro rfl
        exact xC (wf.inj i j b' hli hl hb pA)
      · revert hl; cases h.at j <;> simp[bY.live,oq]
  · intro j k b' hj hk h1 h2
    exact wf.inj j k b' (QK j hj) (QK k hk) h1 h2
  · exact wf.rW x

theorem SA {cs vs:List V} {o:Nat} (h:o+vs.length≤cs.length):(zI cs o vs).length=cs.length:=by simp[zI]; omega
theorem LI {cs vs:List V} {ds us:List Value} (r:cH w h c cs ds) (s:cH w h c vs us) (o:Nat):cH w h c (zI cs o vs) (ds.take o++us++ds.drop (o+us.length)):=by
  unfold zI
  rw[s.1]
  exact ((r.take o).append s).append (r.drop _)

theorem QL (wf:WF w h c) {t:Nat} (T:xy P tt) {i o:Nat} {cs vs:List V} {a' y':Value} (ra:dC w h c (.ptr i o) a') (BU:h.at i = .cells cs) (rv:cH w h c vs y'.cells.toList) (h1:Sg y'.cells.toList)
    (rU:tt.ok t=true) (qs:vs.length=(tt.at t).size) (kY:o+vs.length≤cs.length) :
    ∃w',(Instr.storeAt t a' y').run P w = .ok () w'∧WF w' (h.set i (.cells (zI cs o vs))) c∧Ext w h c w' (h.set i (.cells (zI cs o vs))) c:=by
  have hi:=az.gD BU (by simp)
  have ho:=wf.obj i hi
  rw[BU]at ho
  obtain ⟨b,arr,e,g1,g2,g3⟩:=ho
  cases ra with
  | ptr hu hv =>
    obtain ⟨b',rfl,pA⟩:=hv
    have:=pA (by rw[BU]; simp)
    rw[g1]at this; cases this
    have hl:=g3.1
    simp only[Array.length_toList]at hl
    have hlv:=rv.1
    obtain ⟨w',nQ,k1,k2,k3⟩:=nX (P:=P) b o e (0,0) y'.cells.toList 0 arr w g2 (by omega) (fun x _ _=>vP g2 x) h1
    have GV:nQ.size=arr.size:=by
      rw[←Array.length_toList,k3]; simp only[Array.length_toList,List.length_append,List.length_take,List.length_drop]at *; omega
    have rX:(h.at i).from_ (c.off i)=some 0:=by rw[BU]; rfl
    have tP:(h.at i).iF (.cells (zI cs o vs)):=by rw[BU]; exact (SA kY).symm
    have x:=HJ g1 g2 k2 GV rX rfl tP
    refine ⟨w',?_,Pf wf g1 g2 k2 GV rX rfl tP ⟨b,nQ,e,g1,k2.here,?_⟩,x⟩
    · simp only[Instr.storeAt,Instr.sureAddr,Sem.run_bind,Sem.run_pure,Result.andThen_ok,storeVar,T.sizeOf rU]
      rw[if_neg (by simp only[Array.length_toList]at hlv; omega)]
      simp only[k1]
    · rw[k3]
      exact LI (g3.mono x) (rv.mono x) _

theorem Vl (wf:WF w h c) {t:Nat} (T:xy P tt) {i:Nat} {u v:V} {a' y':Value} (ra:dC w h c (.ptr i 1) a') (BU:h.at i = .kI u) (rv:cH w h c [v] y'.cells.toList) (h1:Sg y'.cells.toList)
    (rU:tt.ok t=true) (qs:1=(tt.at t).size) :
    ∃w',(Instr.storeAt t a' y').run P w = .ok () w'∧WF w' (h.set i (.kI v)) c∧Ext w h c w' (h.set i (.kI v)) c:=by
  have hi:=az.gD BU (by simp)
  have ho:=wf.obj i hi
  rw[BU]at ho
  obtain ⟨b,p,d,g1,g2,g3,g4⟩:=ho
  cases ra with
  | ptr hu hv =>
    obtain ⟨b',rfl,pA⟩:=hv
    have:=pA (by rw[BU]; simp)
    rw[g1]at this; cases this
    have hlv:=rv.1
    simp only[List.length_cons,List.length_nil]at hlv
    obtain ⟨w',nQ,k1,k2,k3⟩:=nX (P:=P) b 1 oJ.kI (0,0) y'.cells.toList 0 #[p,d] w g2 (by simp at hlv ⊢; omega) (fun x _ _=>vP g2 x) h1
    have GV:nQ.size=(#[p,d]:Array Value).size:=by
      rw[←Array.length_toList,k3]; simp at hlv ⊢; omega
    have rX:(h.at i).from_ (c.off i)=some 0:=by rw[BU]; rfl
    have tP:(h.at i).iF (.kI v):=by rw[BU]; trivial
    have x:=HJ g1 g2 k2 GV rX rfl tP
    refine ⟨w',?_,Pf wf g1 g2 k2 GV rX rfl tP ?_,x⟩
    · simp only[Instr.storeAt,Instr.sureAddr,Sem.run_bind,Sem.run_pure,Result.andThen_ok,storeVar,T.sizeOf rU]
      rw[if_neg (by simp at hlv; omega)]
      simp only[k1]
    · match hy:y'.cells.toList,hlv with
      | [q],_ =>
        rw[hy]at k3 rv
        have KP:nQ = #[p,q]:=by
          apply Array.ext'
          rw[k3]; rfl
        exact ⟨b,p,q,g1,by rw[←KP]; exact k2.here,g3,rv.head.mono x⟩

theorem QM {T':Ty} (l:List T'.den) (j:Nat) (y:T'.den):(bY.row T' l).iF (.row T' (l.set j y)):=⟨rfl,by simp⟩

theorem Vm (wf:WF w h c) {t:Nat} (T:xy P tt) {i n j o:Nat} {T':Ty} {l:List T'.den} {vs:List V} {a' y':Value} (ra:dC w h c (.s8 i n j o) a') (BT:h.at i = .row T' l) (rv:cH w h c vs y'.cells.toList) (h1:Sg y'.cells.toList)
    (rU:tt.ok t=true) (hn:n=T'.sz) (qs:vs.length=(tt.at t).size) (hj:j<l.length) (kY:o+vs.length≤(T'.cells (l.getD j T'.cn)).length) {y:T'.den} (hy:T'.dec (zI (T'.cells (l.getD j T'.cn)) o vs)=some y) :
    ∃w',(Instr.storeAt t a' y').run P w = .ok () w'∧WF w' (h.set i (.row T' (l.set j y))) c∧Ext w h c w' (h.set i (.row T' (l.set j y))) c:=by
  have hi:=az.gD BT (by simp)
  have ho:=wf.obj i hi
  rw[BT]at ho
  rw[getD_eq hj]at kY hy
  have hclen:=T'.lD l[j]
  rcases ho with ⟨_,rfl⟩|⟨b,arr,e,fz,g1,g2,g3,g4,g5⟩
  · simp at hj
  · cases ra with
    | s8 hu hv =>
      obtain ⟨a,rfl,hv⟩:=hv
      obtain ⟨b',pA,rfl⟩:=hv T' l BT hn hj
      rw[g1]at pA; cases pA
      have hlv:=rv.1
      have hm:=Nat.mul_le_mul_right T'.sz hj
      rw[Nat.succ_mul]at hm
      obtain ⟨w',nQ,k1,k2,k3⟩:=nX (P:=P) b (c.off i+j*T'.sz+o) e fz y'.cells.toList 0 arr w g2 (by omega) (fun x _ hx=>g4 x (by omega)) h1
      have GV:nQ.size=arr.size:=by
        rw[←Array.length_toList,k3]; simp only[Array.length_toList,List.length_append,List.length_take,List.length_drop]at *; omega
      have rX:(h.at i).from_ (c.off i)=some 0:=by rw[BT]; rfl
      have tP:(h.at i).iF (.row T' (l.set j y)):=by rw[BT]; exact QM l j y
      have x:=HJ g1 g2 k2 GV rX rfl tP
      obtain ⟨fl,fh⟩:=fz
      refine ⟨w',?_,Pf wf g1 g2 k2 GV rX rfl tP (.inr ⟨b,nQ,e,(fl,fh),g1,k2.here,by rw[GV]; simpa using g3,fun x hx => ?_,fun n' q z v hz hv' => ?_⟩),x⟩
      · simp only[Instr.storeAt,Instr.sureAddr,Sem.run_bind,Sem.run_pure,Result.andThen_ok,storeVar,T.sizeOf rU]
        rw[if_neg (by simp only[Array.length_toList]at hlv; omega)]
        simp only[k1]
      · have:=g4 x (by omega)
        rw[CY g2]at this
        rw[CY k2.here]; exact this
      · have hq:q<T'.sz:=by rw[←T'.lD z]; exact (List.getElem?_eq_some_iff.1 hv').1
        rw[List.getElem?_set]at hz
        have CC:∀p:Nat,nQ[p]? = nQ.toList[p]? :=fun p=>Array.getElem?_toList.symm
        rw[CC,k3]
        by_cases hjn:j=n'
        · subst hjn
          rw[if_pos rfl,if_pos hj]at hz
          cases hz
          -- the element that is written
          have base:cH w h c (T'.cells l[j]) ((arr.toList.drop (c.off i+j*T'.sz)).take T'.sz):=by
            refine ⟨by rw[hclen]; simp; omega,fun x v d hv hd => ?_⟩
            obtain ⟨d',p1,p2⟩:=g5 j x l[j] v (List.getElem?_eq_getElem hj) hv
            rw[List.getElem?_take]at hd
            split at hd
            · rw[List.getElem?_drop]at hd
              have e1:arr[c.off i+j*T'.sz+x]? = some d:=by simpa using hd
              rw[p1]at e1; cases e1; exact p2
            · cases hd
          have sp:=(FN hy (LI base rv o)).mono x
          have QN:=sp.1
          have US:q<(((arr.toList.drop (c.off i+j*T'.sz)).take T'.sz).take o++y'.cells.toList++((arr.toList.drop (c.off i+j*T'.sz)).take T'.sz).drop (o+y'.cells.toList.length)).length:=by
            rw[←QN,T'.lD]; exact hq
          refine ⟨_,?_,sp.2 q v _ hv' (List.getElem?_eq_getElem US)⟩
          rw[←List.getElem?_eq_getElem US]
          simp only[List.getElem?_append,List.length_append,List.length_take,List.length_drop,List.getElem?_take,List.getElem?_drop,Array.length_toList,Nat.add_zero]at *
          by_cases c1:q<o
          · have e1:c.off i+j*T'.sz+q<c.off i+j*T'.sz+o:=by omega
            have e2:c.off i+j*T'.sz+q<min (c.off i+j*T'.sz+o) arr.size:=by omega
            have e3:c.off i+j*T'.sz+q<min (c.off i+j*T'.sz+o) arr.size+y'.cells.size:=by omega
            have e4:q<min o (min T'.sz (arr.size - (c.off i+j*T'.sz))):=by omega
            have e5:q<min o (min T'.sz (arr.size - (c.off i+j*T'.sz)))+y'.cells.size:=by omega
            simp only[e1,e2,e3,e4,e5,c1,hq,if_true]
          · have m1:min (c.off i+j*T'.sz+o) arr.size=c.off i+j*T'.sz+o:=by omega
            have m2:min o (min T'.sz (arr.size - (c.off i+j*T'.sz)))=o:=by omega
            rw[m1,m2]
            by_cases c2:q<o+y'.cells.size
            · have e1:c.off i+j*T'.sz+q<c.off i+j*T'.sz+o+y'.cells.size:=by omega
              have e2:¬c.off i+j*T'.sz+q<c.off i+j*T'.sz+o:=by omega
              have e3:c.off i+j*T'.sz+q - (c.off i+j*T'.sz+o)=q - o:=by omega
              simp only[e1,e2,e3,c1,c2,if_true,if_false]
            · have e1:¬c.off i+j*T'.sz+q<c.off i+j*T'.sz+o+y'.cells.size:=by omega
              have e3:c.off i+j*T'.sz+o+y'.cells.size+(c.off i+j*T'.sz+q - (c.off i+j*T'.sz+o+y'.cells.size))=c.off i+j*T'.sz+(o+y'.cells.size+(q - (o+y'.cells.size))):=by omega
              have e4:o+y'.cells.size+(q - (o+y'.cells.size))<T'.sz:=by omega
              simp only[e1,e3,e4,c2,if_true,if_false]
        · rw[if_neg hjn]at hz
          obtain ⟨d,p1,p2⟩:=g5 n' q z v hz hv'
          refine ⟨d,?_,p2.mono x⟩
          have P7:n'<l.length:=(List.getElem?_eq_some_iff.1 hz).1
          have p1':arr.toList[c.off i+n'*T'.sz+q]? = some d:=by simpa using p1
          simp only[Array.length_toList]at hlv
          simp only[List.getElem?_append,List.length_append,List.length_take,List.getElem?_take,List.getElem?_drop,Array.length_toList,Nat.add_zero]
          rcases Nat.lt_or_ge n' j with hlt'|hge
          · have hm2:=Nat.mul_le_mul_right T'.sz hlt'
            rw[Nat.succ_mul]at hm2
            have e1:c.off i+n'*T'.sz+q<c.off i+j*T'.sz+o:=by omega
            have e2:c.off i+n'*T'.sz+q<min (c.off i+j*T'.sz+o) arr.size:=by omega
            have e3:c.off i+n'*T'.sz+q<min (c.off i+j*T'.sz+o) arr.size+y'.cells.size:=by omega
            simp only[e1,e2,e3,if_true]; exact p1'
          · have hm2:=Nat.mul_le_mul_right T'.sz (show j+1≤n' by omega)
            rw[Nat.succ_mul]at hm2
            have m1:min (c.off i+j*T'.sz+o) arr.size=c.off i+j*T'.sz+o:=by omega
            have e1:¬c.off i+n'*T'.sz+q<c.off i+j*T'.sz+o+y'.cells.size:=by omega
            have e3:c.off i+j*T'.sz+o+y'.cells.size+(c.off i+n'*T'.sz+q - (c.off i+j*T'.sz+o+y'.cells.size))=c.off i+n'*T'.sz+q:=by omega
            rw[m1]
            simp only[e1,e3,if_false]; exact p1'
end

section
variable {P:Program} {tt:dJ} {w w':World} {h:az} {c:kh} {R:Type}

def kT (T:Ty):List T.den→List V
  | [] => []
  | x::l=>T.cells x++kT T l

theorem k7 (T:Ty):∀l:List T.den,(kT T l).length=l.length*T.sz
  | []=>by simp[kT]
  | x::l=>by simp only[kT,List.length_append,T.lD,k7 T l,List.length_cons,Nat.succ_mul]; omega

theorem ux (T:Ty):∀l m:List T.den,kT T (l++m)=kT T l++kT T m
  | [],m=>rfl
  | x::l,m=>by simp only[List.cons_append,kT,ux T l m,List.append_assoc]

theorem xV (T:Ty):∀(l:List T.den) (i j:Nat) (x:T.den),l[i]? = some x→j<T.sz→(kT T l)[i*T.sz+j]? = (T.cells x)[j]?
  | [],i,j,x,hx,_=>by simp at hx
  | y::l,0,j,x,hx,hj=>by
    simp at hx; subst hx
    simp only[kT,Nat.zero_mul,Nat.zero_add]
    rw[List.getElem?_append_left (by rw[T.lD]; exact hj)]
  | y::l,i+1,j,x,hx,hj=>by
    simp at hx
    simp only[kT]
    rw[List.getElem?_append_right (by rw[T.lD,Nat.succ_mul]; omega),T.lD]
    rw[show (i+1)*T.sz+j - T.sz=i*T.sz+j from by rw[Nat.succ_mul]; omega]
    exact xV T l i j x hx hj

theorem Vn (T:Ty) (x:T.den):(T.cells x).all V.one=true:=by cases T <;> rfl
theorem LJ (T:Ty):∀l:List T.den,(kT T l).all V.one=true
  | []=>rfl
  | x::l=>by simp only[kT,List.all_append,Vn,LJ T l,Bool.and_true]

theorem SB {T:Ty} {n:Nat}:∀ {cs:List V} {ds:List Value} {l:List T.den},cs.length=n*T.sz→cH w h c cs ds→wA T (chunks T.sz n cs)=some l→cH w h c (kT T l) ds:=by
  induction n with
  | zero =>
    intro cs ds l hl r hd
    simp[chunks,wA]at hd
    subst hd
    have h0:cs = []:=List.eq_nil_of_length_eq_zero (by simpa using hl)
    subst h0
    exact r
  | succ n ih =>
    intro cs ds l hl r hd
    simp only[chunks,wA]at hd
    split at hd
    · rename_i x xs h1 h2
      cases hd
      rw[Nat.succ_mul]at hl
      have r1:=FN h1 (r.take T.sz)
      have r2:=ih (by simp; omega) (r.drop T.sz) h2
      have:=r1.append r2
      rw[List.take_append_drop]at this
      exact this
    · cases hd

theorem QO {T:Ty} {l:List T.den} {t:Tok} {A:Option Addr} {n cap:Nat} (r:dC w h c (.sl T l t) (.slice A n cap)) :
    ∃ds,cH w h c (kT T l) ds∧(l ≠ []→∃b o,A=some ⟨b,o,none⟩∧rV w b o ds∧∀x,o≤x→x<o+l.length*T.sz→F0 h c b x):=by
  cases r with
  | sl f lO sw hc hr xR mR =>
    refine ⟨(List.range (l.length*T.sz)).map fun k=>f (k / T.sz) (k % T.sz),⟨by simp[k7],fun k v d hv hd => ?_⟩,fun j7 => ?_⟩
    · have hk:k<l.length*T.sz:=by rw[←k7]; exact (List.getElem?_eq_some_iff.1 hv).1
      have HC:=T.DB
      have hi:k / T.sz<l.length:=(Nat.div_lt_iff_lt_mul HC).2 hk
      have hj:=Nat.mod_lt k HC
      have e:k / T.sz*T.sz+k % T.sz=k:=by rw[Nat.mul_comm]; exact Nat.div_add_mod _ _
      have:=xV T l (k / T.sz) (k % T.sz) _ (List.getElem?_eq_getElem hi) hj
      rw[e]at this
      rw[this]at hv
      simp only[List.getElem?_map,List.getElem?_range hk,Option.map_some,Option.some.injEq]at hd
      subst hd
      exact hr _ _ _ v (List.getElem?_eq_getElem hi) hv
    · have HC:0<l.length:=List.length_pos_iff.2 j7
      obtain ⟨b,o,rfl,_⟩:=hc 0 0 HC T.DB
      have all:∀k,k<l.length*T.sz→w.cell? ⟨b,o+k,none⟩=some (f (k / T.sz) (k % T.sz))∧F0 h c b (o+k):=by
        intro k hk
        have hi:k / T.sz<l.length:=(Nat.div_lt_iff_lt_mul T.DB).2 hk
        obtain ⟨b',o',e',g1,g2⟩:=hc _ _ hi (Nat.mod_lt k T.DB)
        cases e'
        have e:k / T.sz*T.sz+k % T.sz=k:=by rw[Nat.mul_comm]; exact Nat.div_add_mod _ _
        rw[Nat.add_assoc,e]at g1 g2
        exact ⟨g1,g2⟩
      refine ⟨b,o,rfl,fun k d hd => ?_,fun x h1 h2 => ?_⟩
      · simp only[List.getElem?_map]at hd
        by_cases hk:k<l.length*T.sz
        · rw[List.getElem?_range hk]at hd
          simp at hd; subst hd
          exact (all k hk).1
        · rw[List.getElem?_eq_none (by simp; omega)]at hd; cases hd
      · have:=(all (x - o) (by omega)).2
        rw[show o+(x - o)=x from by omega]at this
        exact this

theorem Ch {T:Ty} {l:List T.den} {t:Tok} {A:Option Addr} {cap:Nat} {ds:List Value} (r:cH w h c (kT T l) ds) (lO:l.length≤cap) (sw:cap≤mx)
    (hA:l ≠ []→∃b o,A=some ⟨b,o,none⟩∧rV w b o ds∧∀x,o≤x→x<o+l.length*T.sz→F0 h c b x) (xR:t = .nil→A=none∧cap=0)
    (mR:∀i,t = .own i→Used h i∧(h.at i = .tok →
        (c.su i=none∧A=none∧cap=0)∨∃b o arr e fz,c.su i=some b∧A=some ⟨b,o,none⟩∧c.off i=o+l.length*T.sz ∧
          w.heap[b]? = some (.cells arr e fz)∧o+cap*T.sz≤arr.size∧Se T o e)):dC w h c (.sl T l t) (.slice A l.length cap):=by
  have hlen:=r.1
  rw[k7]at hlen
  refine .sl (fun i j=>ds.getD (i*T.sz+j) undef) lO sw (fun i j hi hj => ?_) (fun i j x v hx hv => ?_) xR mR
  · have hk:i*T.sz+j<l.length*T.sz:=by
      have:=Nat.mul_le_mul_right T.sz hi
      rw[Nat.succ_mul]at this; omega
    obtain ⟨b,o,e,h1,h2⟩:=hA (by intro e; subst e; simp at hi)
    refine ⟨b,o,e,?_,h2 _ (by omega) (by omega)⟩
    rw[Nat.add_assoc]
    refine h1 _ _ ?_
    rw[List.getElem?_eq_getElem (by omega)]
    simp[List.getD,List.getElem?_eq_getElem (show i*T.sz+j<ds.length by omega)]
  · have hj:j<T.sz:=by rw[←T.lD x]; exact (List.getElem?_eq_some_iff.1 hv).1
    have hi:i<l.length:=(List.getElem?_eq_some_iff.1 hx).1
    have hk:i*T.sz+j<ds.length:=by
      have:=Nat.mul_le_mul_right T.sz hi
      rw[Nat.succ_mul]at this; omega
    have:=xV T l i j x hx hj
    refine r.2 (i*T.sz+j) v _ (this.trans hv) ?_
    rw[List.getElem?_eq_getElem hk]
    simp[List.getD,List.getElem?_eq_getElem hk]

theorem E0 {b o n sz:Nat} {cap:Nat} {ds:List Value} (hl:ds.length=n*sz) (hc:rV w b o ds):(Builtin.firstCells sz n (.slice (some ⟨b,o,none⟩) n cap)).run P w = .ok ds.toArray w:=by
  have:=run_loadCells_list (P:=P) w ⟨b,o,none⟩ ds (fun j v hv=>by rw[ta]; exact hc j v hv)
  rw[hl]at this
  simpa [Builtin.firstCells]using this

theorem zJ {A:Option Addr} {n sz cap:Nat} (hn:n*sz=0):(Builtin.firstCells sz n (.slice A n cap)).run P w = .ok #[] w:=by
  cases A with
  | none=>simp[Builtin.firstCells]
  | some a =>
    simp only[Builtin.firstCells,hn]
    exact run_loadCells_list (P:=P) w a [] (fun j v hv=>by simp at hv)

theorem wF (T:xy P tt) {t xt e:Nat} (ht:(tt.at t).d = .slice e) (rU:tt.ok e=true) (Pg:(∃e',P.underlying xt=some (.slice e'))∨P.underlying xt=some .string)
    {A:Option Addr} {n cap m:Nat} {x:Value} {olds news:List Value} (ty:Nat)
    (hlx:(Builtin.lenOf x).run P w = .ok m w) (Xi:∀W:World,W.heap=w.heap→(Builtin.firstCells (tt.at e).size m x).run P W = .ok news.toArray W) (Nt:news.length=m*(tt.at e).size) (h1:Sg news)
    (holds:olds.length=n*(tt.at e).size) (hold:n≠0→∃b o,A=some ⟨b,o,none⟩∧rV w b o olds) (hncap:n≤cap) (hcapmx:cap≤mx)
    (hA:(A=none∧cap=0)∨∃b o arr el fz,A=some ⟨b,o,none⟩∧w.heap[b]? = some (.cells arr el fz)∧o+cap*(tt.at e).size≤arr.size∧∀y,o+n*(tt.at e).size≤y→y<arr.size→w.frozen? ⟨b,y,none⟩=false)
    (Ci:(n+m)*(tt.at e).bytes≤140737488355328) (sw:n+m≤mx) :
    (n+m≤cap∧A=none∧m=0∧(Builtin.append_ #[t,xt] ty #[.slice A n cap,x]).run P w = .ok (.slice A (n+m) cap) w) ∨
    (n+m≤cap∧∃b o arr el fz w' nQ,A=some ⟨b,o,none⟩∧w.heap[b]? = some (.cells arr el fz)∧o+cap*(tt.at e).size≤arr.size ∧
      (Builtin.append_ #[t,xt] ty #[.slice A n cap,x]).run P w = .ok (.slice A (n+m) cap) w'∧LG w w' b nQ el fz ∧
      nQ.toList=arr.toList.take (o+n*(tt.at e).size)++news++arr.toList.drop (o+n*(tt.at e).size+news.length)) ∨
    (∃tQ ds,n+m≤tQ∧tQ≤mx∧ds.size=tQ*(tt.at e).size∧ds.toList.take ((n+m)*(tt.at e).size)=olds++news ∧
      (Builtin.append_ #[t,xt] ty #[.slice A n cap,x]).run P w = .ok (.slice (some ⟨w.heap.size,0,none⟩) (n+m) tQ) (w.drew.alloc (.cells ds e))):=by
  have hu:=eO T ht
  simp only[TD.Is]at hu
  have hs:=T.sizeOf (w:=w) rU
  obtain ⟨inf,z,hi,hsi,hby,hzv,Z9,Lx⟩:=T.info e rU
  have hx:∃d,P.underlying xt=some d∧((∃e',d = .slice e')∨d = .string):=by
    rcases Pg with ⟨e',hx⟩|hx
    · exact ⟨_,hx, .inl ⟨e',rfl⟩⟩
    · exact ⟨_,hx, .inr rfl⟩
  by_cases QP:n+m≤cap
  · rcases hA with ⟨rfl,rfl⟩|⟨b,o,arr,el,fz,rfl,hb,qs,TW⟩
    · have hm0:m=0:=by omega
      subst hm0
      refine .inl ⟨QP,rfl,rfl,?_⟩
      have hn0:news = []:=List.eq_nil_of_length_eq_zero (by simpa using Nt)
      have hf:=Xi w rfl
      subst hn0
      rcases Pg with ⟨e',hx⟩|hx <;>
        simp[Builtin.append_,run_underlying hu,run_underlying hx,hs,hlx,hf,show n=0 from by omega]
    · refine .inr (.inl ⟨QP,b,o,arr,el,fz,?_⟩)
      have hf:=Xi w rfl
      obtain ⟨w',nQ,k1,k2,k3⟩:=nX (P:=P) b (o+n*(tt.at e).size) el fz news 0 arr w hb (by
        have:(n+m)*(tt.at e).size≤cap*(tt.at e).size:=Nat.mul_le_mul_right _ QP
        rw[Nat.add_mul]at this; omega) (fun y h1 h2=>TW y h1 (by
        have:(n+m)*(tt.at e).size≤cap*(tt.at e).size:=Nat.mul_le_mul_right _ QP
        rw[Nat.add_mul]at this; omega)) h1
      refine ⟨w',nQ,rfl,hb,qs,?_,k2,by simpa using k3⟩
      rcases Pg with ⟨e',hx⟩|hx <;>
        simp[Builtin.append_,run_underlying hu,run_underlying hx,hs,hlx,hf,QP,ta,k1]
  · refine .inr (.inr ?_)
    let tQ:=(Question.appendCap (n+m) cap e).cut (w.tape w.drawn (.appendCap (n+m) cap e))
    have hge:n+m≤tQ:=by simp only[tQ,Question.cut]; omega
    have kY:tQ≤mx:=by
      have kY:w.tape w.drawn (Question.appendCap (n+m) cap e) % (2 ^ 63 - (n+m))<2 ^ 63 - (n+m):=Nat.mod_lt _ (by unfold mx at sw; omega)
      simp only[tQ,Question.cut]
      unfold mx at sw ⊢
      omega
    let ds:Array Value:=olds.toArray++news.toArray++Builtin.zeroCells z.cells (tQ - (n+m))
    have hzl:(Builtin.zeroCells z.cells (tQ - (n+m))).size=(tQ - (n+m))*(tt.at e).size:=by
      simp[Builtin.zeroCells]; rw[Z9,hsi]
    have hds:ds.size=tQ*(tt.at e).size:=by
      simp only[ds,Array.size_append,List.size_toArray,holds,Nt,hzl]
      rw[←Nat.add_mul,←Nat.add_mul]
      congr 1; omega
    refine ⟨tQ,ds,hge,kY,hds,?_,?_⟩
    · have:ds.toList=(olds++news)++(Builtin.zeroCells z.cells (tQ - (n+m))).toList:=by simp[ds]
      rw[this,List.take_append_of_le_length (by simp[holds,Nt,Nat.add_mul]),List.take_of_length_le (by simp[holds,Nt,Nat.add_mul])]
    · have hfo:(Builtin.firstCells (tt.at e).size n (.slice A n cap)).run P w.drew = .ok olds.toArray w.drew:=by
        by_cases hn0:n=0
        · subst hn0
          have:olds = []:=List.eq_nil_of_length_eq_zero (by simpa using holds)
          subst this
          exact zJ (by simp)
        · obtain ⟨b,o,rfl,hc⟩:=hold hn0
          exact E0 holds hc
      have hf:=Xi w.drew rfl
      have h48':¬(281474976710656<Builtin.nextslicecap (n+m) cap*(tt.at e).bytes):=by
        have:=growslice_fits (need:=n+m) (old:=cap) (by omega) Ci
        omega
      have h63':¬(9223372036854775807<((n:Int)+(m:Int))):=by unfold mx at sw; omega
      have hsd:(sizeOf e).run P w.drew = .ok (tt.at e).size w.drew:=T.sizeOf rU
      rcases Pg with ⟨e',hx⟩|hx <;>
        simp[Builtin.append_,run_underlying hu,run_underlying hx,hs,hlx,QP,h63',typeInfo,hi,hby,h48',Question.forced,hfo,hf,zeroValue,hzv,newRow,ds,tQ]
end

section
variable {P:Program} {tt:dJ} {w w':World} {h:az} {c:kh} {R:Type}

theorem N4 {i b x:Nat} (ho:tO (h.set i .dead) c b x):tO h c b x:=by
  obtain ⟨j,f,g1,g2,g3⟩:=ho
  rw[ni]at g2
  split at g2
  · simp[bY.from_]at g2
  · exact ⟨j,f,g1,g2,g3⟩

theorem E1 (i:Nat):Ext w h c w (h.set i .dead) c where
  os:=rfl
  tape:=rfl
  output:=rfl
  size:=Nat.le_refl _
  used:=fun j hj=>⟨by simpa using hj.1,by rw[ni]; split; simp; exact hj.2⟩
  same:=fun j hj hd=>by
    rw[ni]at hd ⊢
    split
    · rename_i hc; rw[if_pos hc]at hd; exact absurd rfl hd
    · rename_i hc
      rw[if_neg hc]at hd
      refine ⟨?_,rfl,rfl⟩
      have h2:=hj.2
      revert hd h2
      cases h.at j <;> simp[bY.iF]
  cell:=fun _ _ _ _=>rfl
  block:=fun _ _ _=>rfl
  wa:=fun b x _ ho=>N4 ho
  ext:=rfl
  arr:=fun b arr e fz hb=>⟨arr,fz,hb,rfl⟩

theorem Ph (wf:WF w h c) (i:Nat):WF w (h.set i .dead) c where
  lay:=wf.rW (E1 i)
  xS:=fun b x ho=>wf.xS b x (N4 ho)
  pz:=wf.pz
  obj:=fun j hj=>by
    rw[ni]
    split
    · trivial
    · exact (wf.obj j (by simpa using hj)).keep (E1 i) (fun _ _=>rfl) rfl rfl
  inj:=fun j k b hj hk h1 h2=>by
    have key:∀j,(az.at (h.set i .dead) j).live→(h.at j).live:=fun j hj=>by
      rw[ni]at hj
      split at hj
      · exact hj.elim
      · exact hj
    exact wf.inj j k b (key j hj) (key k hk) h1 h2

theorem xW (w:World) (o:Obj):Below w.heap.size w (w.drew.alloc o):=((Below.refl _ _).drew).alloc (Nat.le_refl _) o

theorem N5 (wf:WF w h c) {id:Nat} (hid:id<h.length) (hf:h.at id = .free) {T:Ty} {l:List T.den} {us:List Value} (r:cH w h c (kT T l) us) {ds:Array Value} {e:TypeId} (Sy:Se T 0 e) {cap:Nat}
    (hds:ds.size=cap*T.sz) (Xj:ds.toList.take (l.length*T.sz)=us) (lO:l.length≤cap) (sw:cap≤mx) :
    ∃c',WF (w.drew.alloc (.cells ds e)) (h.set id .tok) c'∧Ext w h c (w.drew.alloc (.cells ds e)) (h.set id .tok) c'∧dC (w.drew.alloc (.cells ds e)) (h.set id .tok) c' (.sl T l (.own id)) (.slice (some ⟨w.heap.size,0,none⟩) l.length cap):=by
  have hb:=xW w (.cells ds e)
  have IW:∀b,some w.heap.size=some b→w.heap.size≤b:=by intro b hb; cases hb; exact Nat.le_refl _
  have BS:(w.drew.alloc (.cells ds e)).heap[w.heap.size]? = some (.cells ds e (0,0)):=heap_alloc_new w.drew (.cells ds e)
  have x:=uY (h:=h) (c:=c) hb hf .tok (no:=l.length*T.sz) IW
  have hm:l.length*T.sz≤cap*T.sz:=Nat.mul_le_mul_right _ lO
  have Es:oq (w.drew.alloc (.cells ds e)) (h.set id .tok) (c.put id (some w.heap.size) (l.length*T.sz)) id .tok :=
    .inr ⟨w.heap.size,ds,e,(0,0),dj _ _ _,BS,by rw[fv]; omega, .inl rfl⟩
  refine ⟨_,Bs wf hb hid hf IW Es,x,Ch (r.mono x) lO sw (fun _=>⟨w.heap.size,0,rfl,fun j d hd => ?_,fun y _ hy => ?_⟩) (by simp) (fun i hi => ?_)⟩
  · rw[Nat.zero_add,cell_of_row _ _ _ _ _ _ BS]
    rw[←Xj,List.getElem?_take]at hd
    split at hd
    · simpa using hd
    · cases hd
  · refine CD wf _ _ _ (fun f Vi => ?_) hid
    simp[bY.from_]at Vi
    omega
  · cases hi
    exact ⟨uw hid (by simp),fun _ => .inr ⟨w.heap.size,0,ds,e,(0,0),dj _ _ _,rfl,by rw[fv,Nat.zero_add],BS,by omega,Sy⟩⟩

theorem N6 (wf:WF w h c) {id:Nat} (hid:id<h.length) (hf:h.at id = .free) {T:Ty} {l:List T.den} {us:List Value} (r:cH w h c (kT T l) us) {ds:Array Value} {e:TypeId} {cap:Nat}
    (hds:ds.size=cap*T.sz) (Xj:ds.toList.take (l.length*T.sz)=us) (lO:l.length≤cap) (sw:cap≤mx) :
    ∃c',WF (w.drew.alloc (.cells ds e)) (h.set id (.row T l)) c'∧Ext w h c (w.drew.alloc (.cells ds e)) (h.set id (.row T l)) c' ∧
      dC (w.drew.alloc (.cells ds e)) (h.set id (.row T l)) c' (.row id l.length) (.slice (some ⟨w.heap.size,0,none⟩) l.length cap):=by
  have hb:=xW w (.cells ds e)
  have IW:∀b,some w.heap.size=some b→w.heap.size≤b:=by intro b hb; cases hb; exact Nat.le_refl _
  have BS:(w.drew.alloc (.cells ds e)).heap[w.heap.size]? = some (.cells ds e (0,0)):=heap_alloc_new w.drew (.cells ds e)
  have x:=uY (h:=h) (c:=c) hb hf (.row T l) (no:=0) IW
  have hm:l.length*T.sz≤cap*T.sz:=Nat.mul_le_mul_right _ lO
  have r':=r.mono x
  have Es:oq (w.drew.alloc (.cells ds e)) (h.set id (.row T l)) (c.put id (some w.heap.size) 0) id (.row T l):=by
    refine .inr ⟨w.heap.size,ds,e,(0,0),dj _ _ _,BS,by rw[fv]; omega,fun y _=>vP BS y,fun n j z v hz hv => ?_⟩
    have hj:j<T.sz:=by rw[←T.lD z]; exact (List.getElem?_eq_some_iff.1 hv).1
    have hn:n<l.length:=(List.getElem?_eq_some_iff.1 hz).1
    have kY:n*T.sz+j<l.length*T.sz:=by
      have:=Nat.mul_le_mul_right T.sz hn
      rw[Nat.succ_mul]at this; omega
    have hl:=r.1
    rw[k7]at hl
    have hg:=List.getElem?_eq_getElem (show n*T.sz+j<us.length by omega)
    refine ⟨us[n*T.sz+j]'(by omega),?_,r'.2 _ v _ ((xV T l n j z hz hj).trans hv) hg⟩
    rw[fv,Nat.zero_add,←hg,←Xj,List.getElem?_take,if_pos kY]
    simp
  refine ⟨_,Bs wf hb hid hf IW Es,x, .row (uw hid (by simp)) (by omega) ⟨_,_,rfl,fun _=>⟨_,rfl⟩,fun T' l' he => ?_⟩⟩
  rw[mT _ hid]at he
  cases he
  exact ⟨rfl,lO,sw, .inr ⟨w.heap.size,ds,e,(0,0),dj _ _ _,by rw[fv],BS,by rw[fv]; omega⟩⟩

theorem HL (wf:WF w h c) {id:Nat} (hid:id<h.length) (hf:h.at id = .free) {T:Ty} :
    ∃c',WF w (h.set id .tok) c'∧Ext w h c w (h.set id .tok) c'∧dC w (h.set id .tok) c' (.sl T [] (.own id)) (.slice none 0 0):=by
  have IW:∀b,(none:Option Nat)=some b→w.heap.size≤b:=by intro b hb; cases hb
  have x:=uY (h:=h) (c:=c) (Below.refl w.heap.size w) hf .tok (no:=0) IW
  refine ⟨_,Bs wf (Below.refl _ _) hid hf IW (.inl (dj _ _ _)),x,?_⟩
  exact Ch (l := []) (ds := []) cH.nil (Nat.le_refl _) (by unfold mx; omega) (fun h=>absurd rfl h) (by simp) (fun i hi=>by
    cases hi; exact ⟨uw hid (by simp),fun _ => .inl ⟨dj _ _ _,rfl,rfl⟩⟩)

theorem LK (wf:WF w h c) {id:Nat} (hid:id<h.length) (hf:h.at id = .free) {T:Ty} :
    ∃c',WF w (h.set id (.row T [])) c'∧Ext w h c w (h.set id (.row T [])) c'∧dC w (h.set id (.row T [])) c' (.row id 0) (.slice none 0 0):=by
  have IW:∀b,(none:Option Nat)=some b→w.heap.size≤b:=by intro b hb; cases hb
  have x:=uY (h:=h) (c:=c) (Below.refl w.heap.size w) hf (.row T []) (no:=0) IW
  refine ⟨_,Bs wf (Below.refl _ _) hid hf IW (.inl ⟨dj _ _ _,rfl⟩),x,?_⟩
  refine .row (uw hid (by simp)) (by unfold mx; omega) ⟨none,0,rfl,fun h=>by omega,fun T' l' he => ?_⟩
  rw[mT _ hid]at he
  cases he
  exact ⟨rfl,Nat.le_refl _,by unfold mx; omega, .inl ⟨dj _ _ _,rfl,rfl⟩⟩

theorem GX (s:aj):(GN s).length=s.length := @List.length_map UInt8 Int s _
theorem HM:∀s:aj,kT (.int .u8) (GN s)=s.map fun b=>V.int .u8 b.toNat
  | []=>rfl
  | b::s=>by
    show V.int .u8 b.toNat::kT (.int .u8) (GN s)=_
    rw[HM s]; rfl

theorem Pj (wf:WF w h c) {i:Nat} {T:Ty} {l:List T.den} (he:h.at i = .row T l) :
    ∃ds,cH w h c (kT T l) ds∧(l ≠ []→∃b,c.su i=some b∧rV w b (c.off i) ds):=by
  have hi:=az.gD he (by simp)
  have ho:=wf.obj i hi
  rw[he]at ho
  rcases ho with ⟨_,rfl⟩|⟨b,arr,e,fz,h1,h2,h3,h4,h5⟩
  · exact ⟨[], .nil,fun h=>absurd rfl h⟩
  · refine ⟨(arr.toList.drop (c.off i)).take (l.length*T.sz),⟨by rw[k7]; simp; omega,fun k v d hv hd => ?_⟩,fun _=>⟨b,h1,fun k d hd => ?_⟩⟩
    · have hk:k<l.length*T.sz:=by rw[←k7]; exact (List.getElem?_eq_some_iff.1 hv).1
      have hq:k / T.sz<l.length:=(Nat.div_lt_iff_lt_mul T.DB).2 hk
      have hj:=Nat.mod_lt k T.DB
      have e:k / T.sz*T.sz+k % T.sz=k:=by rw[Nat.mul_comm]; exact Nat.div_add_mod _ _
      have hg:=xV T l (k / T.sz) (k % T.sz) _ (List.getElem?_eq_getElem hq) hj
      rw[e]at hg
      rw[hg]at hv
      obtain ⟨d',p1,p2⟩:=h5 _ _ _ v (List.getElem?_eq_getElem hq) hv
      rw[Nat.add_assoc,e]at p1
      rw[List.getElem?_take,if_pos hk,List.getElem?_drop]at hd
      have e1:arr[c.off i+k]? = some d:=by simpa using hd
      rw[p1]at e1; cases e1; exact p2
    · rw[List.getElem?_take]at hd
      split at hd
      · rw[List.getElem?_drop]at hd
        rw[cell_of_row w b _ arr e fz h2]; simpa using hd
      · cases hd

theorem Vo (wf:WF w h c) {T:Ty} {sz:Nat} (qs:T.sz=sz) {v:V} {v':Value} (rv:dC w h c v v') {m:List T.den} (hs:JT T h v=some m) :
    ∃news,(Builtin.lenOf v').run P w = .ok m.length w∧(∀W:World,W.heap=w.heap→(Builtin.firstCells sz m.length v').run P W = .ok news.toArray W)∧cH w h c (kT T m) news∧m.length≤mx:=by
  subst qs
  have xO:∀(W:World) (b x:Nat),W.heap=w.heap→W.cell? ⟨b,x,none⟩=w.cell? ⟨b,x,none⟩:=fun W b x hW=>by simp only[World.cell?,hW]
  have key:∀(A:Option Addr) (cap:Nat) (news:List Value),cH w h c (kT T m) news→(m ≠ []→∃b o,A=some ⟨b,o,none⟩∧rV w b o news) →
      ∀W:World,W.heap=w.heap→(Builtin.firstCells T.sz m.length (.slice A m.length cap)).run P W = .ok news.toArray W:=by
    intro A cap news hr hA W hW
    have hl:=hr.1
    rw[k7]at hl
    by_cases hm:m = []
    · subst hm
      have:news = []:=List.eq_nil_of_length_eq_zero (by simpa using hl.symm)
      subst this
      exact zJ (by simp)
    · obtain ⟨b,o,rfl,hc⟩:=hA hm
      exact E0 hl.symm (fun j d hd=>by rw[xO W _ _ hW]; exact hc j d hd)
  unfold JT at hs
  split at hs
  · cases hs
    cases rv
    exact ⟨[],by simp[Builtin.lenOf],fun W hW=>zJ (by simp), .nil,by simp⟩
  · rename_i T' l t
    split at hs
    · rename_i e
      subst e
      obtain rfl:l=m:=by simpa using hs
      obtain ⟨A,cap,rfl,h1,h2⟩:=I5 rv
      obtain ⟨ds,g1,g2⟩:=QO rv
      exact ⟨ds,by simp[Builtin.lenOf],key A cap ds g1 (fun j7=>by obtain ⟨b,o,q1,q2,_⟩:=g2 j7; exact ⟨b,o,q1,q2⟩),g1,by omega⟩
    · cases hs
  · rename_i i n
    split at hs
    · rename_i T' l BT
      split at hs
      · rename_i e
        subst e
        obtain rfl:l=m:=by simpa using hs
        cases rv with
        | row hu hn hv =>
          obtain ⟨A,cap,rfl,hA,hv⟩:=hv
          obtain ⟨g1,g2,g3,g4⟩:=hv _ _ BT
          obtain ⟨ds,k1,k2⟩:=Pj wf BT
          subst g1
          exact ⟨ds,by simp[Builtin.lenOf],key A cap ds k1 (fun j7=>by
            obtain ⟨b,q1,q2⟩:=k2 j7
            rcases g4 with ⟨p1,_⟩|⟨b',arr,el,fz,p1,p2,_⟩
            · rw[q1]at p1; cases p1
            · rw[q1]at p1; cases p1
              exact ⟨b,_,p2,q2⟩),k1,hn⟩
      · cases hs
    · cases hs
  · rename_i n cs
    split at hs
    · rename_i ES
      cases rv with
      | @Na _ sz' _ A hn sw f hc hr =>
        have hr':cH w h c cs ((List.range cs.length).map f):=by
          refine ⟨by simp,fun j v d hv hd => ?_⟩
          have kY:j<cs.length:=(List.getElem?_eq_some_iff.1 hv).1
          simp only[List.getElem?_map,List.getElem?_range kY,Option.map_some,Option.some.injEq]at hd
          subst hd
          exact hr j v hv
        have HA:=SB ES hr' hs
        have hml:m.length=n:=by rw[DF hs,DE]
        rw[←hml]
        exact ⟨_,by simp[Builtin.lenOf],key A m.length _ HA (fun j7=>by
          have HC:0<cs.length:=by
            have:=List.length_pos_iff.2 j7
            rw[ES,←hml]
            exact Nat.mul_pos this T.DB
          obtain ⟨b,o,rfl,_⟩:=hc 0 HC
          refine ⟨b,o,rfl,fun j d hd => ?_⟩
          simp only[List.getElem?_map]at hd
          by_cases kY:j<cs.length
          · rw[List.getElem?_range kY]at hd
            simp at hd; subst hd
            obtain ⟨b',o',e',q1,_⟩:=hc j kY
            cases e'
            exact q1
          · rw[List.getElem?_eq_none (by simp; omega)]at hd; cases hd),HA,by omega⟩
    · cases hs
  · rename_i s
    split at hs
    · rename_i e
      subst e
      obtain ⟨t,rfl,rfl,hl⟩:=rv.kJ
      obtain rfl:GN t.data.toList=m:=by simpa using hs
      refine ⟨t.data.toList.map fun b=>Value.int .u8 b.toNat,?_,fun W hW => ?_,?_,?_⟩
      · rw[GX,size_data]; simp[Builtin.lenOf]
      · rw[GX,size_data]
        simp only[Builtin.firstCells,Sem.run_pure]
        congr 1
        apply Array.ext'
        simp
      · rw[HM]; exact cH.map _ fun b _ => .int (Lu _ (UInt8.toNat_lt b))
      · rw[GX,size_data]; exact hl
    · cases hs
  · cases hs

theorem fit_tok (wf:WF w h c) {i id:Nat} (hi:h.at i = .tok) (hid:id<h.length) (hf:h.at id = .free) {b o:Nat} (hb:c.su i=some b) {T:Ty} {l m:List T.den} (hoff:c.off i=o+l.length*T.sz)
    {arr nQ:Array Value} {el:TypeId} (Sy:Se T o el) {fz:Nat × Nat} (Bt:w.heap[b]? = some (.cells arr el fz)) (hw:LG w w' b nQ el fz) {cap:Nat} (lO:(l++m).length≤cap) (sw:cap≤mx) (qs:o+cap*T.sz≤arr.size)
    {olds news:List Value} (ro:cH w h c (kT T l) olds) (rn:cH w h c (kT T m) news) (hold:l ≠ []→rV w b o olds) (hun:∀x,o≤x→x<o+l.length*T.sz→F0 h c b x)
    (HK:nQ.toList=arr.toList.take (o+l.length*T.sz)++news++arr.toList.drop (o+l.length*T.sz+news.length)) :
    ∃c',WF w' ((h.set i .dead).set id .tok) c'∧Ext w h c w' ((h.set i .dead).set id .tok) c'∧dC w' ((h.set i .dead).set id .tok) c' (.sl T (l++m) (.own id)) (.slice (some ⟨b,o,none⟩) (l++m).length cap):=by
  have j7:i≠id:=by rintro rfl; rw[hi]at hf; cases hf
  have Vp:=az.gD hi (by simp)
  have QQ:=ro.1
  have QN:=rn.1
  rw[k7]at QQ QN
  have hmul:(l++m).length*T.sz≤cap*T.sz:=Nat.mul_le_mul_right _ lO
  have hlm:(l++m).length*T.sz=l.length*T.sz+m.length*T.sz:=by rw[List.length_append,Nat.add_mul]
  have BU:nQ.size=arr.size:=by
    rw[←Array.length_toList,HK]; simp only[List.length_append,List.length_take,List.length_drop,Array.length_toList]; omega
  have Vq:id<(h.set i .dead).length:=by simpa using hid
  have P9:∀j,az.at ((h.set i .dead).set id .tok) j=if id=j then .tok else if i=j then .dead else h.at j:=by
    intro j
    rw[ni,ni]
    by_cases h1:id=j
    · simp[h1]; intro h2; subst h1; omega
    · simp only[h1,false_and,if_false]
      by_cases h2:i=j
      · subst h2; simp[Vp]
      · simp[h2]
  have KP:∀j,j≠id→(c.put id (some b) (o+(l++m).length*T.sz)).su j=c.su j∧(c.put id (some b) (o+(l++m).length*T.sz)).off j=c.off j:=fun j hj=>⟨qz _ _ hj,xT _ _ hj⟩
  have Jb:∀j,j≠i→(h.at j).live→c.su j≠some b:=fun j hj hl hbj=>hj (wf.inj j i b hl (by rw[hi]; trivial) hbj hb)
  have Xk:∀x,x<o+l.length*T.sz→w'.cell? ⟨b,x,none⟩=w.cell? ⟨b,x,none⟩:=by
    intro x hx
    rw[cell_of_row w' b x nQ el fz hw.here,cell_of_row w b x arr el fz Bt,←Array.getElem?_toList,←Array.getElem?_toList,HK,List.append_assoc,
      List.getElem?_append_left (by simp only[List.length_take,Array.length_toList]; omega),List.getElem?_take,if_pos hx]
  have HN:∀b' x,tO ((h.set i .dead).set id .tok) (c.put id (some b) (o+(l++m).length*T.sz)) b' x→tO h c b' x:=by
    rintro b' x ⟨j,f,g1,g2,g3⟩
    rw[P9]at g2
    by_cases h1:id=j
    · subst h1
      rw[dj]at g1
      cases g1
      rw[if_pos rfl,fv]at g2
      simp only[bY.from_,Option.some.injEq]at g2
      exact ⟨i,c.off i,hb,by rw[hi]; rfl,by omega⟩
    · rw[if_neg h1]at g2
      split at g2
      · simp[bY.from_]at g2
      · obtain ⟨e1,e2⟩:=KP j (Ne.symm h1)
        rw[e1]at g1; rw[e2]at g2
        exact ⟨j,f,g1,g2,g3⟩
  have x:Ext w h c w' ((h.set i .dead).set id .tok) (c.put id (some b) (o+(l++m).length*T.sz)):=by
    constructor
    · exact hw.os
    · exact hw.tape
    · exact hw.output
    · rw[hw.size]; exact Nat.le_refl _
    · intro j hj
      refine ⟨by simpa using hj.1,?_⟩
      rw[P9]
      split
      · simp
      · split
        · simp
        · exact hj.2
    · intro j hj hd
      have SC:id≠j:=by rintro rfl; exact hj.2 hf
      rw[P9,if_neg SC]at hd ⊢
      split
      · rename_i h2; rw[if_pos h2]at hd; exact absurd rfl hd
      · rename_i h2
        rw[if_neg h2]at hd
        refine ⟨?_,(KP j (Ne.symm SC)).1,(KP j (Ne.symm SC)).2⟩
        have h3:=hj.2
        revert hd h3
        cases h.at j <;> simp[bY.iF]
    · intro b' y hy ho
      by_cases TY:b'=b
      · subst TY
        refine Xk y ?_
        rcases Nat.lt_or_ge y (o+l.length*T.sz)with h1|h1
        · exact h1
        · exact absurd ⟨i,c.off i,hb,by rw[hi]; rfl,by omega⟩ ho
      · exact sB (hw.other b' TY)
    · intro b' pA ho
      have TY:b'≠b:=by
        rintro rfl
        exact ho (c.off i) ⟨i,c.off i,hb,by rw[hi]; rfl,Nat.le_refl _⟩
      exact hw.other b' TY
    · intro b' y _ ho; exact HN b' y ho
    · rfl
    · intro b' EY e' F1 ha
      by_cases TY:b'=b
      · subst TY
        rw[Bt]at ha; cases ha
        exact ⟨nQ,fz,hw.here,BU⟩
      · exact ⟨EY,F1,by rw[hw.other b' TY]; exact ha,rfl⟩
  obtain ⟨fl,fh⟩:=fz
  have hti:=wf.obj i Vp
  rw[hi]at hti
  have TW:fl=fh∨fh≤o+l.length*T.sz:=by
    rcases hti with h0|⟨b',EY,e',F1,p1,p2,p3,p4⟩
    · rw[hb]at h0; cases h0
    · rw[hb]at p1; cases p1
      rw[Bt]at p2; cases p2
      rw[hoff]at p4
      exact p4
  have TZ:WF w' ((h.set i .dead).set id .tok) (c.put id (some b) (o+(l++m).length*T.sz)):=by
    constructor
    · intro b' y ho; exact wf.xS b' y (HN b' y ho)
    · intro b' y he; rw[hw.size]; exact wf.pz b' y he
    · intro j hj
      rw[P9]
      by_cases h1:id=j
      · subst h1
        rw[if_pos rfl]
        refine .inr ⟨b,nQ,el,(fl,fh),dj _ _ _,hw.here,by rw[fv]; omega,?_⟩
        rw[fv]
        have:l.length*T.sz≤(l++m).length*T.sz:=Nat.mul_le_mul_right _ (by simp)
        exact TW.imp (fun e=>e) fun hh=>Nat.le_trans hh (by omega)
      · rw[if_neg h1]
        split
        · trivial
        · rename_i h2
          by_cases hl:(h.at j).live
          · refine (wf.obj j (by simpa using hj)).keep x (fun b' pA=>hw.other b' ?_) (KP j (Ne.symm h1)).1 (KP j (Ne.symm h1)).2
            rintro rfl
            exact Jb j (Ne.symm h2) hl pA
          · revert hl; cases h.at j <;> simp[bY.live,oq]
    · intro j k b' hj hk h1 h2
      rw[P9]at hj hk
      by_cases e1:id=j <;> by_cases e2:id=k
      · exact e1.symm.trans e2
      · subst e1
        rw[dj]at h1; cases h1
        rw[if_neg e2]at hk
        rw[(KP k (Ne.symm e2)).1]at h2
        split at hk
        · exact hk.elim
        · rename_i h3; exact absurd h2 (Jb k (Ne.symm h3) hk)
      · subst e2
        rw[dj]at h2; cases h2
        rw[if_neg e1]at hj
        rw[(KP j (Ne.symm e1)).1]at h1
        split at hj
        · exact hj.elim
        · rename_i h3; exact absurd h1 (Jb j (Ne.symm h3) hj)
      · rw[if_neg e1]at hj
        rw[if_neg e2]at hk
        rw[(KP j (Ne.symm e1)).1]at h1
        rw[(KP k (Ne.symm e2)).1]at h2
        split at hj
        · exact hj.elim
        · split at hk
          · exact hk.elim
          · exact wf.inj j k b' hj hk h1 h2
    · exact wf.rW x
  refine ⟨_,TZ,x,?_⟩
  have rr:cH w' ((h.set i .dead).set id .tok) (c.put id (some b) (o+(l++m).length*T.sz)) (kT T (l++m)) (olds++news):=by
    rw[ux]; exact (ro.mono x).append (rn.mono x)
  refine Ch rr lO sw (fun _=>⟨b,o,rfl,fun j d hd => ?_,fun y h1 h2=>⟨fun ho => ?_,fun he => ?_⟩⟩) (by simp) (fun k hk => ?_)
  · by_cases hj:j<olds.length
    · rw[List.getElem?_append_left hj]at hd
      have hlne:l ≠ []:=by rintro rfl; simp at QQ; omega
      rw[Xk (o+j) (by omega)]
      exact hold hlne j d hd
    · rw[List.getElem?_append_right (by omega)]at hd
      have hj2:j - olds.length<news.length:=(List.getElem?_eq_some_iff.1 hd).1
      have l1:(arr.toList.take (o+l.length*T.sz)).length=o+l.length*T.sz:=by simp only[List.length_take,Array.length_toList]; omega
      rw[cell_of_row w' b _ nQ el (fl,fh) hw.here,←Array.getElem?_toList,HK,List.append_assoc,List.getElem?_append_right (by omega),l1,List.getElem?_append_left (by omega)]
      rw[←hd]; congr 1; omega
  · obtain ⟨j,f,g1,g2,g3⟩:=ho
    rw[P9]at g2
    by_cases e1:id=j
    · subst e1
      rw[if_pos rfl,fv]at g2
      simp only[bY.from_,Option.some.injEq]at g2
      omega
    · rw[if_neg e1]at g2
      rw[(KP j (Ne.symm e1)).1]at g1
      split at g2
      · simp[bY.from_]at g2
      · rename_i h3; exact Jb j (Ne.symm h3) (td g2) g1
  · rcases Nat.lt_or_ge y (o+l.length*T.sz)with q|q
    · exact (hun y h1 q).2 he
    · exact wf.xS b y ⟨i,c.off i,hb,by rw[hi]; rfl,by omega⟩ he
  · cases hk
    refine ⟨⟨by simpa using hid,by rw[P9,if_pos rfl]; simp⟩,fun _ => .inr ⟨b,o,nQ,el,(fl,fh),dj _ _ _,rfl,fv _ _ _,hw.here,by rw[BU]; exact qs,Sy⟩⟩
end

section
variable {P:Program} {tt:dJ} {w w':World} {h:az} {c:kh} {R:Type}

theorem Pk {T:Ty} {l:List T.den} {us:List Value} (r:cH w h c (kT T l) us) {arr:Array Value} {off:Nat} (ha:∀(k:Nat) (d:Value),us[k]? = some d→arr[off+k]? = some d) :
    ∀(n j:Nat) (x:T.den) (v:V),l[n]? = some x→(T.cells x)[j]? = some v→∃d,arr[off+n*T.sz+j]? = some d∧dC w h c v d:=by
  intro n j z v hz hv
  have hj:j<T.sz:=by rw[←T.lD z]; exact (List.getElem?_eq_some_iff.1 hv).1
  have hn:n<l.length:=(List.getElem?_eq_some_iff.1 hz).1
  have kY:n*T.sz+j<l.length*T.sz:=by
    have:=Nat.mul_le_mul_right T.sz hn
    rw[Nat.succ_mul]at this; omega
  have hl:=r.1
  rw[k7]at hl
  have hg:=List.getElem?_eq_getElem (show n*T.sz+j<us.length by omega)
  exact ⟨_,by rw[Nat.add_assoc]; exact ha _ _ hg,r.2 _ v _ ((xV T l n j z hz hj).trans hv) hg⟩

theorem fit_row (wf:WF w h c) {i id:Nat} {T:Ty} {l m:List T.den} (hi:h.at i = .row T l) (hid:id<h.length) (hf:h.at id = .free) {b:Nat} (hb:c.su i=some b)
    {arr nQ:Array Value} {el:TypeId} {fz:Nat × Nat} (Bt:w.heap[b]? = some (.cells arr el fz)) (hw:LG w w' b nQ el fz) {cap:Nat} (lO:(l++m).length≤cap) (sw:cap≤mx) (qs:c.off i+cap*T.sz≤arr.size)
    {olds news:List Value} (ro:cH w h c (kT T l) olds) (rn:cH w h c (kT T m) news) (hold:l ≠ []→rV w b (c.off i) olds)
    (HK:nQ.toList=arr.toList.take (c.off i+l.length*T.sz)++news++arr.toList.drop (c.off i+l.length*T.sz+news.length)) :
    ∃c',WF w' ((h.set i .dead).set id (.row T (l++m))) c'∧Ext w h c w' ((h.set i .dead).set id (.row T (l++m))) c' ∧
      dC w' ((h.set i .dead).set id (.row T (l++m))) c' (.row id (l++m).length) (.slice (some ⟨b,c.off i,none⟩) (l++m).length cap):=by
  have j7:i≠id:=by rintro rfl; rw[hi]at hf; cases hf
  have Vp:=az.gD hi (by simp)
  have QQ:=ro.1
  have QN:=rn.1
  rw[k7]at QQ QN
  have hmul:(l++m).length*T.sz≤cap*T.sz:=Nat.mul_le_mul_right _ lO
  have hlm:(l++m).length*T.sz=l.length*T.sz+m.length*T.sz:=by rw[List.length_append,Nat.add_mul]
  have BU:nQ.size=arr.size:=by
    rw[←Array.length_toList,HK]; simp only[List.length_append,List.length_take,List.length_drop,Array.length_toList]; omega
  have P9:∀j,az.at ((h.set i .dead).set id (.row T (l++m))) j=if id=j then .row T (l++m)else if i=j then .dead else h.at j:=by
    intro j
    rw[ni,ni]
    by_cases h1:id=j
    · simp[h1]; intro h2; subst h1; omega
    · simp only[h1,false_and,if_false]
      by_cases h2:i=j
      · subst h2; simp[Vp]
      · simp[h2]
  have KP:∀j,j≠id→(c.put id (some b) (c.off i)).su j=c.su j∧(c.put id (some b) (c.off i)).off j=c.off j:=fun j hj=>⟨qz _ _ hj,xT _ _ hj⟩
  have Jb:∀j,j≠i→(h.at j).live→c.su j≠some b:=fun j hj hl hbj=>hj (wf.inj j i b hl (by rw[hi]; trivial) hbj hb)
  have mR:∀y,tO h c b y:=fun y=>⟨i,0,hb,by rw[hi]; rfl,Nat.zero_le _⟩
  have HN:∀b' x,tO ((h.set i .dead).set id (.row T (l++m))) (c.put id (some b) (c.off i)) b' x→tO h c b' x:=by
    rintro b' x ⟨j,f,g1,g2,g3⟩
    rw[P9]at g2
    by_cases h1:id=j
    · subst h1
      rw[dj]at g1
      cases g1
      exact mR x
    · rw[if_neg h1]at g2
      split at g2
      · simp[bY.from_]at g2
      · obtain ⟨e1,e2⟩:=KP j (Ne.symm h1)
        rw[e1]at g1; rw[e2]at g2
        exact ⟨j,f,g1,g2,g3⟩
  have x:Ext w h c w' ((h.set i .dead).set id (.row T (l++m))) (c.put id (some b) (c.off i)):=by
    constructor
    · exact hw.os
    · exact hw.tape
    · exact hw.output
    · rw[hw.size]; exact Nat.le_refl _
    · intro j hj
      refine ⟨by simpa using hj.1,?_⟩
      rw[P9]
      split
      · simp
      · split
        · simp
        · exact hj.2
    · intro j hj hd
      have SC:id≠j:=by rintro rfl; exact hj.2 hf
      rw[P9,if_neg SC]at hd ⊢
      split
      · rename_i h2; rw[if_pos h2]at hd; exact absurd rfl hd
      · rename_i h2
        rw[if_neg h2]at hd
        refine ⟨?_,(KP j (Ne.symm SC)).1,(KP j (Ne.symm SC)).2⟩
        have h3:=hj.2
        revert hd h3
        cases h.at j <;> simp[bY.iF]
    · intro b' y hy ho
      have TY:b'≠b:=by rintro rfl; exact ho (mR y)
      exact sB (hw.other b' TY)
    · intro b' pA ho
      have TY:b'≠b:=by rintro rfl; exact ho 0 (mR 0)
      exact hw.other b' TY
    · intro b' y _ ho; exact HN b' y ho
    · rfl
    · intro b' EY e' F1 ha
      by_cases TY:b'=b
      · subst TY
        rw[Bt]at ha; cases ha
        exact ⟨nQ,fz,hw.here,BU⟩
      · exact ⟨EY,F1,by rw[hw.other b' TY]; exact ha,rfl⟩
  obtain ⟨fl,fh⟩:=fz
  have hti:=wf.obj i Vp
  rw[hi]at hti
  have TW:∀y,y<arr.size→w.frozen? ⟨b,y,none⟩=false:=by
    rcases hti with ⟨h0,_⟩|⟨b',EY,e',F1,p1,p2,p3,p4,p5⟩
    · rw[hb]at h0; cases h0
    · rw[hb]at p1; cases p1
      rw[Bt]at p2; cases p2
      exact p4
  have rr:cH w' ((h.set i .dead).set id (.row T (l++m))) (c.put id (some b) (c.off i)) (kT T (l++m)) (olds++news):=by
    rw[ux]; exact (ro.mono x).append (rn.mono x)
  have CB:∀(k:Nat) (d:Value),(olds++news)[k]? = some d→nQ[c.off i+k]? = some d:=by
    intro k d hd
    have l1:(arr.toList.take (c.off i+l.length*T.sz)).length=c.off i+l.length*T.sz:=by simp only[List.length_take,Array.length_toList]; omega
    rw[←Array.getElem?_toList,HK,List.append_assoc]
    by_cases hk:k<olds.length
    · rw[List.getElem?_append_left hk]at hd
      have hlne:l ≠ []:=by rintro rfl; simp at QQ; omega
      have hc1:=hold hlne k d hd
      rw[cell_of_row w b _ arr el (fl,fh) Bt]at hc1
      rw[List.getElem?_append_left (by omega),List.getElem?_take,if_pos (by omega),Array.getElem?_toList]
      exact hc1
    · rw[List.getElem?_append_right (by omega)]at hd
      have hj2:k - olds.length<news.length:=(List.getElem?_eq_some_iff.1 hd).1
      rw[List.getElem?_append_right (by omega),l1,List.getElem?_append_left (by omega)]
      rw[←hd]; congr 1; omega
  have TZ:WF w' ((h.set i .dead).set id (.row T (l++m))) (c.put id (some b) (c.off i)):=by
    constructor
    · intro b' y ho; exact wf.xS b' y (HN b' y ho)
    · intro b' y he; rw[hw.size]; exact wf.pz b' y he
    · intro j hj
      rw[P9]
      by_cases h1:id=j
      · subst h1
        rw[if_pos rfl]
        refine .inr ⟨b,nQ,el,(fl,fh),dj _ _ _,hw.here,by rw[fv]; omega,fun y h1 => ?_,?_⟩
        · have:=TW y (by omega)
          rw[CY Bt]at this
          rw[CY hw.here]; exact this
        · rw[fv]; exact Pk rr CB
      · rw[if_neg h1]
        split
        · trivial
        · rename_i h2
          by_cases hl:(h.at j).live
          · refine (wf.obj j (by simpa using hj)).keep x (fun b' pA=>hw.other b' ?_) (KP j (Ne.symm h1)).1 (KP j (Ne.symm h1)).2
            rintro rfl
            exact Jb j (Ne.symm h2) hl pA
          · revert hl; cases h.at j <;> simp[bY.live,oq]
    · intro j k b' hj hk h1 h2
      rw[P9]at hj hk
      by_cases e1:id=j <;> by_cases e2:id=k
      · exact e1.symm.trans e2
      · subst e1
        rw[dj]at h1; cases h1
        rw[if_neg e2]at hk
        rw[(KP k (Ne.symm e2)).1]at h2
        split at hk
        · exact hk.elim
        · rename_i h3; exact absurd h2 (Jb k (Ne.symm h3) hk)
      · subst e2
        rw[dj]at h2; cases h2
        rw[if_neg e1]at hj
        rw[(KP j (Ne.symm e1)).1]at h1
        split at hj
        · exact hj.elim
        · rename_i h3; exact absurd h1 (Jb j (Ne.symm h3) hj)
      · rw[if_neg e1]at hj
        rw[if_neg e2]at hk
        rw[(KP j (Ne.symm e1)).1]at h1
        rw[(KP k (Ne.symm e2)).1]at h2
        split at hj
        · exact hj.elim
        · split at hk
          · exact hk.elim
          · exact wf.inj j k b' hj hk h1 h2
    · exact wf.rW x
  refine ⟨_,TZ,x, .row ⟨by simpa using hid,by rw[P9,if_pos rfl]; simp⟩ (by omega) ⟨_,_,rfl,fun _=>⟨_,rfl⟩,fun T' l' he => ?_⟩⟩
  rw[P9,if_pos rfl]at he
  cases he
  exact ⟨rfl,lO,sw, .inr ⟨b,nQ,el,(fl,fh),dj _ _ _,by rw[fv],hw.here,by rw[fv,BU]; exact qs⟩⟩

def Pl (P:Program) (w:World) (h:az) (c:kh) (s:Sem Value) (k:V→az→Option R) (r:R):Prop :=
  ∃v h' v' w' c',s.run P w = .ok v' w'∧WF w' h' c'∧Ext w h c w' h' c'∧dC w' h' c' v v'∧k v h'=some r

theorem HO (T:xy P tt) (wf:WF w h c) {t xt e id:Nat} (ht:(tt.at t).d = .slice e) (Pg:(∃e',P.underlying xt=some (.slice e'))∨P.underlying xt=some .string) {s x:V} {s' x':Value}
    (rs:dC w h c s s') (rx:dC w h c x x') (hid:id<h.length) (hf:h.at id = .free) (ty:Nat) {k:V→az→Option R} {r:R} (hk:og tt e s x h id k=some r) :
    Pl P w h c (Builtin.append_ #[t,xt] ty #[s',x']) k r:=by
  unfold og at hk
  split at hk <;> try (first|cases hk)
  rename_i T' hty
  split at hk <;> try (first|cases hk)
  rename_i wD
  simp only[Bool.and_eq_true,decide_eq_true_eq,bne_iff_ne,ne_eq]at wD
  obtain ⟨⟨qs,hnz⟩,rU⟩:=wD
  split at hk <;> try (first|cases hk)
  rename_i m hsrc
  obtain ⟨news,n1,n2,n3,n4⟩:=Vo (P:=P) wf qs rx hsrc
  have Nt:=n3.1
  rw[k7,qs]at Nt
  have T0:=TP n3 (LJ T' m)
  have hbig:∀n:Nat,(n+m.length)*(tt.at e).bytes≤140737488355328→n+m.length≤mx:=fun n hb=>by
    have:n+m.length≤(n+m.length)*(tt.at e).bytes:=Nat.le_mul_of_pos_right _ (by omega)
    unfold mx; omega
  have Sy:∀o:Nat,o=0→Se T' o e:=fun o ho hT=>⟨ho,T.u8s e (by rw[hty,hT])⟩
  have T1:((0+m.length)*(tt.at e).bytes≤140737488355328)→k (.sl T' m (.own id)) (h.set id .tok)=some r→Pl P w h c (Builtin.append_ #[t,xt] ty #[.slice none 0 0,x']) k r:=by
    intro Ci hk
    have:=wF (P:=P) (w:=w) (A:=none) (n:=0) (cap:=0) (m:=m.length) (x:=x') (olds := []) (news:=news) T ht rU Pg ty n1 n2 Nt.symm T0 (by simp) (fun h=>absurd rfl h) (Nat.le_refl _) (by unfold mx; omega) (.inl ⟨rfl,rfl⟩) Ci (by omega)
    rcases this with ⟨h1,_,hm0,mI⟩|⟨_,b,o,arr,el,fz,w',nQ,hA,_⟩|⟨cap,ds,h1,h2,h3,h4,mI⟩
    · have hm:m = []:=List.eq_nil_of_length_eq_zero hm0
      subst hm
      obtain ⟨c',g1,g2,g3⟩:=HL wf hid hf (T:=T')
      exact ⟨_,_,_,w,c',mI,g1,g2,g3,hk⟩
    · cases hA
    · rw[Nat.zero_add]at h1 h4 mI
      rw[←qs]at h3 h4
      obtain ⟨c',g1,g2,g3⟩:=N5 wf hid hf n3 (Sy 0 rfl) h3 (by simpa using h4) h1 h2 (e:=e)
      exact ⟨_,_,_,_,c',mI,g1,g2,g3,hk⟩
  have EX:((0+m.length)*(tt.at e).bytes≤140737488355328)→k (.row id m.length) (h.set id (.row T' m))=some r→Pl P w h c (Builtin.append_ #[t,xt] ty #[.slice none 0 0,x']) k r:=by
    intro Ci hk
    have:=wF (P:=P) (w:=w) (A:=none) (n:=0) (cap:=0) (m:=m.length) (x:=x') (olds := []) (news:=news) T ht rU Pg ty n1 n2 Nt.symm T0 (by simp) (fun h=>absurd rfl h) (Nat.le_refl _) (by unfold mx; omega) (.inl ⟨rfl,rfl⟩) Ci (by omega)
    rcases this with ⟨h1,_,hm0,mI⟩|⟨_,b,o,arr,el,fz,w',nQ,hA,_⟩|⟨cap,ds,h1,h2,h3,h4,mI⟩
    · have hm:m = []:=List.eq_nil_of_length_eq_zero hm0
      subst hm
      obtain ⟨c',g1,g2,g3⟩:=LK wf hid hf (T:=T')
      exact ⟨_,_,_,w,c',mI,g1,g2,g3,hk⟩
    · cases hA
    · rw[Nat.zero_add]at h1 h4 mI
      rw[←qs]at h3 h4
      obtain ⟨c',g1,g2,g3⟩:=N6 wf hid hf n3 h3 (by simpa using h4) h1 h2 (e:=e)
      exact ⟨_,_,_,_,c',mI,g1,g2,g3,hk⟩
  split at hk <;> try (first|cases hk)
  · obtain ⟨Ci,hk⟩:=cx hk
    cases rs
    split at hk
    · exact EX (by simpa using Ci) hk
    · exact T1 (by simpa using Ci) hk
  · rename_i T'' l tk
    split at hk <;> try (first|cases hk)
    rename_i q
    subst q
    simp only at hk
    split at hk <;> try (first|cases hk)
    · obtain ⟨Ci,hk⟩:=cx hk
      cases rs with
      | sl f lO sw hc hr xR mR =>
        obtain ⟨rfl,rfl⟩:=xR rfl
        have JX:l = []:=List.eq_nil_of_length_eq_zero (by omega)
        subst JX
        exact T1 (by simpa using Ci) hk
    · rename_i i
      split at hk <;> try (first|cases hk)
      rename_i Lr
      obtain ⟨Ci,hk⟩:=cx hk
      have LL:(l.length+m.length)*(tt.at e).bytes≤140737488355328:=by simpa using Ci
      have j7:i≠id:=by rintro rfl; rw[Lr]at hf; cases hf
      have Vq:id<(h.set i .dead).length:=by simpa using hid
      have QA:az.at (h.set i .dead) id = .free:=by rw[cZ _ j7]; exact hf
      obtain ⟨A,cap,rfl,lO,sw⟩:=I5 rs
      obtain ⟨olds,ro,ho⟩:=QO rs
      have hol:=ro.1
      rw[k7,qs]at hol
      have mR:(c.su i=none∧A=none∧cap=0)∨∃b o arr e fz,c.su i=some b∧A=some ⟨b,o,none⟩∧c.off i=o+l.length*T''.sz∧w.heap[b]? = some (.cells arr e fz)∧o+cap*T''.sz≤arr.size∧Se T'' o e:=by
        cases rs with
        | sl f lO sw hc hr xR mR=>exact (mR i rfl).2 Lr
      have QR:=wf.obj i (az.gD Lr (by simp))
      rw[Lr]at QR
      have hA:(A=none∧cap=0)∨∃b o arr el fz,A=some ⟨b,o,none⟩∧w.heap[b]? = some (.cells arr el fz)∧o+cap*(tt.at e).size≤arr.size∧∀y,o+l.length*(tt.at e).size≤y→y<arr.size→w.frozen? ⟨b,y,none⟩=false:=by
        rcases mR with ⟨_,h1,h2⟩|⟨b,o,arr,el,fz,g1,g2,g3,g4,g5,_⟩
        · exact .inl ⟨h1,h2⟩
        · refine .inr ⟨b,o,arr,el,fz,g2,g4,by rw[←qs]; exact g5,?_⟩
          rcases QR with h0|⟨b',EY,e',F1,p1,p2,p3,p4⟩
          · rw[g1]at h0; cases h0
          · rw[g1]at p1; cases p1
            rw[g4]at p2; cases p2
            intro y h1 h2
            exact Sz g4 p4 (by rw[g3,qs]; exact h1)
      have:=wF (P:=P) (w:=w) (n:=l.length) (olds:=olds) T ht rU Pg ty n1 n2 Nt.symm T0 hol.symm (fun hn=>by
        obtain ⟨b,o,q1,q2,_⟩:=ho (by rintro rfl; exact hn rfl)
        exact ⟨b,o,q1,q2⟩) lO sw hA LL (hbig _ LL)
      have k1:=E1 (w:=w) (h:=h) (c:=c) i
      have k2:=Ph wf i
      rcases this with ⟨h1,hA0,hm0,mI⟩|⟨QP,b,o,arr,el,fz,w',nQ,hA1,Bt,hsz1,mI,hw,HK⟩|⟨cap',ds,h1,h2,h3,h4,mI⟩
      · have hm:m = []:=List.eq_nil_of_length_eq_zero hm0
        subst hm
        have JX:l = []:=by
          rcases mR with ⟨_,_,Hu⟩|⟨b,o,arr,el,fz,_,g2,_⟩
          · exact List.eq_nil_of_length_eq_zero (by omega)
          · rw[g2]at hA0; cases hA0
        subst JX
        have Hu:cap=0:=by
          rcases mR with ⟨_,_,Hu⟩|⟨b,o,arr,el,fz,_,g2,_⟩
          · exact Hu
          · rw[g2]at hA0; cases hA0
        subst Hu
        subst hA0
        obtain ⟨c',g1,g2,g3⟩:=HL k2 Vq QA (T:=T'')
        exact ⟨_,_,_,w,c',mI,g1,k1.trans g2,g3,hk⟩
      · rcases mR with ⟨_,hA2,_⟩|⟨b',o',EY,el',F1,g1,g2,g3,g4,g5,g6⟩
        · rw[hA2]at hA1; cases hA1
        · rw[g2]at hA1; cases hA1
          rw[g4]at Bt; cases Bt
          subst g2
          have hlen:(l++m).length=l.length+m.length:=List.length_append
          obtain ⟨c',q1,q2,q3⟩:=fit_tok (l:=l) (m:=m) wf Lr hid hf g1 g3 g6 g4 hw (by omega) sw g5 ro n3 (fun j7=>by
            obtain ⟨b2,o2,p1,p2,_⟩:=ho j7
            cases p1; exact p2) (fun y y1 y2=>by
            by_cases j7:l = []
            · subst j7; simp at y2; omega
            · obtain ⟨b2,o2,p1,_,p3⟩:=ho j7
              cases p1; exact p3 y y1 y2) (by rw[qs]; exact HK)
          rw[hlen]at q3
          exact ⟨_,_,_,w',c',mI,q1,q2,q3,hk⟩
      · have hlen:(l++m).length=l.length+m.length:=List.length_append
        obtain ⟨c',q1,q2,q3⟩:=N5 (l:=l++m) k2 Vq QA (by rw[ux]; exact (ro.mono k1).append (n3.mono k1)) (Sy 0 rfl) (by rw[qs]; exact h3) (by rw[hlen,qs]; exact h4) (by omega) h2 (e:=e)
        rw[hlen]at q3
        exact ⟨_,_,_,_,c',mI,q1,k1.trans q2,q3,hk⟩
  · rename_i i n
    split at hk <;> try (first|cases hk)
    rename_i T'' l BT
    split at hk <;> try (first|cases hk)
    rename_i q
    subst q
    obtain ⟨Ci,hk⟩:=cx hk
    simp only at hk
    have LL:(l.length+m.length)*(tt.at e).bytes≤140737488355328:=by simpa using Ci
    have j7:i≠id:=by rintro rfl; rw[BT]at hf; cases hf
    have Vq:id<(h.set i .dead).length:=by simpa using hid
    have QA:az.at (h.set i .dead) id = .free:=by rw[cZ _ j7]; exact hf
    obtain ⟨olds,ro,ho⟩:=Pj wf BT
    have hol:=ro.1
    rw[k7,qs]at hol
    have QR:=wf.obj i (az.gD BT (by simp))
    rw[BT]at QR
    cases rs with
    | row hu hn hv =>
      obtain ⟨A,cap,rfl,hA0,hv⟩:=hv
      obtain ⟨hnl',lO,sw,mR⟩:=hv _ _ BT
      subst hnl'
      have hA:(A=none∧cap=0)∨∃b o arr el fz,A=some ⟨b,o,none⟩∧w.heap[b]? = some (.cells arr el fz)∧o+cap*(tt.at e).size≤arr.size∧∀y,o+l.length*(tt.at e).size≤y→y<arr.size→w.frozen? ⟨b,y,none⟩=false:=by
        rcases mR with ⟨_,h1,h2⟩|⟨b,arr,el,fz,g1,g2,g4,g5⟩
        · exact .inl ⟨h1,h2⟩
        · refine .inr ⟨b,c.off i,arr,el,fz,g2,g4,by rw[←qs]; exact g5,?_⟩
          rcases QR with ⟨h0,_⟩|⟨b',EY,e',F1,p1,p2,p3,p4,_⟩
          · rw[g1]at h0; cases h0
          · rw[g1]at p1; cases p1
            rw[g4]at p2; cases p2
            intro y _ h2
            exact p4 y h2
      have:=wF (P:=P) (w:=w) (n:=l.length) (olds:=olds) T ht rU Pg ty n1 n2 Nt.symm T0 hol.symm (fun hn=>by
        obtain ⟨b,q1,q2⟩:=ho (by rintro rfl; exact hn rfl)
        rcases mR with ⟨p1,_⟩|⟨b',arr,el,fz,p1,p2,_⟩
        · rw[q1]at p1; cases p1
        · rw[q1]at p1; cases p1
          exact ⟨b,_,p2,q2⟩) lO sw hA LL (hbig _ LL)
      have k1:=E1 (w:=w) (h:=h) (c:=c) i
      have k2:=Ph wf i
      have hlen:(l++m).length=l.length+m.length:=List.length_append
      rcases this with ⟨h1,hAn,hm0,mI⟩|⟨QP,b,o,arr,el,fz,w',nQ,hA1,Bt,hsz1,mI,hw,HK⟩|⟨cap',ds,h1,h2,h3,h4,mI⟩
      · have hm:m = []:=List.eq_nil_of_length_eq_zero hm0
        subst hm
        have Hu:cap=0:=by
          rcases mR with ⟨_,_,Hu⟩|⟨b,arr,el,fz,_,g2,_⟩
          · exact Hu
          · rw[g2]at hAn; cases hAn
        have JX:l = []:=List.eq_nil_of_length_eq_zero (by omega)
        subst JX
        subst Hu
        subst hAn
        obtain ⟨c',g1,g2,g3⟩:=LK k2 Vq QA (T:=T'')
        exact ⟨_,_,_,w,c',mI,g1,k1.trans g2,g3,hk⟩
      · rcases mR with ⟨_,hA2,_⟩|⟨b',EY,el',F1,g1,g2,g4,g5⟩
        · rw[hA2]at hA1; cases hA1
        · rw[g2]at hA1; cases hA1
          rw[g4]at Bt; cases Bt
          subst g2
          obtain ⟨c',q1,q2,q3⟩:=fit_row (l:=l) (m:=m) wf BT hid hf g1 g4 hw (by omega) sw g5 ro n3 (fun j7=>by
            obtain ⟨b2,p1,p2⟩:=ho j7
            rw[g1]at p1; cases p1; exact p2) (by rw[qs]; exact HK)
          rw[hlen]at q3
          exact ⟨_,_,_,w',c',mI,q1,q2,q3,hk⟩
      · obtain ⟨c',q1,q2,q3⟩:=N6 (l:=l++m) k2 Vq QA (by rw[ux]; exact (ro.mono k1).append (n3.mono k1)) (by rw[qs]; exact h3) (by rw[hlen,qs]; exact h4) (by omega) h2 (e:=e)
        rw[hlen]at q3
        exact ⟨_,_,_,_,c',mI,q1,k1.trans q2,q3,hk⟩
end

section
variable {P:Program} {tt:dJ} {w w':World} {h:az} {c:kh} {R:Type}

def Obj.T2:Obj→Bool
  | .cells _ _ _=>true
  | _=>false

theorem Pm (wf:WF w h c) {i b:Nat} {o':bY} {o1 o2:Obj} (hb:c.su i=some b) (h1:w.heap[b]? = some o1) (hn1:Obj.T2 o1=false)
    (rX:(h.at i).from_ (c.off i)=some 0) (LH:o'.from_ (c.off i)=some 0) (tP:(h.at i).iF o')
    (Es:Ext w h c { w with heap:=w.heap.setIfInBounds b o2 } (h.set i o') c→oq { w with heap:=w.heap.setIfInBounds b o2 } (h.set i o') c i o') :
    WF { w with heap:=w.heap.setIfInBounds b o2 } (h.set i o') c∧Ext w h c { w with heap:=w.heap.setIfInBounds b o2 } (h.set i o') c:=by
  have hi:i<h.length:=az.gD rfl (bY.CV tP).1
  have mR:∀x,tO h c b x:=fun x=>⟨i,0,hb,rX,Nat.zero_le _⟩
  have Pn:∀k,k≠b→(w.heap.setIfInBounds b o2)[k]? = w.heap[k]? :=fun k hk=>by
    rw[Array.getElem?_setIfInBounds]; simp[Ne.symm hk]
  have hli:=td rX
  have x:Ext w h c { w with heap:=w.heap.setIfInBounds b o2 } (h.set i o') c:=by
    constructor
    · rfl
    · rfl
    · rfl
    · simp
    · intro j hj
      by_cases xC:i=j
      · subst xC
        refine ⟨by simpa using hj.1,?_⟩
        rw[mT _ hi]
        intro he; subst he; simp[bY.from_]at LH
      · exact ⟨by simpa using hj.1,by rw[cZ _ xC]; exact hj.2⟩
    · intro j hj hd
      refine ⟨?_,rfl,rfl⟩
      by_cases xC:i=j
      · subst xC; rw[mT _ hi]; exact tP
      · rw[cZ _ xC]at hd ⊢
        have h2:=hj.2
        revert hd h2
        cases h.at j <;> simp[bY.iF]
    · intro b' x hx ho
      have j7:b'≠b:=by rintro rfl; exact ho (mR x)
      exact sB (Pn b' j7)
    · intro b' hx ho
      have j7:b'≠b:=by rintro rfl; exact ho 0 (mR 0)
      exact Pn b' j7
    · rintro b' x hx ⟨j,f,g1,g2,g3⟩
      by_cases xC:i=j
      · subst xC
        rw[hb]at g1; cases g1
        exact mR x
      · rw[cZ _ xC]at g2
        exact ⟨j,f,g1,g2,g3⟩
    · rfl
    · intro b' arr el F1 ha
      by_cases j7:b'=b
      · subst j7
        rw[h1]at ha; cases ha
        simp[Obj.T2]at hn1
      · exact ⟨arr,F1,by rw[Pn b' j7]; exact ha,rfl⟩
  have QK:∀j,(az.at (h.set i o') j).live→(h.at j).live:=fun j hj=>by
    by_cases xC:i=j
    · subst xC; exact hli
    · rw[cZ _ xC]at hj; exact hj
  refine ⟨?_,x⟩
  constructor
  · intro b' y ho he
    exact wf.xS b' y (x.wa b' y (wf.pz b' y he) ho) he
  · intro b' y he
    simpa using wf.pz b' y he
  · intro j hj
    by_cases xC:i=j
    · subst xC; rw[mT _ hi]; exact Es x
    · rw[cZ _ xC]
      by_cases hl:(h.at j).live
      · refine (wf.obj j (by simpa using hj)).keep x (fun b' pA=>Pn b' ?_) rfl rfl
        rintro rfl
        exact xC (wf.inj i j b' hli hl hb pA)
      · revert hl; cases h.at j <;> simp[bY.live,oq]
  · intro j k b' hj hk h1 h2
    exact wf.inj j k b' (QK j hj) (QK k hk) h1 h2
  · exact wf.rW x

theorem Jc (s:ByteArray) (i:Nat):(Utf8.decode s i).1<2097152∧1≤(Utf8.decode s i).2∧(Utf8.decode s i).2≤4:=by
  have hb:∀k,(s.get! k).toNat<256:=fun k=>UInt8.toNat_lt _
  have h0:=hb (i+0)
  unfold Utf8.decode
  simp only
  split
  · exact ⟨by omega,by simp,by simp⟩
  · split
    · split
      · exact ⟨by simp only; omega,by simp,by simp⟩
      · exact ⟨by simp[Utf8.runeError],by simp,by simp⟩
    · split
      · split
        · exact ⟨by simp only; omega,by simp,by simp⟩
        · exact ⟨by simp[Utf8.runeError],by simp,by simp⟩
      · split
        · split
          · exact ⟨by simp only; omega,by simp,by simp⟩
          · exact ⟨by simp[Utf8.runeError],by simp,by simp⟩
        · exact ⟨by simp[Utf8.runeError],by simp,by simp⟩

theorem QS (n:Nat) (h:n<2097152):IntKind.i32.has (n:Int):=by
  unfold IntKind.has; simp[IntKind.min,IntKind.max,IntKind.signed,IntKind.bits]; omega

theorem SD (wf:WF w h c) {i:Nat} {s:aj} {pos:Nat} {a':Value} (ra:dC w h c (.ptr i 0) a') (hit:h.at i = .iter s pos) (ty:TypeId) {k:V→az→Option R} {r:R}
    (hk:(bif decide (pos<s.length)then k (.tuple [.bool true, .int .i64 pos, .int .i32 (mF s pos).1]) (h.set i (.iter s (pos+(mF s pos).2)))else k (.tuple [.bool false]) h)=some r) :
    Pl P w h c (Instr.next a' true ty) k r:=by
  have hi:=az.gD hit (by simp)
  have ho:=wf.obj i hi
  rw[hit]at ho
  obtain ⟨b,bs,g1,g2,g3,g4⟩:=ho
  cases ra with
  | ptr hu hv =>
    obtain ⟨b',rfl,pA⟩:=hv
    have:=pA (by rw[hit]; simp)
    rw[g1]at this; cases this
    have hlen:s.length=bs.size:=by rw[←g3,size_data]
    have hbs:bs=⟨s.toArray⟩:=sA (by rw[g3])
    have hdec:Utf8.decode bs pos=mF s pos:=by rw[hbs]; rfl
    have CC:(getObj b).run P w = .ok (.stringIter bs pos) w:=by simp[getObj,Sem.run,g2]
    by_cases hp:pos<s.length
    · have hc:decide (pos<s.length)=true:=by simpa using hp
      rw[hc]at hk
      have SE:(setObj b (.stringIter bs (pos+(mF s pos).2))).run P w = .ok () { w with heap:=w.heap.setIfInBounds b (.stringIter bs (pos+(mF s pos).2)) }:=by
        simp[setObj,Sem.run,g2]
      have kY:b<w.heap.size:=yJ g2
      have hrune:=(Jc bs pos).1
      rw[hdec]at hrune
      have rX:(h.at i).from_ (c.off i)=some 0:=by rw[hit]; rfl
      have tP:(h.at i).iF (.iter s (pos+(mF s pos).2)):=by rw[hit]; trivial
      obtain ⟨q1,q2⟩:=Pm wf (o' := .iter s (pos+(mF s pos).2)) (o2 := .stringIter bs (pos+(mF s pos).2)) g1 g2 rfl rX rfl tP
        (fun _=>⟨b,bs,g1,by simp[Array.getElem?_setIfInBounds,kY],g3,g4⟩)
      refine ⟨_,_, .tuple #[.bool true,goInt pos, .int .i32 (mF s pos).1],_,c,?_,q1,q2,?_,hk⟩
      · simp only[Instr.next,Sem.run_bind,CC,Result.andThen_ok]
        rw[if_pos (by omega),hdec]
        simp only[Sem.run_bind,SE,Result.andThen_ok,Sem.run_pure]
      · refine .tuple rfl fun j v d hv hd => ?_
        match j,hv,hd with
        | 0,hv,hd=>simp at hv hd; subst hv; subst hd; exact .bool _
        | 1,hv,hd=>simp[goInt]at hv hd; subst hv; subst hd; exact .int (Dz _ (by omega))
        | 2,hv,hd=>simp at hv hd; subst hv; subst hd; exact .int (QS _ hrune)
        | j+3,hv,_=>simp at hv
    · have hc:decide (pos<s.length)=false:=by simpa using hp
      rw[hc]at hk
      refine ⟨_,_, .tuple #[.bool false],w,c,?_,wf, .refl _ _ _,?_,hk⟩
      · simp only[Instr.next,Sem.run_bind,CC,Result.andThen_ok]
        rw[if_neg (by omega)]
        rfl
      · refine .tuple rfl fun j v d hv hd => ?_
        match j,hv,hd with
        | 0,hv,hd=>simp at hv hd; subst hv; subst hd; exact .bool _
        | j+1,hv,_=>simp at hv
end
end Go.ay

namespace Go.ay
open Go.RowKit Go.MapKept

section
variable {P:Program} {tt:dJ} {w w':World} {h:az} {c:kh} {R:Type}

theorem HP (T:xy P tt) (wf:WF w h c) {t kt vt i:Nat} {K V':Ty} {l:List (K.den × V'.den)} (ht:(tt.at t).d = .map kt vt) {m d y:Value} (rm:dC w h c (.map i) m) (hm:h.at i = .vg K V' l)
    (hf:(wz tt kt K&&zH tt vt V')=true) {v u:V} (rk:dC w h c v d) (ru:dC w h c u y) {kx:K.den} {vx:V'.den} (hx:Z7 K v=some kx) (hy:Z7 V' u=some vx) :
    ∃w',(Instr.mapUpdate t m d y).run P w = .ok () w'∧WF w' (h.set i (.vg K V' (wy K V' kx vx l))) c∧Ext w h c w' (h.set i (.vg K V' (wy K V' kx vx l))) c:=by
  simp only[Bool.and_eq_true]at hf
  obtain ⟨QA,hf2⟩:=hf
  have hi:=az.gD hm (by simp)
  have ho:=wf.obj i hi
  rw[hm]at ho
  obtain ⟨b,es,clock,g1,g2,g3,g4,g5,g6⟩:=ho
  cases rm with
  | map hu hv =>
    obtain ⟨b',rfl,pA⟩:=hv
    have:=pA (by rw[hm]; simp)
    rw[g1]at this; cases this
    have hut:P.underlying t=some (.map kt vt):=eO T ht
    have e:=Si hx (Lz QA).1
    subst e
    have e:=Si hy (LA hf2)
    subst e
    have hl:es.toList.length=l.length:=by simpa using g5
    have hr:∀(j:Nat) (x:K.den × V'.den) (e:MapEntry),l[j]? = some x→es.toList[j]? = some e→dC w h c (Nb K x.1) e.key:=fun j x e hx he=>(g6 j x e hx (by simpa using he)).1
    obtain ⟨u,hu',hik,_⟩:=HF T QA rk rk
    have HG:=run_findKey (w:=w) hu' (Ly T QA rk hu' l es.toList 0 hl hr)
    have Xg:=run_checkKey (w:=w) hu' hik false 9999
    have CC:=Go.MapKept.run_getObj_map (P:=P) g2
    have kY:b<w.heap.size:=yJ g2
    have rX:(h.at i).from_ (c.off i)=some 0:=by rw[hm]; rfl
    have tP:∀l':List (K.den × V'.den),(h.at i).iF (.vg K V' l'):=fun l'=>by rw[hm]; exact ⟨rfl,rfl⟩
    rcases I6 (K:=K) (T:=V') (k:=kx) l es.toList 0 hl with ⟨h1,h2,h3,h4⟩|⟨j,x,e,h1,h2,h3,h4,h5,h6,h7⟩
    · rw[h1]at HG
      rw[h4 vx]
      have SE:=Go.MapKept.run_setObj_map (P:=P) (.map (es.push { key:=d,val:=y,born:=clock }) (clock+1)) g2
      obtain ⟨q1,q2⟩:=Pm wf (o' := .vg K V' (l ++ [(kx,vx)])) (o2 := .map (es.push { key:=d,val:=y,born:=clock }) (clock+1)) g1 g2 rfl rX rfl (tP _) (fun x=>by
        refine ⟨b,es.push { key:=d,val:=y,born:=clock },clock+1,g1,by simp[Array.getElem?_setIfInBounds,kY],g3,g4,by simp[g5],fun j q e hq he => ?_⟩
        by_cases hj:j<l.length
        · rw[List.getElem?_append_left hj]at hq
          rw[Array.getElem?_push,if_neg (by omega)]at he
          exact ⟨(g6 j q e hq he).1.mono x,(g6 j q e hq he).2.mono x⟩
        · have hj2:j=l.length:=by
            have:=(List.getElem?_eq_some_iff.1 hq).1
            simp at this; omega
          subst hj2
          rw[List.getElem?_append_right (Nat.le_refl _)]at hq
          simp at hq; subst hq
          rw[Array.getElem?_push,if_pos g5.symm]at he
          cases he
          exact ⟨rk.mono x,ru.mono x⟩)
      refine ⟨_,?_,q1,q2⟩
      simp[Instr.mapUpdate,run_underlying hut,CC,Xg,HG,SE]
    · rw[Nat.zero_add]at h1
      rw[h1]at HG
      rw[h7 vx]
      have hej:es[j]? = some e:=by simpa using h3
      have Xl:e.key=d:=by
        obtain ⟨u2,_,_,_,_,q⟩:=HF T QA rk (g6 j x e h2 hej).1
        exact q h4
      have hget2:((es[j]?).map (·.key)).getD d=d:=by rw[hej]; simpa using Xl
      have hstay:=run_keyThatStays (P:=P) (w:=w) hik
      have SE:=Go.MapKept.run_setObj_map (P:=P) (.map (es.modify j fun e => { e with key:=d,val:=y }) clock) g2
      obtain ⟨q1,q2⟩:=Pm wf (o' := .vg K V' (l.set j (kx,vx))) (o2 := .map (es.modify j fun e => { e with key:=d,val:=y }) clock) g1 g2 rfl rX rfl (tP _) (fun x'=>by
        refine ⟨b,es.modify j fun e => { e with key:=d,val:=y },clock,g1,by simp[Array.getElem?_setIfInBounds,kY],g3,g4,by simp[g5],fun j' q e' hq he => ?_⟩
        rw[Array.getElem?_modify]at he
        rw[List.getElem?_set]at hq
        by_cases hj:j=j'
        · subst hj
          rw[if_pos rfl]at hq he
          rw[hej]at he
          simp at he; subst he
          split at hq
          · cases hq; exact ⟨rk.mono x',ru.mono x'⟩
          · cases hq
        · rw[if_neg hj]at hq he
          exact ⟨(g6 j' q e' hq he).1.mono x',(g6 j' q e' hq he).2.mono x'⟩)
      refine ⟨_,?_,q1,q2⟩
      simp only[Instr.mapUpdate,Sem.run_bind,run_underlying hut,Result.andThen_ok,CC,Xg,HG,hget2,hstay,SE]
end
end Go.ay

namespace Go.ay
open Go.RowKit

section
variable {P:Program} {tt:dJ} {w w':World} {h:az} {c:kh} {R:Type}

theorem Vr (T:xy P tt) (wf:WF w h c) {o:Oper} {ρ:Operand→V} {ρ':Operand→Value} (hρ:∀x,dC w h c (ρ x) (ρ' x)) {id:Nat} (hid:id<h.length) (hf:h.at id = .free) {k:V→az→Option R} {r:R}
    (hk:KR tt o.op ρ h id k=some r) :
    ∃v h' v' w' c' nx,(execOp ρ' o).run P w = .ok nx w'∧(nx = .value v'∨nx = .skip∧v'=undef)∧WF w' h' c'∧Ext w h c w' h' c'∧dC w' h' c' v v'∧k v h'=some r:=by
  obtain ⟨dst,op,type,pos,after,guard⟩:=o
  cases op <;> (try simp only[KR]at hk) <;> try (first|cases hk)
  case store t x y =>
    split at hk <;> try (first|cases hk)
    rename_i vs hvs
    obtain ⟨rv,h1,_⟩:=EZ (hρ y) hvs
    split at hk <;> try (first|cases hk)
    rename_i wD
    simp only[Bool.and_eq_true,decide_eq_true_eq]at wD
    obtain ⟨rU,qs⟩:=wD
    have rx:=hρ x
    split at hk <;> try (first|cases hk)
    · rename_i i o hx
      rw[hx]at rx
      split at hk <;> try (first|cases hk)
      · rename_i cs BU
        split at hk <;> try (first|cases hk)
        rename_i kY
        obtain ⟨w',g1,g2,g3⟩:=QL (P:=P) wf T rx BU rv h1 rU qs kY
        exact ⟨_,_,undef,w',c, .skip,by simp[execOp,g1], .inr ⟨rfl,rfl⟩,g2,g3, .undef _,hk⟩
      rename_i u BU
      split at hk <;> try (first|cases hk)
      rename_i v
      obtain ⟨w',g1,g2,g3⟩:=Vl (P:=P) wf T rx BU rv h1 rU (by simpa using qs)
      exact ⟨_,_,undef,w',c, .skip,by simp[execOp,g1], .inr ⟨rfl,rfl⟩,g2,g3, .undef _,hk⟩
    · rename_i i sz j o hx
      rw[hx]at rx
      split at hk <;> try (first|cases hk)
      rename_i T' l BT
      split at hk <;> try (first|cases hk)
      rename_i hn
      split at hk <;> try (first|cases hk)
      rename_i kY
      split at hk <;> try (first|cases hk)
      rename_i z hz
      obtain ⟨hj,hk⟩:=cx hk
      simp only[decide_eq_true_eq]at hj
      obtain ⟨w',g1,g2,g3⟩:=Vm (P:=P) wf T rx BT rv h1 rU hn qs hj kY hz
      exact ⟨_,_,undef,w',c, .skip,by simp[execOp,g1], .inr ⟨rfl,rfl⟩,g2,g3, .undef _,hk⟩
  case mapUpdate t m x y =>
    have rm:=hρ m
    split at hk <;> try (first|cases hk)
    rename_i kt vt i ht hx
    rw[hx]at rm
    split at hk <;> try (first|cases hk)
    rename_i K V' l hm
    split at hk <;> try (first|cases hk)
    rename_i hf
    split at hk <;> try (first|cases hk)
    rename_i kx vx hkx hvx
    obtain ⟨w',g1,g2,g3⟩:=HP (P:=P) T wf ht rm hm hf (hρ x) (hρ y) hkx hvx
    exact ⟨_,_,undef,w',c, .skip,by simp[execOp,g1], .inr ⟨rfl,rfl⟩,g2,g3, .undef _,hk⟩
  case insert t m x y =>
    have rm:=hρ m
    split at hk <;> try (first|cases hk)
    rename_i kt vt i ht hx
    rw[hx]at rm
    split at hk <;> try (first|cases hk)
    rename_i K V' l hm
    split at hk <;> try (first|cases hk)
    rename_i hf
    split at hk <;> try (first|cases hk)
    rename_i kx vx hkx hvx
    obtain ⟨w',g1,g2,g3⟩:=HP (P:=P) T wf ht rm hm hf (hρ x) (hρ y) hkx hvx
    exact ⟨_,_,undef,w',c, .skip,by simp[execOp,g1], .inr ⟨rfl,rfl⟩,g2,g3, .undef _,hk⟩
  case next x str =>
    have rx:=hρ x
    split at hk <;> try (first|cases hk)
    rename_i i hx
    rw[hx]at rx
    split at hk <;> try (first|cases hk)
    rename_i s pos hit
    obtain ⟨v,h',v',w',c',g1,g2,g3,g4,g5⟩:=SD (P:=P) wf rx hit type hk
    exact ⟨v,h',v',w',c', .value v',by simp[execOp,g1], .inl rfl,g2,g3,g4,g5⟩
  case call cl =>
    obtain ⟨callee,args,argTypes⟩:=cl
    simp only at hk
    split at hk <;> try (first|cases hk)
    rename_i s x t xt ha P9
    obtain rfl:args = #[s,x]:=by cases args; simp_all
    obtain rfl:argTypes = #[t,xt]:=by cases argTypes; simp_all
    split at hk <;> try (first|cases hk)
    · rename_i e e' ht Pg
      have hu:=eO T Pg
      simp only[TD.Is]at hu
      obtain ⟨v,h',v',w',c',g1,g2,g3,g4,g5⟩:=HO T wf ht (.inl ⟨_,hu⟩) (hρ s) (hρ x) hid hf type hk
      exact ⟨v,h',v',w',c', .value v',by simp[execOp,resolve,invoke,builtin,g1], .inl rfl,g2,g3,g4,g5⟩
    · rename_i e ht Pg
      have hu:=eO T Pg
      simp only[TD.Is]at hu
      obtain ⟨v,h',v',w',c',g1,g2,g3,g4,g5⟩:=HO T wf ht (.inr hu) (hρ s) (hρ x) hid hf type hk
      exact ⟨v,h',v',w',c', .value v',by simp[execOp,resolve,invoke,builtin,g1], .inl rfl,g2,g3,g4,g5⟩
end

section
variable {w w':World} {h h2:az} {c c2:kh}

theorem KU (ρ:Nat→Option Nat):∀l:List V,V.xP ρ l=l.map (V.pJ ρ)
  | []=>rfl
  | v::l=>by simp only[V.xP,List.map_cons,KU ρ l]

theorem uy (ρ:Nat→Option Nat) (l:List V):(V.xP ρ l).length=l.length:=by simp[KU]
theorem Bu (ρ:Nat→Option Nat) (l:List V) (j:Nat):(V.xP ρ l)[j]? = (l[j]?).map (V.pJ ρ):=by simp[KU]

structure N7 (ρ:Nat→Option Nat) (h:az) (c:kh) (h2:az) (c2:kh):Prop where
  used:∀i j,ρ i=some j→Used h i→Used h2 j
  obj:∀i j,ρ i=some j→h2.at j ≠ .dead→h.at i ≠ .dead∧c2.su j=c.su i∧c2.off j=c.off i
  tok:∀i j,ρ i=some j→h2.at j = .tok→h.at i = .tok
  row:∀i j,ρ i=some j→∀(T:Ty) (l:List T.den),h2.at j = .row T l→h.at i = .row T l
  free:∀b x,F0 h c b x→F0 h2 c2 b x

theorem dC.pJ {ρ:Nat→Option Nat} (k:N7 ρ h c h2 c2) {v:V} {d:Value} (r:dC w h c v d):dC w h2 c2 (v.pJ ρ) d:=by
  induction r with
  | undef v=>exact .undef v
  | int hn=>exact .int hn
  | bool b=>exact .bool b
  | str hl=>exact .str hl
  | eN=>exact .eN
  | cF=>exact .cF
  | aV=>exact .aV
  | ow=>exact .ow
  | cR=>exact .cR
  | iface t v=>exact .iface t v
  | ET hn=>exact .ET hn
  | FZ b=>exact .FZ b
  | @ptr i o v hi hv =>
    obtain ⟨b,hv,hb⟩:=hv
    simp only[V.pJ]
    cases e:ρ i with
    | none=>exact .undef _
    | some j=>exact .ptr (k.used i j e hi) ⟨b,hv,fun hd=>by obtain ⟨h1,h2,_⟩:=k.obj i j e hd; rw[h2]; exact hb h1⟩
  | @map i v hi hv =>
    obtain ⟨b,hv,hb⟩:=hv
    simp only[V.pJ]
    cases e:ρ i with
    | none=>exact .undef _
    | some j=>exact .map (k.used i j e hi) ⟨b,hv,fun hd=>by obtain ⟨h1,h2,_⟩:=k.obj i j e hd; rw[h2]; exact hb h1⟩
  | @xA cs b o f hc _ ih =>
    simp only[V.pJ]
    refine .xA f (fun j hj => ?_) (fun j v hv => ?_)
    · rw[uy]at hj
      exact ⟨(hc j hj).1,k.free _ _ (hc j hj).2⟩
    · rw[Bu]at hv
      cases e:cs[j]? with
      | none=>rw[e]at hv; cases hv
      | some u=>rw[e]at hv; simp at hv; subst hv; exact ih j u e
  | @sl T l t A cap f lO sw hc hr xR mR ih =>
    simp only[V.pJ]
    refine .sl f lO sw (fun i j hi hj => ?_) (fun i j x v hx hv => ?_) (fun ht => ?_) (fun j ht => ?_)
    · obtain ⟨b,o,hA,h1,h2⟩:=hc i j hi hj
      exact ⟨b,o,hA,h1,k.free _ _ h2⟩
    · have:=ih i j x v hx hv
      have e:v.pJ ρ=v:=by
        have ES:∀(T:Ty) (x:T.den) (j:Nat) (v:V),(T.cells x)[j]? = some v→v.pJ ρ=v:=by
          intro T x
          have:∀v∈T.cells x,v.pJ ρ=v:=by
            cases T <;> simp[Ty.cells,V.pJ,Tok.pJ]
          intro j v hv
          exact this v (List.mem_of_getElem? hv)
        exact ES T x j v hv
      rw[e]at this; exact this
    · cases t with
      | no=>cases ht
      | nil=>exact xR rfl
      | own i=>simp only[Tok.pJ]at ht; split at ht <;> cases ht
    · cases t with
      | no=>cases ht
      | nil=>cases ht
      | own i =>
        simp only[Tok.pJ]at ht
        split at ht
        · rename_i j' e
          cases ht
          obtain ⟨hu,ho⟩:=mR i rfl
          refine ⟨k.used i j e hu,fun Lr => ?_⟩
          obtain ⟨_,e1,e2⟩:=k.obj i j e (by rw[Lr]; simp)
          rw[e1,e2]
          exact ho (k.tok i j e Lr)
        · cases ht
  | @Na n sz cs A hn sw f hc _ ih =>
    simp only[V.pJ]
    refine .Na (sz:=sz) (by rw[uy]; exact hn) sw f (fun j hj => ?_) (fun j v hv => ?_)
    · rw[uy]at hj
      obtain ⟨b,o,hA,h1,h2⟩:=hc j hj
      exact ⟨b,o,hA,h1,k.free _ _ h2⟩
    · rw[Bu]at hv
      cases e:cs[j]? with
      | none=>rw[e]at hv; cases hv
      | some u=>rw[e]at hv; simp at hv; subst hv; exact ih j u e
  | @row i n v hi hn hv =>
    simp only[V.pJ]
    cases e:ρ i with
    | none=>exact .undef _
    | some j =>
      obtain ⟨A,cap,UP,hA,hv⟩:=hv
      refine .row (k.used i j e hi) hn ⟨A,cap,UP,hA,fun T l he => ?_⟩
      obtain ⟨_,e1,e2⟩:=k.obj i j e (by rw[he]; simp)
      rw[e1,e2]
      exact hv T l (k.row i j e T l he)
  | @CR i q n v hi hn hv =>
    simp only[V.pJ]
    cases e:ρ i with
    | none=>exact .undef _
    | some j =>
      obtain ⟨A,cap,UP,hA,hv⟩:=hv
      refine .CR (k.used i j e hi) hn ⟨A,cap,UP,hA,fun T l he => ?_⟩
      obtain ⟨_,e1,e2⟩:=k.obj i j e (by rw[he]; simp)
      rw[e1,e2]
      exact hv T l (k.row i j e T l he)
  | @s8 i n q o v hi hv =>
    simp only[V.pJ]
    cases e:ρ i with
    | none=>exact .undef _
    | some j =>
      obtain ⟨a,ha,hv⟩:=hv
      refine .s8 (k.used i j e hi) ⟨a,ha,fun T l he hn hj => ?_⟩
      obtain ⟨_,e1,e2⟩:=k.obj i j e (by rw[he]; simp)
      rw[e1,e2]
      exact hv T l (k.row i j e T l he) hn hj
  | @func f a b x y ha hb _ _ iha ihb =>
    simp only[V.pJ]
    refine .func (by rw[uy]; exact ha) (by rw[uy]; exact hb) (fun j v d hv hd => ?_) (fun j v d hv hd => ?_)
    · rw[Bu]at hv
      cases e:a[j]? with
      | none=>rw[e]at hv; cases hv
      | some u=>rw[e]at hv; simp at hv; subst hv; exact iha j u d e hd
    · rw[Bu]at hv
      cases e:b[j]? with
      | none=>rw[e]at hv; cases hv
      | some u=>rw[e]at hv; simp at hv; subst hv; exact ihb j u d e hd
  | @agg cs x hl _ ih =>
    simp only[V.pJ]
    refine .agg (by rw[uy]; exact hl) (fun j v d hv hd => ?_)
    rw[Bu]at hv
    cases e:cs[j]? with
    | none=>rw[e]at hv; cases hv
    | some u=>rw[e]at hv; simp at hv; subst hv; exact ih j u d e hd
  | @tuple cs x hl _ ih =>
    simp only[V.pJ]
    refine .tuple (by rw[uy]; exact hl) (fun j v d hv hd => ?_)
    rw[Bu]at hv
    cases e:cs[j]? with
    | none=>rw[e]at hv; cases hv
    | some u=>rw[e]at hv; simp at hv; subst hv; exact ih j u d e hd

theorem cH.pJ {ρ:Nat→Option Nat} (k:N7 ρ h c h2 c2) {cs:List V} {ds:List Value} (r:cH w h c cs ds):cH w h2 c2 (V.xP ρ cs) ds:=by
  refine ⟨by rw[uy]; exact r.1,fun j v d hv hd => ?_⟩
  rw[Bu]at hv
  cases e:cs[j]? with
  | none=>rw[e]at hv; cases hv
  | some u=>rw[e]at hv; simp at hv; subst hv; exact (r.2 j u d e hd).pJ k

theorem Vs (ρ:Nat→Option Nat) (T:Ty) (x:T.den):∀v∈T.cells x,v.pJ ρ=v:=by cases T <;> simp[Ty.cells,V.pJ,Tok.pJ]

theorem oq.pJ {ρ:Nat→Option Nat} (k:N7 ρ h c h2 c2) {i j:Nat} {o:bY} (e1:c2.su j=c.su i) (e2:c2.off j=c.off i) (ho:oq w h c i o):oq w h2 c2 j (o.pJ ρ):=by
  cases o <;> simp only[oq,bY.pJ]at ho ⊢
  · obtain ⟨b,arr,e,h1,Xe,h3⟩:=ho
    exact ⟨b,arr,e,e1▸h1,Xe,h3.pJ k⟩
  · rw[e1,e2]
    rcases ho with h1|⟨b,arr,e,fz,h1,Xe,h3,h4,h5⟩
    · exact .inl h1
    · refine .inr ⟨b,arr,e,fz,h1,Xe,h3,h4,fun n q x v hx hv => ?_⟩
      obtain ⟨d,g1,g2⟩:=h5 n q x v hx hv
      refine ⟨d,g1,?_⟩
      have:=g2.pJ k
      rw[Vs ρ _ x v (List.mem_of_getElem? hv)]at this
      exact this
  · rw[e1,e2]; exact ho
  · rw[e1]; exact ho
  · rw[e1]
    obtain ⟨b,p,d,h1,Xe,h3,h4⟩:=ho
    exact ⟨b,p,d,h1,Xe,h3,h4.pJ k⟩
  · rw[e1]
    obtain ⟨b,es,cl,h1,Xe,h3,h4,h5,h6⟩:=ho
    refine ⟨b,es,cl,h1,Xe,h3,h4,h5,fun j q e hq he => ?_⟩
    obtain ⟨g1,g2⟩:=h6 j q e hq he
    have g1':=g1.pJ k
    have g2':=g2.pJ k
    have key:∀(T:Ty) (x:T.den),(KQ T=true∨T.one=true)→(Nb T x).pJ ρ=Nb T x:=by
      intro T x hT
      cases T <;> first|(simp[Nb,Ty.one,Ty.cells,V.pJ]; done)|(simp[Nb,Ty.one,Ty.cells,V.pJ,V.xP]; done)|(simp[KQ,Ty.one]at hT)
    rw[key _ _ (.inl h3)]at g1'
    rw[key _ _ (.inr h4)]at g2'
    exact ⟨g1',g2'⟩

def kh.pick (c:kh) (ord:List Nat) (ext:Qo):kh :=
  ⟨fun j=>(ord[j]?).bind c.su,fun j=>c.off (ord.getD j 0),ext⟩

theorem Bv {ord:List Nat} {i j:Nat} (e:xM ord i=some j):ord[j]? = some i:=by
  unfold xM at e
  simp only at e
  split at e
  · rename_i kY
    cases e
    rw[List.getElem?_eq_getElem kY,List.getElem_idxOf kY]
  · cases e

theorem uZ (h:az) (ord:List Nat) (j:Nat):az.at (h.pick ord) j=match ord[j]? with|some i=>(h.at i).pJ (xM ord)|none => .dead:=by
  unfold az.at az.pick
  simp only[List.getD,List.getElem?_map]
  cases ord[j]? <;> rfl

theorem HQ {ρ:Nat→Option Nat} {o:bY}:o.pJ ρ = .dead↔o = .dead:=by cases o <;> simp[bY.pJ]
theorem CZ {ρ:Nat→Option Nat} {o:bY}:o.pJ ρ = .free↔o = .free:=by cases o <;> simp[bY.pJ]
theorem T3 {ρ:Nat→Option Nat} {o:bY}:o.pJ ρ = .tok↔o = .tok:=by cases o <;> simp[bY.pJ]
theorem T4 {ρ:Nat→Option Nat} {o:bY} {T:Ty} {l:List T.den}:o.pJ ρ = .row T l↔o = .row T l:=by cases o <;> simp[bY.pJ]
theorem QT {ρ:Nat→Option Nat} {o:bY} {f:Nat}:(o.pJ ρ).from_ f=o.from_ f:=by cases o <;> rfl
theorem C0 {ρ:Nat→Option Nat} {o:bY}:(o.pJ ρ).live↔o.live:=by cases o <;> simp[bY.pJ,bY.live]

theorem C1 {ord:List Nat} {ext:Qo} {b x:Nat} (ho:tO (h.pick ord) (c.pick ord ext) b x):∃i∈ord,∃f,c.su i=some b∧(h.at i).from_ (c.off i)=some f∧f≤x:=by
  obtain ⟨j,f,g1,g2,g3⟩:=ho
  rw[uZ]at g2
  cases e:ord[j]? with
  | none=>rw[e]at g2; cases g2
  | some i =>
    rw[e]at g2
    simp only[kh.pick,e,Option.bind_some]at g1
    simp only[QT,kh.pick,List.getD,e,Option.getD_some]at g2
    exact ⟨i,List.mem_of_getElem? e,f,g1,g2,g3⟩

theorem LM {ord:List Nat} {ext:Qo} (Xm:∀b x,F0 h c b x→¬ext b x):N7 (xM ord) h c (h.pick ord) (c.pick ord ext) where
  used:=fun i j e hu=>by
    have hj:=Bv e
    refine ⟨?_,?_⟩
    · have:=(List.getElem?_eq_some_iff.1 hj).1
      simpa [az.pick]using this
    · rw[uZ,hj]
      simp only[ne_eq,CZ]
      exact hu.2
  obj:=fun i j e hd=>by
    have hj:=Bv e
    rw[uZ,hj]at hd
    simp only[ne_eq,HQ]at hd
    exact ⟨hd,by simp[kh.pick,hj],by simp[kh.pick,List.getD,hj]⟩
  tok:=fun i j e ht=>by
    rw[uZ,Bv e]at ht
    exact T3.1 ht
  row:=fun i j e T l ht=>by
    rw[uZ,Bv e]at ht
    exact T4.1 ht
  free:=fun b x hf=>⟨fun ho=>by
    obtain ⟨i,_,f,g1,g2,g3⟩:=C1 ho
    exact hf.1 ⟨i,f,g1,g2,g3⟩,Xm b x hf⟩

theorem T5 (wf:WF w h c) {ord:List Nat} (Et:ord.Nodup) {ext:Qo} (Xm:∀b x,F0 h c b x→¬ext b x) (kY:∀b x,ext b x→b<w.heap.size)
    (hdis:∀b x,(∃i∈ord,∃f,c.su i=some b∧(h.at i).from_ (c.off i)=some f∧f≤x)→¬ext b x):WF w (h.pick ord) (c.pick ord ext) where
  lay:=⟨wf.lay.1,fun b hb=>⟨(wf.lay.2 b hb).1,fun x ho=>by
    obtain ⟨i,_,f,g1,g2,g3⟩:=C1 ho
    exact (wf.lay.2 b hb).2 x ⟨i,f,g1,g2,g3⟩⟩⟩
  xS:=fun b x ho=>hdis b x (C1 ho)
  pz:=kY
  obj:=fun j hj=>by
    rw[uZ]
    cases e:ord[j]? with
    | none=>trivial
    | some i =>
      by_cases hl:(h.at i).live
      · exact (wf.obj i (az.gD rfl (wE hl))).pJ (LM Xm) (by simp[kh.pick,e]) (by simp[kh.pick,List.getD,e])
      · have h0:h.at i = .free∨h.at i = .dead:=by revert hl; cases h.at i <;> simp[bY.live]
        rcases h0 with h0|h0 <;> simp only[h0,bY.pJ] <;> trivial
  inj:=fun j k b hj hk h1 h2=>by
    rw[uZ]at hj hk
    cases e1:ord[j]? with
    | none=>rw[e1]at hj; exact hj.elim
    | some i1 =>
      cases e2:ord[k]? with
      | none=>rw[e2]at hk; exact hk.elim
      | some i2 =>
        rw[e1]at hj; rw[e2]at hk
        simp only[kh.pick,e1,e2,Option.bind_some]at h1 h2
        have:=wf.inj i1 i2 b (C0.1 hj) (C0.1 hk) h1 h2
        subst this
        obtain ⟨N2,T6⟩:=List.getElem?_eq_some_iff.1 e1
        obtain ⟨qT,e2'⟩:=List.getElem?_eq_some_iff.1 e2
        have hp:=List.pairwise_iff_getElem.1 Et
        rcases Nat.lt_trichotomy j k with kY|rfl|kY
        · exact (hp j k N2 qT kY (T6.trans e2'.symm)).elim
        · rfl
        · exact (hp k j qT N2 kY (e2'.trans T6.symm)).elim

theorem Cj (h:az):∀(n:Nat) (todo seen:List Nat),seen.Nodup→(reach h n todo seen).Nodup
  | 0,_,_,hn=>hn
  | n+1, [],_,hn=>hn
  | n+1,i::todo,seen,hn=>by
    simp only[reach]
    split
    · exact Cj h n _ _ hn
    · rename_i hc
      refine Cj h n _ _ ?_
      rw[List.nodup_append]
      refine ⟨hn,by simp,fun a ha b hb => ?_⟩
      simp at hb; subst hb
      rintro rfl
      simp at hc
      exact hc ha
end
end Go.ay

