/-
  JsonAgain: for every input whose bulk is at most 1048576 the law returns true, and each argument reads behind the call as it read before; part 2 of 9 of the proof: an interpreter of the model's code over typed data, proved sound; the functions that the law reaches, printed as Lean functions and tied; the plain law. Own texts laid one behind the other.
-/
import Derived.Laws.StructEq
import Derived.WalkKit
import Derived.MapKept
import Derived.Laws.BytesString
import Derived.Laws.Cover4
import Derived.Laws.Rows
import Derived.Laws.MakeOwn
import Derived.Laws.Append
import Derived.Test.YtmlkkgfenfdndaaGreatDoorJsonAgainB1
set_option linter.unusedSimpArgs false
set_option linter.unnecessarySimpa false
set_option linter.unusedVariables false
set_option linter.unusedSectionVars false
namespace Go.ay
open Go.RowKit

def TD.Is (P:Program) (t:Nat):TD→Prop
  | .bool=>P.underlying t=some .bool
  | .int k=>P.underlying t=some (.int k)
  | .string=>P.underlying t=some .string
  | .ptr e=>P.underlying t=some (.pointer e)
  | .slice e=>P.underlying t=some (.slice e)
  | .arr n e=>P.underlying t=some (.array n e)
  | .map k e=>P.underlying t=some (.map k e)
  | .struct fs=>∃F,P.underlying t=some (.struct F)∧F.toList.map (fun f=>(f.offset,f.type))=fs
  | .func=>∃a b c,P.underlying t=some (.func a b c)
  | .iface=>∃a,P.underlying t=some (.interface a)
  | .other=>True

structure yb (P:Program) (tt:dO):Prop where
  und:∀t,(tt.at t).d.Is P t
  info:∀t,tt.ok t=true→∃i z,P.info? t=some i∧i.size=(tt.at t).size∧i.bytes=(tt.at t).bytes∧i.zero=some z∧z.cells.size=i.size ∧
    ∀(w:World) (h:az) (c:kA),cK w h c (tt.at t).zero z.cells.toList
  eqs:∀t,∀(w:World) (h:az) (c:kA) (cs ds:List V) (xs ys:Array Value) (b:Bool),P4 (tt.at t) cs ds=true→cK w h c cs xs.toList→cK w h c ds ys.toList →
    mD cs ds=some b→P.eqGuardType P.depth t=false∧(Op.equalIn 10000 t (.agg xs) (.agg ys)).run P w = .ok b w
  u8s:∀e,(tt.at e).ty=some (.int .u8)→e=oZ.u8
  blds:∀t,(tt.at t).kW=true→t=oZ.kW∧(tt.at t).zero = [.eQ, .cJ]∧tt.ok t=true
  ones:∀t,tt.ok t=true→∀i z,P.info? t=some i→i.zero=some z→z.oneCell' = !tt.isAgg t

section
variable {P:Program} {tt:dO} {w:World}

theorem yb.isAgg (T:yb P tt) {t:Nat} (h:tt.ok t=true):(isAgg t).run P w = .ok (tt.isAgg t) w:=by
  have hu:=T.und t
  unfold dO.ok at h
  unfold dO.isAgg
  cases hd:(tt.at t).d <;> rw[hd]at hu h <;> simp only[TD.Is]at hu
  case struct fs=>obtain ⟨F,hF,_⟩:=hu; simp[Go.isAgg,run_underlying hF]
  case func=>obtain ⟨a,b,c,hF⟩:=hu; simp[Go.isAgg,run_underlying hF]
  case iface=>obtain ⟨a,hF⟩:=hu; simp[Go.isAgg,run_underlying hF]
  case other=>cases h
  all_goals simp[Go.isAgg,run_underlying hu]

theorem yb.sizeOf (T:yb P tt) {t:Nat} (h:tt.ok t=true):(sizeOf t).run P w = .ok (tt.at t).size w:=by
  obtain ⟨i,z,hi,hs,_⟩:=T.info t h
  simp[Go.sizeOf,typeInfo,hi,hs]

theorem yb.zero (T:yb P tt) {t:Nat} (h:tt.ok t=true):∃z,(zeroValue t).run P w = .ok z w∧z.cells.size=(tt.at t).size ∧
    ∀(w:World) (h:az) (c:kA),cK w h c (tt.at t).zero z.cells.toList:=by
  obtain ⟨i,z,hi,hs,_,hz,hzs,hr⟩:=T.info t h
  exact ⟨z,by simp[Go.zeroValue,typeInfo,hi,hz],by omega,hr⟩

theorem eR (T:yb P tt) {t:Nat} {d:TD} (h:(tt.at t).d=d):d.Is P t:=h▸T.und t

theorem Ik (T:yb P tt) {t f off ty:Nat} {fs:List (Nat × Nat)} (h:(tt.at t).d = .struct fs) (hf:fs[f]? = some (off,ty)) :
    ∃F fd,P.underlying t=some (.struct F)∧F[f]? = some fd∧fd.offset=off∧fd.type=ty:=by
  obtain ⟨F,hF,e⟩:=eR T h
  subst e
  rw[List.getElem?_map]at hf
  cases hx:F.toList[f]? with
  | none=>rw[hx]at hf; cases hf
  | some fd =>
    rw[hx]at hf
    simp at hf
    exact ⟨F,fd,hF,by simpa using hx,hf.1,hf.2⟩

variable {h:az} {c:kA} {R:Type}

theorem KA (T:yb P tt) {t off:Nat} {cs:List V} {x:Array Value} (hr:cK w h c cs x.toList) {k:V→Option R} {r:R} (hk:su tt t cs off k=some r) :
    ∃v v',(part t x off).run P w = .ok v' w∧dK w h c v v'∧k v=some r:=by
  unfold su at hk
  split at hk
  · rename_i sv
    have hlen:cs.length=x.size:=by have:=hr.1; simpa using this
    split at hk
    · rename_i Mb
      split at hk
      · rename_i qL
        refine ⟨_, .agg (x.extract off (off+(tt.at t).size)),?_,?_,hk⟩
        · simp[part,T.isAgg sv,Mb,T.sizeOf sv]
        · have Il:=(hr.drop off).take (tt.at t).size
          refine .agg ?_ fun j v d hv hd=>Il.2 j v d hv ?_
          · simp[hlen]; omega
          · simp only[Array.getElem?_extract]at hd
            rw[List.getElem?_take,List.getElem?_drop]
            split at hd
            · rename_i hj
              have OX:j<(tt.at t).size:=by omega
              simp only[OX,if_true]; simpa using hd
            · cases hd
      · cases hk
    · rename_i Mb
      split at hk
      · rename_i v hv
        have lp:off<cs.length:=(List.getElem?_eq_some_iff.1 hv).1
        have hx:x[off]? = some (x[off]'(by omega)):=Array.getElem?_eq_getElem (by omega)
        refine ⟨v,x[off]'(by omega),?_,hr.2 off v _ hv (by simp),hk⟩
        simp[part,T.isAgg sv,Mb,hx]
      · cases hk
  · cases hk
end

section
variable {P:Program} {tt:dO} {w:World} {h:az} {c:kA} {R:Type}

theorem Mc (k:IntKind) (n:Int):k.has (k.wrap n):=by
  unfold IntKind.has
  cases k <;> simp only[IntKind.wrap,IntKind.min,IntKind.max,IntKind.signed,IntKind.bits] <;> simp <;> omega

theorem cB {b:Bool} {k:Option R} {r:R} (hk:cU b k=some r):b=true∧k=some r:=by
  unfold cU at hk; cases b <;> simp_all

theorem dK.jb {k:IntKind} {n:Int} {v:Value} (r:dK w h c (.int k n) v):v = .int k n∧k.has n:=by cases r; exact ⟨rfl, ‹_›⟩
theorem dK.Dx {b:Bool} {v:Value} (r:dK w h c (.bool b) v):v = .bool b:=by cases r; rfl
theorem dK.kX {s:aj} {v:Value} (r:dK w h c (.str s) v):∃t,v = .string t∧t.data.toList=s∧t.size≤mx:=by cases r; exact ⟨_,rfl,rfl, ‹_›⟩

theorem Md (n:Nat) (hn:n<256):IntKind.u8.has (n:Int):=by unfold IntKind.has; simp[IntKind.min,IntKind.max,IntKind.signed,IntKind.bits]; omega
theorem D9 (n:Nat) (hn:n≤mx):IntKind.i64.has (n:Int):=by unfold IntKind.has; unfold mx at hn; simp[IntKind.min,IntKind.max,IntKind.signed,IntKind.bits]; omega

theorem Im (v:Value):dK w h c (FB v) v:=by
  unfold FB
  split
  · exact .bool _
  · split
    · rename_i hk; unfold inK at hk; simp at hk; exact .int hk
    · exact .undef _
  · split
    · exact .str ‹_›
    · exact .undef _
  · exact .eQ
  · exact .cJ
  · exact .aV
  · exact .oN
  · exact .cX
  · exact .undef _

theorem KB (v:Value):dK w h c (ofConst v) v:=by
  unfold ofConst
  split
  · refine .agg (by simp) fun j v d hv hd => ?_
    rw[List.getElem?_map,Array.getElem?_toList,hd]at hv
    cases hv
    exact Im d
  · exact Im v

theorem s8 {a b:ByteArray} (h:a.data.toList=b.data.toList):a=b:=by
  obtain ⟨⟨x⟩⟩:=a; obtain ⟨⟨y⟩⟩:=b; simp at h; subst h; rfl
theorem toList_data (a:ByteArray):a.toList=a.data.toList:=ByteArray.toList_eq a
theorem size_data (a:ByteArray):a.data.toList.length=a.size:=by rw[Array.length_toList]; rfl
theorem A0 {s:aj} (t:ByteArray) (e:t.data.toList=s) (hl:s.length≤mx):dK w h c (.str s) (.string t):=by
  subst e; rw[size_data]at hl; exact .str hl

theorem Me:∀a b:aj,Op.bytesLess a b=CL a b
  | [], []=>rfl
  | [],_::_=>rfl
  | _::_, []=>rfl
  | a::x,b::y=>by simp[Op.bytesLess,CL,Me x y]

def o0 (P:Program) (w:World) (h:az) (c:kA) (s:Sem Value) (k:V→Option R) (r:R):Prop:=∃v v',s.run P w = .ok v' w∧dK w h c v v'∧k v=some r

theorem Ri (a b:Int):(0≤a→0≤a.tmod b∧a.tmod b≤a)∧(a≤0→a≤a.tmod b∧a.tmod b≤0):=by
  have key:∀m:Nat,∀b:Int,0≤(m:Int).tmod b∧(m:Int).tmod b≤m:=fun m b=>by
    cases b with
    | ofNat n =>
      have:((m:Int).tmod (Int.ofNat n))=((m % n:Nat):Int):=rfl
      have h:=Nat.mod_le m n
      rw[this]; omega
    | negSucc n =>
      have:((m:Int).tmod (Int.negSucc n))=((m % (n+1):Nat):Int):=rfl
      have h:=Nat.mod_le m (n+1)
      rw[this]; omega
  constructor
  · intro h
    obtain ⟨m,rfl⟩:=Int.eq_ofNat_of_zero_le h
    exact key m b
  · intro h
    obtain ⟨m,hm⟩:=Int.eq_ofNat_of_zero_le (show 0 ≤ -a by omega)
    have e:a = -(m:Int):=by omega
    subst e
    rw[Int.neg_tmod]
    have:=key m b
    omega

theorem X9 {op:BinOp} {i j:IntKind} {a b:Int} (hb:j.has b) (t:TypeId) (x y:Operand) {k:V→Option R} {r:R} (hk:yd op (.int i a) (.int j b) k=some r) (ha:i.has a) :
    o0 P w h c (do eqGuard op t x y (.int i a) (.int j b); binOp op t (.int i a) (.int j b)) k r:=by
  have hg:∀op:BinOp,(eqGuard op t x y (.int i a) (.int j b)).run P w = .ok () w:=fun op=>by cases op <;> simp[eqGuard]
  unfold o0
  simp only[Sem.run_bind,hg,Result.andThen_ok]
  have hw:=fun n=>Mc i n
  by_cases hsh:op = .shl∨op = .shr
  · rcases hsh with rfl|rfl
    · simp only[yd]at hk
      obtain ⟨h0,hk⟩:=cB hk
      simp at h0
      exact ⟨_,_,by simp[binOp,Op.shift]; intro hn; omega, .int (hw _),hk⟩
    · simp only[yd]at hk
      obtain ⟨h0,hk⟩:=cB hk
      simp at h0
      refine ⟨_,_,by simp[binOp,Op.shift]; intro hn; omega, .int ?_,hk⟩
      have hp:(0:Int)<2 ^ (min b.toNat i.bits):=Int.pow_pos (by decide)
      have h1:(1:Int)≤2 ^ (min b.toNat i.bits):=hp
      unfold IntKind.has at ha ⊢
      have Ya:i.min≤0:=by cases i <;> simp[IntKind.min,IntKind.signed,IntKind.bits]
      have hmax:0≤i.max:=by cases i <;> simp[IntKind.max,IntKind.signed,IntKind.bits]
      rw[Int.fdiv_eq_ediv_of_nonneg _ (Int.le_of_lt hp)]
      constructor
      · rcases Int.lt_or_le a 0 with hn|hn
        · have:a≤a / 2 ^ (min b.toNat i.bits):=by
            refine (Int.le_ediv_iff_mul_le hp).2 ?_
            have h2:=Int.mul_nonneg (show 0 ≤ -a by omega) (show 0≤(2:Int) ^ (min b.toNat i.bits) - 1 by omega)
            rw[Int.mul_sub,Int.neg_mul]at h2
            omega
          omega
        · have:=Int.ediv_nonneg hn (Int.le_of_lt hp); omega
      · rcases Int.lt_or_le a 0 with hn|hn
        · have:=Int.ediv_neg_of_neg_of_pos hn hp; omega
        · have:=Int.ediv_le_self (2 ^ (min b.toNat i.bits)) hn; omega
  · have rN:(if i=j then (match op with
        | .add=>k (.int i (i.wrap (a+b)))
        | .sub=>k (.int i (i.wrap (a - b)))
        | .mul=>k (.int i (i.wrap (a*b)))
        | .quo=>cU (!decide (b=0)) (k (.int i (i.wrap (a.tdiv b))))
        | .rem=>cU (!decide (b=0)) (k (.int i (a.tmod b)))
        | .and=>k (.int i (i.wrap (BitVec.ofInt i.bits a &&& BitVec.ofInt i.bits b).toNat))
        | .or=>k (.int i (i.wrap (BitVec.ofInt i.bits a ||| BitVec.ofInt i.bits b).toNat))
        | .xor=>k (.int i (i.wrap (BitVec.ofInt i.bits a ^^^ BitVec.ofInt i.bits b).toNat))
        | .eql=>k (.bool (a==b))
        | .neq=>k (.bool (a != b))
        | .lss=>k (.bool (decide (a<b)))
        | .leq=>k (.bool (decide (a≤b)))
        | .gtr=>k (.bool (decide (a>b)))
        | .geq=>k (.bool (decide (a≥b)))
        | _=>none)else none)=some r:=by
      cases op <;> first|exact absurd (.inl rfl) hsh|exact absurd (.inr rfl) hsh|exact hk
    clear hk
    split at rN
    · rename_i ye
      subst ye
      cases op <;> simp only at rN <;> try (first|exact absurd (.inl rfl) hsh|exact absurd (.inr rfl) hsh|cases rN)
      case add=>exact ⟨_,_,by simp[binOp,Op.intArith], .int (hw _),rN⟩
      case sub=>exact ⟨_,_,by simp[binOp,Op.intArith], .int (hw _),rN⟩
      case mul=>exact ⟨_,_,by simp[binOp,Op.intArith], .int (hw _),rN⟩
      case quo =>
        obtain ⟨h0,rN⟩:=cB rN
        simp at h0
        exact ⟨_,_,by simp[binOp,Op.intDiv,h0], .int (hw _),rN⟩
      case rem =>
        obtain ⟨h0,rN⟩:=cB rN
        simp at h0
        refine ⟨_,_,by simp[binOp,Op.intDiv,h0], .int ?_,rN⟩
        unfold IntKind.has at ha ⊢
        have Ya:i.min≤0:=by cases i <;> simp[IntKind.min,IntKind.signed,IntKind.bits]
        have hmax:0≤i.max:=by cases i <;> simp[IntKind.max,IntKind.signed,IntKind.bits]
        have hb:=Ri a b
        rcases Int.lt_or_le a 0 with hn|hn
        · have:=hb.2 (by omega); omega
        · have:=hb.1 hn; omega
      case and=>exact ⟨_,_,by simp[binOp,Op.intBits], .int (hw _),rN⟩
      case or=>exact ⟨_,_,by simp[binOp,Op.intBits], .int (hw _),rN⟩
      case xor=>exact ⟨_,_,by simp[binOp,Op.intBits], .int (hw _),rN⟩
      case eql=>exact ⟨_,_,by simp[binOp,Op.intCmp], .bool _,rN⟩
      case neq=>exact ⟨_,_,by simp[binOp,Op.intCmp], .bool _,rN⟩
      case lss=>exact ⟨_,_,by simp[binOp,Op.intCmp], .bool _,rN⟩
      case leq=>exact ⟨_,_,by simp[binOp,Op.intCmp], .bool _,rN⟩
      case gtr=>exact ⟨_,_,by simp[binOp,Op.intCmp], .bool _,rN⟩
      case geq=>exact ⟨_,_,by simp[binOp,Op.intCmp], .bool _,rN⟩
    · cases rN
end

section
variable {P:Program} {tt:dO} {w:World} {h:az} {c:kA} {R:Type}

theorem Yb (a b:ByteArray):(a.toList==b.toList)=(a.data.toList==b.data.toList):=by rw[toList_data,toList_data]

theorem size_append (a b:ByteArray):(a++b).size=a.size+b.size:=ByteArray.size_append

theorem Yc {op:BinOp} {a b:ByteArray} (t:TypeId) (x y:Operand) {k:V→Option R} {r:R}
    (hk:yd op (.str a.data.toList) (.str b.data.toList) k=some r) :
    o0 P w h c (do eqGuard op t x y (.string a) (.string b); binOp op t (.string a) (.string b)) k r:=by
  have hg:∀op:BinOp,(eqGuard op t x y (.string a) (.string b)).run P w = .ok () w:=fun op=>by cases op <;> simp[eqGuard]
  have he:(a.toList==b.toList)=(a.data.toList==b.data.toList):=Yb a b
  have hl:Op.bytesLess a.toList b.toList=CL a.data.toList b.data.toList:=by rw[toList_data,toList_data,Me]
  unfold o0
  simp only[Sem.run_bind,hg,Result.andThen_ok]
  cases op <;> simp only[yd]at hk <;> try (first|cases hk)
  case add =>
    obtain ⟨h0,hk⟩:=cB hk
    simp at h0
    refine ⟨_, .string (a++b),?_,A0 (a++b) (by simp) (by simp; exact h0),hk⟩
    have:¬(((a.size+b.size:Nat):Int)>IntKind.i64.max):=by
      have e:IntKind.i64.max=9223372036854775807:=by decide
      rw[e]; omega
    simp only[binOp,Op.stringOp]
    rw[if_neg this]; rfl
  case eql=>exact ⟨_, .bool _,by simp only[binOp,Op.stringOp,he]; rfl, .bool _,hk⟩
  case neq=>exact ⟨_, .bool _,by simp only[binOp,Op.stringOp,he]; rfl, .bool _,hk⟩
  case lss=>exact ⟨_, .bool _,by simp only[binOp,Op.stringOp,hl]; rfl, .bool _,hk⟩
  case leq=>exact ⟨_, .bool _,by simp only[binOp,Op.stringOp,hl,he]; rfl, .bool _,hk⟩
  case gtr=>exact ⟨_, .bool _,by simp only[binOp,Op.stringOp,hl,he]; rfl, .bool _,hk⟩
  case geq=>exact ⟨_, .bool _,by simp only[binOp,Op.stringOp,hl]; rfl, .bool _,hk⟩

theorem VV (T:yb P tt) {op:BinOp} {a b:Bool} {t:TypeId} (ht:(tt.at t).d = .bool) (x y:Operand) {k:V→Option R} {r:R}
    (hk:yd op (.bool a) (.bool b) k=some r):o0 P w h c (do eqGuard op t x y (.bool a) (.bool b); binOp op t (.bool a) (.bool b)) k r:=by
  have hu:P.underlying t=some .bool:=eR T ht
  have hg:∀op:BinOp,(eqGuard op t x y (.bool a) (.bool b)).run P w = .ok () w:=fun op=>by cases op <;> simp[eqGuard]
  have hq:=run_equalIn_bool w 9999 t a b hu
  unfold o0
  simp only[Sem.run_bind,hg,Result.andThen_ok]
  cases op <;> simp only[yd,eqV]at hk <;> try (first|cases hk)
  case eql=>exact ⟨_, .bool (a==b),by simp[binOp,Op.equal,Op.maxDepth,hq], .bool _,hk⟩
  case neq=>exact ⟨_, .bool (!(a==b)),by simp[binOp,Op.equal,Op.maxDepth,hq], .bool _,hk⟩

theorem Yd (T:yb P tt) {op:BinOp} {cs ds:List V} {xs ys:Array Value} {t:TypeId} (ht:P4 (tt.at t) cs ds=true) (rx:cK w h c cs xs.toList) (ry:cK w h c ds ys.toList)
    (x y:Operand) {k:V→Option R} {r:R} (hk:yd op (.agg cs) (.agg ds) k=some r) :
    o0 P w h c (do eqGuard op t x y (.agg xs) (.agg ys); binOp op t (.agg xs) (.agg ys)) k r:=by
  cases op <;> simp only[yd,eqV]at hk <;> try (first|cases hk)
  all_goals
    split at hk
    · rename_i b hb
      obtain ⟨hg,hq⟩:=T.eqs t w h c cs ds xs ys b ht rx ry hb
      have hg':=fun op=>run_eqGuard_agg (P:=P) (w:=w) op t x y xs ys hg
      unfold o0
      simp only[Sem.run_bind,hg',Result.andThen_ok]
      first
        | exact ⟨_, .bool b,by simp only[binOp]; unfold Op.equal Op.maxDepth; simp[hq], .bool _,hk⟩
        | exact ⟨_, .bool (!b),by simp only[binOp]; unfold Op.equal Op.maxDepth; simp[hq], .bool _,hk⟩
    · cases hk

theorem HA (d:Nat) (t e:TypeId) (q:Option Addr) (hu:P.underlying t=some (.pointer e)) :
    (Op.equalIn (d+1) t (.pointer q) (.pointer none)).run P w = .ok q.isNone w:=by
  cases q <;> simp[Op.equalIn,run_underlying hu]

theorem Dy (t e:TypeId) (q:Option Addr) (hu:P.underlying t=some (.pointer e)) :
    (Op.equal t (.pointer q) (.pointer none)).run P w = .ok q.isNone w:=HA 9999 t e q hu

theorem Tg (T:yb P tt) {op:BinOp} {a b:V} {u v:Value} {t e:TypeId} (ht:(tt.at t).d = .ptr e) (ra:dK w h c a u) (rb:dK w h c b v) (x y:Operand)
    {k:V→Option R} {r:R} (hk:P3 op a b k=some r):o0 P w h c (do eqGuard op t x y u v; binOp op t u v) k r:=by
  have hu:P.underlying t=some (.pointer e):=eR T ht
  unfold P3 at hk
  split at hk
  · cases rb
    have key:∀r,S8 a=some r→∃q:Option Addr,u = .pointer q∧r=q.isNone:=by
      intro r hr
      unfold S8 at hr
      split at hr <;> try cases hr
      · cases ra; exact ⟨none,rfl,rfl⟩
      · cases ra with|ptr _ hv=>obtain ⟨b,hv,_⟩:=hv; exact ⟨_,hv,rfl⟩
      · cases ra; exact ⟨_,rfl,rfl⟩
      · cases ra with|tJ _ hv=>obtain ⟨b,hv,_⟩:=hv; exact ⟨_,hv,rfl⟩
    split at hk
    · rename_i q hq
      obtain ⟨q,rfl,rfl⟩:=key _ hq
      refine ⟨_, .bool q.isNone,?_, .bool _,hk⟩
      have hq:=Dy (w:=w) t e q hu
      cases q <;> simp[eqGuard,binOp,hq]
    · rename_i q hq
      obtain ⟨q,rfl,rfl⟩:=key _ hq
      refine ⟨_, .bool (!q.isNone),?_, .bool _,hk⟩
      have hq:=Dy (w:=w) t e q hu
      cases q <;> simp[eqGuard,binOp,hq]
    · cases hk
  · cases hk

theorem dK.P6 {t:Nat} {k:IntKind} {n:Int} {v:Value} (r:dK w h c (.FA t k n) v):v = .iface t (.int k n)∧k.has n:=by cases r; exact ⟨rfl, ‹_›⟩

theorem VW (T:yb P tt) {op:BinOp} {a b:V} {u v:Value} {t:TypeId} (ht:(tt.at t).d = .iface) (ra:dK w h c a u) (rb:dK w h c b v) (x y:Operand)
    {k:V→Option R} {r:R} (hk:ifK op y a b k=some r):o0 P w h c (do eqGuard op t x y u v; binOp op t u v) k r:=by
  obtain ⟨ms,hu⟩:=eR T ht
  have hq:∀(d:Nat) (u:Value),(u = .nilIface∨∃t x,u = .iface t x)→(Op.equalIn (d+1) t u .nilIface).run P w = .ok (match u with | .nilIface=>true|_=>false) w:=by
    rintro d u (rfl|⟨t',x',rfl⟩) <;> simp[Op.equalIn,run_underlying hu]
  have hq1:=hq 9999 .nilIface (.inl rfl)
  unfold ifK at hk
  split at hk <;> try (first|cases hk)
  · cases ra; cases rb
    refine ⟨_, .bool true,?_, .bool _,hk⟩
    simp[eqGuard,binOp,Op.equal,Op.maxDepth,hq1]
  · cases ra; cases rb
    refine ⟨_, .bool false,?_, .bool _,hk⟩
    simp[eqGuard,binOp,Op.equal,Op.maxDepth,hq1]
  · cases ra with
    | iface t' v' =>
      cases rb
      have VX:=hq 9999 (.iface t' v') (.inr ⟨_,_,rfl⟩)
      refine ⟨_, .bool false,?_, .bool _,hk⟩
      simp[eqGuard,binOp,Op.equal,Op.maxDepth,VX]
  · cases ra with
    | iface t' v' =>
      cases rb
      have VX:=hq 9999 (.iface t' v') (.inr ⟨_,_,rfl⟩)
      refine ⟨_, .bool true,?_, .bool _,hk⟩
      simp[eqGuard,binOp,Op.equal,Op.maxDepth,VX]
  · obtain ⟨rfl,_⟩:=ra.P6
    cases rb
    refine ⟨_, .bool false,?_, .bool _,hk⟩
    simp[eqGuard,binOp,Op.equal,Op.maxDepth,hq 9999 (.iface _ (.int _ _)) (.inr ⟨_,_,rfl⟩)]
  · obtain ⟨rfl,_⟩:=ra.P6
    cases rb
    refine ⟨_, .bool true,?_, .bool _,hk⟩
    simp[eqGuard,binOp,Op.equal,Op.maxDepth,hq 9999 (.iface _ (.int _ _)) (.inr ⟨_,_,rfl⟩)]

theorem Ty.sz_pos' (T:Ty):0<T.sz:=by cases T <;> simp[Ty.sz]

theorem CN (d:Nat) (t e:TypeId) (A:Option Addr) (n cap:Nat) (hu:P.underlying t=some (.slice e)) :
    (Op.equalIn (d+1) t (.slice A n cap) (.slice none 0 0)).run P w = .ok A.isNone w:=by
  cases A <;> simp[Op.equalIn,run_underlying hu]

theorem VY (T:yb P tt) {op:BinOp} {a b:V} {u v:Value} {t e:TypeId} (ht:(tt.at t).d = .slice e) (ra:dK w h c a u) (rb:dK w h c b v) (x y:Operand)
    {k:V→Option R} {r:R} (hk:slK op a b k=some r):o0 P w h c (do eqGuard op t x y u v; binOp op t u v) k r:=by
  have hu:P.underlying t=some (.slice e):=eR T ht
  unfold slK at hk
  split at hk
  · cases rb
    have key:∀(neg:Bool) (k:V→Option R),EU a (fun r=>k (L2 neg r))=some r→∃A n cap,u = .slice A n cap∧∃z,dK w h c z (.bool (bif neg then !A.isNone else A.isNone))∧k z=some r:=by
      intro neg k hk
      unfold EU at hk
      split at hk <;> try cases hk
      · cases ra; exact ⟨none,0,0,rfl, .bool (bif neg then false else true),by cases neg <;> exact .bool _,by cases neg <;> exact hk⟩
      · rename_i T l tk _
        cases ra with
        | @sl _ _ _ A cap f me s7 hc hr yv nk =>
          refine ⟨A,_,cap,rfl,?_⟩
          cases hl:l.isEmpty with
          | true=>rw[hl]at hk; exact ⟨.GK, .GK _,hk⟩
          | false =>
            rw[hl]at hk
            have Io:0<l.length:=List.length_pos_iff.2 (by intro e; rw[e]at hl; cases hl)
            obtain ⟨b,o,rfl,_⟩:=hc 0 0 Io (Ty.sz_pos' T)
            exact ⟨_, .bool _,hk⟩
      · rename_i i n _
        cases ra with
        | row hi hn hv =>
          obtain ⟨A,cap,rfl,hA,_⟩:=hv
          refine ⟨A,n,cap,rfl,?_⟩
          cases hl:decide (n=0)with
          | true=>rw[hl]at hk; exact ⟨.GK, .GK _,hk⟩
          | false =>
            rw[hl]at hk
            obtain ⟨q,rfl⟩:=hA (Nat.pos_of_ne_zero (by simpa using hl))
            exact ⟨_, .bool _,hk⟩
    split at hk
    · obtain ⟨A,n,cap,rfl,z,rz,hk⟩:=key false k hk
      refine ⟨_, .bool A.isNone,?_,rz,hk⟩
      have hq:=CN (w:=w) 9999 t e A n cap hu
      simp[eqGuard,binOp,Op.equal,Op.maxDepth,hq]
    · obtain ⟨A,n,cap,rfl,z,rz,hk⟩:=key true k hk
      refine ⟨_, .bool (!A.isNone),?_,rz,hk⟩
      have hq:=CN (w:=w) 9999 t e A n cap hu
      simp[eqGuard,binOp,Op.equal,Op.maxDepth,hq]
    · cases hk
  · cases hk
end

section
variable {P:Program} {tt:dO} {w:World} {h:az} {c:kA} {R:Type}

theorem Rj {v:V} {d:Value} (r:dK w h c v d) (h1:v.one=true):d.oneCell'=true∧d.cells = #[d]:=by
  cases r <;> simp_all [V.one,Value.oneCell',Value.cells]
  case ptr hi hv=>obtain ⟨b,rfl,_⟩:=hv; simp
  case tJ hi hv=>obtain ⟨b,rfl,_⟩:=hv; simp
  case row hi _ hv=>obtain ⟨A,cap,rfl,_,_⟩:=hv; simp
  case Ds hi _ hv=>obtain ⟨A,cap,rfl,_,_⟩:=hv; simp
  case map hi hv=>obtain ⟨b,rfl,_⟩:=hv; simp

def Th (ds:List Value):Prop:=∀d∈ds,d.oneCell'=true

theorem US {cs:List V} {ds:List Value} (r:cK w h c cs ds) (h1:cs.all V.one=true):Th ds:=by
  intro d hd
  obtain ⟨j,hj,rfl⟩:=List.mem_iff_getElem.1 hd
  have OX:j<cs.length:=by have:=r.1; omega
  have:=r.2 j cs[j] ds[j] (List.getElem?_eq_getElem OX) (List.getElem?_eq_getElem hj)
  exact (Rj this (by simpa using List.all_eq_true.1 h1 _ (List.getElem_mem OX))).1

theorem FG {v:V} {d:Value} (r:dK w h c v d) {cs:List V} (hf:OT v=some cs):cK w h c cs d.cells.toList∧Th d.cells.toList∧cs.all V.one=true:=by
  unfold OT at hf
  split at hf
  · split at hf
    · rename_i yf
      cases hf
      cases r with
      | @agg _ x hl hr =>
        have hr':cK w h c cs x.toList:=⟨by rw[hl,Array.length_toList],fun j v d hv hd=>hr j v d hv (by simpa using hd)⟩
        exact ⟨hr',US hr' yf,yf⟩
    · cases hf
  · split at hf
    · rename_i h1
      cases hf
      obtain ⟨ho,hc⟩:=Rj r h1
      rw[hc]
      refine ⟨.cons r .nil,fun d' hd => ?_,by simp[h1]⟩
      simp at hd; subst hd; exact ho
    · cases hf

theorem Ye (xs:List Value):∀(k off:Nat) (a:Array Value),off+k+xs.length≤a.size →
    ((xs.zipIdx k).foldl (fun cs (p:Value × Nat)=>cs.setIfInBounds (off+p.2) p.1) a).toList=a.toList.take (off+k)++xs++a.toList.drop (off+k+xs.length):=by
  induction xs with
  | nil=>intro k off a hs; simp
  | cons x xs ih =>
    intro k off a hs
    simp only[List.length_cons]at hs
    simp only[List.zipIdx_cons,List.foldl_cons]
    rw[ih (k+1) off _ (by simp; omega)]
    simp only[Array.toList_setIfInBounds]
    have lp:off+k<a.toList.length:=by simp; omega
    apply List.ext_getElem?
    intro i
    simp only[List.getElem?_append,List.length_take,List.length_set,List.getElem?_take,List.getElem?_drop,List.getElem?_set,List.length_cons,List.length_append,List.getElem?_cons]
    simp only[Array.length_toList]at lp ⊢
    by_cases h1:i<off+k
    · have e1:off+k≠i:=by omega
      have e2:i<off+(k+1):=by omega
      have e3:i<min (off+(k+1)) a.size:=by omega
      have e4:i<min (off+k) a.size:=by omega
      have e5:i<min (off+(k+1)) a.size+xs.length:=by omega
      have e6:i<min (off+k) a.size+(xs.length+1):=by omega
      simp[h1,e1,e2,e3,e4,e5,e6]
    · by_cases h2:i=off+k
      · subst h2
        have m1:min (off+(k+1)) a.size=off+k+1:=by omega
        have m2:min (off+k) a.size=off+k:=by omega
        have e2:off+k<off+(k+1):=by omega
        have e3:off+k<a.size:=by omega
        rw[m1,m2]
        simp[e2,e3]
        intro h7; omega
      · have m1:min (off+(k+1)) a.size=off+k+1:=by omega
        have m2:min (off+k) a.size=off+k:=by omega
        rw[m1,m2]
        by_cases h3:i<off+k+1+xs.length
        · have e1:¬i<off+k+1:=by omega
          have e2:¬i<off+k:=by omega
          have e4:i<off+k+(xs.length+1):=by omega
          have e5:¬(i - (off+k)=0):=by omega
          have e6:i - (off+k) - 1=i - (off+k+1):=by omega
          simp[h3,e1,e2,e4,e5,e6]
        · have e1:¬i<off+k+1:=by omega
          have e4:¬i<off+k+(xs.length+1):=by omega
          have e8:off+(k+1)+xs.length+(i - (off+k+1+xs.length))=off+k+(xs.length+1)+(i - (off+k+(xs.length+1))):=by omega
          simp[h3,e4,e8]
          intro hh; omega

theorem putCells (cells:Array Value) (d:Value) (off:Nat) (hs:off+d.cells.size≤cells.size) :
    (d.cells.zipIdx.foldl (fun cs (p:Value × Nat)=>cs.setIfInBounds (off+p.2) p.1) cells).toList=cells.toList.take off++d.cells.toList++cells.toList.drop (off+d.cells.size):=by
  have h:=Ye d.cells.toList 0 off cells (by simpa using hs)
  simp only[Nat.add_zero,Array.length_toList]at h
  rw[←h,←Array.foldl_toList,Array.toList_zipIdx]

theorem cK.len {cs:List V} {ds:List Value} (r:cK w h c cs ds):cs.length=ds.length:=r.1

theorem Ea (place:Nat→Option (Nat × Nat)):∀(parts:List (Nat × V)) (HB:List (Nat × Value)) (cs:List V) (cells:Array Value) (out:List V),
    (parts.map Prod.fst=HB.map Prod.fst)→cK w h c (parts.map Prod.snd) (HB.map Prod.snd)→cK w h c cs cells.toList →
    Hb cs (parts.map fun p=>(((place p.1).getD (0,1000000)).1,((place p.1).getD (0,1000000)).2,p.2))=some out→cells.size<1000000 →
    ∃JK,Instr.fill place cells HB=some JK∧cK w h c out JK.toList∧JK.size=cells.size
  | [],HB,cs,cells,out,he,_,rc,hf,_=>by
    cases HB with
    | nil=>simp[Hb]at hf; subst hf; exact ⟨cells,rfl,rc,rfl⟩
    | cons p ps=>simp at he
  | (i,v)::parts,HB,cs,cells,out,he,rp,rc,hf,hno=>by
    cases HB with
    | nil=>simp at he
    | cons p ps =>
      obtain ⟨i',d⟩:=p
      simp only[List.map_cons,List.cons.injEq]at he
      obtain ⟨rfl,he⟩:=he
      simp only[List.map_cons]at rp hf
      simp only[Hb]at hf
      split at hf
      · rename_i vs hvs
        split at hf
        · rename_i w6
          simp only[Bool.and_eq_true,decide_eq_true_eq]at w6
          obtain ⟨hlen,qL⟩:=w6
          obtain ⟨rv,_,_⟩:=FG rp.head hvs
          have hl1:=rv.len
          have Q2:=rc.len
          simp only[Array.length_toList]at hl1 Q2
          cases XP:place i with
          | none =>
            rw[XP]at qL
            simp at qL; omega
          | some q =>
            obtain ⟨off,size⟩:=q
            simp only[XP,Option.getD_some]at hlen qL hf
            have C7:=putCells cells d off (by omega)
            have Il:cK w h c (cs.take off++vs++cs.drop (off+size)) (d.cells.zipIdx.foldl (fun cs (p:Value × Nat)=>cs.setIfInBounds (off+p.2) p.1) cells).toList:=by
              rw[C7]
              have hd:d.cells.size=size:=by omega
              rw[hd]
              exact ((rc.take off).append rv).append (rc.drop _)
            obtain ⟨JK,h1,h2,h3⟩:=Ea place parts ps _ _ out he rp.tail Il hf (by rw[←Array.length_toList,C7]; simp; omega)
            refine ⟨JK,?_,h2,?_⟩
            · simp only[Instr.fill,XP]
              rw[if_neg]
              · exact h1
              · simp; omega
            · rw[h3,←Array.length_toList,C7]; simp; omega
        · cases hf
      · cases hf
end

section
variable {P:Program} {tt:dO} {w:World} {h:az} {c:kA} {R:Type}

theorem tL (b o n:Nat):(⟨b,o,none⟩:Addr).add n=⟨b,o+n,none⟩:=by unfold Addr.add; split <;> simp_all

theorem UT {T:Ty} {l:List T.den} {t:Tok} {A:Option Addr} {n cap:Nat} (r:dK w h c (.sl T l t) (.slice A n cap)) (lo hi:Nat) (h1:lo≤hi) (h2:hi≤l.length) :
    dK w h c (.sl T ((l.drop lo).take (hi - lo)) .no) (.slice (if cap=lo then A else A.map (·.add (lo*T.sz))) (hi - lo) (cap - lo)):=by
  cases r with
  | sl f me s7 hc hr yv nk =>
    have hlen:((l.drop lo).take (hi - lo)).length=hi - lo:=by simp; omega
    have key:=dK.sl (w:=w) (h:=h) (c:=c) (T:=T) (l:=(l.drop lo).take (hi - lo)) (t := .no) (A:=if cap=lo then A else A.map (·.add (lo*T.sz))) (cap:=cap - lo)
      (fun i j=>f (lo+i) j) (by omega) (by omega) ?_ ?_ (by simp) (by simp)
    · rw[hlen]at key; exact key
    · intro i j hi' hj
      rw[hlen]at hi'
      obtain ⟨b,o,hA,yr,Yf⟩:=hc (lo+i) j (by omega) hj
      rw[if_neg (by omega)]
      refine ⟨b,o+lo*T.sz,by rw[hA]; simp[tL],?_⟩
      have e:o+lo*T.sz+i*T.sz+j=o+(lo+i)*T.sz+j:=by rw[Nat.add_mul]; omega
      rw[e]
      exact ⟨yr,Yf⟩
    · intro i j x v hx hv
      rw[List.getElem?_take,List.getElem?_drop]at hx
      split at hx
      · exact hr _ j x v hx hv
      · cases hx

theorem JL {T:Ty} {l:List T.den} {t:Tok} {v:Value} (r:dK w h c (.sl T l t) v):∃A cap,v = .slice A l.length cap∧l.length≤cap∧cap≤mx:=by
  cases r with
  | sl f me s7 hc hr yv nk=>exact ⟨_,_,rfl,me,s7⟩

theorem Ty.Eb (T:Ty):0<T.sz:=by cases T <;> simp[Ty.sz]
theorem Ty.lU (T:Ty) (x:T.den):(T.cells x).length=T.sz:=by cases T <;> rfl

theorem BN {v:Option V} {v':Option Value} (hv:match v,v' with|none,none=>True|some a,some b=>dK w h c a b|_,_=>False) {d:Int} {k:Int→Option R} {r:R}
    (hk:FC v d k=some r):∃n,k n=some r∧((v'=none∧n=d)∨∃i,v'=some (.int i n)):=by
  unfold FC at hk
  split at hk
  · split at hv <;> simp_all
  · rename_i i n
    cases v' with
    | none=>exact hv.elim
    | some b=>exact ⟨n,hk, .inr ⟨_,by rw[(show dK w h c (.int i n) b from hv).jb.1]⟩⟩
  · cases hk

theorem Ip {ρ:Operand→V} {ρ':Operand→Value} (hρ:∀x,dK w h c (ρ x) (ρ' x)) (o:Option Operand) :
    match o.map ρ,o.map ρ' with|none,none=>True|some a,some b=>dK w h c a b|_,_=>False:=by
  cases o <;> simp[hρ]

theorem vz (isSlice:Bool) (len cap:Nat) (lo hi:Option Value) (l hh:Int) (hlo:(lo=none∧l=0)∨∃k,lo=some (.int k l))
    (hhi:(hi=none∧hh=len)∨∃k,hi=some (.int k hh)) (h0:0≤l) (h1:l≤hh) (h2:hh≤cap) :
    (Instr.sliceBounds isSlice len cap lo hi none).run P w = .ok (l.toNat,hh.toNat,cap) w:=by
  have hb:∀(k:IntKind) (n:Int) (y:Nat) (code:BoundsCode),0≤n→n≤y→(Instr.sliceBound (.int k n) y code).run P w = .ok n.toNat w:=by
    intro k n y code h0 h1
    simp[Instr.sliceBound,asIntOf,h0,h1]
  rcases hlo with ⟨rfl,rfl⟩|⟨k,rfl⟩ <;> rcases hhi with ⟨rfl,rfl⟩|⟨k',rfl⟩
  · simp[Instr.sliceBounds]
  · simp[Instr.sliceBounds,hb _ _ _ _ (show 0≤hh by omega) h2]
  · simp[Instr.sliceBounds,hb _ _ _ _ h0 h1]
  · simp only[Instr.sliceBounds]
    have e:((hh.toNat:Nat):Int)=hh:=by omega
    simp[hb _ _ _ _ (show 0≤hh by omega) h2,hb k l hh.toNat .sliceB h0 (by omega)]

theorem Mf {v:V} {d:Value} (r0:dK w h c v d) {k:Int→Option R} {r:R} (hk:idxOf v k=some r):∃i n,d = .int i n∧k n=some r:=by
  unfold idxOf at hk
  split at hk
  · exact ⟨_,_,r0.jb.1,hk⟩
  · cases hk

theorem KZ (T:yb P tt) {t:Nat} {a i:V} {a' i':Value} (ra:dK w h c a a') (ri:dK w h c i i') {k:V→Option R} {r:R}
    (hk:(idxOf i fun n =>
      match (generalizing:=false) (tt.at t).d,a with
      | .slice e, .sl T l _=>if T.sz=(tt.at e).size&&tt.ok e then cU (decide (0≤n)&&decide (n<l.length)) (k (.yc (T.cells (l.getD n.toNat T.cn))))else none
      | .slice e, .row id m=>if tt.ok e then cU (decide (0≤n)&&decide (n<m)) (k (.tJ id (tt.at e).size n.toNat 0))else none
      | .arr m e, .ptr id o=>if tt.ok e then cU (decide (0≤n)&&decide (n<m)) (k (.ptr id (o+n.toNat*(tt.at e).size)))else none
      | _,_=>none)=some r):o0 P w h c (Instr.indexAt t a' i') k r:=by
  obtain ⟨ik,n,rfl,GN⟩:=Mf ri hk
  clear hk
  split at GN
  · rename_i e T' l tk hd
    split at GN
    · rename_i w6
      simp only[Bool.and_eq_true,decide_eq_true_eq]at w6
      obtain ⟨qL,sv⟩:=w6
      obtain ⟨hb,hk⟩:=cB GN
      simp only[Bool.and_eq_true,decide_eq_true_eq]at hb
      have hu:P.underlying t=some (.slice e):=eR T hd
      have HC:=T.sizeOf (w:=w) sv
      cases ra with
      | @sl _ _ _ A cap f me s7 hc hr yv nk =>
        have Oq:n.toNat<l.length:=by omega
        have hxd:l.getD n.toNat T'.cn=l[n.toNat]:=by simp[List.getD,List.getElem?_eq_getElem Oq]
        have hx:l[n.toNat]? = some l[n.toNat]:=List.getElem?_eq_getElem Oq
        obtain ⟨b,o,rfl,_,_⟩:=hc n.toNat 0 Oq T'.Eb
        refine ⟨_, .pointer (some ⟨b,o+n.toNat*T'.sz,none⟩),?_,?_,hk⟩
        · simp[Instr.indexAt,asIntOf,run_underlying hu,hb.1,hb.2,HC,←qL,tL]
        · refine .yc (fun j=>f n.toNat j) (fun j hj => ?_) (fun j v hv=>hr n.toNat j _ v hx (by rw[hxd]at hv; exact hv))
          rw[Ty.lU]at hj
          obtain ⟨b',o',e',h1,h2⟩:=hc n.toNat j Oq hj
          cases e'
          exact ⟨h1,h2⟩
    · cases GN
  · rename_i e id m hd
    split at GN
    · rename_i sv
      obtain ⟨hb,hk⟩:=cB GN
      simp only[Bool.and_eq_true,decide_eq_true_eq]at hb
      have hu:P.underlying t=some (.slice e):=eR T hd
      have HC:=T.sizeOf (w:=w) sv
      cases ra with
      | row hi _ hv =>
        obtain ⟨A,cap,rfl,hA,hv⟩:=hv
        obtain ⟨a,rfl⟩:=hA (by omega)
        refine ⟨_, .pointer (some (a.add (n.toNat*(tt.at e).size))),?_,?_,hk⟩
        · simp[Instr.indexAt,asIntOf,run_underlying hu,hb.1,hb.2,HC]
        · refine .tJ hi ⟨_,rfl,fun T' l' he qL hj => ?_⟩
          obtain ⟨_,_,_,h3⟩:=hv T' l' he
          rcases h3 with ⟨_,h3,_⟩|⟨b,arr,el,fz,g1,g2,_,_⟩
          · cases h3
          · cases g2
            exact ⟨b,g1,by rw[qL,tL]; rfl⟩
    · cases GN
  · rename_i m e id o hd
    split at GN
    · rename_i sv
      obtain ⟨hb,hk⟩:=cB GN
      simp only[Bool.and_eq_true,decide_eq_true_eq]at hb
      have hu:P.underlying t=some (.array m e):=eR T hd
      have HC:=T.sizeOf (w:=w) sv
      cases ra with
      | ptr hi hv =>
        obtain ⟨b,rfl,hv⟩:=hv
        refine ⟨_, .pointer (some (Addr.add ⟨b,o,none⟩ (n.toNat*(tt.at e).size))),?_,?_,hk⟩
        · simp[Instr.indexAt,asIntOf,run_underlying hu,hb.1,hb.2,HC,Instr.sureAddr]
        · exact .ptr hi ⟨b,by rw[tL],hv⟩
    · cases GN
  · cases GN
end

section
variable {P:Program} {tt:dO} {w:World} {h:az} {c:kA} {R:Type}

theorem Rk {t off:Nat} {cs:List V} {k:V→Option R} {r:R} (hk:su tt t cs off k=some r):tt.ok t=true:=by
  unfold su at hk
  split at hk
  · assumption
  · cases hk

theorem K2 (T:yb P tt) {s f:Nat} {a:V} {a':Value} (ra:dK w h c a a') {k:V→Option R} {r:R}
    (hk:(match (generalizing:=false) (tt.at s).d with
    | .struct fs =>
      (match (generalizing:=false) fs[f]? with
       | some (off,t) =>
         if (tt.at t).size=0 || !tt.ok t then none else
         (match (generalizing:=false) a with
          | .ptr i o=>k (.ptr i (o+off))
          | .yc cs=>k (.yc (cs.drop off))
          | .tJ i n j o=>k (.tJ i n j (o+off))
          | _=>none)
       | none=>none)
    | _=>none)=some r):o0 P w h c (Instr.fieldAt s a' f) k r:=by
  split at hk
  · rename_i fs hd
    split at hk
    · rename_i off t hf
      split at hk
      · cases hk
      · rename_i Ig
        simp only[Bool.or_eq_true,decide_eq_true_eq,Bool.not_eq_true',not_or,Bool.not_eq_false]at Ig
        obtain ⟨qL,sv⟩:=Ig
        obtain ⟨F,fd,hu,hfd,rfl,rfl⟩:=Ik T hd hf
        have hs:=T.sizeOf (w:=w) sv
        have run:∀b o,(Instr.fieldAt s (.pointer (some ⟨b,o,none⟩)) f).run P w = .ok (.pointer (some ⟨b,o+fd.offset,none⟩)) w:=by
          intro b o
          simp[Instr.fieldAt,run_underlying hu,hfd,Instr.sureAddr,fieldPlace,hs,qL,tL]
        have run':∀a:Addr,(Instr.fieldAt s (.pointer (some a)) f).run P w = .ok (.pointer (some (a.add fd.offset))) w:=by
          intro a
          simp[Instr.fieldAt,run_underlying hu,hfd,Instr.sureAddr,fieldPlace,hs,qL]
        split at hk
        · rename_i ra
          cases ra with
          | ptr hi hv =>
            obtain ⟨b,rfl,hb⟩:=hv
            exact ⟨_,_,run _ _, .ptr hi ⟨b,rfl,hb⟩,hk⟩
        · rename_i ra
          cases ra with
          | yc g hc hr =>
            refine ⟨_,_,run _ _, .yc (fun j=>g (fd.offset+j)) (fun j hj => ?_) (fun j v hv => ?_),hk⟩
            · simp at hj
              have:=hc (fd.offset+j) (by omega)
              rw[Nat.add_assoc]; exact this
            · rw[List.getElem?_drop]at hv
              exact hr _ v hv
        · rename_i ra
          cases ra with
          | tJ hi hv =>
            obtain ⟨a,rfl,hv⟩:=hv
            refine ⟨_,_,run' a, .tJ hi ⟨_,rfl,fun T' l he hn hj => ?_⟩,hk⟩
            obtain ⟨b,hb,rfl⟩:=hv T' l he hn hj
            exact ⟨b,hb,by rw[tL,Nat.add_assoc]⟩
        · cases hk
    · cases hk
  · cases hk

theorem Rl (T:yb P tt) {s f:Nat} {a:V} {a':Value} (ra:dK w h c a a') {k:V→Option R} {r:R}
    (hk:(match (generalizing:=false) (tt.at s).d,a with
    | .struct fs, .agg cs=>(match (generalizing:=false) fs[f]? with|some (off,t)=>su tt t cs off k|none=>none)
    | _,_=>none)=some r):o0 P w h c (Instr.field s a' f) k r:=by
  split at hk
  · have hd := ‹(tt.at s).d = .struct _›
    have ra := ‹dK w h c (.agg _) a'›
    split at hk
    · rename_i off t hf
      obtain ⟨F,fd,hu,hfd,rfl,rfl⟩:=Ik T hd hf
      cases ra with
      | @agg _ x hl hr =>
        obtain ⟨v,v',h1,h2,h3⟩:=KA (x:=x) T ⟨by rw[hl,Array.length_toList],fun j v d hv hd=>hr j v d hv (by simpa using hd)⟩ hk
        exact ⟨v,v',by simp[Instr.field,run_underlying hu,hfd,asAgg,h1],h2,h3⟩
    · cases hk
  · cases hk

theorem VZ {s:ByteArray} {n:Int} (h0:0≤n) (h1:n<s.data.toList.length):(if 0≤n then s[n.toNat]? else none)=some (s.data.toList.getD n.toNat 0):=by
  have lp:n.toNat<s.size:=by rw[←size_data]; omega
  have e:s[n.toNat]? = some (s[n.toNat]'lp):=getElem?_pos s n.toNat lp
  rw[if_pos h0,e]
  have:s[n.toNat]'lp=s.data.toList.getD n.toNat 0:=by
    have hl:n.toNat<s.data.toList.length:=by omega
    simp only[List.getD,List.getElem?_eq_getElem hl,Option.getD_some]
    rfl
  rw[this]

theorem Rm (T:yb P tt) {t:Nat} {a i:V} {a' i':Value} (ra:dK w h c a a') (ri:dK w h c i i') {k:V→Option R} {r:R}
    (hk:(idxOf i fun n =>
    match (generalizing:=false) (tt.at t).d,a with
    | .string, .str s=>cU (decide (0≤n)&&decide (n<s.length)) (k (.int .u8 (s.getD n.toNat 0).toNat))
    | .arr m e, .agg cs=>cU (decide (0≤n)&&decide (n<m)) (su tt e cs (n.toNat*(tt.at e).size) k)
    | _,_=>none)=some r):o0 P w h c (Instr.index t a' i') k r:=by
  obtain ⟨ik,n,rfl,GN⟩:=Mf ri hk
  clear hk
  split at GN
  · have hd := ‹(tt.at t).d = .string›
    have ra := ‹dK w h c (.str _) a'›
    obtain ⟨hb,hk⟩:=cB GN
    simp only[Bool.and_eq_true,decide_eq_true_eq]at hb
    have hu:P.underlying t=some .string:=eR T hd
    obtain ⟨t',rfl,rfl,_⟩:=ra.kX
    refine ⟨_,_,?_, .int (Md _ (UInt8.toNat_lt _)),hk⟩
    have:=VZ hb.1 hb.2
    simp only[Instr.index,Sem.run_bind,asIntOf,Sem.run_pure,Result.andThen_ok,run_underlying hu,this]
  · have hd := ‹(tt.at t).d = .arr _ _›
    have ra := ‹dK w h c (.agg _) a'›
    obtain ⟨hb,hk⟩:=cB GN
    simp only[Bool.and_eq_true,decide_eq_true_eq]at hb
    have hu:=eR T hd
    simp only[TD.Is]at hu
    have sv:=Rk hk
    have hs:=T.sizeOf (w:=w) sv
    cases ra with
    | @agg _ x hl hr =>
      obtain ⟨v,v',h1,h2,h3⟩:=KA (x:=x) T ⟨by rw[hl,Array.length_toList],fun j v d hv hd=>hr j v d hv (by simpa using hd)⟩ hk
      exact ⟨v,v',by simp[Instr.index,asIntOf,run_underlying hu,hb.1,hb.2,hs,h1],h2,h3⟩
  · cases GN

theorem V0 {s:ByteArray} {l hh:Nat}:(s.extract l hh).data.toList=(s.data.toList.drop l).take (hh - l):=by
  simp[ByteArray.data_extract,List.extract]

theorem Rn (T:yb P tt) {t:Nat} {a:V} {a':Value} (ra:dK w h c a a') {ρ:Operand→V} {ρ':Operand→Value} (hρ:∀x,dK w h c (ρ x) (ρ' x)) (lo hi:Option Operand)
    {k:V→Option R} {r:R}
    (hk:(match (generalizing:=false) (tt.at t).d,a with
       | .string, .str s =>
         FC (hi.map ρ) s.length fun h=>FC (lo.map ρ) 0 fun l =>
         cU (decide (0≤h)&&decide (h≤s.length)) (cU (decide (0≤l)&&decide (l≤h)) (k (.str ((s.drop l.toNat).take (h.toNat - l.toNat)))))
       | .slice e, .sl T s _ =>
         if T.sz=(tt.at e).size&&tt.ok e then
         FC (lo.map ρ) 0 fun l =>
         (match (generalizing:=false) hi with
          | none=>cU (decide (0≤l)&&decide (l≤s.length)) (k (.sl T (s.drop l.toNat) .no))
          | some hi =>
            FC (some (ρ hi)) 0 fun h =>
            cU (decide (0≤h)&&decide (h≤s.length)) (cU (decide (0≤l)&&decide (l≤h)) (k (.sl T ((s.drop l.toNat).take (h.toNat - l.toNat)) .no))))
         else none
       | .slice e, .cJ =>
         if !tt.ok e then none else
         FC (hi.map ρ) 0 fun h=>FC (lo.map ρ) 0 fun l=>cU (decide (h=0)&&decide (l=0)) (k .cJ)
       | _,_=>none)=some r):o0 P w h c (Instr.sliceAt t a' (lo.map ρ') (hi.map ρ') none) k r:=by
  split at hk
  · have hd := ‹(tt.at t).d = .string›
    have ra := ‹dK w h c (.str _) a'›
    have hu:P.underlying t=some .string:=eR T hd
    obtain ⟨hh,hk,hhi⟩:=BN (Ip hρ hi) hk
    obtain ⟨l,hk,hlo⟩:=BN (Ip hρ lo) hk
    obtain ⟨hb,hk⟩:=cB hk
    obtain ⟨pQ,hk⟩:=cB hk
    simp only[Bool.and_eq_true,decide_eq_true_eq]at hb pQ
    obtain ⟨t',rfl,rfl,s7⟩:=ra.kX
    rw[size_data]at hb hhi
    have mZ:=vz (P:=P) (w:=w) false t'.size t'.size (lo.map ρ') (hi.map ρ') l hh hlo hhi pQ.1 pQ.2 hb.2
    refine ⟨_, .string (t'.extract l.toNat hh.toNat),?_,A0 _ V0 ?_,hk⟩
    · simp[Instr.sliceAt,Instr.slice,run_underlying hu,mZ]
    · simp; omega
  · have hd := ‹(tt.at t).d = .slice _›
    have ra := ‹dK w h c (.sl _ _ _) a'›
    rename_i s _ _ _
    split at hk
    · rename_i w6
      simp only[Bool.and_eq_true,decide_eq_true_eq]at w6
      obtain ⟨qL,sv⟩:=w6
      have hu:=eR T hd
      simp only[TD.Is]at hu
      have hs:=T.sizeOf (w:=w) sv
      obtain ⟨A,cap,rfl,me,s7⟩:=JL ra
      obtain ⟨l,hk,hlo⟩:=BN (Ip hρ lo) hk
      cases hi with
      | none =>
        obtain ⟨hb,hk⟩:=cB hk
        simp only[Bool.and_eq_true,decide_eq_true_eq]at hb
        have mZ:=vz (P:=P) (w:=w) true s.length cap (lo.map ρ') none l s.length hlo (.inl ⟨rfl,rfl⟩) hb.1 hb.2 (by omega)
        have hc:=UT ra l.toNat s.length (by omega) (Nat.le_refl _)
        rw[List.take_of_length_le (by simp)]at hc
        refine ⟨_,_,?_,hc,hk⟩
        simp[Instr.sliceAt,Instr.slice,run_underlying hu,mZ,hs,←qL]
      | some hi =>
        obtain ⟨hh,hk,hhi⟩:=BN (v':=some (ρ' hi)) (hρ hi) hk
        obtain ⟨hb,hk⟩:=cB hk
        obtain ⟨pQ,hk⟩:=cB hk
        simp only[Bool.and_eq_true,decide_eq_true_eq]at hb pQ
        have mZ:=vz (P:=P) (w:=w) true s.length cap (lo.map ρ') (some (ρ' hi)) l hh hlo (hhi.imp (fun x=>by cases x.1) id) pQ.1 pQ.2 (by omega)
        have hc:=UT ra l.toNat hh.toNat (by omega) (by omega)
        refine ⟨_,_,?_,hc,hk⟩
        simp[Instr.sliceAt,Instr.slice,run_underlying hu,mZ,hs,←qL]
    · cases hk
  · have hd := ‹(tt.at t).d = .slice _›
    have ra := ‹dK w h c .cJ a'›
    split at hk
    · cases hk
    · rename_i sv
      simp at sv
      have hu:=eR T hd
      simp only[TD.Is]at hu
      have hs:=T.sizeOf (w:=w) sv
      obtain ⟨hh,hk,hhi⟩:=BN (Ip hρ hi) hk
      obtain ⟨l,hk,hlo⟩:=BN (Ip hρ lo) hk
      obtain ⟨hb,hk⟩:=cB hk
      simp only[Bool.and_eq_true,decide_eq_true_eq]at hb
      obtain ⟨rfl,rfl⟩:=hb
      have mZ:=vz (P:=P) (w:=w) true 0 0 (lo.map ρ') (hi.map ρ') 0 0 hlo hhi (by omega) (by omega) (by omega)
      cases ra
      refine ⟨_, .slice none 0 0,?_, .cJ,hk⟩
      simp[Instr.sliceAt,Instr.slice,run_underlying hu,mZ,hs]
  · cases hk
end

section
variable {P:Program} {tt:dO} {w:World} {h:az} {c:kA} {R:Type}

theorem oS {s:Sem Value} {k:V→Option R} {r:R} (hm:o0 P w h c s k r) :
    ∃v v',((do pure (Next.value (←s))):Sem Next).run P w = .ok (.value v') w∧dK w h c v v'∧k v=some r:=by
  obtain ⟨v,v',h1,h2,h3⟩:=hm
  exact ⟨v,v',by simp[h1],h2,h3⟩

theorem Ro (T:yb P tt) {op:BinOp} {t:Nat} (x y:Operand) {a b:V} {a' b':Value} (ra:dK w h c a a') (rb:dK w h c b b') {k:V→Option R} {r:R}
    (hk:(match (generalizing:=false) a,b with
    | .agg a, .agg b=>if P4 (tt.at t) a b then yd op (.agg a) (.agg b) k else none
    | .bool a, .bool b=>(match (generalizing:=false) (tt.at t).d with | .bool=>yd op (.bool a) (.bool b) k|_=>none)
    | .int i a, .int j b=>yd op (.int i a) (.int j b) k
    | .str a, .str b=>yd op (.str a) (.str b) k
    | a,b=>(match (generalizing:=false) (tt.at t).d with | .ptr _=>P3 op a b k | .slice _=>slK op a b k | .iface=>ifK op y a b k|_=>none))=some r) :
    o0 P w h c (do eqGuard op t x y a' b'; binOp op t a' b') k r:=by
  split at hk
  · have ra := ‹dK w h c (.agg _) a'›
    have rb := ‹dK w h c (.agg _) b'›
    split at hk
    · rename_i heq
      cases ra with
      | @agg _ u hl hr =>
        cases rb with
        | @agg _ v XQ hr' =>
          exact Yd T heq ⟨by rw[hl,Array.length_toList],fun j v d hv hd=>hr j v d hv (by simpa using hd)⟩
            ⟨by rw[XQ,Array.length_toList],fun j v d hv hd=>hr' j v d hv (by simpa using hd)⟩ x y hk
    · cases hk
  · have ra := ‹dK w h c (.bool _) a'›
    have rb := ‹dK w h c (.bool _) b'›
    split at hk
    · rename_i hd
      rw[ra.Dx,rb.Dx]
      exact VV T hd x y hk
    · cases hk
  · have ra := ‹dK w h c (.int _ _) a'›
    have rb := ‹dK w h c (.int _ _) b'›
    rename_i i m j n _ _
    have e1:=ra.jb
    have e2:=rb.jb
    rw[e1.1,e2.1]
    exact X9 e2.2 t x y hk e1.2
  · have ra := ‹dK w h c (.str _) a'›
    have rb := ‹dK w h c (.str _) b'›
    obtain ⟨s,rfl,rfl,_⟩:=ra.kX
    obtain ⟨u,rfl,rfl,_⟩:=rb.kX
    exact Yc t x y hk
  · split at hk
    · rename_i hd
      exact Tg T hd ra rb x y hk
    · rename_i hd
      exact VY T hd ra rb x y hk
    · rename_i hd
      exact VW T hd ra rb x y hk
    · cases hk

theorem Ot (T:yb P tt) {s d:Nat} {a:V} {a':Value} (ra:dK w h c a a') {k:V→Option R} {r:R}
    (hk:(match (generalizing:=false) (tt.at d).d,a with
    | .int i, .int _ n=>k (.int i (i.wrap n))
    | .string, .str t=>(match (generalizing:=false) (tt.at s).d with | .string=>k (.str t)|_=>none)
    | _,_=>none)=some r)
    (hs:tt.ok s=true):o0 P w h c (convert s d a') k r:=by
  split at hk
  · have hd := ‹(tt.at d).d = .int _›
    have ra := ‹dK w h c (.int _ _) a'›
    have hu:=eR T hd
    simp only[TD.Is]at hu
    obtain ⟨rfl,_⟩:=ra.jb
    have hsu:=T.und s
    refine ⟨_,_,?_, .int (Mc _ _),hk⟩
    unfold dO.ok at hs
    cases V1:(tt.at s).d <;> rw[V1]at hsu hs <;> simp only[TD.Is]at hsu
    case struct fs=>obtain ⟨F,hF,_⟩:=hsu; simp[convert,run_underlying hu,run_underlying hF,Conv.intToInt]
    case func=>obtain ⟨x,y,z,hF⟩:=hsu; simp[convert,run_underlying hu,run_underlying hF,Conv.intToInt]
    case iface=>obtain ⟨x,hF⟩:=hsu; simp[convert,run_underlying hu,run_underlying hF,Conv.intToInt]
    case other=>cases hs
    all_goals simp[convert,run_underlying hu,run_underlying hsu,Conv.intToInt]
  · have hd := ‹(tt.at d).d = .string›
    have ra := ‹dK w h c (.str _) a'›
    have hu:=eR T hd
    simp only[TD.Is]at hu
    split at hk
    · have Yg := ‹(tt.at s).d = .string›
      have UU:=eR T Yg
      simp only[TD.Is]at UU
      have ra':=ra
      obtain ⟨t,rfl,rfl,hl⟩:=ra.kX
      exact ⟨_,_,by simp[convert,run_underlying hu,run_underlying UU],ra',hk⟩
    · cases hk
  · cases hk

theorem V2 (T:yb P tt) {t:Nat} {o:Nat} {a:V} {a':Value} (ra:dK w h c a a') {k:V→Option R} {r:R}
    (hk:(match (generalizing:=false) (tt.at t).d,a with
          | .string, .str s=>k (.int .i64 s.length)
          | .slice _, .sl _ l _=>k (.int .i64 l.length)
          | .slice _, .N8 n _=>k (.int .i64 n)
          | .slice _, .row _ n=>k (.int .i64 n)
          | .slice _, .cJ=>k (.int .i64 0)
          | _,_=>none)=some r):o0 P w h c (Builtin.len_ #[t] o #[a']) k r:=by
  have key:∀(e:TypeId) (A:Option Addr) (n m:Nat),P.underlying t=some (.slice e)→(Builtin.len_ #[t] o #[.slice A n m]).run P w = .ok (.int .i64 n) w:=by
    intro e A n m hu; simp[Builtin.len_,run_underlying hu,goInt]
  split at hk
  · have hu:P.underlying t=some .string:=eR T ‹(tt.at t).d = .string›
    have ra := ‹dK w h c (.str _) a'›
    obtain ⟨s,rfl,rfl,hl⟩:=ra.kX
    refine ⟨_, .int .i64 s.size,by simp[Builtin.len_,run_underlying hu,goInt],?_,hk⟩
    rw[size_data]; exact .int (D9 _ hl)
  · have hu:=eR T ‹(tt.at t).d = .slice _›
    simp only[TD.Is]at hu
    have ra := ‹dK w h c (.sl _ _ _) a'›
    obtain ⟨A,cap,rfl,h1,h2⟩:=JL ra
    exact ⟨_,_,key _ _ _ _ hu, .int (D9 _ (by omega)),hk⟩
  · have hu:=eR T ‹(tt.at t).d = .slice _›
    simp only[TD.Is]at hu
    have ra := ‹dK w h c (.N8 _ _) a'›
    cases ra with
    | N8 hn s7 f hc hr=>exact ⟨_,_,key _ _ _ _ hu, .int (D9 _ s7),hk⟩
  · have hu:=eR T ‹(tt.at t).d = .slice _›
    simp only[TD.Is]at hu
    have ra := ‹dK w h c (.row _ _) a'›
    cases ra with
    | row hi hn hv =>
      obtain ⟨A,cap,rfl,_,_⟩:=hv
      exact ⟨_,_,key _ _ _ _ hu, .int (D9 _ hn),hk⟩
  · have hu:=eR T ‹(tt.at t).d = .slice _›
    simp only[TD.Is]at hu
    have ra := ‹dK w h c .cJ a'›
    cases ra
    exact ⟨_,_,key _ _ 0 0 hu, .int (D9 0 (by unfold mx; omega)),hk⟩
  · cases hk

theorem Rp (T:yb P tt) (F:Array Field) (sv:∀f∈F.toList,tt.ok f.type=true) :
    (F.mapM (m:=Sem) fun f=>do pure (f.offset,←Go.sizeOf f.type)).run P w = .ok (F.map fun f=>(f.offset,(tt.at f.type).size)) w:=by
  rw[Array.mapM_eq_mapM_toList]
  have key:∀l:List Field,(∀f∈l,tt.ok f.type=true)→(l.mapM (m:=Sem) fun f=>do pure (f.offset,←Go.sizeOf f.type)).run P w = .ok (l.map fun f=>(f.offset,(tt.at f.type).size)) w:=by
    intro l
    induction l with
    | nil=>intro _; simp
    | cons f l ih =>
      intro h
      have hs:=T.sizeOf (w:=w) (h f (by simp))
      have:=ih fun g hg=>h g (by simp[hg])
      simp only[List.mapM_cons,Sem.run_bind,hs,Result.andThen_ok,Sem.run_pure,this,List.map_cons]
  simp only[Sem.run_map,key _ sv,Result.andThen_ok]
  congr 1
  apply Array.ext'
  simp

theorem mem_fs {fs:List (Nat × Nat)} {F:Array Field} (e:F.toList.map (fun f=>(f.offset,f.type))=fs) (yf:fs.all (fun f=>tt.ok f.2)=true):∀f∈F.toList,tt.ok f.type=true:=by
  intro f hf
  have:(f.offset,f.type)∈fs:=by rw[←e]; exact List.mem_map.2 ⟨f,hf,rfl⟩
  exact List.all_eq_true.1 yf _ this

theorem UW (T:yb P tt) {t:Nat} (h:tt.ok t=true):(tt.at t).zero.length=(tt.at t).size:=by
  obtain ⟨z,_,h2,h3⟩:=T.zero (w:=default) h
  have:=(h3 default [] ⟨fun _=>none,fun _=>0,⟨fun _ _=>False⟩⟩).1
  simp at this; omega

theorem OY {ρ:Operand→V} {ρ':Operand→Value} (hρ:∀x,dK w h c (ρ x) (ρ' x)) (parts:List (Nat × Operand)) :
    (parts.map fun p=>(p.1,ρ p.2)).map Prod.fst=(parts.map fun p=>(p.1,ρ' p.2)).map Prod.fst ∧
    cK w h c ((parts.map fun p=>(p.1,ρ p.2)).map Prod.snd) ((parts.map fun p=>(p.1,ρ' p.2)).map Prod.snd):=by
  refine ⟨by simp[Function.comp_def],?_⟩
  simp only[List.map_map]
  exact cK.map parts fun p _=>hρ p.2

theorem Rq (T:yb P tt) {t:Nat} {parts:Array (Nat × Operand)} {ρ:Operand→V} {ρ':Operand→Value} (hρ:∀x,dK w h c (ρ x) (ρ' x)) {k:V→Option R} {r:R}
    (hk:(match (generalizing:=false) (tt.at t).d with
    | .struct fs =>
      if !fs.all (fun f=>tt.ok f.2) || !tt.ok t||decide (1000000≤(tt.at t).zero.length)then none else
      (match (generalizing:=false) Hb (tt.at t).zero (parts.toList.map fun (i,x)=>((fs.getD i (0,0)).1,if i<fs.length then (tt.at (fs.getD i (0,0)).2).size else 1000000,ρ x))with
       | some cs=>k (.agg cs)|none=>none)
    | .arr _ e =>
      if !tt.ok e || !tt.ok t||decide (1000000≤(tt.at t).zero.length)then none else
      (match (generalizing:=false) Hb (tt.at t).zero (parts.toList.map fun (i,x)=>(i*(tt.at e).size,(tt.at e).size,ρ x))with
       | some cs=>k (.agg cs)|none=>none)
    | _=>none)=some r):o0 P w h c (Instr.build t (parts.map fun (i,x)=>(i,ρ' x))) k r:=by
  have Ec:=OY hρ parts.toList
  split at hk
  · rename_i fs hd
    split at hk
    · cases hk
    · rename_i Ig
      simp only[Bool.or_eq_true,Bool.not_eq_true',decide_eq_true_eq,not_or,Bool.not_eq_false,Nat.not_le]at Ig
      obtain ⟨⟨yf,sv⟩,hsm⟩:=Ig
      obtain ⟨F,hu,he⟩:=eR T hd
      obtain ⟨z,hz,hzs,Mg⟩:=T.zero (w:=w) sv
      split at hk
      · rename_i cs hf
        have hplaces:=Rp (w:=w) T F (mem_fs he yf)
        have hl:=UW T sv
        obtain ⟨JK,h1,h2,h3⟩:=Ea (w:=w) (h:=h) (c:=c) (fun i=>(F.map fun f=>(f.offset,(tt.at f.type).size))[i]?) (parts.toList.map fun p=>(p.1,ρ p.2)) (parts.toList.map fun p=>(p.1,ρ' p.2))
          (tt.at t).zero z.cells cs Ec.1 Ec.2 (Mg w h c) (by
            rw[←hf,List.map_map]
            congr 1
            apply List.map_congr_left
            intro p _
            obtain ⟨i,x⟩:=p
            subst he
            simp only[Function.comp,List.length_map,Array.length_toList,Array.getElem?_map]
            by_cases hi:i<F.size
            · simp[hi,List.getD]
            · simp[hi,List.getD]) (by omega)
        have Yh:dK w h c (.agg cs) (.agg JK) := .agg (by have:=h2.1; simpa using this) (fun j v d hv hd=>h2.2 j v d hv (by simpa using hd))
        refine ⟨.agg cs, .agg JK,?_,Yh,hk⟩
        simp only[Instr.build,Sem.run_bind,hz,Result.andThen_ok,run_underlying hu,hplaces,Array.toList_map]
        rw[h1]
        rfl
      · cases hk
  · rename_i n e hd
    split at hk
    · cases hk
    · rename_i Ig
      simp only[Bool.or_eq_true,Bool.not_eq_true',decide_eq_true_eq,not_or,Bool.not_eq_false,Nat.not_le]at Ig
      obtain ⟨⟨hoke,sv⟩,hsm⟩:=Ig
      have hu:=eR T hd
      simp only[TD.Is]at hu
      obtain ⟨z,hz,hzs,Mg⟩:=T.zero (w:=w) sv
      have hse:=T.sizeOf (w:=w) hoke
      split at hk
      · rename_i cs hf
        have hl:=UW T sv
        obtain ⟨JK,h1,h2,h3⟩:=Ea (w:=w) (h:=h) (c:=c) (fun i=>some (i*(tt.at e).size,(tt.at e).size)) (parts.toList.map fun p=>(p.1,ρ p.2)) (parts.toList.map fun p=>(p.1,ρ' p.2))
          (tt.at t).zero z.cells cs Ec.1 Ec.2 (Mg w h c) (by
            rw[←hf,List.map_map]
            congr 1) (by omega)
        have Yh:dK w h c (.agg cs) (.agg JK) := .agg (by have:=h2.1; simpa using this) (fun j v d hv hd=>h2.2 j v d hv (by simpa using hd))
        refine ⟨.agg cs, .agg JK,?_,Yh,hk⟩
        simp[Instr.build,hz,run_underlying hu,hse,h1]
      · cases hk
  · cases hk
end

section
variable {P:Program} {tt:dO} {w:World} {h:az} {c:kA} {R:Type}

theorem Yi {ρ:Operand→V} {ρ':Operand→Value} (hρ:∀x,dK w h c (ρ x) (ρ' x)) (l:List Operand):cK w h c (l.map ρ) (l.map ρ'):=cK.map l fun x _=>hρ x

theorem Rr {ρ:Operand→V} {ρ':Operand→Value} (hρ:∀x,dK w h c (ρ x) (ρ' x)) (l:Array Operand) :
    (l.toList.map ρ).length=(l.map ρ').size∧∀(j:Nat) (v:V) (d:Value),(l.toList.map ρ)[j]? = some v→(l.map ρ')[j]? = some d→dK w h c v d:=by
  have:=Yi hρ l.toList
  exact ⟨by simp,fun j v d hv hd=>this.2 j v d hv (by simpa using hd)⟩

theorem V3 {ts:Array TypeId} {o:Nat} {x y:V} {x' y':Value} (rx:dK w h c x x') (ry:dK w h c y y') {k:V→Option R} {r:R}
    (hk:(match (generalizing:=false) x,y with | .int i a, .int j b=>if i=j then k (.int i (min a b))else none|_,_=>none)=some r):o0 P w h c (Builtin.min_ ts o #[x',y']) k r:=by
  split at hk
  · rename_i i a j b'
    split at hk
    · rename_i ye
      subst ye
      obtain ⟨rfl,ha⟩:=rx.jb
      obtain ⟨rfl,hb⟩:=ry.jb
      refine ⟨_, .int i (min a b'),?_, .int (by unfold IntKind.has at *; omega),hk⟩
      rw[run_min_int2]
      congr 2
      split <;> omega
    · cases hk
  · cases hk

theorem V4 {ts:Array TypeId} {o:Nat} {x y:V} {x' y':Value} (rx:dK w h c x x') (ry:dK w h c y y') {k:V→Option R} {r:R}
    (hk:(match (generalizing:=false) x,y with | .int i a, .int j b=>if i=j then k (.int i (max a b))else none|_,_=>none)=some r):o0 P w h c (Builtin.max_ ts o #[x',y']) k r:=by
  split at hk
  · rename_i i a j b'
    split at hk
    · rename_i ye
      subst ye
      obtain ⟨rfl,ha⟩:=rx.jb
      obtain ⟨rfl,hb⟩:=ry.jb
      refine ⟨_, .int i (max a b'),?_, .int (by unfold IntKind.has at *; omega),hk⟩
      rw[run_max_int2]
      congr 2
      split <;> omega
    · cases hk
  · cases hk

theorem V5 (T:yb P tt) {o:Oper} {ρ:Operand→V} {ρ':Operand→Value} (hρ:∀x,dK w h c (ρ x) (ρ' x)) {k:V→Option R} {r:R}
    (hk:opP tt o.op ρ k=some r):∃v v',(execOp ρ' o).run P w = .ok (.value v') w∧dK w h c v v'∧k v=some r:=by
  obtain ⟨dst,op,type,pos,after,guard⟩:=o
  cases op <;> simp only[opP]at hk <;> try (first|cases hk)
  case move x=>exact ⟨_,_,by simp[execOp],hρ x,hk⟩
  case assign x=>exact ⟨_,_,by simp[execOp],hρ x,hk⟩
  case pick cc a b =>
    have rc:=hρ cc
    have ra:=hρ a
    have rb:=hρ b
    split at hk
    · rename_i t ht
      rw[ht]at rc
      have ec:=rc.Dx
      have run:(execOp ρ' ⟨dst, .pick cc a b,type,pos,after,guard⟩).run P w = .ok (.value (if t then ρ' a else ρ' b)) w:=by
        simp[execOp,ec,asBool]
      split at hk
      · rename_i u v hu hv
        rw[hu]at ra; rw[hv]at rb
        refine ⟨_,_,run,?_,hk⟩
        rw[ra.Dx,rb.Dx]
        cases t <;> exact .bool _
      · cases t
        · exact ⟨_,_,run,rb,hk⟩
        · exact ⟨_,_,run,ra,hk⟩
    · cases hk
  case nilCheck x =>
    have rx:=hρ x
    split at hk <;> try (first|cases hk)
    · rename_i i o hx
      rw[hx]at rx
      have rx':=rx
      cases rx with
      | ptr hi hv=>obtain ⟨b,hv,_⟩:=hv; exact ⟨_,ρ' x,by simp[execOp,hv],rx',hk⟩
    · rename_i cs hx
      rw[hx]at rx
      have rx':=rx
      generalize hy:ρ' x=y at rx
      cases rx with
      | yc f hc hr=>exact ⟨_,ρ' x,by simp[execOp,hy],rx',hk⟩
    · rename_i i n j o hx
      rw[hx]at rx
      have rx':=rx
      cases rx with
      | tJ hi hv=>obtain ⟨b,hv,_⟩:=hv; exact ⟨_,ρ' x,by simp[execOp,hv],rx',hk⟩
    · rename_i f a b hx
      rw[hx]at rx
      have rx':=rx
      generalize hy:ρ' x=y at rx
      cases rx with
      | func ha hb hra hrb=>exact ⟨_,ρ' x,by simp[execOp,hy],rx',hk⟩
  case binOp op t x y ty =>
    exact oS (Ro T x y (hρ x) (hρ y) hk)
  case unOp op t x =>
    have rx:=hρ x
    split at hk <;> try (first|cases hk)
    · rename_i i n hx
      rw[hx]at rx
      exact ⟨_, .int i (i.wrap (0 - n)),by simp[execOp,Op.unary,rx.jb.1,Op.intArith], .int (Mc _ _),hk⟩
    · rename_i b hx
      rw[hx]at rx
      exact ⟨_,_,by simp[execOp,Op.unary,rx.Dx], .bool _,hk⟩
  case convert s d x =>
    split at hk
    · cases hk
    · rename_i hs
      exact oS (Ot T (hρ x) hk (by simpa using hs))
  case makeInterface t x =>
    have rx:=hρ x
    split at hk <;> try (first|cases hk)
    rename_i k0 i n hd hx
    rw[hx]at rx
    have hu:=eR T hd
    simp only[TD.Is]at hu
    exact ⟨_, .iface t (.int i n),by simp[execOp,Instr.makeInterface,run_underlying hu,rx.jb.1], .FA rx.jb.2,hk⟩
  case fieldAddr s x f=>exact oS (K2 T (hρ x) hk)
  case field s x f=>exact oS (Rl T (hρ x) hk)
  case indexAddr t x i=>exact oS (KZ T (hρ x) (hρ i) hk)
  case index t x i=>exact oS (Rm T (hρ x) (hρ i) hk)
  case slice t x lo hi mx =>
    split at hk
    · cases hk
    · exact oS (Rn T (hρ x) hρ lo hi hk)
  case makeFunc fn first cap =>
    cases fn <;> simp only at hk <;> try (first|cases hk)
    rename_i f
    obtain ⟨l1,r1⟩:=Rr hρ first
    obtain ⟨l2,r2⟩:=Rr hρ cap
    exact ⟨_, .func (.func f) (first.map ρ') (cap.map ρ'),by simp[execOp,Instr.makeFunc], .func l1 l2 r1 r2,hk⟩
  case extract t i =>
    have rt:=hρ t
    split at hk <;> try (first|cases hk)
    rename_i vs ht
    rw[ht]at rt
    split at hk
    · rename_i v hv
      generalize hy:ρ' t=y at rt
      cases rt with
      | @tuple _ x hl hr =>
        have lp:i<vs.length:=(List.getElem?_eq_some_iff.1 hv).1
        have hx:x[i]? = some (x[i]'(by omega)):=Array.getElem?_eq_getElem (by omega)
        exact ⟨v,_,by simp[execOp,hy,Instr.extract,hx],hr i v _ hv hx,hk⟩
    · cases hk
  case build t parts=>exact oS (Rq T hρ hk)
  case call cl =>
    obtain ⟨callee,args,argTypes⟩:=cl
    simp only at hk
    split at hk <;> try (first|cases hk)
    · rename_i x ha
      obtain rfl:args = #[x]:=by cases args; simp_all
      split at hk <;> try (first|cases hk)
      rename_i t ht
      obtain rfl:argTypes = #[t]:=by cases argTypes; simp_all
      have:=oS (V2 (P:=P) (o:=type) T (hρ x) hk)
      simpa [execOp,resolve,invoke,builtin]using this
    · rename_i x y ha
      obtain rfl:args = #[x,y]:=by cases args; simp_all
      have:=oS (V3 (P:=P) (ts:=argTypes) (o:=type) (hρ x) (hρ y) hk)
      simpa [execOp,resolve,invoke,builtin]using this
    · rename_i x y ha
      obtain rfl:args = #[x,y]:=by cases args; simp_all
      have:=oS (V4 (P:=P) (ts:=argTypes) (o:=type) (hρ x) (hρ y) hk)
      simpa [execOp,resolve,invoke,builtin]using this
end
end Go.ay

namespace Go.ay
open Go.RowKit Go.MapKept

section
variable {P:Program} {tt:dO} {w w':World} {h:az} {c:kA} {R:Type}

def Iq (K T:Ty) (k:K.den):List (K.den × T.den)→List MapEntry→Nat→Option (Nat × Value)
  | x::l,e::es,i=>if yo K k x.1 then some (i,e.val)else Iq K T k l es (i+1)
  | _,_,_=>none

theorem JM {K T:Ty} {k:K.den}:∀(l:List (K.den × T.den)) (es:List MapEntry) (i:Nat),es.length=l.length →
    (Iq K T k l es i=none∧D4 K T k l=false∧nJ K T k l=T.cn∧∀v,wW K T k v l=l ++ [(k,v)]) ∨
    ∃j x e,Iq K T k l es i=some (i+j,e.val)∧l[j]? = some x∧es[j]? = some e∧yo K k x.1=true∧D4 K T k l=true∧nJ K T k l=x.2∧∀v,wW K T k v l=l.set j (k,v)
  | [], [],_,_ => .inl ⟨rfl,rfl,rfl,fun _=>rfl⟩
  | [],_::_,_,hl=>by cases hl
  | _::_, [],_,hl=>by cases hl
  | x::l,e::es,i,hl=>by
    cases hk:yo K k x.1 with
    | true=>exact .inr ⟨0,x,e,by simp[Iq,hk],rfl,rfl,hk,by simp[D4,hk],by simp[nJ,hk],fun v=>by simp[wW,hk]⟩
    | false =>
      rcases JM (T:=T) (k:=k) l es (i+1) (by simpa using hl)with ⟨h1,h2,h3,h4⟩|⟨j,y,f,h1,h2,h3,h4,h5,h6,h7⟩
      · exact .inl ⟨by simp[Iq,hk,h1],by simp[D4,hk,h2],by simp[nJ,hk,h3],fun v=>by simp[wW,hk,h4 v]⟩
      · exact .inr ⟨j+1,y,f,by simp[Iq,hk,h1]; omega,by simpa using h2,by simpa using h3,h4,by simp[D4,hk,h5],by simp[nJ,hk,h6],fun v=>by simp[wW,hk,h7 v]⟩

theorem UX {kx:aj} {d:Value} (r:dK w h c (N9 .str kx) d):∃s,d = .string s∧s.data.toList=kx:=by
  obtain ⟨s,h1,h2,_⟩:=dK.kX (s:=kx) r
  exact ⟨s,h1,h2⟩
theorem UY {k:IntKind} {n:Int} {d:Value} (r:dK w h c (N9 (.int k) n) d):d = .int k n:=(dK.jb (n:=n) r).1

theorem V6 {a b:ByteArray}:(a==b)=(a.data.toList==b.data.toList):=by
  rw[Bool.eq_iff_iff]
  rw[bytes_beq]
  simp only[beq_iff_eq]
  exact ⟨fun e=>by rw[e],fun e=>s8 e⟩

theorem Ir {kt:Nat} (T:yb P tt) {K:Ty} (hk:wX tt kt K=true) {kx ky:K.den} {d e:Value} (rk:dK w h c (N9 K kx) d) (re:dK w h c (N9 K ky) e) :
    ∃u,P.underlying kt=some u∧IsKey u d∧IsKey u e∧Instr.sameNow u d e=some (yo K kx ky)∧(yo K kx ky=true→e=d):=by
  unfold wX at hk
  split at hk
  · split at hk
    · rename_i hd
      have hu:P.underlying kt=some .string:=eR T hd
      obtain ⟨s,rfl,hs⟩:=UX rk
      obtain ⟨t,rfl,ht⟩:=UX re
      subst hs; subst ht
      refine ⟨_,hu,by simp[IsKey],by simp[IsKey],?_,fun he => ?_⟩
      · simp only[Instr.sameNow,yo,V6]
      · have:s.data.toList=t.data.toList:=by simpa [yo]using he
        rw[s8 this]
    · cases hk
  · rename_i k
    split at hk
    · rename_i k' hd
      have e:k'=k:=by simpa using hk
      subst e
      have hu:P.underlying kt=some (.int k'):=eR T hd
      have e1:=UY rk
      have e2:=UY re
      subst e1; subst e2
      refine ⟨_,hu,by simp[IsKey],by simp[IsKey],?_,fun he => ?_⟩
      · simp[Instr.sameNow,yo]
      · have h' : @BEq.beq Int _ kx ky=true:=he
        have:kx=ky := @eq_of_beq Int _ _ kx ky h'
        rw[this]
    · cases hk
  · cases hk

theorem Mh {kt:Nat} (T:yb P tt) {K V':Ty} (hk:wX tt kt K=true) {kx:K.den} {d:Value} (rk:dK w h c (N9 K kx) d) {u:TypeDesc} (hu:P.underlying kt=some u) :
    ∀(l:List (K.den × V'.den)) (es:List MapEntry) (i:Nat),es.length=l.length→(∀(j:Nat) (x:K.den × V'.den) (e:MapEntry),l[j]? = some x→es[j]? = some e→dK w h c (N9 K x.1) e.key) →
      Instr.findNow u d es i=some (Iq K V' kx l es i)
  | [], [],_,_,_=>rfl
  | [],_::_,_,hl,_=>by cases hl
  | _::_, [],_,hl,_=>by cases hl
  | x::l,e::es,i,hl,hr=>by
    obtain ⟨u',hu',_,_,hs,_⟩:=Ir T hk rk (hr 0 x e rfl rfl)
    rw[hu]at hu'; cases hu'
    have ih:=Mh T hk rk hu l es (i+1) (by simpa using hl) fun j y f hy hf=>hr (j+1) y f (by simpa using hy) (by simpa using hf)
    simp only[Instr.findNow,hs]
    cases hb:yo K kx x.1 with
    | true=>simp[Iq,hb]
    | false=>simp[Iq,hb,ih]

theorem Mi {kt:Nat} {K:Ty} (hk:wX tt kt K=true):K.one=true∧Ly K=true:=by
  cases K <;> first|exact ⟨rfl,rfl⟩|(simp[wX]at hk)
theorem Mj {kt:Nat} {K:Ty} (hk:Ap tt kt K=true):K.one=true:=by
  cases K <;> first|rfl|(simp[Ap]at hk)

theorem V7 {k:IntKind} {v:V} {x:Int} (h:LV k [v]=some x):v = .int k x:=by
  unfold LV at h
  split at h
  · rename_i e
    simp only[List.cons.injEq,and_true]at e
    split at h
    · rename_i e2; cases h; subst e2; exact e
    · cases h
  · cases h
theorem Ti {v:V} {x:Bool} (h:Ii [v]=some x):v = .bool x:=by
  unfold Ii at h
  split at h
  · rename_i e
    simp only[List.cons.injEq,and_true]at e
    cases h; exact e
  · cases h
theorem V8 {v:V} {x:aj} (h:LW [v]=some x):v = .str x:=by
  unfold LW at h
  split at h
  · rename_i e
    simp only[List.cons.injEq,and_true]at e
    cases h; exact e
  · cases h

theorem Tj {K:Ty} {v:V} {x:K.den} (hx:elD K v=some x) (ho:K.one=true):v=N9 K x:=by
  have hd:K.dec [v]=some x:=by
    unfold elD at hx
    split at hx <;> simp only[ho,cond_true]at hx
    · cases hx
    · exact hx
  cases K <;> simp only[Ty.one]at ho <;> try (first|cases ho)
  · exact V7 hd
  · exact Ti hd
  · exact V8 hd

theorem ok_fits {vt:Nat} {V':Ty} (hv:Ap tt vt V'=true):tt.ok vt=true∧tt.isAgg vt=false:=by
  unfold Ap at hv
  unfold dO.ok dO.isAgg
  split at hv
  · split at hv
    · rename_i hd _; rw[hd]; exact ⟨rfl,rfl⟩
    · cases hv
  · split at hv
    · rename_i hd _; rw[hd]; exact ⟨rfl,rfl⟩
    · cases hv
  · cases hv

theorem V9 {z:Value} (h:z.oneCell'=true):z.cells.toList = [z]:=by
  cases z <;> simp_all [Value.oneCell',Value.cells]

theorem Rs (T:yb P tt) {vt:Nat} {V':Ty} (hv:Ap tt vt V'=true):∃z,(zeroValue vt).run P w = .ok z w∧dK w h c (N9 V' V'.cn) z:=by
  obtain ⟨sv,hag⟩:=ok_fits hv
  obtain ⟨i,z,hi,hs,hby,hz,hzs,hr⟩:=T.info vt sv
  have h1:=T.ones vt sv i z hi hz
  rw[hag]at h1
  have h3:=hr w h c
  rw[V9 h1]at h3
  refine ⟨z,by simp[Go.zeroValue,typeInfo,hi,hz],?_⟩
  unfold Ap at hv
  split at hv
  · split at hv
    · rename_i hd hz'
      rw[hz']at h3
      exact h3.head
    · cases hv
  · split at hv
    · rename_i hd hz'
      have e:_=_:=of_decide_eq_true hv
      subst e
      rw[hz']at h3
      exact h3.head
    · cases hv
  · cases hv

theorem P7 (T:yb P tt) (wf:WF w h c) {t kt vt i:Nat} {K V':Ty} {l:List (K.den × V'.den)} (ht:(tt.at t).d = .map kt vt) {m d:Value} (rm:dK w h c (.map i) m) (hm:h.at i = .vL K V' l)
    (hf:(wX tt kt K&&Ap tt vt V')=true) {v:V} (rk:dK w h c v d) {kx:K.den} (hx:elD K v=some kx) (ok:Bool) :
    ∃r,(Instr.lookup t m d ok).run P w = .ok r w∧dK w h c (bif ok then .tuple [N9 V' (nJ K V' kx l), .bool (D4 K V' kx l)]else N9 V' (nJ K V' kx l)) r:=by
  simp only[Bool.and_eq_true]at hf
  obtain ⟨Rt,hf2⟩:=hf
  have hi:i<h.length:=by
    unfold az.at at hm
    rcases Nat.lt_or_ge i (List.length h)with hi|hi
    · exact hi
    · simp[List.getD,List.getElem?_eq_none hi]at hm
  have ho:=wf.obj i hi
  rw[hm]at ho
  obtain ⟨b,es,clock,g1,g2,g3,g4,g5,g6⟩:=ho
  cases rm with
  | map hu hv =>
    obtain ⟨b',rfl,pQ⟩:=hv
    have:=pQ (by rw[hm]; simp)
    rw[g1]at this; cases this
    have hut:P.underlying t=some (.map kt vt):=eR T ht
    have e:=Tj hx (Mi Rt).1
    subst e
    have hl:es.toList.length=l.length:=by simpa using g5
    have hr:∀(j:Nat) (x:K.den × V'.den) (e:MapEntry),l[j]? = some x→es.toList[j]? = some e→dK w h c (N9 K x.1) e.key:=fun j x e hx he=>(g6 j x e hx (by simpa using he)).1
    obtain ⟨z,hz,rz⟩:=Rs (w:=w) (h:=h) (c:=c) T hf2
    have hkey:∃u,P.underlying kt=some u∧IsKey u d:=by
      obtain ⟨u,q1,q2,_⟩:=Ir T Rt rk rk
      exact ⟨u,q1,q2⟩
    obtain ⟨u,hu',hik⟩:=hkey
    have Iu:=run_findKey (w:=w) hu' (Mh T Rt rk hu' l es.toList 0 hl hr)
    have Yj:=run_checkKey (w:=w) hu' hik es.isEmpty 9999
    have C8:=Go.MapKept.run_getObj_map (P:=P) g2
    rcases JM (K:=K) (T:=V') (k:=kx) l es.toList 0 hl with ⟨h1,h2,h3,_⟩|⟨j,x,e,h1,h2,h3,h4,h5,h6,_⟩
    · rw[h1]at Iu
      rw[h2,h3]
      refine ⟨if ok then .tuple #[z, .bool false]else z,?_,?_⟩
      · simp[Instr.lookup,run_underlying hut,C8,Yj,Iu,hz]
      · cases ok with
        | true =>
          refine .tuple rfl fun j v d hv hd => ?_
          match j,hv,hd with
          | 0,hv,hd=>simp at hv hd; subst hv; subst hd; exact rz
          | 1,hv,hd=>simp at hv hd; subst hv; subst hd; exact .bool _
          | j+2,hv,_=>simp at hv
        | false=>exact rz
    · rw[h1]at Iu
      rw[h5,h6]
      have re:=(g6 j x e h2 (by simpa using h3)).2
      refine ⟨if ok then .tuple #[e.val, .bool true]else e.val,?_,?_⟩
      · simp[Instr.lookup,run_underlying hut,C8,Yj,Iu]
      · cases ok with
        | true =>
          refine .tuple rfl fun j v d hv hd => ?_
          match j,hv,hd with
          | 0,hv,hd=>simp at hv hd; subst hv; subst hd; exact re
          | 1,hv,hd=>simp at hv hd; subst hv; subst hd; exact .bool _
          | j+2,hv,_=>simp at hv
        | false=>exact re
end
end Go.ay

namespace Go.ay
open Go.RowKit

section
variable {P:Program} {tt:dO} {w:World} {h:az} {c:kA} {R:Type}

def sw (w:World) (b o:Nat) (ds:List Value):Prop:=∀(j:Nat) (d:Value),ds[j]? = some d→w.cell? ⟨b,o+j,none⟩=some d

theorem zq (T:yb P tt) {t b o off:Nat} {cs:List V} {ds:List Value} (hr:cK w h c cs ds) (hc:sw w b o ds) {k:V→Option R} {r:R} (hk:su tt t cs off k=some r) :
    o0 P w h c (loadVar t ⟨b,o+off,none⟩) k r:=by
  have sv:=Rk hk
  unfold su at hk
  rw[if_pos sv]at hk
  split at hk
  · rename_i Mb
    split at hk
    · rename_i qL
      have hlen:((ds.drop off).take (tt.at t).size).length=(tt.at t).size:=by have:=hr.1; simp; omega
      have Il:=(hr.drop off).take (tt.at t).size
      have C7:=run_loadCells_list (P:=P) w ⟨b,o+off,none⟩ ((ds.drop off).take (tt.at t).size) (fun j v hv=>by
        rw[List.getElem?_take]at hv
        split at hv
        · rw[List.getElem?_drop]at hv
          rw[tL,Nat.add_assoc]
          exact hc _ v hv
        · cases hv)
      rw[hlen]at C7
      refine ⟨_, .agg ((ds.drop off).take (tt.at t).size).toArray,?_, .agg (by have:=Il.1; simpa using this) (fun j v d hv hd=>Il.2 j v d hv (by simpa using hd)),hk⟩
      simp[loadVar,T.isAgg sv,Mb,T.sizeOf sv,C7]
    · cases hk
  · rename_i Mb
    split at hk
    · rename_i v hv
      have lp:off<cs.length:=(List.getElem?_eq_some_iff.1 hv).1
      have hd:ds[off]? = some (ds[off]'(by have:=hr.1; omega)):=List.getElem?_eq_getElem _
      refine ⟨v,_,?_,hr.2 off v _ hv hd,hk⟩
      simp[loadVar,T.isAgg sv,Mb,hc off _ hd]
    · cases hk

theorem az.gM {i:Nat} {o:ca} (e:h.at i=o) (hl:o ≠ .dead):i<h.length:=by
  unfold az.at at e
  rcases Nat.lt_or_ge i (List.length h)with hi|hi
  · exact hi
  · simp[List.getD,List.getElem?_eq_none hi]at e
    exact absurd e.symm hl

theorem foldl_push (ns:List Int):∀s:ByteArray,(ns.foldl (fun (r:ByteArray) n=>r.push (UInt8.ofNat n.toNat)) s).data.toList=s.data.toList++ns.map fun n=>UInt8.ofNat n.toNat:=by
  induction ns with
  | nil=>intro s; simp
  | cons n ns ih=>intro s; simp only[List.foldl_cons]; rw[ih]; simp[ByteArray.push]

theorem Wa (wf:WF w h c) {i:Nat} {T':Ty} {l:List T'.den} (he:h.at i = .row T' l) {j:Nat} (hj:j<l.length) :
    ∃b ds,c.s5 i=some b∧sw w b (c.off i+j*T'.sz) ds∧cK w h c (T'.cells l[j]) ds:=by
  have hi:=az.gM he (by simp)
  have ho:=wf.obj i hi
  rw[he]at ho
  rcases ho with ⟨_,rfl⟩|⟨b,arr,e,fz,h1,h2,h3,h4,h5⟩
  · simp at hj
  · have hlen:=T'.lU l[j]
    have hm:(j+1)*T'.sz≤l.length*T'.sz:=Nat.mul_le_mul_right _ hj
    rw[Nat.add_mul]at hm
    refine ⟨b,(arr.toList.drop (c.off i+j*T'.sz)).take T'.sz,h1,fun x d hd => ?_,?_,fun x v d hv hd => ?_⟩
    · rw[List.getElem?_take]at hd
      split at hd
      · rw[List.getElem?_drop]at hd
        rw[cell_of_row w b _ arr e fz h2]
        simpa using hd
      · cases hd
    · rw[hlen]; simp; omega
    · obtain ⟨d',g1,g2⟩:=h5 j x l[j] v (List.getElem?_eq_getElem hj) hv
      rw[List.getElem?_take]at hd
      split at hd
      · rw[List.getElem?_drop]at hd
        have:d'=d:=by
          have e1:arr[c.off i+j*T'.sz+x]? = some d:=by simpa using hd
          rw[g1]at e1; exact Option.some.inj e1
        subst this
        exact g2
      · cases hd

theorem getD_eq {T':Ty} {l:List T'.den} {j:Nat} (hj:j<l.length):l.getD j T'.cn=l[j]:=by simp[List.getD,List.getElem?_eq_getElem hj]

theorem Mk (T:yb P tt) (wf:WF w h c) {t:Nat} {a:V} {a':Value} (ra:dK w h c a a') {lim:Option Nat} {k:V→Option R} {r:R}
    (hk:(match (generalizing:=false) a with
    | .ptr i o =>
      if EV lim i then
        match (generalizing:=false) h.at i with
        | .cells cs=>su tt t cs o k
        | .kW v=>su tt t [.undef,v] o k
        | _=>none
      else none
    | .yc cs=>su tt t cs 0 k
    | .tJ i sz j o =>
      if EV lim i then
        match (generalizing:=false) h.at i with
        | .row T l=>if sz=T.sz then cU (decide (j<l.length)) (su tt t (T.cells (l.getD j T.cn)) o k)else none
        | _=>none
      else none
    | _=>none)=some r):o0 P w h c (Instr.loadAt t a') k r:=by
  split at hk
  · rename_i i o
    split at hk
    · split at hk
      · rename_i cs he
        have hi:=az.gM he (by simp)
        have ho:=wf.obj i hi
        rw[he]at ho
        obtain ⟨b,arr,e,h1,h2,h3⟩:=ho
        cases ra with
        | ptr hu hv =>
          obtain ⟨b',rfl,hb⟩:=hv
          have pQ:=hb (by rw[he]; simp)
          rw[h1]at pQ
          cases pQ
          have:=zq (w:=w) (b:=b) (o:=0) T h3 (fun j d hd=>by
            rw[cell_of_row w b _ arr e _ h2]; simpa using hd) hk
          simpa [o0,Instr.loadAt,Instr.sureAddr]using this
      · rename_i v he
        have hi:=az.gM he (by simp)
        have ho:=wf.obj i hi
        rw[he]at ho
        obtain ⟨b,p,d,h1,h2,_,h3⟩:=ho
        cases ra with
        | ptr hu hv =>
          obtain ⟨b',rfl,hb⟩:=hv
          have pQ:=hb (by rw[he]; simp)
          rw[h1]at pQ
          cases pQ
          have:=zq (w:=w) (b:=b) (o:=0) T (cK.cons (.undef p) (cK.cons h3 .nil)) (fun j d hd=>by
            rw[cell_of_row w b _ _ _ _ h2]
            match j,hd with
            | 0,hd=>simpa using hd
            | 1,hd=>simpa using hd
            | j+2,hd=>simp at hd) hk
          simpa [o0,Instr.loadAt,Instr.sureAddr]using this
      · cases hk
    · cases hk
  · rename_i cs
    cases ra with
    | @yc _ b o f hc hr =>
      have hr':cK w h c cs ((List.range cs.length).map f):=by
        refine ⟨by simp,fun j v d hv hd => ?_⟩
        simp only[List.getElem?_map]at hd
        have lp:j<cs.length:=(List.getElem?_eq_some_iff.1 hv).1
        rw[List.getElem?_range lp]at hd
        simp at hd; subst hd
        exact hr j v hv
      have:=zq (w:=w) (b:=b) (o:=o) (off:=0) T hr' (fun j d hd=>by
        simp only[List.getElem?_map]at hd
        by_cases lp:j<cs.length
        · rw[List.getElem?_range lp]at hd
          simp at hd; subst hd
          exact (hc j lp).1
        · rw[List.getElem?_eq_none (by simp; omega)]at hd; cases hd) hk
      simpa [o0,Instr.loadAt,Instr.sureAddr]using this
  · rename_i i sz j o
    split at hk
    · split at hk
      · rename_i T' l he
        split at hk
        · rename_i qL
          obtain ⟨hj,hk⟩:=cB hk
          simp at hj
          rw[getD_eq hj]at hk
          obtain ⟨b,ds,h1,h2,h3⟩:=Wa wf he hj
          cases ra with
          | tJ hu hv =>
            obtain ⟨a,rfl,hv⟩:=hv
            obtain ⟨b',pQ,rfl⟩:=hv T' l he qL hj
            rw[h1]at pQ
            cases pQ
            have:=zq T h3 h2 hk
            simpa [o0,Instr.loadAt,Instr.sureAddr]using this
        · cases hk
      · cases hk
    · cases hk
  · cases hk

theorem Wb (wf:WF w h c) {i:Nat} {ik:IntKind} {l:List Int} (hl:h.at i = .row (.int ik) l) (km:l ≠ []) :
    ∃b,c.s5 i=some b∧sw w b (c.off i) (l.map (Value.int ik)):=by
  have hi:=az.gM hl (by simp)
  have ho:=wf.obj i hi
  rw[hl]at ho
  rcases ho with ⟨_,rfl⟩|⟨b,arr,el,fz,p1,p2,p3,p4,p5⟩
  · exact absurd rfl km
  · have p5':∀(n:Nat) (z:Int),l[n]? = some z→arr[c.off i+n]? = some (.int ik z):=fun n z hz=>by
      obtain ⟨d,t1,t2⟩:=p5 n 0 z (.int ik z) hz rfl
      rw[t2.jb.1]at t1
      simpa [Ty.sz]using t1
    refine ⟨b,p1,fun j d hd => ?_⟩
    simp only[List.getElem?_map]at hd
    cases hlj:l[j]? with
    | none=>rw[hlj]at hd; cases hd
    | some z =>
      rw[hlj]at hd; simp at hd; subst hd
      rw[cell_of_row w b _ arr el fz p2]
      exact p5' j z hlj

theorem Ru {ik:IntKind} {l:List Int} {t:Tok} {A:Option Addr} {n cap:Nat} (r:dK w h c (.sl (.int ik) l t) (.slice A n cap)) (km:l ≠ []) :
    ∃b o,A=some ⟨b,o,none⟩∧n=l.length∧sw w b o (l.map (Value.int ik)):=by
  cases r with
  | sl f me s7 hc hr yv nk =>
    have Io:0<l.length:=List.length_pos_iff.2 km
    obtain ⟨b,o,rfl,_⟩:=hc 0 0 Io (by simp[Ty.sz])
    refine ⟨b,o,rfl,rfl,fun j d hd => ?_⟩
    simp only[List.getElem?_map]at hd
    cases hlj:l[j]? with
    | none=>rw[hlj]at hd; cases hd
    | some z =>
      rw[hlj]at hd; simp at hd; subst hd
      have lp:j<l.length:=(List.getElem?_eq_some_iff.1 hlj).1
      obtain ⟨b',o',e',g1,_⟩:=hc j 0 lp (by simp[Ty.sz])
      cases e'
      have:=hr j 0 z (.int ik z) hlj rfl
      rw[this.jb.1]at g1
      simpa [Ty.sz]using g1

theorem HD {s d e:TypeId} (us:P.underlying s=some (.slice e)) (ue:P.underlying e=some (.int .u8)) (ud:P.underlying d=some .string) {l:List Int} {A:Option Addr} {n cap:Nat}
    (hn:n=l.length) (yr:l ≠ []→∃b o,A=some ⟨b,o,none⟩∧sw w b o (l.map (Value.int .u8))) :
    ∃t,(convert s d (.slice A n cap)).run P w = .ok (.string t) w∧t.data.toList=l.map fun n=>UInt8.ofNat n.toNat:=by
  rw[run_convert_bytes_string w s d e A n cap us ue ud]
  by_cases KC:l = []
  · subst KC
    subst hn
    refine ⟨.empty,?_,rfl⟩
    cases A with
    | none=>simp[Conv.bytesToString]
    | some a =>
      have hlc:=run_loadCells_list (P:=P) w a [] (fun j v hv=>by simp at hv)
      exact run_bytesToString (P:=P) w a 0 cap [] (by simpa using hlc)
  · obtain ⟨b,o,rfl,hc⟩:=yr KC
    have hlc:=run_loadCells_list (P:=P) w ⟨b,o,none⟩ (l.map (Value.int .u8)) (fun j v hv=>by rw[tL]; exact hc j v hv)
    rw[List.length_map,←hn]at hlc
    exact ⟨_,run_bytesToString (P:=P) w ⟨b,o,none⟩ n cap l hlc,by rw[foldl_push]; rfl⟩

theorem Rv (l:List Int):∀s:ByteArray,(l.foldl (fun r n=>r++Utf8.encode n) s).data.toList=s.data.toList++oO l:=by
  induction l with
  | nil=>intro s; simp[oO]
  | cons n l ih=>intro s; simp only[List.foldl_cons]; rw[ih]; simp[oO]

theorem K3 (l:List Int):(Go.runesBytes l).data.toList=oO l:=by
  unfold Go.runesBytes
  rw[Rv]
  simp

theorem Tk {s d e:TypeId} (us:P.underlying s=some (.slice e)) (ue:P.underlying e=some (.int .i32)) (ud:P.underlying d=some .string) {l:List Int} {A:Option Addr} {n cap:Nat}
    (hn:n=l.length) (yr:l ≠ []→∃b o,A=some ⟨b,o,none⟩∧sw w b o (l.map (Value.int .i32))) :
    ∃t,(convert s d (.slice A n cap)).run P w = .ok (.string t) w∧t.data.toList=oO l∧t.size≤4*l.length:=by
  have hcv:(convert s d (.slice A n cap)).run P w=(Conv.runesToString (.slice A n cap)).run P w:=by
    unfold convert
    simp[run_underlying us,run_underlying ue,run_underlying ud]
  rw[hcv]
  by_cases KC:l = []
  · subst KC
    subst hn
    refine ⟨.empty,?_,rfl,by simp⟩
    cases A with
    | none=>simp[Conv.runesToString]
    | some a =>
      have hlc:=run_loadCells_list (P:=P) w a [] (fun j v hv=>by simp at hv)
      exact Go.run_runesToString (P:=P) w a 0 cap [] (by simpa using hlc)
  · obtain ⟨b,o,rfl,hc⟩:=yr KC
    have hlc:=run_loadCells_list (P:=P) w ⟨b,o,none⟩ (l.map (Value.int .i32)) (fun j v hv=>by rw[tL]; exact hc j v hv)
    rw[List.length_map,←hn]at hlc
    exact ⟨_,Go.run_runesToString (P:=P) w ⟨b,o,none⟩ n cap l hlc,K3 l,Go.runesBytes_size_le l⟩

theorem Wc (T:yb P tt) (wf:WF w h c) {o:Oper} {ρ:Operand→V} {ρ':Operand→Value} (hρ:∀x,dK w h c (ρ x) (ρ' x)) {lim:Option Nat} {k:V→Option R} {r:R}
    (hk:VQ tt o.op ρ h lim k=some r):∃v v',(execOp ρ' o).run P w = .ok (.value v') w∧dK w h c v v'∧k v=some r:=by
  obtain ⟨dst,op,type,pos,after,guard⟩:=o
  cases op <;> simp only[VQ]at hk <;> try (first|cases hk)
  case load t x=>exact oS (Mk T wf (hρ x) hk)
  case lookup t x ix ok =>
    have rx:=hρ x
    split at hk <;> try (first|cases hk)
    rename_i kt vt i ht hx
    rw[hx]at rx
    split at hk <;> try (first|cases hk)
    split at hk <;> try (first|cases hk)
    rename_i K V' l hm
    split at hk <;> try (first|cases hk)
    rename_i hf
    split at hk <;> try (first|cases hk)
    rename_i kx hkx
    obtain ⟨v',g1,g2⟩:=P7 T wf ht rx hm hf (hρ ix) hkx ok
    refine ⟨_,v',by simp[execOp,g1],g2,?_⟩
    cases ok <;> exact hk
  case convert s d x =>
    have rx:=hρ x
    split at hk <;> try (first|cases hk)
    · rename_i e i n hd hs hx
      rw[hx]at rx
      split at hk
      · split at hk <;> try (first|cases hk)
        rename_i l he hl
        have ud:=eR T hd
        have us:=eR T hs
        have ue:=eR T he
        simp only[TD.Is]at ud us ue
        cases rx with
        | row hu hn hv =>
          obtain ⟨A,cap,hv',hA,hv⟩:=hv
          obtain ⟨g1,g2,g3,g4⟩:=hv _ _ hl
          obtain ⟨t,h1,h2⟩:=HD (w:=w) (A:=A) (cap:=cap) (l:=l) us ue ud g1 (fun km=>by
            obtain ⟨b,hb,hc⟩:=Wb wf hl km
            rcases g4 with ⟨q0,_⟩|⟨b',arr,el,fz,q1,rfl,q2,q3⟩
            · rw[hb]at q0; cases q0
            · rw[hb]at q1; cases q1
              exact ⟨b,_,rfl,hc⟩)
          refine ⟨_, .string t,?_,A0 t h2 ?_,hk⟩
          · simp only[execOp,Sem.run_bind,hv',h1,Result.andThen_ok,Sem.run_pure]
          · refine Nat.le_trans (Nat.le_of_eq (@List.length_map Int UInt8 (l:List Int) _)) ?_
            exact (show l.length≤mx from g1▸hn)
      · cases hk
    · rename_i e T' l tk hd hs hx
      rw[hx]at rx
      split at hk <;> try (first|cases hk)
      · rename_i l he
        have ud:=eR T hd
        have us:=eR T hs
        have ue:=eR T he
        simp only[TD.Is]at ud us ue
        obtain ⟨A,cap,hv,me,s7⟩:=JL rx
        rw[hv]at rx
        obtain ⟨t,h1,h2⟩:=HD (w:=w) (A:=A) (cap:=cap) (l:=l) (n:=List.length l) us ue ud rfl (fun km=>by
          obtain ⟨b,o,e1,_,e3⟩:=Ru rx km
          exact ⟨b,o,e1,e3⟩)
        refine ⟨_, .string t,?_,A0 t h2 ?_,hk⟩
        · simp only[execOp,Sem.run_bind,hv,h1,Result.andThen_ok,Sem.run_pure]
        · refine Nat.le_trans (Nat.le_of_eq (@List.length_map Int UInt8 (l:List Int) _)) ?_
          exact Nat.le_trans me s7
      · rename_i l he
        obtain ⟨hb,hk⟩:=cB hk
        have ud:=eR T hd
        have us:=eR T hs
        have ue:=eR T he
        simp only[TD.Is]at ud us ue
        obtain ⟨A,cap,hv,me,s7⟩:=JL rx
        rw[hv]at rx
        obtain ⟨t,h1,h2,h3⟩:=Tk (w:=w) (A:=A) (cap:=cap) (l:=l) (n:=List.length l) us ue ud rfl (fun km=>by
          obtain ⟨b,o,e1,_,e3⟩:=Ru rx km
          exact ⟨b,o,e1,e3⟩)
        refine ⟨_, .string t,?_,A0 t h2 ?_,hk⟩
        · simp only[execOp,Sem.run_bind,hv,h1,Result.andThen_ok,Sem.run_pure]
        · rw[←h2]
          have pQ:4*List.length (l:List Int)≤9223372036854775807:=of_decide_eq_true hb
          refine Nat.le_trans ?_ pQ
          exact h3
    · rename_i e hd hs hx
      rw[hx]at rx
      split at hk <;> try (first|cases hk)
      rename_i he
      have ud:=eR T hd
      have us:=eR T hs
      have ue:=eR T he
      simp only[TD.Is]at ud us ue
      generalize hv:ρ' x=xv at rx
      cases rx
      obtain ⟨t,h1,h2⟩:=HD (w:=w) (A:=none) (cap:=0) (l := []) (n:=0) us ue ud rfl (fun km=>(km rfl).elim)
      refine ⟨_, .string t,?_,A0 t h2 (Nat.zero_le _),hk⟩
      simp only[execOp,Sem.run_bind,hv,h1,Result.andThen_ok,Sem.run_pure]
end
end Go.ay

namespace Go.ay

def Wk (u v:V):Prop:=u=v∨∃(T:Ty) (l:List T.den),v = .sl T l .no∧Dt T u=some l

inductive Gs:List V→List V→Prop where
  | nil:Gs [] []
  | cons {u v:V} {us vs:List V} (h:Wk u v) (t:Gs us vs):Gs (u::us) (v::vs)

theorem Wk.rfl {u:V}:Wk u u := .inl _root_.rfl
theorem Wk.sl {T:Ty} {u:V} {l:List T.den} (h:Dt T u=some l):Wk u (.sl T l .no) := .inr ⟨T,l,_root_.rfl,h⟩

theorem Wd (k:IntKind) {cs:List V} {x:Int} (h:LV k cs=some x):Gs cs (Ty.cells (.int k) x):=by
  unfold LV at h
  split at h
  · split at h
    · rename_i e; subst e; cases h; exact .cons .rfl .nil
    · cases h
  · cases h
theorem Tl  {cs:List V} {x:Bool} (h:Ii cs=some x):Gs cs (Ty.cells (.bool) x):=by
  unfold Ii at h
  split at h
  · cases h; exact .cons .rfl .nil
  · cases h
theorem We  {cs:List V} {x:aj} (h:LW cs=some x):Gs cs (Ty.cells (.str) x):=by
  unfold LW at h
  split at h
  · cases h; exact .cons .rfl .nil
  · cases h
theorem Wf  {cs:List V} {x:iZ} (h:S2 cs=some x):Gs cs (Ty.cells (.dcm) x):=by
  unfold S2 at h
  split at h
  · cases h; exact .cons .rfl (.cons .rfl .nil)
  · cases h
theorem Tm  {cs:List V} {x:Json} (h:PR cs=some x):Gs cs (Ty.cells (.json) x):=by
  unfold PR at h
  split at h
  · split at h
    · cases h; exact .cons .rfl (.cons .rfl (.cons .rfl (.cons .rfl (.cons (.sl ‹_›) (.cons (.sl ‹_›) .nil)))))
    · cases h
  · cases h
theorem Wg  {cs:List V} {x:Raw} (h:S3 cs=some x):Gs cs (Ty.cells (.raw) x):=by
  unfold S3 at h
  split at h
  · split at h
    · cases h; exact .cons .rfl (.cons .rfl (.cons .rfl (.cons (.sl ‹_›) (.cons (.sl ‹_›) .nil))))
    · cases h
  · cases h
theorem Tn  {cs:List V} {x:GJ} (h:PS cs=some x):Gs cs (Ty.cells (.PQ) x):=by
  unfold PS at h
  split at h
  · split at h
    · cases h; exact .cons .rfl (.cons .rfl (.cons .rfl (.cons (.sl ‹_›) .nil)))
    · cases h
  · cases h
theorem Wh  {cs:List V} {x:Fld} (h:S4 cs=some x):Gs cs (Ty.cells (.fld) x):=by
  unfold S4 at h
  split at h
  · cases h; exact .cons .rfl (.cons .rfl (.cons .rfl (.cons .rfl (.cons .rfl .nil))))
  · cases h
theorem To  {cs:List V} {x:Og} (h:PT cs=some x):Gs cs (Ty.cells (.Q8) x):=by
  unfold PT at h
  split at h
  · cases h; exact .cons .rfl (.cons .rfl (.cons .rfl .nil))
  · cases h
theorem Rw  {cs:List V} {x:Token} (h:LX cs=some x):Gs cs (Ty.cells (.token) x):=by
  unfold LX at h
  split at h
  · cases h; exact .cons .rfl (.cons .rfl (.cons .rfl (.cons .rfl (.cons .rfl .nil))))
  · cases h
theorem Tp  {cs:List V} {x:Stop} (h:PU cs=some x):Gs cs (Ty.cells (.stop) x):=by
  unfold PU at h
  split at h
  · cases h; exact .cons .rfl (.cons .rfl (.cons .rfl .nil))
  · cases h
theorem Wi  {cs:List V} {x:Way} (h:S5 cs=some x):Gs cs (Ty.cells (.UP) x):=by
  unfold S5 at h
  split at h
  · cases h; exact .cons .rfl (.cons .rfl (.cons .rfl .nil))
  · cases h
theorem Rx  {cs:List V} {x:Order} (h:LY cs=some x):Gs cs (Ty.cells (.order) x):=by
  unfold LY at h
  split at h
  · split at h
    · cases h; exact .cons .rfl (.cons .rfl (.cons .rfl (.cons .rfl (.cons (.sl ‹_›) (.cons (.sl ‹_›) .nil)))))
    · cases h
  · cases h
theorem Tq  {cs:List V} {x:Edge} (h:PV cs=some x):Gs cs (Ty.cells (.JG) x):=by
  unfold PV at h
  split at h
  · cases h; exact .cons .rfl (.cons .rfl (.cons .rfl .nil))
  · cases h
theorem P8  {cs:List V} {x:C5} (h:JH cs=some x):Gs cs (Ty.cells (.layout) x):=by
  unfold JH at h
  split at h
  · split at h
    · cases h; exact .cons .rfl (.cons (.sl ‹_›) .nil)
    · cases h
  · cases h
theorem Ry  {cs:List V} {x:Ha} (h:LZ cs=some x):Gs cs (Ty.cells (.topic) x):=by
  unfold LZ at h
  split at h
  · cases h; exact .cons .rfl (.cons .rfl (.cons .rfl .nil))
  · cases h
theorem Rz  {cs:List V} {x:State} (h:L0 cs=some x):Gs cs (Ty.cells (.state) x):=by
  unfold L0 at h
  split at h
  · cases h; exact .cons .rfl (.cons .rfl (.cons .rfl (.cons .rfl (.cons .rfl (.cons .rfl (.cons .rfl (.cons .rfl (.cons .rfl (.cons .rfl .nil)))))))))
  · cases h
theorem Wj  {cs:List V} {x:Ctl} (h:S6 cs=some x):Gs cs (Ty.cells (.ctl) x):=by
  unfold S6 at h
  split at h
  · split at h
    · cases h; exact .cons .rfl (.cons .rfl (.cons .rfl (.cons .rfl (.cons .rfl (.cons .rfl (.cons (.sl ‹_›) (.cons .rfl (.cons .rfl (.cons .rfl (.cons .rfl (.cons .rfl (.cons .rfl (.cons .rfl (.cons .rfl (.cons (.sl ‹_›) (.cons (.sl ‹_›) .nil))))))))))))))))
    · cases h
  · cases h
theorem Tr  {cs:List V} {x:Oh} (h:PW cs=some x):Gs cs (Ty.cells (.Q9) x):=by
  unfold PW at h
  split at h
  · cases h; exact .cons .rfl (.cons .rfl (.cons .rfl (.cons .rfl (.cons .rfl .nil))))
  · cases h
theorem RA  {cs:List V} {x:ET} (h:L1 cs=some x):Gs cs (Ty.cells (.Kx) x):=by
  unfold L1 at h
  split at h
  · split at h
    · cases h; exact .cons .rfl (.cons .rfl (.cons .rfl (.cons .rfl (.cons .rfl (.cons .rfl (.cons (.sl ‹_›) .nil))))))
    · cases h
  · cases h
theorem Ts  {cs:List V} {x:Oi} (h:PX cs=some x):Gs cs (Ty.cells (.Ra) x):=by
  unfold PX at h
  split at h
  · split at h
    · cases h; exact .cons .rfl (.cons .rfl (.cons .rfl (.cons .rfl (.cons .rfl (.cons .rfl (.cons .rfl (.cons (.sl ‹_›) (.cons .rfl .nil))))))))
    · cases h
  · cases h
theorem Tt  {cs:List V} {x:Oj} (h:PY cs=some x):Gs cs (Ty.cells (.Rb) x):=by
  unfold PY at h
  split at h
  · split at h
    · cases h; exact .cons .rfl (.cons .rfl (.cons (.sl ‹_›) .nil))
    · cases h
  · cases h
theorem Tu  {cs:List V} {x:Ol} (h:PZ cs=some x):Gs cs (Ty.cells (.Rc) x):=by
  unfold PZ at h
  split at h
  · cases h; exact .cons .rfl (.cons .rfl (.cons .rfl .nil))
  · cases h
theorem Tv  {cs:List V} {x:KX} (h:P0 cs=some x):Gs cs (Ty.cells (.Oo) x):=by
  unfold P0 at h
  split at h
  · cases h; exact .cons .rfl (.cons .rfl .nil)
  · cases h
theorem Tw  {cs:List V} {x:Om} (h:P1 cs=some x):Gs cs (Ty.cells (.Rd) x):=by
  unfold P1 at h
  split at h
  · cases h; exact .cons .rfl (.cons .rfl (.cons .rfl (.cons .rfl .nil)))
  · cases h
theorem Tx  {cs:List V} {x:On} (h:P2 cs=some x):Gs cs (Ty.cells (.post) x):=by
  unfold P2 at h
  split at h
  · cases h; exact .cons .rfl (.cons .rfl .nil)
  · cases h
theorem Wl  {cs:List V} {x:Job} (h:S7 cs=some x):Gs cs (Ty.cells (.job) x):=by
  unfold S7 at h
  split at h
  · cases h; exact .cons .rfl (.cons .rfl (.cons .rfl (.cons .rfl .nil)))
  · cases h
theorem P9  {cs:List V} {x:C6} (h:JI cs=some x):Gs cs (Ty.cells (.record) x):=by
  unfold JI at h
  split at h
  · split at h
    · cases h; exact .cons .rfl (.cons (.sl ‹_›) (.cons .rfl .nil))
    · cases h
  · cases h

theorem dec_wk:∀(T:Ty) {cs:List V} {x:T.den},T.dec cs=some x→Gs cs (T.cells x)
  | .int k,_,_,h=>Wd k h
  | .bool,_,_,h=>Tl h
  | .str,_,_,h=>We h
  | .dcm,_,_,h=>Wf h
  | .json,_,_,h=>Tm h
  | .raw,_,_,h=>Wg h
  | .PQ,_,_,h=>Tn h
  | .fld,_,_,h=>Wh h
  | .Q8,_,_,h=>To h
  | .token,_,_,h=>Rw h
  | .stop,_,_,h=>Tp h
  | .UP,_,_,h=>Wi h
  | .order,_,_,h=>Rx h
  | .JG,_,_,h=>Tq h
  | .layout,_,_,h=>P8 h
  | .topic,_,_,h=>Ry h
  | .state,_,_,h=>Rz h
  | .ctl,_,_,h=>Wj h
  | .Q9,_,_,h=>Tr h
  | .Kx,_,_,h=>RA h
  | .Ra,_,_,h=>Ts h
  | .Rb,_,_,h=>Tt h
  | .Rc,_,_,h=>Tu h
  | .Oo,_,_,h=>Tv h
  | .Rd,_,_,h=>Tw h
  | .post,_,_,h=>Tx h
  | .job,_,_,h=>Wl h
  | .record,_,_,h=>P9 h

end Go.ay

namespace Go.ay
open Go.RowKit

section
variable {P:Program} {tt:dO} {w w':World} {h h':az} {c c':kA}

theorem nK (h:az) (i j:Nat) (o:ca):az.at (h.set i o) j=if i=j∧i<h.length then o else h.at j:=by
  unfold az.at
  simp only[List.getD,List.getElem?_set]
  by_cases ye:i=j
  · subst ye
    by_cases hl:i<h.length
    · simp[hl]
    · simp[hl]
  · simp[ye]

theorem de {i j:Nat} (o:ca) (ye:i≠j):az.at (h.set i o) j=h.at j:=by rw[nK]; simp[ye]
theorem nq {i:Nat} (o:ca) (hi:i<h.length):az.at (h.set i o) i=o:=by rw[nK]; simp[hi]

def kA.put (c:kA) (i:Nat) (b:Option Nat) (o:Nat):kA:=⟨fun j=>if j=i then b else c.s5 j,fun j=>if j=i then o else c.off j,c.ext⟩
theorem qS {i j:Nat} (b:Option Nat) (o:Nat) (h:j≠i):(c.put i b o).s5 j=c.s5 j:=by simp[kA.put,h]
theorem yx {i j:Nat} (b:Option Nat) (o:Nat) (h:j≠i):(c.put i b o).off j=c.off j:=by simp[kA.put,h]
theorem dq (i:Nat) (b:Option Nat) (o:Nat):(c.put i b o).s5 i=b:=by simp[kA.put]
theorem fx (i:Nat) (b:Option Nat) (o:Nat):(c.put i b o).off i=o:=by simp[kA.put]

theorem Gt {o:ca} (h1:o ≠ .free) (h2:o ≠ .dead):o.live:=by cases o <;> simp_all [ca.live]
theorem w7 {o:ca} (h:o.live):o ≠ .dead:=by rintro rfl; exact h
theorem zt {b:Nat} {o:Obj} (h:w.heap[b]? = some o):b<w.heap.size:=(Array.getElem?_eq_some_iff.1 h).1

theorem oJ.lt {i b:Nat} {o:ca} (ho:oJ w h c i o) (hl:o.live) (hb:c.s5 i=some b):b<w.heap.size:=by
  cases o <;> simp only[ca.live]at hl <;> simp only[oJ]at ho
  · obtain ⟨b',arr,e,h1,h2,_⟩:=ho
    rw[h1]at hb; cases hb; exact zt h2
  · rcases ho with ⟨h1,_⟩|⟨b',arr,e,fz,h1,h2,_⟩
    · rw[h1]at hb; cases hb
    · rw[h1]at hb; cases hb; exact zt h2
  · rcases ho with h1|⟨b',arr,e,fz,h1,h2,_⟩
    · rw[h1]at hb; cases hb
    · rw[h1]at hb; cases hb; exact zt h2
  · obtain ⟨b',bs,h1,h2,_⟩:=ho
    rw[h1]at hb; cases hb; exact zt h2
  · obtain ⟨b',p,d,h1,h2,_⟩:=ho
    rw[h1]at hb; cases hb; exact zt h2
  · obtain ⟨b',es,cl,h1,h2,_⟩:=ho
    rw[h1]at hb; cases hb; exact zt h2

theorem oJ.keep (x:Ext w h c w' h' c') {i:Nat} {o:ca} (ho:oJ w h c i o) (hb:∀b,c.s5 i=some b→w'.heap[b]? = w.heap[b]?) (e1:c'.s5 i=c.s5 i) (e2:c'.off i=c.off i) :
    oJ w' h' c' i o:=by
  have UZ:∀b x,c.s5 i=some b→w'.frozen? ⟨b,x,none⟩=w.frozen? ⟨b,x,none⟩:=fun b x h=>by simp only[World.frozen?,hb b h]
  cases o <;> simp only[oJ]at ho ⊢
  · obtain ⟨b,arr,e,h1,h2,h3⟩:=ho
    exact ⟨b,arr,e,e1▸h1,(hb b h1).trans h2,h3.mono x⟩
  · rcases ho with ⟨h1,h2⟩|⟨b,arr,e,fz,h1,h2,h3,h4,h5⟩
    · exact .inl ⟨e1▸h1,h2⟩
    · refine .inr ⟨b,arr,e,fz,e1▸h1,(hb b h1).trans h2,by rw[e2]; exact h3,fun x hx=>by rw[UZ b x h1]; exact h4 x hx,fun n j y v hy hv => ?_⟩
      obtain ⟨d,g1,g2⟩:=h5 n j y v hy hv
      exact ⟨d,by rw[e2]; exact g1,g2.mono x⟩
  · rcases ho with h1|⟨b,arr,e,fz,h1,h2,h3,h4⟩
    · exact .inl (e1▸h1)
    · exact .inr ⟨b,arr,e,fz,e1▸h1,(hb b h1).trans h2,by rw[e2]; exact h3,by rw[e2]; exact h4⟩
  · obtain ⟨b,bs,h1,h2,h3⟩:=ho
    exact ⟨b,bs,e1▸h1,(hb b h1).trans h2,h3⟩
  · obtain ⟨b,p,d,h1,h2,h3,h4⟩:=ho
    exact ⟨b,p,d,e1▸h1,(hb b h1).trans h2,h3,h4.mono x⟩
  · obtain ⟨b,es,cl,h1,h2,h3,h4,h5,h6⟩:=ho
    exact ⟨b,es,cl,e1▸h1,(hb b h1).trans h2,h3,h4,h5,fun j q e hq he=>⟨(h6 j q e hq he).1.mono x,(h6 j q e hq he).2.mono x⟩⟩

theorem s9 {b x:Nat} (h:w'.heap[b]? = w.heap[b]?):w'.cell? ⟨b,x,none⟩=w.cell? ⟨b,x,none⟩:=by simp only[World.cell?,h]

theorem vA (hb:Below w.heap.size w w') {id:Nat} (hf:h.at id = .free) (ob:ca) {nb:Option Nat} {no:Nat} (hn:∀b,nb=some b→w.heap.size≤b) :
    Ext w h c w' (h.set id ob) (c.put id nb no) where
  os:=hb.os
  tape:=hb.tape
  output:=hb.output
  size:=hb.size
  used:=fun i hi=>by
    have km:id≠i:=by rintro rfl; exact hi.2 hf
    exact ⟨by simpa using hi.1,by rw[de _ km]; exact hi.2⟩
  same:=fun i hi hd=>by
    have km:id≠i:=by rintro rfl; exact hi.2 hf
    rw[de _ km]at hd ⊢
    refine ⟨?_,qS _ _ (Ne.symm km),yx _ _ (Ne.symm km)⟩
    have h2:=hi.2
    revert hd h2
    cases h.at i <;> simp[ca.iQ]
  cell:=fun b x hx _=>s9 (hb.block b hx)
  block:=fun b hx _=>hb.block b hx
  wK:=fun b x hx ho=>by
    obtain ⟨i,f,h1,h2,h3⟩:=ho
    by_cases km:id=i
    · subst km
      rw[dq]at h1
      have:=hn b h1
      omega
    · rw[qS _ _ (Ne.symm km)]at h1
      rw[de _ km,yx _ _ (Ne.symm km)]at h2
      exact ⟨i,f,h1,h2,h3⟩
  ext:=rfl
  arr:=fun b arr e fz hx=>⟨arr,fz,by rw[hb.block b (zt hx)]; exact hx,rfl⟩

theorem WF.sA (wf:WF w h c) {h':az} {c':kA} (x:Ext w h c w' h' c'):Laid w' h' c' :=
  ⟨oZ.keep w w' (fun b hb=>x.block b (wf.lay.2 b hb).1 (wf.lay.2 b hb).2) wf.lay.1,
    fun b hb=>⟨Nat.lt_of_lt_of_le (wf.lay.2 b hb).1 x.size,fun y ho=>(wf.lay.2 b hb).2 y (x.wK b y (wf.lay.2 b hb).1 ho)⟩⟩

theorem BW (wf:WF w h c) (hb:Below w.heap.size w w') {id:Nat} (hid:id<h.length) (hf:h.at id = .free) {ob:ca} {nb:Option Nat} {no:Nat} (hn:∀b,nb=some b→w.heap.size≤b)
    (C9:oJ w' (h.set id ob) (c.put id nb no) id ob):WF w' (h.set id ob) (c.put id nb no):=by
  have x:=vA (h:=h) (c:=c) hb hf ob (no:=no) hn
  constructor
  · intro b y ho he
    have lp:b<w.heap.size:=wf.pP b y he
    exact wf.yw b y (x.wK b y lp ho) he
  · intro b y he
    exact Nat.lt_of_lt_of_le (wf.pP b y he) hb.size
  · intro i hi
    by_cases km:id=i
    · subst km; rw[nq _ hid]; exact C9
    · rw[de _ km]
      by_cases hl:(h.at i).live
      · have ho:=wf.obj i (by simpa using hi)
        exact ho.keep x (fun b U0=>hb.block b (ho.lt hl U0)) (qS _ _ (Ne.symm km)) (yx _ _ (Ne.symm km))
      · revert hl; cases h.at i <;> simp[ca.live,oJ]
  · intro i j b hi hj h1 h2
    have lp:∀k,id≠k→(az.at (h.set id ob) k).live→(c.put id nb no).s5 k=some b→b<w.heap.size:=by
      intro k km hl U0
      rw[de _ km]at hl
      rw[qS _ _ (Ne.symm km)]at U0
      exact (wf.obj k (az.gM rfl (w7 hl))).lt hl U0
    by_cases h3:id=i <;> by_cases h4:id=j
    · exact h3.symm.trans h4
    · subst h3
      rw[dq]at h1
      have:=hn b h1
      have:=lp j h4 hj h2
      omega
    · subst h4
      rw[dq]at h2
      have:=hn b h2
      have:=lp i h3 hi h1
      omega
    · rw[de _ h3]at hi
      rw[de _ h4]at hj
      rw[qS _ _ (Ne.symm h3)]at h1
      rw[qS _ _ (Ne.symm h4)]at h2
      exact wf.inj i j b hi hj h1 h2
  · exact wf.sA x

theorem Ml {T:Ty} {v:V} {d:Value} (r:dK w h c v d) {l:List T.den} (hs:Dt T v=some l):dK w h c (.sl T l .no) d:=by
  unfold Dt at hs
  split at hs
  · cases hs
    cases r
    exact .sl (fun _ _=>undef) (Nat.le_refl _) (by unfold mx; exact Nat.zero_le _) (fun i j hi=>by simp at hi) (fun i j x v hx=>by simp at hx) (by simp) (by simp)
  · rename_i T' l' t
    split at hs
    · rename_i e
      subst e
      cases hs
      cases r with
      | sl f me s7 hc hr yv nk=>exact .sl f me s7 hc hr (by simp) (by simp)
    · cases hs
  · cases hs

theorem Wk.rep {u v:V} {d:Value} (k:Wk u v) (r:dK w h c u d):dK w h c v d:=by
  rcases k with rfl|⟨T,l,rfl,e⟩
  · exact r
  · exact Ml r e

theorem Gs.rep {us vs:List V} (k:Gs us vs):∀ {ds:List Value},cK w h c us ds→cK w h c vs ds:=by
  induction k with
  | nil=>exact fun r=>r
  | cons a _ ih =>
    intro ds r
    cases ds with
    | nil=>have:=r.1; simp at this
    | cons d ds=>exact .cons (a.rep r.head) (ih r.tail)

theorem Gu {T:Ty} {cs:List V} {x:T.den} (hx:T.dec cs=some x) {ds:List Value} (r:cK w h c cs ds):cK w h c (T.cells x) ds:=(dec_wk T hx).rep r
end

section
variable {P:Program} {tt:dO} {w:World} {h:az} {c:kA} {R:Type}

def JN (P:Program) (w:World) (h:az) (c:kA) (s:Sem Value) (ob:ca) (mk:Nat→V):Prop :=
  ∀id,id<h.length→h.at id = .free→∃v' w' c',s.run P w = .ok v' w'∧WF w' (h.set id ob) c'∧Ext w h c w' (h.set id ob) c'∧dK w' (h.set id ob) c' (mk id) v'

theorem qO (w:World) (o:Obj):Below w.heap.size w (w.alloc o):=(Below.refl _ _).alloc (Nat.le_refl _) o

theorem uU {id:Nat} (hid:id<h.length) {ob:ca} (ho:ob ≠ .free):Used (h.set id ob) id:=⟨by simpa using hid,by rw[nq _ hid]; exact ho⟩

theorem KD (wf:WF w h c) {cs:List V} {ds:Array Value} (r:cK w h c cs ds.toList) (e:TypeId) {s:Sem Value} (mZ:s.run P w = .ok (.pointer (some ⟨w.heap.size,0,none⟩)) (w.alloc (.cells ds e))) :
    JN P w h c s (.cells cs) fun i => .ptr i 0:=by
  intro id hid hf
  have hb:=qO w (.cells ds e)
  have hn:∀b,some w.heap.size=some b→w.heap.size≤b:=by intro b hb; cases hb; exact Nat.le_refl _
  have x:=vA (h:=h) (c:=c) hb hf (.cells cs) (no:=0) hn
  have C9:oJ (w.alloc (.cells ds e)) (h.set id (.cells cs)) (c.put id (some w.heap.size) 0) id (.cells cs):=by
    refine ⟨w.heap.size,ds,e,dq _ _ _,heap_alloc_new w _,r.mono x⟩
  exact ⟨_,_,_,mZ,BW wf hb hid hf hn C9,x, .ptr (uU hid (by simp)) ⟨w.heap.size,rfl,fun _=>dq _ _ _⟩⟩

theorem Mm (n:Nat):∀(m:Nat) (l:List V) (i:Nat),i<m→(chunks n m l)[i]? = some ((l.drop (i*n)).take n)
  | m+1,l,0,_=>by simp[chunks]
  | m+1,l,i+1,h=>by
    simp only[chunks,List.getElem?_cons_succ]
    rw[Mm n m (l.drop n) i (by omega),List.drop_drop]
    congr 3
    rw[Nat.add_mul]; omega

theorem Ed (n:Nat):∀(m:Nat) (l:List V),(chunks n m l).length=m
  | 0,_=>rfl
  | m+1,l=>by simp[chunks,Ed n m]

theorem Ee {T:Ty}:∀ {css:List (List V)} {l:List T.den},wY T css=some l→l.length=css.length
  | [],l,hd=>by simp[wY]at hd; subst hd; rfl
  | c::cs,l,hd=>by
    simp only[wY]at hd
    split at hd
    · cases hd; rename_i h1 h2; simp[Ee h2]
    · cases hd

theorem Mn {T:Ty}:∀ {css:List (List V)} {l:List T.den},wY T css=some l→∀(i:Nat) (x:T.den),l[i]? = some x→∃cs,css[i]? = some cs∧T.dec cs=some x
  | [],l,hd,i,x,hx=>by simp[wY]at hd; subst hd; simp at hx
  | c::cs,l,hd,i,x,hx=>by
    simp only[wY]at hd
    split at hd
    · cases hd
      rename_i y ys h1 h2
      cases i with
      | zero=>simp at hx; subst hx; exact ⟨c,rfl,h1⟩
      | succ i=>simp at hx; exact Mn h2 i x hx
    · cases hd

theorem Wm {T:Ty} {n:Nat} {cs:List V} {ds:List Value} (r:cK w h c cs ds) {l:List T.den} (hd:wY T (chunks T.sz n cs)=some l) :
    ∀(i j:Nat) (x:T.den) (v:V),l[i]? = some x→(T.cells x)[j]? = some v→dK w h c v (ds.getD (i*T.sz+j) undef):=by
  intro i j x v hx hv
  have hl:=Ee hd
  rw[Ed]at hl
  have hi:i<l.length:=(List.getElem?_eq_some_iff.1 hx).1
  obtain ⟨cs',h1,h2⟩:=Mn hd i x hx
  rw[Mm _ _ _ _ (by omega)]at h1
  cases h1
  have rr:=Gu h2 ((r.drop (i*T.sz)).take T.sz)
  have hj:j<(T.cells x).length:=(List.getElem?_eq_some_iff.1 hv).1
  rw[T.lU]at hj
  have hlen:=rr.1
  rw[T.lU]at hlen
  have V1:((ds.drop (i*T.sz)).take T.sz)[j]? = some (((ds.drop (i*T.sz)).take T.sz)[j]'(by omega)):=List.getElem?_eq_getElem _
  have:=rr.2 j v _ hv V1
  have e:ds.getD (i*T.sz+j) undef=((ds.drop (i*T.sz)).take T.sz)[j]'(by omega):=by
    rw[List.getElem?_take,if_pos hj,List.getElem?_drop]at V1
    simp[List.getD,V1]
  rw[e]; exact this

theorem Ou (z:Array Value) (m:Nat):(madeCells z (z.size+m)).toList=z.toList++(madeCells z m).toList:=by
  simp only[madeCells,Array.toList_map,Array.toList_range,List.range_add,List.map_append,List.map_map]
  congr 1
  · apply List.ext_getElem
    · simp
    · intro i h1 h2
      simp only[List.length_map,List.length_range]at h1
      simp[Nat.mod_eq_of_lt h1,getElem!_pos z i h1]
  · apply List.map_congr_left
    intro k _
    simp

theorem RB {zs:List V} {z:Array Value} (r:cK w h c zs z.toList):∀n:Nat,cK w h c (List.replicate n zs).flatten (madeCells z (n*z.size)).toList
  | 0=>by simp[madeCells]; exact .nil
  | n+1=>by
    have e:(n+1)*z.size=z.size+n*z.size:=by rw[Nat.add_mul]; omega
    rw[e,Ou z _,List.replicate_succ,List.flatten_cons]
    exact r.append (RB r n)

theorem Da (wf:WF w h c) {id:Nat} (ob:ca) (no x:Nat) (hx:∀f,ob.from_ no=some f→¬f≤x) (hid:id<h.length):GL (h.set id ob) (c.put id (some w.heap.size) no) w.heap.size x:=by
  refine ⟨?_,fun he=>Nat.lt_irrefl _ (wf.pP _ _ he)⟩
  rintro ⟨i,f,h1,h2,h3⟩
  by_cases km:id=i
  · subst km
    rw[nq _ hid,fx]at h2
    exact hx f h2 h3
  · rw[de _ km,yx _ _ (Ne.symm km)]at h2
    rw[qS _ _ (Ne.symm km)]at h1
    have hl:(h.at i).live:=by revert h2; cases h.at i <;> simp[ca.from_,ca.live]
    have:=(wf.obj i (az.gM rfl (w7 hl))).lt hl h1
    omega

theorem RC (wf:WF w h c) {T:Ty} {n:Nat} {cs:List V} {ds:Array Value} (r:cK w h c cs ds.toList) {l:List T.den} (hd:wY T (chunks T.sz n cs)=some l) (qL:ds.size=n*T.sz) (hn:n≤mx)
    (e:TypeId) (Tz:Tf T 0 e) {s:Sem Value} (mZ:s.run P w = .ok (.slice (some ⟨w.heap.size,0,none⟩) n n) (w.alloc (.cells ds e))) :
    JN P w h c s .tok fun i => .sl T l (.own i):=by
  intro id hid hf
  have hb:=qO w (.cells ds e)
  have JD:∀b,some w.heap.size=some b→w.heap.size≤b:=by intro b hb; cases hb; exact Nat.le_refl _
  have x:=vA (h:=h) (c:=c) hb hf .tok (no:=n*T.sz) JD
  have hl:l.length=n:=by rw[Ee hd,Ed]
  have Cq:=heap_alloc_new w (.cells ds e)
  have C9:oJ (w.alloc (.cells ds e)) (h.set id .tok) (c.put id (some w.heap.size) (n*T.sz)) id .tok:=by
    refine .inr ⟨w.heap.size,ds,e,(0,0),dq _ _ _,Cq,by rw[fx]; omega, .inl rfl⟩
  have hel:=Wm (r.mono x) hd
  refine ⟨_,_,_,mZ,BW wf hb hid hf JD C9,x,?_⟩
  subst hl
  refine .sl (fun i j=>ds.toList.getD (i*T.sz+j) undef) (Nat.le_refl _) hn (fun i j hi hj=>⟨w.heap.size,0,rfl,?_,?_⟩) hel (by simp) (fun i he => ?_)
  · have lp:i*T.sz+j<ds.size:=by
      have:=Nat.mul_le_mul_right T.sz hi
      rw[Nat.succ_mul]at this; omega
    rw[Nat.zero_add,cell_of_row _ _ _ _ _ _ Cq]
    simp[List.getD,lp]
  · refine Da wf _ _ _ (fun f Wn => ?_) hid
    simp[ca.from_]at Wn
    have:=Nat.mul_le_mul_right T.sz hi
    rw[Nat.succ_mul]at this; omega
  · cases he
    refine ⟨uU hid (by simp),fun _ => .inr ⟨w.heap.size,0,ds,e,(0,0),dq _ _ _,rfl,by rw[fx,Nat.zero_add],Cq,by omega,Tz⟩⟩

theorem Iv (wf:WF w h c) {n sz:Nat} {cs:List V} {ds:Array Value} (r:cK w h c cs ds.toList) (qL:cs.length=n*sz) (hn:n≤mx)
    (e:TypeId) {s:Sem Value} (mZ:s.run P w = .ok (.slice (some ⟨w.heap.size,0,none⟩) n n) (w.alloc (.cells ds e))) :
    JN P w h c s .dead fun _ => .N8 n cs:=by
  intro id hid hf
  have hb:=qO w (.cells ds e)
  have JD:∀b,some w.heap.size=some b→w.heap.size≤b:=by intro b hb; cases hb; exact Nat.le_refl _
  have x:=vA (h:=h) (c:=c) hb hf .dead (no:=0) JD
  have Cq:=heap_alloc_new w (.cells ds e)
  refine ⟨_,_,_,mZ,BW wf hb hid hf JD trivial,x,?_⟩
  have r':=r.mono x
  have hl:=r.1
  refine .N8 qL hn (fun j=>ds.toList.getD j undef) (fun j hj=>⟨w.heap.size,0,rfl,?_,?_⟩) (fun j v hv => ?_)
  · rw[Nat.zero_add,cell_of_row _ _ _ _ _ _ Cq]
    have lp:j<ds.size:=by simp at hl; omega
    simp[List.getD,lp]
  · exact Da wf _ _ _ (fun f Wn=>by simp[ca.from_]at Wn) hid
  · have hj:j<cs.length:=(List.getElem?_eq_some_iff.1 hv).1
    have lp:j<ds.toList.length:=by omega
    refine r'.2 j v _ hv ?_
    simp only[List.getD,List.getElem?_eq_getElem lp,Option.getD_some]

end

section
variable {P:Program} {tt:dO} {w:World} {h:az} {c:kA} {R:Type}

theorem wz {w:World} {b:Nat} {arr:Array Value} {e:TypeId} (hb:w.heap[b]? = some (.cells arr e (0,0))) (x:Nat):w.frozen? ⟨b,x,none⟩=false:=by
  simp[World.frozen?,hb]

theorem JO (wf:WF w h c) {T:Ty} {l:List T.den} {ds:Array Value} {w':World} (hb:Below w.heap.size w w') {e:TypeId} {fz:Nat × Nat} (Cq:w'.heap[w.heap.size]? = some (.cells ds e fz))
    (UZ:∀x,x<ds.size→w'.frozen? ⟨w.heap.size,x,none⟩=false) {cap:Nat} (me:l.length≤cap) (s7:cap≤mx) (qL:cap*T.sz≤ds.size)
    (hr:∀(n j:Nat) (x:T.den) (v:V),l[n]? = some x→(T.cells x)[j]? = some v→∃d,ds[n*T.sz+j]? = some d∧∀(w:World) (h:az) (c:kA),dK w h c v d)
    {s:Sem Value} (mZ:s.run P w = .ok (.slice (some ⟨w.heap.size,0,none⟩) l.length cap) w') :
    JN P w h c s (.row T l) fun i => .row i l.length:=by
  intro id hid hf
  have JD:∀b,some w.heap.size=some b→w.heap.size≤b:=by intro b hb; cases hb; exact Nat.le_refl _
  have x:=vA (h:=h) (c:=c) hb hf (.row T l) (no:=0) JD
  have hm:l.length*T.sz≤cap*T.sz:=Nat.mul_le_mul_right _ me
  have C9:oJ w' (h.set id (.row T l)) (c.put id (some w.heap.size) 0) id (.row T l):=by
    refine .inr ⟨w.heap.size,ds,e,fz,dq _ _ _,Cq,by rw[fx]; omega,UZ,fun n j y v hy hv => ?_⟩
    obtain ⟨d,h1,h2⟩:=hr n j y v hy hv
    exact ⟨d,by rw[fx,Nat.zero_add]; exact h1,h2 _ _ _⟩
  refine ⟨_,_,_,mZ,BW wf hb hid hf JD C9,x,?_⟩
  refine .row (uU hid (by simp)) (by omega) ⟨_,_,rfl,fun _=>⟨_,rfl⟩,fun T' l' he => ?_⟩
  rw[nq _ hid]at he
  cases he
  exact ⟨rfl,me,s7, .inr ⟨w.heap.size,ds,e,fz,dq _ _ _,by rw[fx],Cq,by rw[fx]; omega⟩⟩

theorem JP (T:yb P tt) (wf:WF w h c) {t len:Nat} {parts:Array (Nat × Operand)} {ρ:Operand→V} {ρ':Operand→Value} (hρ:∀x,dK w h c (ρ x) (ρ' x)) {k:ca→(Nat→V)→Option R} {r:R}
    (hk:XL tt (.buildSlice t len parts) ρ k=some r):∃ob mk,k ob mk=some r∧ob ≠ .free∧JN P w h c (Instr.buildSlice t len (parts.map fun (i,x)=>(i,ρ' x))) ob mk:=by
  simp only[XL]at hk
  split at hk
  · rename_i e hd
    split at hk
    · cases hk
    · rename_i Ig
      simp only[Bool.or_eq_true,Bool.not_eq_true',decide_eq_true_eq,not_or,Bool.not_eq_false,Nat.not_lt]at Ig
      obtain ⟨⟨qL,hsm⟩,sv⟩:=Ig
      have hu:=eR T hd
      simp only[TD.Is]at hu
      have hse:=T.sizeOf (w:=w) sv
      obtain ⟨z,hz,hzs,Mg⟩:=T.zero (w:=w) sv
      have Ec:=OY hρ parts.toList
      have hmade:=RB (w:=w) (h:=h) (c:=c) (Mg w h c) len
      rw[hzs]at hmade
      have key:∀cs,Hb ((List.replicate len (tt.at e).zero).flatten) (parts.toList.map fun (i,x)=>(i*(tt.at e).size,(tt.at e).size,ρ x))=some cs →
          ∃ds:Array Value,cK w h c cs ds.toList∧ds.size=len*(tt.at e).size ∧
            (Instr.buildSlice t len (parts.map fun (i,x)=>(i,ρ' x))).run P w = .ok (.slice (some ⟨w.heap.size,0,none⟩) len len) (w.alloc (.cells ds e)):=by
        intro cs hf
        obtain ⟨JK,h1,h2,h3⟩:=Ea (w:=w) (h:=h) (c:=c) (fun i=>some (i*(tt.at e).size,(tt.at e).size)) (parts.toList.map fun p=>(p.1,ρ p.2)) (parts.toList.map fun p=>(p.1,ρ' p.2))
          ((List.replicate len (tt.at e).zero).flatten) (madeCells z.cells (len*(tt.at e).size)) cs Ec.1 Ec.2 hmade (by
            rw[←hf,List.map_map]
            congr 1) (by rw[size_madeCells]; omega)
        rw[size_madeCells]at h3
        refine ⟨JK,h2,h3,?_⟩
        have Qa:¬(len*(tt.at e).size>2 ^ 24):=by omega
        simp only[Instr.buildSlice,Sem.run_bind,run_underlying hu,Result.andThen_ok,hse,if_neg Qa]
        by_cases KC:len*(tt.at e).size=0
        · simp only[KC,if_true,Array.toList_map]
          have e0:madeCells z.cells (len*(tt.at e).size) = #[]:=by rw[KC]; simp[madeCells]
          rw[e0]at h1
          simp only[Array.range_zero',Array.map_empty]
          rw[h1]
          simp[newRow]
        · simp only[if_neg KC,Sem.run_bind,hz,Result.andThen_ok,Sem.run_pure,Array.toList_map]
          have e1:(Array.range (len*(tt.at e).size)).map (z.cells[· % z.cells.size]!)=madeCells z.cells (len*(tt.at e).size):=rfl
          rw[e1,h1]
          simp[newRow]
      split at hk
      · rename_i cs T' hf hty
        split at hk
        · rename_i hT
          obtain ⟨ds,g1,g2,g3⟩:=key cs hf
          split at hk
          · rename_i Cr
            simp only[Bool.and_eq_true,decide_eq_true_eq]at Cr
            obtain ⟨_,rfl⟩:=Cr
            have hds:ds.size=0:=by omega
            have Cq:=heap_alloc_new w (.cells ds e)
            exact ⟨_,_,hk,by simp,JO (T:=T') (l := []) (cap:=0) wf (qO w _) Cq (fun x _=>wz Cq x) (Nat.le_refl _) (by unfold mx; omega) (by omega) (fun n j x v hx=>by simp at hx) g3⟩
          split at hk
          · rename_i l hl
            rw[←hT]at hl g2
            exact ⟨_,_,hk,by simp,RC wf g1 hl g2 (by unfold mx; have:len≤len*(tt.at e).size:=Nat.le_mul_of_pos_right _ (by omega); omega) e (fun hT'=>⟨rfl,T.u8s e (by rw[hty,hT'])⟩) g3⟩
          · exact ⟨_,_,hk,by simp,Iv wf (sz:=(tt.at e).size) g1 (by have:=g1.1; simp at this; omega) (by unfold mx; have:len≤len*(tt.at e).size:=Nat.le_mul_of_pos_right _ (by omega); omega) e g3⟩
        · cases hk
      · rename_i cs hf hty
        obtain ⟨ds,g1,g2,g3⟩:=key cs hf
        exact ⟨_,_,hk,by simp,Iv wf (sz:=(tt.at e).size) g1 (by have:=g1.1; simp at this; omega) (by unfold mx; have:len≤len*(tt.at e).size:=Nat.le_mul_of_pos_right _ (by omega); omega) e g3⟩
      · cases hk
  · cases hk

theorem yy {o:Oper} {ρ':Operand→Value} {s:Sem Value} {ob:ca} {mk:Nat→V} (he:execOp ρ' o=(do pure (.value (←s)))) (ha:JN P w h c s ob mk) :
    ∀id,id<h.length→h.at id = .free→∃v' w' c',(execOp ρ' o).run P w = .ok (.value v') w'∧WF w' (h.set id ob) c'∧Ext w h c w' (h.set id ob) c'∧dK w' (h.set id ob) c' (mk id) v':=by
  intro id hid hf
  obtain ⟨v',w',c',h1,h2⟩:=ha id hid hf
  exact ⟨v',w',c',by rw[he]; simp[h1],h2⟩

theorem JQ (T:yb P tt) {t e:Nat} (hd:(tt.at t).d = .slice e) (sv:tt.ok e=true) {i j:IntKind} {a:Int} (h0:0≤a) (hb:a*(tt.at e).bytes≤140737488355328) (s7:a≤9223372036854775807) :
    ∃z:Value,z.cells.size=(tt.at e).size∧(∀(w:World) (h:az) (c:kA),cK w h c (tt.at e).zero z.cells.toList) ∧
      (Instr.makeSlice t (.int i a) (.int j a)).run P w = .ok (.slice (some ⟨w.heap.size,0,none⟩) a.toNat a.toNat) (w.alloc (.cells (madeCells z.cells (a.toNat*(tt.at e).size)) e)):=by
  have hu:=eR T hd
  simp only[TD.Is]at hu
  obtain ⟨inf,z,hi,hs,hby,hz,hzs,hr⟩:=T.info e sv
  have mZ:=run_make (P:=P) w t e inf z hu hi hz i j a a h0 (Int.le_refl _) (by rw[hby,Int.mul_comm]; omega) s7
  rw[hs]at mZ
  exact ⟨z,by omega,hr,mZ⟩

theorem Wo {z:Array Value} (n:Nat) {i j:Nat} (hi:i<n) (hj:j<z.size):(madeCells z (n*z.size))[i*z.size+j]? = some (z[j]):=by
  have lp:i*z.size+j<n*z.size:=by
    have:=Nat.mul_le_mul_right z.size hi
    rw[Nat.succ_mul]at this; omega
  simp only[madeCells,Array.getElem?_map]
  rw[Array.getElem?_eq_getElem (by simpa using lp)]
  simp only[Array.getElem_range,Option.map_some]
  congr 1
  rw[Nat.mul_comm,Nat.mul_add_mod,Nat.mod_eq_of_lt hj,getElem!_pos z j hj]

theorem Iw (e:TypeId) (s:ByteArray):∃(cap:Nat) (w':World),(Conv.stringToBytes e s).run P w = .ok (.slice (some ⟨w.heap.size,0,none⟩) s.size cap) w'∧Below w.heap.size w w'∧s.size≤cap∧(s.size≤mx→cap≤mx) ∧
    ∃ds:Array Value,w'.heap[w.heap.size]? = some (.cells ds e (ds.size,ds.size+1))∧ds.size=cap∧∀(i:Nat) (b:UInt8),s.data.toList[i]? = some b→ds[i]? = some (.int .u8 b.toNat):=by
  let cap:=(Question.appendCap s.size 0 e).cut (w.tape w.drawn (.appendCap s.size 0 e))
  have me:s.size≤cap:=by simp only[cap,Question.cut]; omega
  let ds:Array Value:=(s.data.map fun b=>Value.int .u8 b.toNat)++Array.replicate (cap - s.size) (.int .u8 0)
  have hds:ds.size=cap:=by
    simp only[ds,Array.size_append,Array.size_map,Array.size_replicate]
    have:s.data.size=s.size:=rfl
    omega
  refine ⟨cap,(w.drew.alloc (.cells ds e)).freeze ⟨w.heap.size,ds.size,none⟩ 1,?_,?_,me,fun hs => ?_,ds,?_,hds,fun i b hb => ?_⟩
  · have hf:(Question.appendCap s.size 0 e).forced=false:=rfl
    simp only[Conv.stringToBytes,Sem.run_bind,run_choose,hf]
    simp only[Bool.false_eq_true,if_false,Result.andThen_ok,newRow,Sem.run_bind,run_newObj,Sem.run_pure]
    have hsh:(w.drew.alloc (.cells ds e)).shape? w.heap.size=some (e,ds.size):=by
      have:=heap_alloc_new w.drew (.cells ds e)
      simp only[World.shape?]
      rw[show (w.drew.alloc (.cells ds e)).heap[w.heap.size]? = some (.cells ds e)from this]
    show ((markStringish ⟨w.heap.size,0,none⟩).run P (w.drew.alloc (.cells ds e))).andThen _=_
    simp only[markStringish,Sem.run_bind,run_shape,hsh,Result.andThen_ok,run_freeze]
    rfl
  · refine ⟨rfl,rfl,rfl,?_,fun k hk => ?_⟩
    · have:((w.drew.alloc (.cells ds e)).freeze ⟨w.heap.size,ds.size,none⟩ 1).heap.size=w.heap.size+1:=by simp[World.freeze]
      omega
    · simp only[World.freeze]
      rw[if_neg (by decide)]
      simp only[Array.getElem?_modify]
      rw[if_neg (by show ¬w.heap.size=k; omega)]
      exact Below.heap_alloc w.drew _ k hk
  · have lp:w.tape w.drawn (Question.appendCap s.size 0 e) % (2 ^ 63 - s.size)<2 ^ 63 - s.size:=Nat.mod_lt _ (by unfold mx at hs; omega)
    simp only[cap,Question.cut]
    unfold mx at hs ⊢
    omega
  · simp only[World.freeze]
    rw[if_neg (by decide)]
    simp only[Array.getElem?_modify]
    have:=heap_alloc_new w.drew (.cells ds e)
    rw[show (w.drew.alloc (.cells ds e)).heap[w.heap.size]? = some (.cells ds e)from this]
    simp
  · have lp:i<s.data.size:=by
      have:=(List.getElem?_eq_some_iff.1 hb).1
      simpa using this
    simp only[ds]
    rw[Array.getElem?_append_left (by simpa using lp)]
    simp only[Array.getElem?_map]
    have:s.data[i]? = some b:=by simpa using hb
    rw[this]; rfl

theorem Wp (T:yb P tt) (wf:WF w h c) {o:Oper} {ρ:Operand→V} {ρ':Operand→Value} (hρ:∀x,dK w h c (ρ x) (ρ' x)) {k:ca→(Nat→V)→Option R} {r:R}
    (hk:XL tt o.op ρ k=some r):∃ob mk,k ob mk=some r∧ob ≠ .free∧∀id,id<h.length→h.at id = .free →
      ∃v' w' c',(execOp ρ' o).run P w = .ok (.value v') w'∧WF w' (h.set id ob) c'∧Ext w h c w' (h.set id ob) c'∧dK w' (h.set id ob) c' (mk id) v':=by
  obtain ⟨dst,op,type,pos,after,guard⟩:=o
  cases op <;> (try simp only[XL]at hk) <;> try (first|cases hk)
  case alloc t =>
    split at hk
    · rename_i hb
      obtain ⟨rfl,hz0,sv⟩:=T.blds t hb
      obtain ⟨z,hz,hzs,Mg⟩:=T.zero (w:=w) sv
      refine ⟨_,_,hk,by simp,yy (s:=Instr.alloc oZ.kW true (.tuple #[])) rfl ?_⟩
      have Mg:=Mg w h c
      rw[hz0]at Mg
      have Cs:z.cells = #[.pointer none, .slice none 0 0]:=by
        generalize z.cells=q at Mg
        obtain ⟨l⟩:=q
        match l,Mg with
        | [p,d],Mg =>
          have r0:=Mg.head
          have r1:=Mg.tail.head
          cases r0; cases r1; rfl
        | [],Mg=>have:=Mg.1; simp at this
        | [_],Mg=>have:=Mg.1; simp at this
        | _::_::_::_,Mg=>have:=Mg.1; simp at this
      intro id hid hf
      have hbel:=qO w (.cells #[.pointer none, .slice none 0 0] oZ.kW)
      have hn:∀b,some w.heap.size=some b→w.heap.size≤b:=by intro b hb; cases hb; exact Nat.le_refl _
      have x:=vA (h:=h) (c:=c) hbel hf (.kW .cJ) (no:=0) hn
      have C9:oJ (w.alloc (.cells #[.pointer none, .slice none 0 0] oZ.kW)) (h.set id (.kW .cJ)) (c.put id (some w.heap.size) 0) id (.kW .cJ) :=
        ⟨w.heap.size,_,_,dq _ _ _,heap_alloc_new w _, .inl rfl, .cJ⟩
      exact ⟨_,_,_,by simp[Instr.alloc,hz,newVar,newRow,Cs],BW wf hbel hid hf hn C9,x, .ptr (uU hid (by simp)) ⟨w.heap.size,rfl,fun _=>dq _ _ _⟩⟩
    split at hk
    · rename_i sv
      obtain ⟨z,hz,hzs,Mg⟩:=T.zero (w:=w) sv
      exact ⟨_,_,hk,by simp,yy (s:=Instr.alloc t true (.tuple #[])) rfl (KD wf (Mg w h c) t (by simp[Instr.alloc,hz,newVar,newRow]))⟩
    · cases hk
  case box t x =>
    split at hk
    · rename_i cs Cs
      split at hk
      · obtain ⟨rv,_,_⟩:=FG (hρ x) Cs
        exact ⟨_,_,hk,by simp,yy (s:=Instr.box t (ρ' x)) rfl (KD wf rv t (by simp[Instr.box,newVar,newRow]))⟩
      · cases hk
    · cases hk
  case buildSlice t len parts =>
    obtain ⟨ob,mk,h1,h0,h2⟩:=JP T wf hρ hk
    exact ⟨ob,mk,h1,h0,yy rfl h2⟩
  case makeSlice t n cc =>
    split at hk
    · rename_i e i a j b hd hn hc
      split at hk
      · rename_i T' hty
        split at hk
        · rename_i z hz
          split at hk
          · rename_i w6
            simp only[Bool.and_eq_true,decide_eq_true_eq]at w6
            obtain ⟨qL,sv⟩:=w6
            obtain ⟨hb,GN⟩:=cB hk
            clear hk
            simp only[Bool.and_eq_true,decide_eq_true_eq]at hb
            obtain ⟨⟨⟨h0,rfl⟩,hby⟩,s7⟩:=hb
            have rn:=hρ n
            have rc:=hρ cc
            rw[hn]at rn; rw[hc]at rc
            obtain ⟨en,hn1,hn2⟩:=rn.jb
            obtain ⟨ec,hc1,hc2⟩:=rc.jb
            obtain ⟨zv,g1,g2,g3⟩:=JQ (w:=w) (i:=i) (j:=j) T hd sv h0 hby (by omega)
            have Cq:=heap_alloc_new w (.cells (madeCells zv.cells (a.toNat*(tt.at e).size)) e)
            have hs:(Instr.makeSlice t (ρ' n) (ρ' cc)).run P w = .ok (.slice (some ⟨w.heap.size,0,none⟩) (List.replicate a.toNat z).length a.toNat) (w.alloc (.cells (madeCells zv.cells (a.toNat*(tt.at e).size)) e)):=by
              rw[en,ec,g3]; simp
            have:=JO (T:=T') (l:=List.replicate a.toNat z) wf (qO w _) Cq (fun x _=>wz Cq x) (by simp) (by unfold mx; omega) (by rw[size_madeCells,qL]; exact Nat.le_refl _) (fun n' j' x v hx hv=>by
              simp only[List.getElem?_replicate]at hx
              split at hx
              · rename_i lp
                cases hx
                have hj:j'<T'.sz:=by rw[←T'.lU z]; exact (List.getElem?_eq_some_iff.1 hv).1
                have OX:j'<zv.cells.size:=by omega
                have hm:=Wo (z:=zv.cells) a.toNat lp OX
                rw[g1]at hm
                rw[qL]
                refine ⟨_,hm,fun w h c => ?_⟩
                exact (Gu hz (g2 w h c)).2 j' v _ hv (by simp[OX])
              · cases hx) hs
            have e2:(List.replicate a.toNat z).length=a.toNat:=List.length_replicate
            rw[e2]at this
            exact ⟨_,_,GN,by simp,yy (o:=⟨dst, .makeSlice t n cc,type,pos,after,guard⟩) rfl this⟩
          · cases hk
        · cases hk
      · cases hk
    · cases hk
  case convert s d x =>
    split at hk
    · rename_i e t hs hd hx
      split at hk
      · rename_i he
        have rx:=hρ x
        rw[hx]at rx
        obtain ⟨bs,hv,rfl,hl⟩:=rx.kX
        have us:=eR T hs
        have ud:=eR T hd
        have ue:=eR T he
        simp only[TD.Is]at us ud ue
        obtain ⟨cap,w',g1,g2,g3,g4,ds,g5,g6,g7⟩:=Iw (P:=P) (w:=w) e bs
        obtain ⟨l,XQ⟩:∃l:List Int,l=bs.data.toList.map fun b=>(b.toNat:Int):=⟨_,rfl⟩
        have hlen:l.length=bs.size:=by rw[XQ,List.length_map,size_data]
        have C8:∀(n:Nat) (z:Int),l[n]? = some z→∃b:UInt8,bs.data.toList[n]? = some b∧z=b.toNat:=fun n z hz=>by
          rw[XQ,List.getElem?_map]at hz
          cases hb:bs.data.toList[n]? with
          | none=>rw[hb]at hz; cases hz
          | some b=>rw[hb]at hz; simp at hz; exact ⟨b,rfl,hz.symm⟩
        have mZ:(convert s d (ρ' x)).run P w = .ok (.slice (some ⟨w.heap.size,0,none⟩) l.length cap) w':=by
          rw[hv,hlen]
          simp only[convert,Sem.run_bind,run_underlying us,run_underlying ud,run_underlying ue,Result.andThen_ok,g1]
        have:=JO (T := .int .u8) (l:=l) wf g2 g5 (fun y hy=>by
            simp only[World.frozen?,g5]
            simp; omega) (cap:=cap) (by show l.length≤cap; omega) (g4 hl) (by simp[Ty.sz]; omega) (fun n j y v hy hv=>by
            obtain ⟨b,h1,rfl⟩:=C8 n y hy
            have hj:j<1:=by
              have:=(List.getElem?_eq_some_iff.1 hv).1
              simpa [Ty.cells]using this
            obtain rfl:j=0:=by omega
            simp[Ty.cells]at hv
            subst hv
            exact ⟨_,by simpa [Ty.sz]using g7 n b h1,fun w h c => .int (Md _ (UInt8.toNat_lt b))⟩) mZ
        have e2:List.length (α:=Int) l=bs.data.toList.length:=by rw[hlen,size_data]
        refine ⟨.row (.int .u8) l,fun i => .row i (List.length (α:=Int) l),?_,by simp,yy (o:=⟨dst, .convert s d x,type,pos,after,guard⟩) rfl this⟩
        rw[e2,XQ]; exact hk
      · cases hk
    · cases hk
  case makeMap t rsv =>
    split at hk <;> try (first|cases hk)
    rename_i Yk
    split at hk <;> try (first|cases hk)
    rename_i kt vt hd
    split at hk <;> try (first|cases hk)
    rename_i K V' hK hV
    split at hk <;> try (first|cases hk)
    rename_i hf
    simp only[Bool.and_eq_true]at hf
    have hu:=eR T hd
    simp only[TD.Is]at hu
    refine ⟨_,_,hk,by simp,fun id hid hfr => ?_⟩
    have hb:=qO w (.map #[] 0)
    have JD:∀b,some w.heap.size=some b→w.heap.size≤b:=by intro b hb; cases hb; exact Nat.le_refl _
    have x':=vA (h:=h) (c:=c) hb hfr (.vL K V' []) (no:=0) JD
    have C9:oJ (w.alloc (.map #[] 0)) (h.set id (.vL K V' [])) (c.put id (some w.heap.size) 0) id (.vL K V' []) :=
      ⟨w.heap.size, #[],0,dq _ _ _,heap_alloc_new w _,(Mi hf.1).2,Mj hf.2,rfl,fun j q e hq=>by simp at hq⟩
    refine ⟨.map (some w.heap.size),_,_,?_,BW wf hb hid hfr JD C9,x', .map (uU hid (by simp)) ⟨w.heap.size,rfl,fun _=>dq _ _ _⟩⟩
    cases rsv with
    | none=>simp[execOp,Instr.makeMap]
    | some x =>
      have rx:=hρ x
      unfold Du at Yk
      simp only at Yk
      split at Yk
      · rename_i i n hx
        rw[hx]at rx
        simp[execOp,Instr.makeMap,run_underlying hu,rx.jb.1,asInt,asIntOf]
      · cases Yk
  case range t x =>
    split at hk
    · rename_i s hd hx
      have rx:=hρ x
      rw[hx]at rx
      obtain ⟨bs,hv,rfl,hl⟩:=rx.kX
      have hu:=eR T hd
      simp only[TD.Is]at hu
      refine ⟨_,_,hk,by simp,fun id hid hf => ?_⟩
      have hb:=qO w (.stringIter bs 0)
      have JD:∀b,some w.heap.size=some b→w.heap.size≤b:=by intro b hb; cases hb; exact Nat.le_refl _
      have x':=vA (h:=h) (c:=c) hb hf (.iter bs.data.toList 0) (no:=0) JD
      have C9:oJ (w.alloc (.stringIter bs 0)) (h.set id (.iter bs.data.toList 0)) (c.put id (some w.heap.size) 0) id (.iter bs.data.toList 0) :=
        ⟨w.heap.size,bs,dq _ _ _,heap_alloc_new w _,rfl,hl⟩
      refine ⟨.pointer (some ⟨w.heap.size,0,none⟩),_,_,?_,BW wf hb hid hf JD C9,x', .ptr (uU hid (by simp)) ⟨w.heap.size,rfl,fun _=>dq _ _ _⟩⟩
      simp[execOp,hv,Instr.range,run_underlying hu]
    · cases hk
end

section
variable {P:Program} {tt:dO} {w w':World} {h:az} {c:kA} {R:Type}

structure Mo (w w':World) (b:Nat) (cur:Array Value) (e:TypeId) (fz:Nat × Nat):Prop where
  os:w'.os=w.os
  tape:w'.tape=w.tape
  output:w'.output=w.output
  size:w'.heap.size=w.heap.size
  other:∀k,k≠b→w'.heap[k]? = w.heap[k]?
  here:w'.heap[b]? = some (.cells cur e fz)

theorem Dz {w:World} {b:Nat} {arr:Array Value} {e:TypeId} {lo hi:Nat} (hb:w.heap[b]? = some (.cells arr e (lo,hi))) (x:Nat):w.frozen? ⟨b,x,none⟩=(decide (lo≤x)&&decide (x<hi)):=by
  simp[World.frozen?,hb]

theorem TA {w:World} {b:Nat} {arr:Array Value} {e:TypeId} {fz:Nat × Nat} (hb:w.heap[b]? = some (.cells arr e fz)) {o x:Nat} (hf:fz.1=fz.2∨fz.2≤o) (hx:o≤x):w.frozen? ⟨b,x,none⟩=false:=by
  obtain ⟨lo,hi⟩:=fz
  rw[Dz hb]
  simp only at hf
  rcases hf with rfl|hf
  · by_cases h:lo≤x
    · simp[h]
    · simp[h]
  · have:¬x<hi:=by omega
    simp[this]

theorem oq (b o:Nat) (e:TypeId) (fz:Nat × Nat):∀(vs:List Value) (i:Nat) (cur:Array Value) (w:World),w.heap[b]? = some (.cells cur e fz)→o+i+vs.length≤cur.size →
    (∀x,o+i≤x→x<o+i+vs.length→w.frozen? ⟨b,x,none⟩=false)→Th vs →
    ∃(w':World) (oe:Array Value),(storeCells ⟨b,o,none⟩ vs i).run P w = .ok () w'∧Mo w w' b oe e fz∧oe.toList=cur.toList.take (o+i)++vs++cur.toList.drop (o+i+vs.length)
  | [],i,cur,w,hb,_,_,_=>⟨w,cur,by simp[storeCells],⟨rfl,rfl,rfl,rfl,fun _ _=>rfl,hb⟩,by simp⟩
  | v::vs,i,cur,w,hb,hs,hf,h1=>by
    simp only[List.length_cons]at hs hf
    have hv:v.oneCell'=true:=h1 v (by simp)
    have lp:o+i<cur.size:=by omega
    have yr:w.cell? ⟨b,o+i,none⟩=some cur[o+i]:=by rw[cell_of_row w b _ cur e fz hb]; exact Array.getElem?_eq_getElem lp
    have UZ:=hf (o+i) (Nat.le_refl _) (by omega)
    have hstore:(store ((⟨b,o,none⟩:Addr).add i) v).run P w = .ok () (w.setCell ⟨b,o+i,none⟩ v):=by
      rw[tL,run_store P w _ v _ hv,yr]
      simp[UZ]
    have pQ:(w.setCell ⟨b,o+i,none⟩ v).heap[b]? = some (.cells (cur.setIfInBounds (o+i) v) e fz):=by
      simp[World.setCell,Array.getElem?_modify,hb]
    obtain ⟨w',oe,g1,g2,g3⟩:=oq b o e fz vs (i+1) (cur.setIfInBounds (o+i) v) (w.setCell ⟨b,o+i,none⟩ v) pQ (by simp; omega)
      (fun x hx1 hx2=>by rw[World.frozen?_setCell]; exact hf x (by omega) (by omega)) (fun d hd=>h1 d (by simp[hd]))
    refine ⟨w',oe,?_,⟨g2.os,g2.tape,g2.output,by rw[g2.size]; simp,fun k hk => ?_,g2.here⟩,?_⟩
    · simp only[storeCells,Sem.run_bind,hstore,Result.andThen_ok,g1]
    · rw[g2.other k hk]; exact heap_setCell_other w _ k v hk
    · rw[g3]
      have:=Ye [v] 0 (o+i) cur (by simp; omega)
      simp only[List.zipIdx_cons,List.zipIdx_nil,List.foldl_cons,List.foldl_nil,Nat.add_zero,List.length_singleton]at this
      rw[this]
      have e1:o+(i+1)=o+i+1:=by omega
      have l1:(cur.toList.take (o+i) ++ [v]).length=o+i+1:=by simp; omega
      rw[e1,List.take_append_of_le_length (by omega),List.take_of_length_le (by omega)]
      have e2:o+i+1+vs.length=(cur.toList.take (o+i) ++ [v]).length+vs.length:=by omega
      rw[e2,List.drop_append]
      have e3:(cur.toList.take (o+i) ++ [v]).length+vs.length - (cur.toList.take (o+i) ++ [v]).length=vs.length:=by omega
      rw[e3,List.drop_eq_nil_of_le (by omega),List.nil_append,List.drop_drop]
      simp only[List.append_assoc,List.length_cons,List.cons_append]
      rw[List.nil_append,show o+i+1+vs.length=o+i+(vs.length+1)from by omega]

theorem Ix {i b:Nat} {o':ca} {cur oe:Array Value} {e:TypeId} {fz:Nat × Nat} (hb:c.s5 i=some b) (Iy:w.heap[b]? = some (.cells cur e fz)) (hw:Mo w w' b oe e fz) (qL:oe.size=cur.size)
    (sB:(h.at i).from_ (c.off i)=some 0) (Mp:o'.from_ (c.off i)=some 0) (ur:(h.at i).iQ o'):Ext w h c w' (h.set i o') c:=by
  have hi:i<h.length:=az.gM rfl (ca.Dw ur).1
  have nk:∀x,uo h c b x:=fun x=>⟨i,0,hb,sB,Nat.zero_le _⟩
  constructor
  · exact hw.os
  · exact hw.tape
  · exact hw.output
  · rw[hw.size]; exact Nat.le_refl _
  · intro j hj
    by_cases ye:i=j
    · subst ye
      refine ⟨by simpa using hj.1,?_⟩
      rw[nq _ hi]
      intro he; subst he; simp[ca.from_]at Mp
    · exact ⟨by simpa using hj.1,by rw[de _ ye]; exact hj.2⟩
  · intro j hj hd
    refine ⟨?_,rfl,rfl⟩
    by_cases ye:i=j
    · subst ye; rw[nq _ hi]; exact ur
    · rw[de _ ye]at hd ⊢
      have h2:=hj.2
      revert hd h2
      cases h.at j <;> simp[ca.iQ]
  · intro b' x hx ho
    have km:b'≠b:=by rintro rfl; exact ho (nk x)
    exact s9 (hw.other b' km)
  · intro b' hx ho
    have km:b'≠b:=by rintro rfl; exact ho 0 (nk 0)
    exact hw.other b' km
  · rintro b' x hx ⟨j,f,g1,g2,g3⟩
    by_cases ye:i=j
    · subst ye
      rw[hb]at g1; cases g1
      exact nk x
    · rw[de _ ye]at g2
      exact ⟨j,f,g1,g2,g3⟩
  · rfl
  · intro b' arr el GM ha
    by_cases km:b'=b
    · subst km
      rw[Iy]at ha; cases ha
      exact ⟨oe,fz,hw.here,qL⟩
    · exact ⟨arr,GM,by rw[hw.other b' km]; exact ha,rfl⟩

theorem tM {o:ca} {f g:Nat} (hf:o.from_ f=some g):o.live:=by revert hf; cases o <;> simp[ca.from_,ca.live]

theorem Qb (wf:WF w h c) {i b:Nat} {o':ca} {cur oe:Array Value} {e:TypeId} {fz:Nat × Nat} (hb:c.s5 i=some b) (Iy:w.heap[b]? = some (.cells cur e fz)) (hw:Mo w w' b oe e fz) (qL:oe.size=cur.size)
    (sB:(h.at i).from_ (c.off i)=some 0) (Mp:o'.from_ (c.off i)=some 0) (ur:(h.at i).iQ o') (C9:oJ w' (h.set i o') c i o'):WF w' (h.set i o') c:=by
  have hi:i<h.length:=az.gM rfl (ca.Dw ur).1
  have x:=Ix hb Iy hw qL sB Mp ur
  have hli:=tM sB
  have RD:∀j,(az.at (h.set i o') j).live→(h.at j).live:=fun j hj=>by
    by_cases ye:i=j
    · subst ye; exact hli
    · rw[de _ ye]at hj; exact hj
  constructor
  · intro b' y ho he
    exact wf.yw b' y (x.wK b' y (wf.pP b' y he) ho) he
  · intro b' y he
    rw[hw.size]; exact wf.pP b' y he
  · intro j hj
    by_cases ye:i=j
    · subst ye; rw[nq _ hi]; exact C9
    · rw[de _ ye]
      by_cases hl:(h.at j).live
      · refine (wf.obj j (by simpa using hj)).keep x (fun b' pQ=>hw.other b' ?_) rfl rfl
        rintro rfl
        exact ye (wf.inj i j b' hli hl hb pQ)
      · revert hl; cases h.at j <;> simp[ca.live,oJ]
  · intro j k b' hj hk h1 h2
    exact wf.inj j k b' (RD j hj) (RD k hk) h1 h2
  · exact wf.sA x

theorem TB {cs vs:List V} {o:Nat} (h:o+vs.length≤cs.length):(Aq cs o vs).length=cs.length:=by simp[Aq]; omega
theorem Mq {cs vs:List V} {ds us:List Value} (r:cK w h c cs ds) (s:cK w h c vs us) (o:Nat):cK w h c (Aq cs o vs) (ds.take o++us++ds.drop (o+us.length)):=by
  unfold Aq
  rw[s.1]
  exact ((r.take o).append s).append (r.drop _)

theorem RE (wf:WF w h c) {t:Nat} (T:yb P tt) {i o:Nat} {cs vs:List V} {a' y':Value} (ra:dK w h c (.ptr i o) a') (Cs:h.at i = .cells cs) (rv:cK w h c vs y'.cells.toList) (h1:Th y'.cells.toList)
    (sv:tt.ok t=true) (qL:vs.length=(tt.at t).size) (lp:o+vs.length≤cs.length) :
    ∃w',(Instr.storeAt t a' y').run P w = .ok () w'∧WF w' (h.set i (.cells (Aq cs o vs))) c∧Ext w h c w' (h.set i (.cells (Aq cs o vs))) c:=by
  have hi:=az.gM Cs (by simp)
  have ho:=wf.obj i hi
  rw[Cs]at ho
  obtain ⟨b,arr,e,g1,g2,g3⟩:=ho
  cases ra with
  | ptr hu hv =>
    obtain ⟨b',rfl,pQ⟩:=hv
    have:=pQ (by rw[Cs]; simp)
    rw[g1]at this; cases this
    have hl:=g3.1
    simp only[Array.length_toList]at hl
    have hlv:=rv.1
    obtain ⟨w',oe,k1,k2,k3⟩:=oq (P:=P) b o e (0,0) y'.cells.toList 0 arr w g2 (by omega) (fun x _ _=>wz g2 x) h1
    have HC:oe.size=arr.size:=by
      rw[←Array.length_toList,k3]; simp only[Array.length_toList,List.length_append,List.length_take,List.length_drop]at *; omega
    have sB:(h.at i).from_ (c.off i)=some 0:=by rw[Cs]; rfl
    have ur:(h.at i).iQ (.cells (Aq cs o vs)):=by rw[Cs]; exact (TB lp).symm
    have x:=Ix g1 g2 k2 HC sB rfl ur
    refine ⟨w',?_,Qb wf g1 g2 k2 HC sB rfl ur ⟨b,oe,e,g1,k2.here,?_⟩,x⟩
    · simp only[Instr.storeAt,Instr.sureAddr,Sem.run_bind,Sem.run_pure,Result.andThen_ok,storeVar,T.sizeOf sv]
      rw[if_neg (by simp only[Array.length_toList]at hlv; omega)]
      simp only[k1]
    · rw[k3]
      exact Mq (g3.mono x) (rv.mono x) _

theorem Wq (wf:WF w h c) {t:Nat} (T:yb P tt) {i:Nat} {u v:V} {a' y':Value} (ra:dK w h c (.ptr i 1) a') (Cs:h.at i = .kW u) (rv:cK w h c [v] y'.cells.toList) (h1:Th y'.cells.toList)
    (sv:tt.ok t=true) (qL:1=(tt.at t).size) :
    ∃w',(Instr.storeAt t a' y').run P w = .ok () w'∧WF w' (h.set i (.kW v)) c∧Ext w h c w' (h.set i (.kW v)) c:=by
  have hi:=az.gM Cs (by simp)
  have ho:=wf.obj i hi
  rw[Cs]at ho
  obtain ⟨b,p,d,g1,g2,g3,g4⟩:=ho
  cases ra with
  | ptr hu hv =>
    obtain ⟨b',rfl,pQ⟩:=hv
    have:=pQ (by rw[Cs]; simp)
    rw[g1]at this; cases this
    have hlv:=rv.1
    simp only[List.length_cons,List.length_nil]at hlv
    obtain ⟨w',oe,k1,k2,k3⟩:=oq (P:=P) b 1 oZ.kW (0,0) y'.cells.toList 0 #[p,d] w g2 (by simp at hlv ⊢; omega) (fun x _ _=>wz g2 x) h1
    have HC:oe.size=(#[p,d]:Array Value).size:=by
      rw[←Array.length_toList,k3]; simp at hlv ⊢; omega
    have sB:(h.at i).from_ (c.off i)=some 0:=by rw[Cs]; rfl
    have ur:(h.at i).iQ (.kW v):=by rw[Cs]; trivial
    have x:=Ix g1 g2 k2 HC sB rfl ur
    refine ⟨w',?_,Qb wf g1 g2 k2 HC sB rfl ur ?_,x⟩
    · simp only[Instr.storeAt,Instr.sureAddr,Sem.run_bind,Sem.run_pure,Result.andThen_ok,storeVar,T.sizeOf sv]
      rw[if_neg (by simp at hlv; omega)]
      simp only[k1]
    · match hy:y'.cells.toList,hlv with
      | [q],_ =>
        rw[hy]at k3 rv
        have Lx:oe = #[p,q]:=by
          apply Array.ext'
          rw[k3]; rfl
        exact ⟨b,p,q,g1,by rw[←Lx]; exact k2.here,g3,rv.head.mono x⟩

theorem RF {T':Ty} (l:List T'.den) (j:Nat) (y:T'.den):(ca.row T' l).iQ (.row T' (l.set j y)):=⟨rfl,by simp⟩

theorem Wr (wf:WF w h c) {t:Nat} (T:yb P tt) {i n j o:Nat} {T':Ty} {l:List T'.den} {vs:List V} {a' y':Value} (ra:dK w h c (.tJ i n j o) a') (Cr:h.at i = .row T' l) (rv:cK w h c vs y'.cells.toList) (h1:Th y'.cells.toList)
    (sv:tt.ok t=true) (hn:n=T'.sz) (qL:vs.length=(tt.at t).size) (hj:j<l.length) (lp:o+vs.length≤(T'.cells (l.getD j T'.cn)).length) {y:T'.den} (hy:T'.dec (Aq (T'.cells (l.getD j T'.cn)) o vs)=some y) :
    ∃w',(Instr.storeAt t a' y').run P w = .ok () w'∧WF w' (h.set i (.row T' (l.set j y))) c∧Ext w h c w' (h.set i (.row T' (l.set j y))) c:=by
  have hi:=az.gM Cr (by simp)
  have ho:=wf.obj i hi
  rw[Cr]at ho
  rw[getD_eq hj]at lp hy
  have hclen:=T'.lU l[j]
  rcases ho with ⟨_,rfl⟩|⟨b,arr,e,fz,g1,g2,g3,g4,g5⟩
  · simp at hj
  · cases ra with
    | tJ hu hv =>
      obtain ⟨a,rfl,hv⟩:=hv
      obtain ⟨b',pQ,rfl⟩:=hv T' l Cr hn hj
      rw[g1]at pQ; cases pQ
      have hlv:=rv.1
      have hm:=Nat.mul_le_mul_right T'.sz hj
      rw[Nat.succ_mul]at hm
      obtain ⟨w',oe,k1,k2,k3⟩:=oq (P:=P) b (c.off i+j*T'.sz+o) e fz y'.cells.toList 0 arr w g2 (by omega) (fun x _ hx=>g4 x (by omega)) h1
      have HC:oe.size=arr.size:=by
        rw[←Array.length_toList,k3]; simp only[Array.length_toList,List.length_append,List.length_take,List.length_drop]at *; omega
      have sB:(h.at i).from_ (c.off i)=some 0:=by rw[Cr]; rfl
      have ur:(h.at i).iQ (.row T' (l.set j y)):=by rw[Cr]; exact RF l j y
      have x:=Ix g1 g2 k2 HC sB rfl ur
      obtain ⟨fl,fh⟩:=fz
      refine ⟨w',?_,Qb wf g1 g2 k2 HC sB rfl ur (.inr ⟨b,oe,e,(fl,fh),g1,k2.here,by rw[HC]; simpa using g3,fun x hx => ?_,fun n' q z v hz hv' => ?_⟩),x⟩
      · simp only[Instr.storeAt,Instr.sureAddr,Sem.run_bind,Sem.run_pure,Result.andThen_ok,storeVar,T.sizeOf sv]
        rw[if_neg (by simp only[Array.length_toList]at hlv; omega)]
        simp only[k1]
      · have:=g4 x (by omega)
        rw[Dz g2]at this
        rw[Dz k2.here]; exact this
      · have hq:q<T'.sz:=by rw[←T'.lU z]; exact (List.getElem?_eq_some_iff.1 hv').1
        rw[List.getElem?_set]at hz
        have C8:∀p:Nat,oe[p]? = oe.toList[p]? :=fun p=>Array.getElem?_toList.symm
        rw[C8,k3]
        by_cases hjn:j=n'
        · subst hjn
          rw[if_pos rfl,if_pos hj]at hz
          cases hz
          -- the element that is written
          have base:cK w h c (T'.cells l[j]) ((arr.toList.drop (c.off i+j*T'.sz)).take T'.sz):=by
            refine ⟨by rw[hclen]; simp; omega,fun x v d hv hd => ?_⟩
            obtain ⟨d',p1,p2⟩:=g5 j x l[j] v (List.getElem?_eq_getElem hj) hv
            rw[List.getElem?_take]at hd
            split at hd
            · rw[List.getElem?_drop]at hd
              have e1:arr[c.off i+j*T'.sz+x]? = some d:=by simpa using hd
              rw[p1]at e1; cases e1; exact p2
            · cases hd
          have sp:=(Gu hy (Mq base rv o)).mono x
          have RG:=sp.1
          have VX:q<(((arr.toList.drop (c.off i+j*T'.sz)).take T'.sz).take o++y'.cells.toList++((arr.toList.drop (c.off i+j*T'.sz)).take T'.sz).drop (o+y'.cells.toList.length)).length:=by
            rw[←RG,T'.lU]; exact hq
          refine ⟨_,?_,sp.2 q v _ hv' (List.getElem?_eq_getElem VX)⟩
          rw[←List.getElem?_eq_getElem VX]
          simp only[List.getElem?_append,List.length_append,List.length_take,List.length_drop,List.getElem?_take,List.getElem?_drop,Array.length_toList,Nat.add_zero]at *
          by_cases c1:q<o
          · have e1:c.off i+j*T'.sz+q<c.off i+j*T'.sz+o:=by omega
            have e2:c.off i+j*T'.sz+q<min (c.off i+j*T'.sz+o) arr.size:=by omega
            have e3:c.off i+j*T'.sz+q<min (c.off i+j*T'.sz+o) arr.size+y'.cells.size:=by omega
            have e4:q<min o (min T'.sz (arr.size - (c.off i+j*T'.sz))):=by omega
            have e5:q<min o (min T'.sz (arr.size - (c.off i+j*T'.sz)))+y'.cells.size:=by omega
            simp only[e1,e2,e3,e4,e5,c1,hq,if_true]
          · have m1:min (c.off i+j*T'.sz+o) arr.size=c.off i+j*T'.sz+o:=by omega
            have m2:min o (min T'.sz (arr.size - (c.off i+j*T'.sz)))=o:=by omega
            rw[m1,m2]
            by_cases c2:q<o+y'.cells.size
            · have e1:c.off i+j*T'.sz+q<c.off i+j*T'.sz+o+y'.cells.size:=by omega
              have e2:¬c.off i+j*T'.sz+q<c.off i+j*T'.sz+o:=by omega
              have e3:c.off i+j*T'.sz+q - (c.off i+j*T'.sz+o)=q - o:=by omega
              simp only[e1,e2,e3,c1,c2,if_true,if_false]
            · have e1:¬c.off i+j*T'.sz+q<c.off i+j*T'.sz+o+y'.cells.size:=by omega
              have e3:c.off i+j*T'.sz+o+y'.cells.size+(c.off i+j*T'.sz+q - (c.off i+j*T'.sz+o+y'.cells.size))=c.off i+j*T'.sz+(o+y'.cells.size+(q - (o+y'.cells.size))):=by omega
              have e4:o+y'.cells.size+(q - (o+y'.cells.size))<T'.sz:=by omega
              simp only[e1,e3,e4,c2,if_true,if_false]
        · rw[if_neg hjn]at hz
          obtain ⟨d,p1,p2⟩:=g5 n' q z v hz hv'
          refine ⟨d,?_,p2.mono x⟩
          have Q1:n'<l.length:=(List.getElem?_eq_some_iff.1 hz).1
          have p1':arr.toList[c.off i+n'*T'.sz+q]? = some d:=by simpa using p1
          simp only[Array.length_toList]at hlv
          simp only[List.getElem?_append,List.length_append,List.length_take,List.getElem?_take,List.getElem?_drop,Array.length_toList,Nat.add_zero]
          rcases Nat.lt_or_ge n' j with hlt'|hge
          · have hm2:=Nat.mul_le_mul_right T'.sz hlt'
            rw[Nat.succ_mul]at hm2
            have e1:c.off i+n'*T'.sz+q<c.off i+j*T'.sz+o:=by omega
            have e2:c.off i+n'*T'.sz+q<min (c.off i+j*T'.sz+o) arr.size:=by omega
            have e3:c.off i+n'*T'.sz+q<min (c.off i+j*T'.sz+o) arr.size+y'.cells.size:=by omega
            simp only[e1,e2,e3,if_true]; exact p1'
          · have hm2:=Nat.mul_le_mul_right T'.sz (show j+1≤n' by omega)
            rw[Nat.succ_mul]at hm2
            have m1:min (c.off i+j*T'.sz+o) arr.size=c.off i+j*T'.sz+o:=by omega
            have e1:¬c.off i+n'*T'.sz+q<c.off i+j*T'.sz+o+y'.cells.size:=by omega
            have e3:c.off i+j*T'.sz+o+y'.cells.size+(c.off i+n'*T'.sz+q - (c.off i+j*T'.sz+o+y'.cells.size))=c.off i+n'*T'.sz+q:=by omega
            rw[m1]
            simp only[e1,e3,if_false]; exact p1'
end

section
variable {P:Program} {tt:dO} {w w':World} {h:az} {c:kA} {R:Type}

def lh (T:Ty):List T.den→List V
  | [] => []
  | x::l=>T.cells x++lh T l

theorem lx (T:Ty):∀l:List T.den,(lh T l).length=l.length*T.sz
  | []=>by simp[lh]
  | x::l=>by simp only[lh,List.length_append,T.lU,lx T l,List.length_cons,Nat.succ_mul]; omega

theorem uV (T:Ty):∀l m:List T.den,lh T (l++m)=lh T l++lh T m
  | [],m=>rfl
  | x::l,m=>by simp only[List.cons_append,lh,uV T l m,List.append_assoc]

theorem yz (T:Ty):∀(l:List T.den) (i j:Nat) (x:T.den),l[i]? = some x→j<T.sz→(lh T l)[i*T.sz+j]? = (T.cells x)[j]?
  | [],i,j,x,hx,_=>by simp at hx
  | y::l,0,j,x,hx,hj=>by
    simp at hx; subst hx
    simp only[lh,Nat.zero_mul,Nat.zero_add]
    rw[List.getElem?_append_left (by rw[T.lU]; exact hj)]
  | y::l,i+1,j,x,hx,hj=>by
    simp at hx
    simp only[lh]
    rw[List.getElem?_append_right (by rw[T.lU,Nat.succ_mul]; omega),T.lU]
    rw[show (i+1)*T.sz+j - T.sz=i*T.sz+j from by rw[Nat.succ_mul]; omega]
    exact yz T l i j x hx hj

theorem Ws (T:Ty) (x:T.den):(T.cells x).all V.one=true:=by cases T <;> rfl
theorem Mr (T:Ty):∀l:List T.den,(lh T l).all V.one=true
  | []=>rfl
  | x::l=>by simp only[lh,List.all_append,Ws,Mr T l,Bool.and_true]

theorem TC {T:Ty} {n:Nat}:∀ {cs:List V} {ds:List Value} {l:List T.den},cs.length=n*T.sz→cK w h c cs ds→wY T (chunks T.sz n cs)=some l→cK w h c (lh T l) ds:=by
  induction n with
  | zero =>
    intro cs ds l hl r hd
    simp[chunks,wY]at hd
    subst hd
    have h0:cs = []:=List.eq_nil_of_length_eq_zero (by simpa using hl)
    subst h0
    exact r
  | succ n ih =>
    intro cs ds l hl r hd
    simp only[chunks,wY]at hd
    split at hd
    · rename_i x xs h1 h2
      cases hd
      rw[Nat.succ_mul]at hl
      have r1:=Gu h1 (r.take T.sz)
      have r2:=ih (by simp; omega) (r.drop T.sz) h2
      have:=r1.append r2
      rw[List.take_append_drop]at this
      exact this
    · cases hd

theorem RH {T:Ty} {l:List T.den} {t:Tok} {A:Option Addr} {n cap:Nat} (r:dK w h c (.sl T l t) (.slice A n cap)) :
    ∃ds,cK w h c (lh T l) ds∧(l ≠ []→∃b o,A=some ⟨b,o,none⟩∧sw w b o ds∧∀x,o≤x→x<o+l.length*T.sz→GL h c b x):=by
  cases r with
  | sl f me s7 hc hr yv nk =>
    refine ⟨(List.range (l.length*T.sz)).map fun k=>f (k / T.sz) (k % T.sz),⟨by simp[lx],fun k v d hv hd => ?_⟩,fun km => ?_⟩
    · have hk:k<l.length*T.sz:=by rw[←lx]; exact (List.getElem?_eq_some_iff.1 hv).1
      have Io:=T.Eb
      have hi:k / T.sz<l.length:=(Nat.div_lt_iff_lt_mul Io).2 hk
      have hj:=Nat.mod_lt k Io
      have e:k / T.sz*T.sz+k % T.sz=k:=by rw[Nat.mul_comm]; exact Nat.div_add_mod _ _
      have:=yz T l (k / T.sz) (k % T.sz) _ (List.getElem?_eq_getElem hi) hj
      rw[e]at this
      rw[this]at hv
      simp only[List.getElem?_map,List.getElem?_range hk,Option.map_some,Option.some.injEq]at hd
      subst hd
      exact hr _ _ _ v (List.getElem?_eq_getElem hi) hv
    · have Io:0<l.length:=List.length_pos_iff.2 km
      obtain ⟨b,o,rfl,_⟩:=hc 0 0 Io T.Eb
      have all:∀k,k<l.length*T.sz→w.cell? ⟨b,o+k,none⟩=some (f (k / T.sz) (k % T.sz))∧GL h c b (o+k):=by
        intro k hk
        have hi:k / T.sz<l.length:=(Nat.div_lt_iff_lt_mul T.Eb).2 hk
        obtain ⟨b',o',e',g1,g2⟩:=hc _ _ hi (Nat.mod_lt k T.Eb)
        cases e'
        have e:k / T.sz*T.sz+k % T.sz=k:=by rw[Nat.mul_comm]; exact Nat.div_add_mod _ _
        rw[Nat.add_assoc,e]at g1 g2
        exact ⟨g1,g2⟩
      refine ⟨b,o,rfl,fun k d hd => ?_,fun x h1 h2 => ?_⟩
      · simp only[List.getElem?_map]at hd
        by_cases hk:k<l.length*T.sz
        · rw[List.getElem?_range hk]at hd
          simp at hd; subst hd
          exact (all k hk).1
        · rw[List.getElem?_eq_none (by simp; omega)]at hd; cases hd
      · have:=(all (x - o) (by omega)).2
        rw[show o+(x - o)=x from by omega]at this
        exact this

theorem CO {T:Ty} {l:List T.den} {t:Tok} {A:Option Addr} {cap:Nat} {ds:List Value} (r:cK w h c (lh T l) ds) (me:l.length≤cap) (s7:cap≤mx)
    (hA:l ≠ []→∃b o,A=some ⟨b,o,none⟩∧sw w b o ds∧∀x,o≤x→x<o+l.length*T.sz→GL h c b x) (yv:t = .nil→A=none∧cap=0)
    (nk:∀i,t = .own i→Used h i∧(h.at i = .tok →
        (c.s5 i=none∧A=none∧cap=0)∨∃b o arr e fz,c.s5 i=some b∧A=some ⟨b,o,none⟩∧c.off i=o+l.length*T.sz ∧
          w.heap[b]? = some (.cells arr e fz)∧o+cap*T.sz≤arr.size∧Tf T o e)):dK w h c (.sl T l t) (.slice A l.length cap):=by
  have hlen:=r.1
  rw[lx]at hlen
  refine .sl (fun i j=>ds.getD (i*T.sz+j) undef) me s7 (fun i j hi hj => ?_) (fun i j x v hx hv => ?_) yv nk
  · have hk:i*T.sz+j<l.length*T.sz:=by
      have:=Nat.mul_le_mul_right T.sz hi
      rw[Nat.succ_mul]at this; omega
    obtain ⟨b,o,e,h1,h2⟩:=hA (by intro e; subst e; simp at hi)
    refine ⟨b,o,e,?_,h2 _ (by omega) (by omega)⟩
    rw[Nat.add_assoc]
    refine h1 _ _ ?_
    rw[List.getElem?_eq_getElem (by omega)]
    simp[List.getD,List.getElem?_eq_getElem (show i*T.sz+j<ds.length by omega)]
  · have hj:j<T.sz:=by rw[←T.lU x]; exact (List.getElem?_eq_some_iff.1 hv).1
    have hi:i<l.length:=(List.getElem?_eq_some_iff.1 hx).1
    have hk:i*T.sz+j<ds.length:=by
      have:=Nat.mul_le_mul_right T.sz hi
      rw[Nat.succ_mul]at this; omega
    have:=yz T l i j x hx hj
    refine r.2 (i*T.sz+j) v _ (this.trans hv) ?_
    rw[List.getElem?_eq_getElem hk]
    simp[List.getD,List.getElem?_eq_getElem hk]

theorem FH {b o n sz:Nat} {cap:Nat} {ds:List Value} (hl:ds.length=n*sz) (hc:sw w b o ds):(Builtin.firstCells sz n (.slice (some ⟨b,o,none⟩) n cap)).run P w = .ok ds.toArray w:=by
  have:=run_loadCells_list (P:=P) w ⟨b,o,none⟩ ds (fun j v hv=>by rw[tL]; exact hc j v hv)
  rw[hl]at this
  simpa [Builtin.firstCells]using this

theorem Ar {A:Option Addr} {n sz cap:Nat} (hn:n*sz=0):(Builtin.firstCells sz n (.slice A n cap)).run P w = .ok #[] w:=by
  cases A with
  | none=>simp[Builtin.firstCells]
  | some a =>
    simp only[Builtin.firstCells,hn]
    exact run_loadCells_list (P:=P) w a [] (fun j v hv=>by simp at hv)

theorem w8 (T:yb P tt) {t xt e:Nat} (ht:(tt.at t).d = .slice e) (sv:tt.ok e=true) (Qc:(∃e',P.underlying xt=some (.slice e'))∨P.underlying xt=some .string)
    {A:Option Addr} {n cap m:Nat} {x:Value} {olds news:List Value} (ty:Nat)
    (hlx:(Builtin.lenOf x).run P w = .ok m w) (Yl:∀W:World,W.heap=w.heap→(Builtin.firstCells (tt.at e).size m x).run P W = .ok news.toArray W) (Oq:news.length=m*(tt.at e).size) (h1:Th news)
    (holds:olds.length=n*(tt.at e).size) (hold:n≠0→∃b o,A=some ⟨b,o,none⟩∧sw w b o olds) (hncap:n≤cap) (hcapmx:cap≤mx)
    (hA:(A=none∧cap=0)∨∃b o arr el fz,A=some ⟨b,o,none⟩∧w.heap[b]? = some (.cells arr el fz)∧o+cap*(tt.at e).size≤arr.size∧∀y,o+n*(tt.at e).size≤y→y<arr.size→w.frozen? ⟨b,y,none⟩=false)
    (CP:(n+m)*(tt.at e).bytes≤140737488355328) (s7:n+m≤mx) :
    (n+m≤cap∧A=none∧m=0∧(Builtin.append_ #[t,xt] ty #[.slice A n cap,x]).run P w = .ok (.slice A (n+m) cap) w) ∨
    (n+m≤cap∧∃b o arr el fz w' oe,A=some ⟨b,o,none⟩∧w.heap[b]? = some (.cells arr el fz)∧o+cap*(tt.at e).size≤arr.size ∧
      (Builtin.append_ #[t,xt] ty #[.slice A n cap,x]).run P w = .ok (.slice A (n+m) cap) w'∧Mo w w' b oe el fz ∧
      oe.toList=arr.toList.take (o+n*(tt.at e).size)++news++arr.toList.drop (o+n*(tt.at e).size+news.length)) ∨
    (∃uu ds,n+m≤uu∧uu≤mx∧ds.size=uu*(tt.at e).size∧ds.toList.take ((n+m)*(tt.at e).size)=olds++news ∧
      (Builtin.append_ #[t,xt] ty #[.slice A n cap,x]).run P w = .ok (.slice (some ⟨w.heap.size,0,none⟩) (n+m) uu) (w.drew.alloc (.cells ds e))):=by
  have hu:=eR T ht
  simp only[TD.Is]at hu
  have hs:=T.sizeOf (w:=w) sv
  obtain ⟨inf,z,hi,hsi,hby,hzv,hzs,Mg⟩:=T.info e sv
  have hx:∃d,P.underlying xt=some d∧((∃e',d = .slice e')∨d = .string):=by
    rcases Qc with ⟨e',hx⟩|hx
    · exact ⟨_,hx, .inl ⟨e',rfl⟩⟩
    · exact ⟨_,hx, .inr rfl⟩
  by_cases RI:n+m≤cap
  · rcases hA with ⟨rfl,rfl⟩|⟨b,o,arr,el,fz,rfl,hb,qL,UZ⟩
    · have hm0:m=0:=by omega
      subst hm0
      refine .inl ⟨RI,rfl,rfl,?_⟩
      have hn0:news = []:=List.eq_nil_of_length_eq_zero (by simpa using Oq)
      have hf:=Yl w rfl
      subst hn0
      rcases Qc with ⟨e',hx⟩|hx <;>
        simp[Builtin.append_,run_underlying hu,run_underlying hx,hs,hlx,hf,show n=0 from by omega]
    · refine .inr (.inl ⟨RI,b,o,arr,el,fz,?_⟩)
      have hf:=Yl w rfl
      obtain ⟨w',oe,k1,k2,k3⟩:=oq (P:=P) b (o+n*(tt.at e).size) el fz news 0 arr w hb (by
        have:(n+m)*(tt.at e).size≤cap*(tt.at e).size:=Nat.mul_le_mul_right _ RI
        rw[Nat.add_mul]at this; omega) (fun y h1 h2=>UZ y h1 (by
        have:(n+m)*(tt.at e).size≤cap*(tt.at e).size:=Nat.mul_le_mul_right _ RI
        rw[Nat.add_mul]at this; omega)) h1
      refine ⟨w',oe,rfl,hb,qL,?_,k2,by simpa using k3⟩
      rcases Qc with ⟨e',hx⟩|hx <;>
        simp[Builtin.append_,run_underlying hu,run_underlying hx,hs,hlx,hf,RI,tL,k1]
  · refine .inr (.inr ?_)
    let uu:=(Question.appendCap (n+m) cap e).cut (w.tape w.drawn (.appendCap (n+m) cap e))
    have hge:n+m≤uu:=by simp only[uu,Question.cut]; omega
    have lp:uu≤mx:=by
      have lp:w.tape w.drawn (Question.appendCap (n+m) cap e) % (2 ^ 63 - (n+m))<2 ^ 63 - (n+m):=Nat.mod_lt _ (by unfold mx at s7; omega)
      simp only[uu,Question.cut]
      unfold mx at s7 ⊢
      omega
    let ds:Array Value:=olds.toArray++news.toArray++Builtin.zeroCells z.cells (uu - (n+m))
    have hzl:(Builtin.zeroCells z.cells (uu - (n+m))).size=(uu - (n+m))*(tt.at e).size:=by
      simp[Builtin.zeroCells]; rw[hzs,hsi]
    have hds:ds.size=uu*(tt.at e).size:=by
      simp only[ds,Array.size_append,List.size_toArray,holds,Oq,hzl]
      rw[←Nat.add_mul,←Nat.add_mul]
      congr 1; omega
    refine ⟨uu,ds,hge,lp,hds,?_,?_⟩
    · have:ds.toList=(olds++news)++(Builtin.zeroCells z.cells (uu - (n+m))).toList:=by simp[ds]
      rw[this,List.take_append_of_le_length (by simp[holds,Oq,Nat.add_mul]),List.take_of_length_le (by simp[holds,Oq,Nat.add_mul])]
    · have hfo:(Builtin.firstCells (tt.at e).size n (.slice A n cap)).run P w.drew = .ok olds.toArray w.drew:=by
        by_cases hn0:n=0
        · subst hn0
          have:olds = []:=List.eq_nil_of_length_eq_zero (by simpa using holds)
          subst this
          exact Ar (by simp)
        · obtain ⟨b,o,rfl,hc⟩:=hold hn0
          exact FH holds hc
      have hf:=Yl w.drew rfl
      have h48':¬(281474976710656<Builtin.nextslicecap (n+m) cap*(tt.at e).bytes):=by
        have:=growslice_fits (need:=n+m) (old:=cap) (by omega) CP
        omega
      have h63':¬(9223372036854775807<((n:Int)+(m:Int))):=by unfold mx at s7; omega
      have hsd:(sizeOf e).run P w.drew = .ok (tt.at e).size w.drew:=T.sizeOf sv
      rcases Qc with ⟨e',hx⟩|hx <;>
        simp[Builtin.append_,run_underlying hu,run_underlying hx,hs,hlx,RI,h63',typeInfo,hi,hby,h48',Question.forced,hfo,hf,zeroValue,hzv,newRow,ds,uu]
end

section
variable {P:Program} {tt:dO} {w w':World} {h:az} {c:kA} {R:Type}

theorem OZ {i b x:Nat} (ho:uo (h.set i .dead) c b x):uo h c b x:=by
  obtain ⟨j,f,g1,g2,g3⟩:=ho
  rw[nK]at g2
  split at g2
  · simp[ca.from_]at g2
  · exact ⟨j,f,g1,g2,g3⟩

theorem FI (i:Nat):Ext w h c w (h.set i .dead) c where
  os:=rfl
  tape:=rfl
  output:=rfl
  size:=Nat.le_refl _
  used:=fun j hj=>⟨by simpa using hj.1,by rw[nK]; split; simp; exact hj.2⟩
  same:=fun j hj hd=>by
    rw[nK]at hd ⊢
    split
    · rename_i hc; rw[if_pos hc]at hd; exact absurd rfl hd
    · rename_i hc
      rw[if_neg hc]at hd
      refine ⟨?_,rfl,rfl⟩
      have h2:=hj.2
      revert hd h2
      cases h.at j <;> simp[ca.iQ]
  cell:=fun _ _ _ _=>rfl
  block:=fun _ _ _=>rfl
  wK:=fun b x _ ho=>OZ ho
  ext:=rfl
  arr:=fun b arr e fz hb=>⟨arr,fz,hb,rfl⟩

theorem Qd (wf:WF w h c) (i:Nat):WF w (h.set i .dead) c where
  lay:=wf.sA (FI i)
  yw:=fun b x ho=>wf.yw b x (OZ ho)
  pP:=wf.pP
  obj:=fun j hj=>by
    rw[nK]
    split
    · trivial
    · exact (wf.obj j (by simpa using hj)).keep (FI i) (fun _ _=>rfl) rfl rfl
  inj:=fun j k b hj hk h1 h2=>by
    have key:∀j,(az.at (h.set i .dead) j).live→(h.at j).live:=fun j hj=>by
      rw[nK]at hj
      split at hj
      · exact hj.elim
      · exact hj
    exact wf.inj j k b (key j hj) (key k hk) h1 h2

theorem yA (w:World) (o:Obj):Below w.heap.size w (w.drew.alloc o):=((Below.refl _ _).drew).alloc (Nat.le_refl _) o

theorem O0 (wf:WF w h c) {id:Nat} (hid:id<h.length) (hf:h.at id = .free) {T:Ty} {l:List T.den} {us:List Value} (r:cK w h c (lh T l) us) {ds:Array Value} {e:TypeId} (Tz:Tf T 0 e) {cap:Nat}
    (hds:ds.size=cap*T.sz) (Ym:ds.toList.take (l.length*T.sz)=us) (me:l.length≤cap) (s7:cap≤mx) :
    ∃c',WF (w.drew.alloc (.cells ds e)) (h.set id .tok) c'∧Ext w h c (w.drew.alloc (.cells ds e)) (h.set id .tok) c'∧dK (w.drew.alloc (.cells ds e)) (h.set id .tok) c' (.sl T l (.own id)) (.slice (some ⟨w.heap.size,0,none⟩) l.length cap):=by
  have hb:=yA w (.cells ds e)
  have JD:∀b,some w.heap.size=some b→w.heap.size≤b:=by intro b hb; cases hb; exact Nat.le_refl _
  have Cq:(w.drew.alloc (.cells ds e)).heap[w.heap.size]? = some (.cells ds e (0,0)):=heap_alloc_new w.drew (.cells ds e)
  have x:=vA (h:=h) (c:=c) hb hf .tok (no:=l.length*T.sz) JD
  have hm:l.length*T.sz≤cap*T.sz:=Nat.mul_le_mul_right _ me
  have C9:oJ (w.drew.alloc (.cells ds e)) (h.set id .tok) (c.put id (some w.heap.size) (l.length*T.sz)) id .tok :=
    .inr ⟨w.heap.size,ds,e,(0,0),dq _ _ _,Cq,by rw[fx]; omega, .inl rfl⟩
  refine ⟨_,BW wf hb hid hf JD C9,x,CO (r.mono x) me s7 (fun _=>⟨w.heap.size,0,rfl,fun j d hd => ?_,fun y _ hy => ?_⟩) (by simp) (fun i hi => ?_)⟩
  · rw[Nat.zero_add,cell_of_row _ _ _ _ _ _ Cq]
    rw[←Ym,List.getElem?_take]at hd
    split at hd
    · simpa using hd
    · cases hd
  · refine Da wf _ _ _ (fun f Wn => ?_) hid
    simp[ca.from_]at Wn
    omega
  · cases hi
    exact ⟨uU hid (by simp),fun _ => .inr ⟨w.heap.size,0,ds,e,(0,0),dq _ _ _,rfl,by rw[fx,Nat.zero_add],Cq,by omega,Tz⟩⟩

theorem O1 (wf:WF w h c) {id:Nat} (hid:id<h.length) (hf:h.at id = .free) {T:Ty} {l:List T.den} {us:List Value} (r:cK w h c (lh T l) us) {ds:Array Value} {e:TypeId} {cap:Nat}
    (hds:ds.size=cap*T.sz) (Ym:ds.toList.take (l.length*T.sz)=us) (me:l.length≤cap) (s7:cap≤mx) :
    ∃c',WF (w.drew.alloc (.cells ds e)) (h.set id (.row T l)) c'∧Ext w h c (w.drew.alloc (.cells ds e)) (h.set id (.row T l)) c' ∧
      dK (w.drew.alloc (.cells ds e)) (h.set id (.row T l)) c' (.row id l.length) (.slice (some ⟨w.heap.size,0,none⟩) l.length cap):=by
  have hb:=yA w (.cells ds e)
  have JD:∀b,some w.heap.size=some b→w.heap.size≤b:=by intro b hb; cases hb; exact Nat.le_refl _
  have Cq:(w.drew.alloc (.cells ds e)).heap[w.heap.size]? = some (.cells ds e (0,0)):=heap_alloc_new w.drew (.cells ds e)
  have x:=vA (h:=h) (c:=c) hb hf (.row T l) (no:=0) JD
  have hm:l.length*T.sz≤cap*T.sz:=Nat.mul_le_mul_right _ me
  have r':=r.mono x
  have C9:oJ (w.drew.alloc (.cells ds e)) (h.set id (.row T l)) (c.put id (some w.heap.size) 0) id (.row T l):=by
    refine .inr ⟨w.heap.size,ds,e,(0,0),dq _ _ _,Cq,by rw[fx]; omega,fun y _=>wz Cq y,fun n j z v hz hv => ?_⟩
    have hj:j<T.sz:=by rw[←T.lU z]; exact (List.getElem?_eq_some_iff.1 hv).1
    have hn:n<l.length:=(List.getElem?_eq_some_iff.1 hz).1
    have lp:n*T.sz+j<l.length*T.sz:=by
      have:=Nat.mul_le_mul_right T.sz hn
      rw[Nat.succ_mul]at this; omega
    have hl:=r.1
    rw[lx]at hl
    have hg:=List.getElem?_eq_getElem (show n*T.sz+j<us.length by omega)
    refine ⟨us[n*T.sz+j]'(by omega),?_,r'.2 _ v _ ((yz T l n j z hz hj).trans hv) hg⟩
    rw[fx,Nat.zero_add,←hg,←Ym,List.getElem?_take,if_pos lp]
    simp
  refine ⟨_,BW wf hb hid hf JD C9,x, .row (uU hid (by simp)) (by omega) ⟨_,_,rfl,fun _=>⟨_,rfl⟩,fun T' l' he => ?_⟩⟩
  rw[nq _ hid]at he
  cases he
  exact ⟨rfl,me,s7, .inr ⟨w.heap.size,ds,e,(0,0),dq _ _ _,by rw[fx],Cq,by rw[fx]; omega⟩⟩

theorem Iz (wf:WF w h c) {id:Nat} (hid:id<h.length) (hf:h.at id = .free) {T:Ty} :
    ∃c',WF w (h.set id .tok) c'∧Ext w h c w (h.set id .tok) c'∧dK w (h.set id .tok) c' (.sl T [] (.own id)) (.slice none 0 0):=by
  have JD:∀b,(none:Option Nat)=some b→w.heap.size≤b:=by intro b hb; cases hb
  have x:=vA (h:=h) (c:=c) (Below.refl w.heap.size w) hf .tok (no:=0) JD
  refine ⟨_,BW wf (Below.refl _ _) hid hf JD (.inl (dq _ _ _)),x,?_⟩
  exact CO (l := []) (ds := []) cK.nil (Nat.le_refl _) (by unfold mx; omega) (fun h=>absurd rfl h) (by simp) (fun i hi=>by
    cases hi; exact ⟨uU hid (by simp),fun _ => .inl ⟨dq _ _ _,rfl,rfl⟩⟩)

theorem Ms (wf:WF w h c) {id:Nat} (hid:id<h.length) (hf:h.at id = .free) {T:Ty} :
    ∃c',WF w (h.set id (.row T [])) c'∧Ext w h c w (h.set id (.row T [])) c'∧dK w (h.set id (.row T [])) c' (.row id 0) (.slice none 0 0):=by
  have JD:∀b,(none:Option Nat)=some b→w.heap.size≤b:=by intro b hb; cases hb
  have x:=vA (h:=h) (c:=c) (Below.refl w.heap.size w) hf (.row T []) (no:=0) JD
  refine ⟨_,BW wf (Below.refl _ _) hid hf JD (.inl ⟨dq _ _ _,rfl⟩),x,?_⟩
  refine .row (uU hid (by simp)) (by unfold mx; omega) ⟨none,0,rfl,fun h=>by omega,fun T' l' he => ?_⟩
  rw[nq _ hid]at he
  cases he
  exact ⟨rfl,Nat.le_refl _,by unfold mx; omega, .inl ⟨dq _ _ _,rfl,rfl⟩⟩

theorem HE (s:aj):(Hw s).length=s.length := @List.length_map UInt8 Int s _
theorem IA:∀s:aj,lh (.int .u8) (Hw s)=s.map fun b=>V.int .u8 b.toNat
  | []=>rfl
  | b::s=>by
    show V.int .u8 b.toNat::lh (.int .u8) (Hw s)=_
    rw[IA s]; rfl

theorem Qe (wf:WF w h c) {i:Nat} {T:Ty} {l:List T.den} (he:h.at i = .row T l) :
    ∃ds,cK w h c (lh T l) ds∧(l ≠ []→∃b,c.s5 i=some b∧sw w b (c.off i) ds):=by
  have hi:=az.gM he (by simp)
  have ho:=wf.obj i hi
  rw[he]at ho
  rcases ho with ⟨_,rfl⟩|⟨b,arr,e,fz,h1,h2,h3,h4,h5⟩
  · exact ⟨[], .nil,fun h=>absurd rfl h⟩
  · refine ⟨(arr.toList.drop (c.off i)).take (l.length*T.sz),⟨by rw[lx]; simp; omega,fun k v d hv hd => ?_⟩,fun _=>⟨b,h1,fun k d hd => ?_⟩⟩
    · have hk:k<l.length*T.sz:=by rw[←lx]; exact (List.getElem?_eq_some_iff.1 hv).1
      have hq:k / T.sz<l.length:=(Nat.div_lt_iff_lt_mul T.Eb).2 hk
      have hj:=Nat.mod_lt k T.Eb
      have e:k / T.sz*T.sz+k % T.sz=k:=by rw[Nat.mul_comm]; exact Nat.div_add_mod _ _
      have hg:=yz T l (k / T.sz) (k % T.sz) _ (List.getElem?_eq_getElem hq) hj
      rw[e]at hg
      rw[hg]at hv
      obtain ⟨d',p1,p2⟩:=h5 _ _ _ v (List.getElem?_eq_getElem hq) hv
      rw[Nat.add_assoc,e]at p1
      rw[List.getElem?_take,if_pos hk,List.getElem?_drop]at hd
      have e1:arr[c.off i+k]? = some d:=by simpa using hd
      rw[p1]at e1; cases e1; exact p2
    · rw[List.getElem?_take]at hd
      split at hd
      · rw[List.getElem?_drop]at hd
        rw[cell_of_row w b _ arr e fz h2]; simpa using hd
      · cases hd

theorem Wu (wf:WF w h c) {T:Ty} {sz:Nat} (qL:T.sz=sz) {v:V} {v':Value} (rv:dK w h c v v') {m:List T.den} (hs:Ky T h v=some m) :
    ∃news,(Builtin.lenOf v').run P w = .ok m.length w∧(∀W:World,W.heap=w.heap→(Builtin.firstCells sz m.length v').run P W = .ok news.toArray W)∧cK w h c (lh T m) news∧m.length≤mx:=by
  subst qL
  have yr:∀(W:World) (b x:Nat),W.heap=w.heap→W.cell? ⟨b,x,none⟩=w.cell? ⟨b,x,none⟩:=fun W b x hW=>by simp only[World.cell?,hW]
  have key:∀(A:Option Addr) (cap:Nat) (news:List Value),cK w h c (lh T m) news→(m ≠ []→∃b o,A=some ⟨b,o,none⟩∧sw w b o news) →
      ∀W:World,W.heap=w.heap→(Builtin.firstCells T.sz m.length (.slice A m.length cap)).run P W = .ok news.toArray W:=by
    intro A cap news hr hA W hW
    have hl:=hr.1
    rw[lx]at hl
    by_cases hm:m = []
    · subst hm
      have:news = []:=List.eq_nil_of_length_eq_zero (by simpa using hl.symm)
      subst this
      exact Ar (by simp)
    · obtain ⟨b,o,rfl,hc⟩:=hA hm
      exact FH hl.symm (fun j d hd=>by rw[yr W _ _ hW]; exact hc j d hd)
  unfold Ky at hs
  split at hs
  · cases hs
    cases rv
    exact ⟨[],by simp[Builtin.lenOf],fun W hW=>Ar (by simp), .nil,by simp⟩
  · rename_i T' l t
    split at hs
    · rename_i e
      subst e
      obtain rfl:l=m:=by simpa using hs
      obtain ⟨A,cap,rfl,h1,h2⟩:=JL rv
      obtain ⟨ds,g1,g2⟩:=RH rv
      exact ⟨ds,by simp[Builtin.lenOf],key A cap ds g1 (fun km=>by obtain ⟨b,o,q1,q2,_⟩:=g2 km; exact ⟨b,o,q1,q2⟩),g1,by omega⟩
    · cases hs
  · rename_i i n
    split at hs
    · rename_i T' l Cr
      split at hs
      · rename_i e
        subst e
        obtain rfl:l=m:=by simpa using hs
        cases rv with
        | row hu hn hv =>
          obtain ⟨A,cap,rfl,hA,hv⟩:=hv
          obtain ⟨g1,g2,g3,g4⟩:=hv _ _ Cr
          obtain ⟨ds,k1,k2⟩:=Qe wf Cr
          subst g1
          exact ⟨ds,by simp[Builtin.lenOf],key A cap ds k1 (fun km=>by
            obtain ⟨b,q1,q2⟩:=k2 km
            rcases g4 with ⟨p1,_⟩|⟨b',arr,el,fz,p1,p2,_⟩
            · rw[q1]at p1; cases p1
            · rw[q1]at p1; cases p1
              exact ⟨b,_,p2,q2⟩),k1,hn⟩
      · cases hs
    · cases hs
  · rename_i n cs
    split at hs
    · rename_i Fz
      cases rv with
      | @N8 _ sz' _ A hn s7 f hc hr =>
        have hr':cK w h c cs ((List.range cs.length).map f):=by
          refine ⟨by simp,fun j v d hv hd => ?_⟩
          have lp:j<cs.length:=(List.getElem?_eq_some_iff.1 hv).1
          simp only[List.getElem?_map,List.getElem?_range lp,Option.map_some,Option.some.injEq]at hd
          subst hd
          exact hr j v hv
        have Il:=TC Fz hr' hs
        have hml:m.length=n:=by rw[Ee hs,Ed]
        rw[←hml]
        exact ⟨_,by simp[Builtin.lenOf],key A m.length _ Il (fun km=>by
          have Io:0<cs.length:=by
            have:=List.length_pos_iff.2 km
            rw[Fz,←hml]
            exact Nat.mul_pos this T.Eb
          obtain ⟨b,o,rfl,_⟩:=hc 0 Io
          refine ⟨b,o,rfl,fun j d hd => ?_⟩
          simp only[List.getElem?_map]at hd
          by_cases lp:j<cs.length
          · rw[List.getElem?_range lp]at hd
            simp at hd; subst hd
            obtain ⟨b',o',e',q1,_⟩:=hc j lp
            cases e'
            exact q1
          · rw[List.getElem?_eq_none (by simp; omega)]at hd; cases hd),Il,by omega⟩
    · cases hs
  · rename_i s
    split at hs
    · rename_i e
      subst e
      obtain ⟨t,rfl,rfl,hl⟩:=rv.kX
      obtain rfl:Hw t.data.toList=m:=by simpa using hs
      refine ⟨t.data.toList.map fun b=>Value.int .u8 b.toNat,?_,fun W hW => ?_,?_,?_⟩
      · rw[HE,size_data]; simp[Builtin.lenOf]
      · rw[HE,size_data]
        simp only[Builtin.firstCells,Sem.run_pure]
        congr 1
        apply Array.ext'
        simp
      · rw[IA]; exact cK.map _ fun b _ => .int (Md _ (UInt8.toNat_lt b))
      · rw[HE,size_data]; exact hl
    · cases hs
  · cases hs

theorem fit_tok (wf:WF w h c) {i id:Nat} (hi:h.at i = .tok) (hid:id<h.length) (hf:h.at id = .free) {b o:Nat} (hb:c.s5 i=some b) {T:Ty} {l m:List T.den} (hoff:c.off i=o+l.length*T.sz)
    {arr oe:Array Value} {el:TypeId} (Tz:Tf T o el) {fz:Nat × Nat} (BX:w.heap[b]? = some (.cells arr el fz)) (hw:Mo w w' b oe el fz) {cap:Nat} (me:(l++m).length≤cap) (s7:cap≤mx) (qL:o+cap*T.sz≤arr.size)
    {olds news:List Value} (ro:cK w h c (lh T l) olds) (rn:cK w h c (lh T m) news) (hold:l ≠ []→sw w b o olds) (hun:∀x,o≤x→x<o+l.length*T.sz→GL h c b x)
    (Iy:oe.toList=arr.toList.take (o+l.length*T.sz)++news++arr.toList.drop (o+l.length*T.sz+news.length)) :
    ∃c',WF w' ((h.set i .dead).set id .tok) c'∧Ext w h c w' ((h.set i .dead).set id .tok) c'∧dK w' ((h.set i .dead).set id .tok) c' (.sl T (l++m) (.own id)) (.slice (some ⟨b,o,none⟩) (l++m).length cap):=by
  have km:i≠id:=by rintro rfl; rw[hi]at hf; cases hf
  have Wv:=az.gM hi (by simp)
  have RJ:=ro.1
  have RG:=rn.1
  rw[lx]at RJ RG
  have hmul:(l++m).length*T.sz≤cap*T.sz:=Nat.mul_le_mul_right _ me
  have hlm:(l++m).length*T.sz=l.length*T.sz+m.length*T.sz:=by rw[List.length_append,Nat.add_mul]
  have Cs:oe.size=arr.size:=by
    rw[←Array.length_toList,Iy]; simp only[List.length_append,List.length_take,List.length_drop,Array.length_toList]; omega
  have Ww:id<(h.set i .dead).length:=by simpa using hid
  have Q3:∀j,az.at ((h.set i .dead).set id .tok) j=if id=j then .tok else if i=j then .dead else h.at j:=by
    intro j
    rw[nK,nK]
    by_cases h1:id=j
    · simp[h1]; intro h2; subst h1; omega
    · simp only[h1,false_and,if_false]
      by_cases h2:i=j
      · subst h2; simp[Wv]
      · simp[h2]
  have Lx:∀j,j≠id→(c.put id (some b) (o+(l++m).length*T.sz)).s5 j=c.s5 j∧(c.put id (some b) (o+(l++m).length*T.sz)).off j=c.off j:=fun j hj=>⟨qS _ _ hj,yx _ _ hj⟩
  have JR:∀j,j≠i→(h.at j).live→c.s5 j≠some b:=fun j hj hl hbj=>hj (wf.inj j i b hl (by rw[hi]; trivial) hbj hb)
  have Yn:∀x,x<o+l.length*T.sz→w'.cell? ⟨b,x,none⟩=w.cell? ⟨b,x,none⟩:=by
    intro x hx
    rw[cell_of_row w' b x oe el fz hw.here,cell_of_row w b x arr el fz BX,←Array.getElem?_toList,←Array.getElem?_toList,Iy,List.append_assoc,
      List.getElem?_append_left (by simp only[List.length_take,Array.length_toList]; omega),List.getElem?_take,if_pos hx]
  have IB:∀b' x,uo ((h.set i .dead).set id .tok) (c.put id (some b) (o+(l++m).length*T.sz)) b' x→uo h c b' x:=by
    rintro b' x ⟨j,f,g1,g2,g3⟩
    rw[Q3]at g2
    by_cases h1:id=j
    · subst h1
      rw[dq]at g1
      cases g1
      rw[if_pos rfl,fx]at g2
      simp only[ca.from_,Option.some.injEq]at g2
      exact ⟨i,c.off i,hb,by rw[hi]; rfl,by omega⟩
    · rw[if_neg h1]at g2
      split at g2
      · simp[ca.from_]at g2
      · obtain ⟨e1,e2⟩:=Lx j (Ne.symm h1)
        rw[e1]at g1; rw[e2]at g2
        exact ⟨j,f,g1,g2,g3⟩
  have x:Ext w h c w' ((h.set i .dead).set id .tok) (c.put id (some b) (o+(l++m).length*T.sz)):=by
    constructor
    · exact hw.os
    · exact hw.tape
    · exact hw.output
    · rw[hw.size]; exact Nat.le_refl _
    · intro j hj
      refine ⟨by simpa using hj.1,?_⟩
      rw[Q3]
      split
      · simp
      · split
        · simp
        · exact hj.2
    · intro j hj hd
      have TE:id≠j:=by rintro rfl; exact hj.2 hf
      rw[Q3,if_neg TE]at hd ⊢
      split
      · rename_i h2; rw[if_pos h2]at hd; exact absurd rfl hd
      · rename_i h2
        rw[if_neg h2]at hd
        refine ⟨?_,(Lx j (Ne.symm TE)).1,(Lx j (Ne.symm TE)).2⟩
        have h3:=hj.2
        revert hd h3
        cases h.at j <;> simp[ca.iQ]
    · intro b' y hy ho
      by_cases U1:b'=b
      · subst U1
        refine Yn y ?_
        rcases Nat.lt_or_ge y (o+l.length*T.sz)with h1|h1
        · exact h1
        · exact absurd ⟨i,c.off i,hb,by rw[hi]; rfl,by omega⟩ ho
      · exact s9 (hw.other b' U1)
    · intro b' pQ ho
      have U1:b'≠b:=by
        rintro rfl
        exact ho (c.off i) ⟨i,c.off i,hb,by rw[hi]; rfl,Nat.le_refl _⟩
      exact hw.other b' U1
    · intro b' y _ ho; exact IB b' y ho
    · rfl
    · intro b' FF e' GM ha
      by_cases U1:b'=b
      · subst U1
        rw[BX]at ha; cases ha
        exact ⟨oe,fz,hw.here,Cs⟩
      · exact ⟨FF,GM,by rw[hw.other b' U1]; exact ha,rfl⟩
  obtain ⟨fl,fh⟩:=fz
  have hti:=wf.obj i Wv
  rw[hi]at hti
  have UZ:fl=fh∨fh≤o+l.length*T.sz:=by
    rcases hti with h0|⟨b',FF,e',GM,p1,p2,p3,p4⟩
    · rw[hb]at h0; cases h0
    · rw[hb]at p1; cases p1
      rw[BX]at p2; cases p2
      rw[hoff]at p4
      exact p4
  have U2:WF w' ((h.set i .dead).set id .tok) (c.put id (some b) (o+(l++m).length*T.sz)):=by
    constructor
    · intro b' y ho; exact wf.yw b' y (IB b' y ho)
    · intro b' y he; rw[hw.size]; exact wf.pP b' y he
    · intro j hj
      rw[Q3]
      by_cases h1:id=j
      · subst h1
        rw[if_pos rfl]
        refine .inr ⟨b,oe,el,(fl,fh),dq _ _ _,hw.here,by rw[fx]; omega,?_⟩
        rw[fx]
        have:l.length*T.sz≤(l++m).length*T.sz:=Nat.mul_le_mul_right _ (by simp)
        exact UZ.imp (fun e=>e) fun hh=>Nat.le_trans hh (by omega)
      · rw[if_neg h1]
        split
        · trivial
        · rename_i h2
          by_cases hl:(h.at j).live
          · refine (wf.obj j (by simpa using hj)).keep x (fun b' pQ=>hw.other b' ?_) (Lx j (Ne.symm h1)).1 (Lx j (Ne.symm h1)).2
            rintro rfl
            exact JR j (Ne.symm h2) hl pQ
          · revert hl; cases h.at j <;> simp[ca.live,oJ]
    · intro j k b' hj hk h1 h2
      rw[Q3]at hj hk
      by_cases e1:id=j <;> by_cases e2:id=k
      · exact e1.symm.trans e2
      · subst e1
        rw[dq]at h1; cases h1
        rw[if_neg e2]at hk
        rw[(Lx k (Ne.symm e2)).1]at h2
        split at hk
        · exact hk.elim
        · rename_i h3; exact absurd h2 (JR k (Ne.symm h3) hk)
      · subst e2
        rw[dq]at h2; cases h2
        rw[if_neg e1]at hj
        rw[(Lx j (Ne.symm e1)).1]at h1
        split at hj
        · exact hj.elim
        · rename_i h3; exact absurd h1 (JR j (Ne.symm h3) hj)
      · rw[if_neg e1]at hj
        rw[if_neg e2]at hk
        rw[(Lx j (Ne.symm e1)).1]at h1
        rw[(Lx k (Ne.symm e2)).1]at h2
        split at hj
        · exact hj.elim
        · split at hk
          · exact hk.elim
          · exact wf.inj j k b' hj hk h1 h2
    · exact wf.sA x
  refine ⟨_,U2,x,?_⟩
  have rr:cK w' ((h.set i .dead).set id .tok) (c.put id (some b) (o+(l++m).length*T.sz)) (lh T (l++m)) (olds++news):=by
    rw[uV]; exact (ro.mono x).append (rn.mono x)
  refine CO rr me s7 (fun _=>⟨b,o,rfl,fun j d hd => ?_,fun y h1 h2=>⟨fun ho => ?_,fun he => ?_⟩⟩) (by simp) (fun k hk => ?_)
  · by_cases hj:j<olds.length
    · rw[List.getElem?_append_left hj]at hd
      have hlne:l ≠ []:=by rintro rfl; simp at RJ; omega
      rw[Yn (o+j) (by omega)]
      exact hold hlne j d hd
    · rw[List.getElem?_append_right (by omega)]at hd
      have hj2:j - olds.length<news.length:=(List.getElem?_eq_some_iff.1 hd).1
      have l1:(arr.toList.take (o+l.length*T.sz)).length=o+l.length*T.sz:=by simp only[List.length_take,Array.length_toList]; omega
      rw[cell_of_row w' b _ oe el (fl,fh) hw.here,←Array.getElem?_toList,Iy,List.append_assoc,List.getElem?_append_right (by omega),l1,List.getElem?_append_left (by omega)]
      rw[←hd]; congr 1; omega
  · obtain ⟨j,f,g1,g2,g3⟩:=ho
    rw[Q3]at g2
    by_cases e1:id=j
    · subst e1
      rw[if_pos rfl,fx]at g2
      simp only[ca.from_,Option.some.injEq]at g2
      omega
    · rw[if_neg e1]at g2
      rw[(Lx j (Ne.symm e1)).1]at g1
      split at g2
      · simp[ca.from_]at g2
      · rename_i h3; exact JR j (Ne.symm h3) (tM g2) g1
  · rcases Nat.lt_or_ge y (o+l.length*T.sz)with q|q
    · exact (hun y h1 q).2 he
    · exact wf.yw b y ⟨i,c.off i,hb,by rw[hi]; rfl,by omega⟩ he
  · cases hk
    refine ⟨⟨by simpa using hid,by rw[Q3,if_pos rfl]; simp⟩,fun _ => .inr ⟨b,o,oe,el,(fl,fh),dq _ _ _,rfl,fx _ _ _,hw.here,by rw[Cs]; exact qL,Tz⟩⟩
end

section
variable {P:Program} {tt:dO} {w w':World} {h:az} {c:kA} {R:Type}

theorem Qf {T:Ty} {l:List T.den} {us:List Value} (r:cK w h c (lh T l) us) {arr:Array Value} {off:Nat} (ha:∀(k:Nat) (d:Value),us[k]? = some d→arr[off+k]? = some d) :
    ∀(n j:Nat) (x:T.den) (v:V),l[n]? = some x→(T.cells x)[j]? = some v→∃d,arr[off+n*T.sz+j]? = some d∧dK w h c v d:=by
  intro n j z v hz hv
  have hj:j<T.sz:=by rw[←T.lU z]; exact (List.getElem?_eq_some_iff.1 hv).1
  have hn:n<l.length:=(List.getElem?_eq_some_iff.1 hz).1
  have lp:n*T.sz+j<l.length*T.sz:=by
    have:=Nat.mul_le_mul_right T.sz hn
    rw[Nat.succ_mul]at this; omega
  have hl:=r.1
  rw[lx]at hl
  have hg:=List.getElem?_eq_getElem (show n*T.sz+j<us.length by omega)
  exact ⟨_,by rw[Nat.add_assoc]; exact ha _ _ hg,r.2 _ v _ ((yz T l n j z hz hj).trans hv) hg⟩

theorem fit_row (wf:WF w h c) {i id:Nat} {T:Ty} {l m:List T.den} (hi:h.at i = .row T l) (hid:id<h.length) (hf:h.at id = .free) {b:Nat} (hb:c.s5 i=some b)
    {arr oe:Array Value} {el:TypeId} {fz:Nat × Nat} (BX:w.heap[b]? = some (.cells arr el fz)) (hw:Mo w w' b oe el fz) {cap:Nat} (me:(l++m).length≤cap) (s7:cap≤mx) (qL:c.off i+cap*T.sz≤arr.size)
    {olds news:List Value} (ro:cK w h c (lh T l) olds) (rn:cK w h c (lh T m) news) (hold:l ≠ []→sw w b (c.off i) olds)
    (Iy:oe.toList=arr.toList.take (c.off i+l.length*T.sz)++news++arr.toList.drop (c.off i+l.length*T.sz+news.length)) :
    ∃c',WF w' ((h.set i .dead).set id (.row T (l++m))) c'∧Ext w h c w' ((h.set i .dead).set id (.row T (l++m))) c' ∧
      dK w' ((h.set i .dead).set id (.row T (l++m))) c' (.row id (l++m).length) (.slice (some ⟨b,c.off i,none⟩) (l++m).length cap):=by
  have km:i≠id:=by rintro rfl; rw[hi]at hf; cases hf
  have Wv:=az.gM hi (by simp)
  have RJ:=ro.1
  have RG:=rn.1
  rw[lx]at RJ RG
  have hmul:(l++m).length*T.sz≤cap*T.sz:=Nat.mul_le_mul_right _ me
  have hlm:(l++m).length*T.sz=l.length*T.sz+m.length*T.sz:=by rw[List.length_append,Nat.add_mul]
  have Cs:oe.size=arr.size:=by
    rw[←Array.length_toList,Iy]; simp only[List.length_append,List.length_take,List.length_drop,Array.length_toList]; omega
  have Q3:∀j,az.at ((h.set i .dead).set id (.row T (l++m))) j=if id=j then .row T (l++m)else if i=j then .dead else h.at j:=by
    intro j
    rw[nK,nK]
    by_cases h1:id=j
    · simp[h1]; intro h2; subst h1; omega
    · simp only[h1,false_and,if_false]
      by_cases h2:i=j
      · subst h2; simp[Wv]
      · simp[h2]
  have Lx:∀j,j≠id→(c.put id (some b) (c.off i)).s5 j=c.s5 j∧(c.put id (some b) (c.off i)).off j=c.off j:=fun j hj=>⟨qS _ _ hj,yx _ _ hj⟩
  have JR:∀j,j≠i→(h.at j).live→c.s5 j≠some b:=fun j hj hl hbj=>hj (wf.inj j i b hl (by rw[hi]; trivial) hbj hb)
  have nk:∀y,uo h c b y:=fun y=>⟨i,0,hb,by rw[hi]; rfl,Nat.zero_le _⟩
  have IB:∀b' x,uo ((h.set i .dead).set id (.row T (l++m))) (c.put id (some b) (c.off i)) b' x→uo h c b' x:=by
    rintro b' x ⟨j,f,g1,g2,g3⟩
    rw[Q3]at g2
    by_cases h1:id=j
    · subst h1
      rw[dq]at g1
      cases g1
      exact nk x
    · rw[if_neg h1]at g2
      split at g2
      · simp[ca.from_]at g2
      · obtain ⟨e1,e2⟩:=Lx j (Ne.symm h1)
        rw[e1]at g1; rw[e2]at g2
        exact ⟨j,f,g1,g2,g3⟩
  have x:Ext w h c w' ((h.set i .dead).set id (.row T (l++m))) (c.put id (some b) (c.off i)):=by
    constructor
    · exact hw.os
    · exact hw.tape
    · exact hw.output
    · rw[hw.size]; exact Nat.le_refl _
    · intro j hj
      refine ⟨by simpa using hj.1,?_⟩
      rw[Q3]
      split
      · simp
      · split
        · simp
        · exact hj.2
    · intro j hj hd
      have TE:id≠j:=by rintro rfl; exact hj.2 hf
      rw[Q3,if_neg TE]at hd ⊢
      split
      · rename_i h2; rw[if_pos h2]at hd; exact absurd rfl hd
      · rename_i h2
        rw[if_neg h2]at hd
        refine ⟨?_,(Lx j (Ne.symm TE)).1,(Lx j (Ne.symm TE)).2⟩
        have h3:=hj.2
        revert hd h3
        cases h.at j <;> simp[ca.iQ]
    · intro b' y hy ho
      have U1:b'≠b:=by rintro rfl; exact ho (nk y)
      exact s9 (hw.other b' U1)
    · intro b' pQ ho
      have U1:b'≠b:=by rintro rfl; exact ho 0 (nk 0)
      exact hw.other b' U1
    · intro b' y _ ho; exact IB b' y ho
    · rfl
    · intro b' FF e' GM ha
      by_cases U1:b'=b
      · subst U1
        rw[BX]at ha; cases ha
        exact ⟨oe,fz,hw.here,Cs⟩
      · exact ⟨FF,GM,by rw[hw.other b' U1]; exact ha,rfl⟩
  obtain ⟨fl,fh⟩:=fz
  have hti:=wf.obj i Wv
  rw[hi]at hti
  have UZ:∀y,y<arr.size→w.frozen? ⟨b,y,none⟩=false:=by
    rcases hti with ⟨h0,_⟩|⟨b',FF,e',GM,p1,p2,p3,p4,p5⟩
    · rw[hb]at h0; cases h0
    · rw[hb]at p1; cases p1
      rw[BX]at p2; cases p2
      exact p4
  have rr:cK w' ((h.set i .dead).set id (.row T (l++m))) (c.put id (some b) (c.off i)) (lh T (l++m)) (olds++news):=by
    rw[uV]; exact (ro.mono x).append (rn.mono x)
  have C7:∀(k:Nat) (d:Value),(olds++news)[k]? = some d→oe[c.off i+k]? = some d:=by
    intro k d hd
    have l1:(arr.toList.take (c.off i+l.length*T.sz)).length=c.off i+l.length*T.sz:=by simp only[List.length_take,Array.length_toList]; omega
    rw[←Array.getElem?_toList,Iy,List.append_assoc]
    by_cases hk:k<olds.length
    · rw[List.getElem?_append_left hk]at hd
      have hlne:l ≠ []:=by rintro rfl; simp at RJ; omega
      have hc1:=hold hlne k d hd
      rw[cell_of_row w b _ arr el (fl,fh) BX]at hc1
      rw[List.getElem?_append_left (by omega),List.getElem?_take,if_pos (by omega),Array.getElem?_toList]
      exact hc1
    · rw[List.getElem?_append_right (by omega)]at hd
      have hj2:k - olds.length<news.length:=(List.getElem?_eq_some_iff.1 hd).1
      rw[List.getElem?_append_right (by omega),l1,List.getElem?_append_left (by omega)]
      rw[←hd]; congr 1; omega
  have U2:WF w' ((h.set i .dead).set id (.row T (l++m))) (c.put id (some b) (c.off i)):=by
    constructor
    · intro b' y ho; exact wf.yw b' y (IB b' y ho)
    · intro b' y he; rw[hw.size]; exact wf.pP b' y he
    · intro j hj
      rw[Q3]
      by_cases h1:id=j
      · subst h1
        rw[if_pos rfl]
        refine .inr ⟨b,oe,el,(fl,fh),dq _ _ _,hw.here,by rw[fx]; omega,fun y h1 => ?_,?_⟩
        · have:=UZ y (by omega)
          rw[Dz BX]at this
          rw[Dz hw.here]; exact this
        · rw[fx]; exact Qf rr C7
      · rw[if_neg h1]
        split
        · trivial
        · rename_i h2
          by_cases hl:(h.at j).live
          · refine (wf.obj j (by simpa using hj)).keep x (fun b' pQ=>hw.other b' ?_) (Lx j (Ne.symm h1)).1 (Lx j (Ne.symm h1)).2
            rintro rfl
            exact JR j (Ne.symm h2) hl pQ
          · revert hl; cases h.at j <;> simp[ca.live,oJ]
    · intro j k b' hj hk h1 h2
      rw[Q3]at hj hk
      by_cases e1:id=j <;> by_cases e2:id=k
      · exact e1.symm.trans e2
      · subst e1
        rw[dq]at h1; cases h1
        rw[if_neg e2]at hk
        rw[(Lx k (Ne.symm e2)).1]at h2
        split at hk
        · exact hk.elim
        · rename_i h3; exact absurd h2 (JR k (Ne.symm h3) hk)
      · subst e2
        rw[dq]at h2; cases h2
        rw[if_neg e1]at hj
        rw[(Lx j (Ne.symm e1)).1]at h1
        split at hj
        · exact hj.elim
        · rename_i h3; exact absurd h1 (JR j (Ne.symm h3) hj)
      · rw[if_neg e1]at hj
        rw[if_neg e2]at hk
        rw[(Lx j (Ne.symm e1)).1]at h1
        rw[(Lx k (Ne.symm e2)).1]at h2
        split at hj
        · exact hj.elim
        · split at hk
          · exact hk.elim
          · exact wf.inj j k b' hj hk h1 h2
    · exact wf.sA x
  refine ⟨_,U2,x, .row ⟨by simpa using hid,by rw[Q3,if_pos rfl]; simp⟩ (by omega) ⟨_,_,rfl,fun _=>⟨_,rfl⟩,fun T' l' he => ?_⟩⟩
  rw[Q3,if_pos rfl]at he
  cases he
  exact ⟨rfl,me,s7, .inr ⟨b,oe,el,(fl,fh),dq _ _ _,by rw[fx],hw.here,by rw[fx,Cs]; exact qL⟩⟩

def Qg (P:Program) (w:World) (h:az) (c:kA) (s:Sem Value) (k:V→az→Option R) (r:R):Prop :=
  ∃v h' v' w' c',s.run P w = .ok v' w'∧WF w' h' c'∧Ext w h c w' h' c'∧dK w' h' c' v v'∧k v h'=some r

theorem IC (T:yb P tt) (wf:WF w h c) {t xt e id:Nat} (ht:(tt.at t).d = .slice e) (Qc:(∃e',P.underlying xt=some (.slice e'))∨P.underlying xt=some .string) {s x:V} {s' x':Value}
    (rs:dK w h c s s') (rx:dK w h c x x') (hid:id<h.length) (hf:h.at id = .free) (ty:Nat) {k:V→az→Option R} {r:R} (hk:oB tt e s x h id k=some r) :
    Qg P w h c (Builtin.append_ #[t,xt] ty #[s',x']) k r:=by
  unfold oB at hk
  split at hk <;> try (first|cases hk)
  rename_i T' hty
  split at hk <;> try (first|cases hk)
  rename_i w6
  simp only[Bool.and_eq_true,decide_eq_true_eq,bne_iff_ne,ne_eq]at w6
  obtain ⟨⟨qL,hnz⟩,sv⟩:=w6
  split at hk <;> try (first|cases hk)
  rename_i m hsrc
  obtain ⟨news,n1,n2,n3,n4⟩:=Wu (P:=P) wf qL rx hsrc
  have Oq:=n3.1
  rw[lx,qL]at Oq
  have U3:=US n3 (Mr T' m)
  have hbig:∀n:Nat,(n+m.length)*(tt.at e).bytes≤140737488355328→n+m.length≤mx:=fun n hb=>by
    have:n+m.length≤(n+m.length)*(tt.at e).bytes:=Nat.le_mul_of_pos_right _ (by omega)
    unfold mx; omega
  have Tz:∀o:Nat,o=0→Tf T' o e:=fun o ho hT=>⟨ho,T.u8s e (by rw[hty,hT])⟩
  have U4:((0+m.length)*(tt.at e).bytes≤140737488355328)→k (.sl T' m (.own id)) (h.set id .tok)=some r→Qg P w h c (Builtin.append_ #[t,xt] ty #[.slice none 0 0,x']) k r:=by
    intro CP hk
    have:=w8 (P:=P) (w:=w) (A:=none) (n:=0) (cap:=0) (m:=m.length) (x:=x') (olds := []) (news:=news) T ht sv Qc ty n1 n2 Oq.symm U3 (by simp) (fun h=>absurd rfl h) (Nat.le_refl _) (by unfold mx; omega) (.inl ⟨rfl,rfl⟩) CP (by omega)
    rcases this with ⟨h1,_,hm0,mZ⟩|⟨_,b,o,arr,el,fz,w',oe,hA,_⟩|⟨cap,ds,h1,h2,h3,h4,mZ⟩
    · have hm:m = []:=List.eq_nil_of_length_eq_zero hm0
      subst hm
      obtain ⟨c',g1,g2,g3⟩:=Iz wf hid hf (T:=T')
      exact ⟨_,_,_,w,c',mZ,g1,g2,g3,hk⟩
    · cases hA
    · rw[Nat.zero_add]at h1 h4 mZ
      rw[←qL]at h3 h4
      obtain ⟨c',g1,g2,g3⟩:=O0 wf hid hf n3 (Tz 0 rfl) h3 (by simpa using h4) h1 h2 (e:=e)
      exact ⟨_,_,_,_,c',mZ,g1,g2,g3,hk⟩
  have FE:((0+m.length)*(tt.at e).bytes≤140737488355328)→k (.row id m.length) (h.set id (.row T' m))=some r→Qg P w h c (Builtin.append_ #[t,xt] ty #[.slice none 0 0,x']) k r:=by
    intro CP hk
    have:=w8 (P:=P) (w:=w) (A:=none) (n:=0) (cap:=0) (m:=m.length) (x:=x') (olds := []) (news:=news) T ht sv Qc ty n1 n2 Oq.symm U3 (by simp) (fun h=>absurd rfl h) (Nat.le_refl _) (by unfold mx; omega) (.inl ⟨rfl,rfl⟩) CP (by omega)
    rcases this with ⟨h1,_,hm0,mZ⟩|⟨_,b,o,arr,el,fz,w',oe,hA,_⟩|⟨cap,ds,h1,h2,h3,h4,mZ⟩
    · have hm:m = []:=List.eq_nil_of_length_eq_zero hm0
      subst hm
      obtain ⟨c',g1,g2,g3⟩:=Ms wf hid hf (T:=T')
      exact ⟨_,_,_,w,c',mZ,g1,g2,g3,hk⟩
    · cases hA
    · rw[Nat.zero_add]at h1 h4 mZ
      rw[←qL]at h3 h4
      obtain ⟨c',g1,g2,g3⟩:=O1 wf hid hf n3 h3 (by simpa using h4) h1 h2 (e:=e)
      exact ⟨_,_,_,_,c',mZ,g1,g2,g3,hk⟩
  split at hk <;> try (first|cases hk)
  · obtain ⟨CP,hk⟩:=cB hk
    cases rs
    split at hk
    · exact FE (by simpa using CP) hk
    · exact U4 (by simpa using CP) hk
  · rename_i T'' l tk
    split at hk <;> try (first|cases hk)
    rename_i q
    subst q
    simp only at hk
    split at hk <;> try (first|cases hk)
    · obtain ⟨CP,hk⟩:=cB hk
      cases rs with
      | sl f me s7 hc hr yv nk =>
        obtain ⟨rfl,rfl⟩:=yv rfl
        have KC:l = []:=List.eq_nil_of_length_eq_zero (by omega)
        subst KC
        exact U4 (by simpa using CP) hk
    · rename_i i
      split at hk <;> try (first|cases hk)
      rename_i Ma
      obtain ⟨CP,hk⟩:=cB hk
      have Mt:(l.length+m.length)*(tt.at e).bytes≤140737488355328:=by simpa using CP
      have km:i≠id:=by rintro rfl; rw[Ma]at hf; cases hf
      have Ww:id<(h.set i .dead).length:=by simpa using hid
      have Rt:az.at (h.set i .dead) id = .free:=by rw[de _ km]; exact hf
      obtain ⟨A,cap,rfl,me,s7⟩:=JL rs
      obtain ⟨olds,ro,ho⟩:=RH rs
      have hol:=ro.1
      rw[lx,qL]at hol
      have nk:(c.s5 i=none∧A=none∧cap=0)∨∃b o arr e fz,c.s5 i=some b∧A=some ⟨b,o,none⟩∧c.off i=o+l.length*T''.sz∧w.heap[b]? = some (.cells arr e fz)∧o+cap*T''.sz≤arr.size∧Tf T'' o e:=by
        cases rs with
        | sl f me s7 hc hr yv nk=>exact (nk i rfl).2 Ma
      have RL:=wf.obj i (az.gM Ma (by simp))
      rw[Ma]at RL
      have hA:(A=none∧cap=0)∨∃b o arr el fz,A=some ⟨b,o,none⟩∧w.heap[b]? = some (.cells arr el fz)∧o+cap*(tt.at e).size≤arr.size∧∀y,o+l.length*(tt.at e).size≤y→y<arr.size→w.frozen? ⟨b,y,none⟩=false:=by
        rcases nk with ⟨_,h1,h2⟩|⟨b,o,arr,el,fz,g1,g2,g3,g4,g5,_⟩
        · exact .inl ⟨h1,h2⟩
        · refine .inr ⟨b,o,arr,el,fz,g2,g4,by rw[←qL]; exact g5,?_⟩
          rcases RL with h0|⟨b',FF,e',GM,p1,p2,p3,p4⟩
          · rw[g1]at h0; cases h0
          · rw[g1]at p1; cases p1
            rw[g4]at p2; cases p2
            intro y h1 h2
            exact TA g4 p4 (by rw[g3,qL]; exact h1)
      have:=w8 (P:=P) (w:=w) (n:=l.length) (olds:=olds) T ht sv Qc ty n1 n2 Oq.symm U3 hol.symm (fun hn=>by
        obtain ⟨b,o,q1,q2,_⟩:=ho (by rintro rfl; exact hn rfl)
        exact ⟨b,o,q1,q2⟩) me s7 hA Mt (hbig _ Mt)
      have k1:=FI (w:=w) (h:=h) (c:=c) i
      have k2:=Qd wf i
      rcases this with ⟨h1,hA0,hm0,mZ⟩|⟨RI,b,o,arr,el,fz,w',oe,hA1,BX,hsz1,mZ,hw,Iy⟩|⟨cap',ds,h1,h2,h3,h4,mZ⟩
      · have hm:m = []:=List.eq_nil_of_length_eq_zero hm0
        subst hm
        have KC:l = []:=by
          rcases nk with ⟨_,_,Ig⟩|⟨b,o,arr,el,fz,_,g2,_⟩
          · exact List.eq_nil_of_length_eq_zero (by omega)
          · rw[g2]at hA0; cases hA0
        subst KC
        have Ig:cap=0:=by
          rcases nk with ⟨_,_,Ig⟩|⟨b,o,arr,el,fz,_,g2,_⟩
          · exact Ig
          · rw[g2]at hA0; cases hA0
        subst Ig
        subst hA0
        obtain ⟨c',g1,g2,g3⟩:=Iz k2 Ww Rt (T:=T'')
        exact ⟨_,_,_,w,c',mZ,g1,k1.trans g2,g3,hk⟩
      · rcases nk with ⟨_,hA2,_⟩|⟨b',o',FF,el',GM,g1,g2,g3,g4,g5,g6⟩
        · rw[hA2]at hA1; cases hA1
        · rw[g2]at hA1; cases hA1
          rw[g4]at BX; cases BX
          subst g2
          have hlen:(l++m).length=l.length+m.length:=List.length_append
          obtain ⟨c',q1,q2,q3⟩:=fit_tok (l:=l) (m:=m) wf Ma hid hf g1 g3 g6 g4 hw (by omega) s7 g5 ro n3 (fun km=>by
            obtain ⟨b2,o2,p1,p2,_⟩:=ho km
            cases p1; exact p2) (fun y y1 y2=>by
            by_cases km:l = []
            · subst km; simp at y2; omega
            · obtain ⟨b2,o2,p1,_,p3⟩:=ho km
              cases p1; exact p3 y y1 y2) (by rw[qL]; exact Iy)
          rw[hlen]at q3
          exact ⟨_,_,_,w',c',mZ,q1,q2,q3,hk⟩
      · have hlen:(l++m).length=l.length+m.length:=List.length_append
        obtain ⟨c',q1,q2,q3⟩:=O0 (l:=l++m) k2 Ww Rt (by rw[uV]; exact (ro.mono k1).append (n3.mono k1)) (Tz 0 rfl) (by rw[qL]; exact h3) (by rw[hlen,qL]; exact h4) (by omega) h2 (e:=e)
        rw[hlen]at q3
        exact ⟨_,_,_,_,c',mZ,q1,k1.trans q2,q3,hk⟩
  · rename_i i n
    split at hk <;> try (first|cases hk)
    rename_i T'' l Cr
    split at hk <;> try (first|cases hk)
    rename_i q
    subst q
    obtain ⟨CP,hk⟩:=cB hk
    simp only at hk
    have Mt:(l.length+m.length)*(tt.at e).bytes≤140737488355328:=by simpa using CP
    have km:i≠id:=by rintro rfl; rw[Cr]at hf; cases hf
    have Ww:id<(h.set i .dead).length:=by simpa using hid
    have Rt:az.at (h.set i .dead) id = .free:=by rw[de _ km]; exact hf
    obtain ⟨olds,ro,ho⟩:=Qe wf Cr
    have hol:=ro.1
    rw[lx,qL]at hol
    have RL:=wf.obj i (az.gM Cr (by simp))
    rw[Cr]at RL
    cases rs with
    | row hu hn hv =>
      obtain ⟨A,cap,rfl,hA0,hv⟩:=hv
      obtain ⟨hnl',me,s7,nk⟩:=hv _ _ Cr
      subst hnl'
      have hA:(A=none∧cap=0)∨∃b o arr el fz,A=some ⟨b,o,none⟩∧w.heap[b]? = some (.cells arr el fz)∧o+cap*(tt.at e).size≤arr.size∧∀y,o+l.length*(tt.at e).size≤y→y<arr.size→w.frozen? ⟨b,y,none⟩=false:=by
        rcases nk with ⟨_,h1,h2⟩|⟨b,arr,el,fz,g1,g2,g4,g5⟩
        · exact .inl ⟨h1,h2⟩
        · refine .inr ⟨b,c.off i,arr,el,fz,g2,g4,by rw[←qL]; exact g5,?_⟩
          rcases RL with ⟨h0,_⟩|⟨b',FF,e',GM,p1,p2,p3,p4,_⟩
          · rw[g1]at h0; cases h0
          · rw[g1]at p1; cases p1
            rw[g4]at p2; cases p2
            intro y _ h2
            exact p4 y h2
      have:=w8 (P:=P) (w:=w) (n:=l.length) (olds:=olds) T ht sv Qc ty n1 n2 Oq.symm U3 hol.symm (fun hn=>by
        obtain ⟨b,q1,q2⟩:=ho (by rintro rfl; exact hn rfl)
        rcases nk with ⟨p1,_⟩|⟨b',arr,el,fz,p1,p2,_⟩
        · rw[q1]at p1; cases p1
        · rw[q1]at p1; cases p1
          exact ⟨b,_,p2,q2⟩) me s7 hA Mt (hbig _ Mt)
      have k1:=FI (w:=w) (h:=h) (c:=c) i
      have k2:=Qd wf i
      have hlen:(l++m).length=l.length+m.length:=List.length_append
      rcases this with ⟨h1,hAn,hm0,mZ⟩|⟨RI,b,o,arr,el,fz,w',oe,hA1,BX,hsz1,mZ,hw,Iy⟩|⟨cap',ds,h1,h2,h3,h4,mZ⟩
      · have hm:m = []:=List.eq_nil_of_length_eq_zero hm0
        subst hm
        have Ig:cap=0:=by
          rcases nk with ⟨_,_,Ig⟩|⟨b,arr,el,fz,_,g2,_⟩
          · exact Ig
          · rw[g2]at hAn; cases hAn
        have KC:l = []:=List.eq_nil_of_length_eq_zero (by omega)
        subst KC
        subst Ig
        subst hAn
        obtain ⟨c',g1,g2,g3⟩:=Ms k2 Ww Rt (T:=T'')
        exact ⟨_,_,_,w,c',mZ,g1,k1.trans g2,g3,hk⟩
      · rcases nk with ⟨_,hA2,_⟩|⟨b',FF,el',GM,g1,g2,g4,g5⟩
        · rw[hA2]at hA1; cases hA1
        · rw[g2]at hA1; cases hA1
          rw[g4]at BX; cases BX
          subst g2
          obtain ⟨c',q1,q2,q3⟩:=fit_row (l:=l) (m:=m) wf Cr hid hf g1 g4 hw (by omega) s7 g5 ro n3 (fun km=>by
            obtain ⟨b2,p1,p2⟩:=ho km
            rw[g1]at p1; cases p1; exact p2) (by rw[qL]; exact Iy)
          rw[hlen]at q3
          exact ⟨_,_,_,w',c',mZ,q1,q2,q3,hk⟩
      · obtain ⟨c',q1,q2,q3⟩:=O1 (l:=l++m) k2 Ww Rt (by rw[uV]; exact (ro.mono k1).append (n3.mono k1)) (by rw[qL]; exact h3) (by rw[hlen,qL]; exact h4) (by omega) h2 (e:=e)
        rw[hlen]at q3
        exact ⟨_,_,_,_,c',mZ,q1,k1.trans q2,q3,hk⟩
end

section
variable {P:Program} {tt:dO} {w w':World} {h:az} {c:kA} {R:Type}

def Obj.U5:Obj→Bool
  | .cells _ _ _=>true
  | _=>false

theorem Qh (wf:WF w h c) {i b:Nat} {o':ca} {o1 o2:Obj} (hb:c.s5 i=some b) (h1:w.heap[b]? = some o1) (hn1:Obj.U5 o1=false)
    (sB:(h.at i).from_ (c.off i)=some 0) (Mp:o'.from_ (c.off i)=some 0) (ur:(h.at i).iQ o')
    (C9:Ext w h c { w with heap:=w.heap.setIfInBounds b o2 } (h.set i o') c→oJ { w with heap:=w.heap.setIfInBounds b o2 } (h.set i o') c i o') :
    WF { w with heap:=w.heap.setIfInBounds b o2 } (h.set i o') c∧Ext w h c { w with heap:=w.heap.setIfInBounds b o2 } (h.set i o') c:=by
  have hi:i<h.length:=az.gM rfl (ca.Dw ur).1
  have nk:∀x,uo h c b x:=fun x=>⟨i,0,hb,sB,Nat.zero_le _⟩
  have Qi:∀k,k≠b→(w.heap.setIfInBounds b o2)[k]? = w.heap[k]? :=fun k hk=>by
    rw[Array.getElem?_setIfInBounds]; simp[Ne.symm hk]
  have hli:=tM sB
  have x:Ext w h c { w with heap:=w.heap.setIfInBounds b o2 } (h.set i o') c:=by
    constructor
    · rfl
    · rfl
    · rfl
    · simp
    · intro j hj
      by_cases ye:i=j
      · subst ye
        refine ⟨by simpa using hj.1,?_⟩
        rw[nq _ hi]
        intro he; subst he; simp[ca.from_]at Mp
      · exact ⟨by simpa using hj.1,by rw[de _ ye]; exact hj.2⟩
    · intro j hj hd
      refine ⟨?_,rfl,rfl⟩
      by_cases ye:i=j
      · subst ye; rw[nq _ hi]; exact ur
      · rw[de _ ye]at hd ⊢
        have h2:=hj.2
        revert hd h2
        cases h.at j <;> simp[ca.iQ]
    · intro b' x hx ho
      have km:b'≠b:=by rintro rfl; exact ho (nk x)
      exact s9 (Qi b' km)
    · intro b' hx ho
      have km:b'≠b:=by rintro rfl; exact ho 0 (nk 0)
      exact Qi b' km
    · rintro b' x hx ⟨j,f,g1,g2,g3⟩
      by_cases ye:i=j
      · subst ye
        rw[hb]at g1; cases g1
        exact nk x
      · rw[de _ ye]at g2
        exact ⟨j,f,g1,g2,g3⟩
    · rfl
    · intro b' arr el GM ha
      by_cases km:b'=b
      · subst km
        rw[h1]at ha; cases ha
        simp[Obj.U5]at hn1
      · exact ⟨arr,GM,by rw[Qi b' km]; exact ha,rfl⟩
  have RD:∀j,(az.at (h.set i o') j).live→(h.at j).live:=fun j hj=>by
    by_cases ye:i=j
    · subst ye; exact hli
    · rw[de _ ye]at hj; exact hj
  refine ⟨?_,x⟩
  constructor
  · intro b' y ho he
    exact wf.yw b' y (x.wK b' y (wf.pP b' y he) ho) he
  · intro b' y he
    simpa using wf.pP b' y he
  · intro j hj
    by_cases ye:i=j
    · subst ye; rw[nq _ hi]; exact C9 x
    · rw[de _ ye]
      by_cases hl:(h.at j).live
      · refine (wf.obj j (by simpa using hj)).keep x (fun b' pQ=>Qi b' ?_) rfl rfl
        rintro rfl
        exact ye (wf.inj i j b' hli hl hb pQ)
      · revert hl; cases h.at j <;> simp[ca.live,oJ]
  · intro j k b' hj hk h1 h2
    exact wf.inj j k b' (RD j hj) (RD k hk) h1 h2
  · exact wf.sA x

theorem JS (s:ByteArray) (i:Nat):(Utf8.decode s i).1<2097152∧1≤(Utf8.decode s i).2∧(Utf8.decode s i).2≤4:=by
  have hb:∀k,(s.get! k).toNat<256:=fun k=>UInt8.toNat_lt _
  have h0:=hb (i+0)
  unfold Utf8.decode
  simp only
  split
  · exact ⟨by omega,by simp,by simp⟩
  · split
    · split
      · exact ⟨by simp only; omega,by simp,by simp⟩
      · exact ⟨by simp[Utf8.runeError],by simp,by simp⟩
    · split
      · split
        · exact ⟨by simp only; omega,by simp,by simp⟩
        · exact ⟨by simp[Utf8.runeError],by simp,by simp⟩
      · split
        · split
          · exact ⟨by simp only; omega,by simp,by simp⟩
          · exact ⟨by simp[Utf8.runeError],by simp,by simp⟩
        · exact ⟨by simp[Utf8.runeError],by simp,by simp⟩

theorem RM (n:Nat) (h:n<2097152):IntKind.i32.has (n:Int):=by
  unfold IntKind.has; simp[IntKind.min,IntKind.max,IntKind.signed,IntKind.bits]; omega

theorem TF (wf:WF w h c) {i:Nat} {s:aj} {pos:Nat} {a':Value} (ra:dK w h c (.ptr i 0) a') (hit:h.at i = .iter s pos) (ty:TypeId) {k:V→az→Option R} {r:R}
    (hk:(bif decide (pos<s.length)then k (.tuple [.bool true, .int .i64 pos, .int .i32 (mW s pos).1]) (h.set i (.iter s (pos+(mW s pos).2)))else k (.tuple [.bool false]) h)=some r) :
    Qg P w h c (Instr.next a' true ty) k r:=by
  have hi:=az.gM hit (by simp)
  have ho:=wf.obj i hi
  rw[hit]at ho
  obtain ⟨b,bs,g1,g2,g3,g4⟩:=ho
  cases ra with
  | ptr hu hv =>
    obtain ⟨b',rfl,pQ⟩:=hv
    have:=pQ (by rw[hit]; simp)
    rw[g1]at this; cases this
    have hlen:s.length=bs.size:=by rw[←g3,size_data]
    have hbs:bs=⟨s.toArray⟩:=s8 (by rw[g3])
    have hdec:Utf8.decode bs pos=mW s pos:=by rw[hbs]; rfl
    have C8:(getObj b).run P w = .ok (.stringIter bs pos) w:=by simp[getObj,Sem.run,g2]
    by_cases hp:pos<s.length
    · have hc:decide (pos<s.length)=true:=by simpa using hp
      rw[hc]at hk
      have TG:(setObj b (.stringIter bs (pos+(mW s pos).2))).run P w = .ok () { w with heap:=w.heap.setIfInBounds b (.stringIter bs (pos+(mW s pos).2)) }:=by
        simp[setObj,Sem.run,g2]
      have lp:b<w.heap.size:=zt g2
      have hrune:=(JS bs pos).1
      rw[hdec]at hrune
      have sB:(h.at i).from_ (c.off i)=some 0:=by rw[hit]; rfl
      have ur:(h.at i).iQ (.iter s (pos+(mW s pos).2)):=by rw[hit]; trivial
      obtain ⟨q1,q2⟩:=Qh wf (o' := .iter s (pos+(mW s pos).2)) (o2 := .stringIter bs (pos+(mW s pos).2)) g1 g2 rfl sB rfl ur
        (fun _=>⟨b,bs,g1,by simp[Array.getElem?_setIfInBounds,lp],g3,g4⟩)
      refine ⟨_,_, .tuple #[.bool true,goInt pos, .int .i32 (mW s pos).1],_,c,?_,q1,q2,?_,hk⟩
      · simp only[Instr.next,Sem.run_bind,C8,Result.andThen_ok]
        rw[if_pos (by omega),hdec]
        simp only[Sem.run_bind,TG,Result.andThen_ok,Sem.run_pure]
      · refine .tuple rfl fun j v d hv hd => ?_
        match j,hv,hd with
        | 0,hv,hd=>simp at hv hd; subst hv; subst hd; exact .bool _
        | 1,hv,hd=>simp[goInt]at hv hd; subst hv; subst hd; exact .int (D9 _ (by omega))
        | 2,hv,hd=>simp at hv hd; subst hv; subst hd; exact .int (RM _ hrune)
        | j+3,hv,_=>simp at hv
    · have hc:decide (pos<s.length)=false:=by simpa using hp
      rw[hc]at hk
      refine ⟨_,_, .tuple #[.bool false],w,c,?_,wf, .refl _ _ _,?_,hk⟩
      · simp only[Instr.next,Sem.run_bind,C8,Result.andThen_ok]
        rw[if_neg (by omega)]
        rfl
      · refine .tuple rfl fun j v d hv hd => ?_
        match j,hv,hd with
        | 0,hv,hd=>simp at hv hd; subst hv; subst hd; exact .bool _
        | j+1,hv,_=>simp at hv
end
end Go.ay

namespace Go.ay
open Go.RowKit Go.MapKept

section
variable {P:Program} {tt:dO} {w w':World} {h:az} {c:kA} {R:Type}

theorem ID (T:yb P tt) (wf:WF w h c) {t kt vt i:Nat} {K V':Ty} {l:List (K.den × V'.den)} (ht:(tt.at t).d = .map kt vt) {m d y:Value} (rm:dK w h c (.map i) m) (hm:h.at i = .vL K V' l)
    (hf:(wX tt kt K&&Ap tt vt V')=true) {v u:V} (rk:dK w h c v d) (ru:dK w h c u y) {kx:K.den} {vx:V'.den} (hx:elD K v=some kx) (hy:elD V' u=some vx) :
    ∃w',(Instr.mapUpdate t m d y).run P w = .ok () w'∧WF w' (h.set i (.vL K V' (wW K V' kx vx l))) c∧Ext w h c w' (h.set i (.vL K V' (wW K V' kx vx l))) c:=by
  simp only[Bool.and_eq_true]at hf
  obtain ⟨Rt,hf2⟩:=hf
  have hi:=az.gM hm (by simp)
  have ho:=wf.obj i hi
  rw[hm]at ho
  obtain ⟨b,es,clock,g1,g2,g3,g4,g5,g6⟩:=ho
  cases rm with
  | map hu hv =>
    obtain ⟨b',rfl,pQ⟩:=hv
    have:=pQ (by rw[hm]; simp)
    rw[g1]at this; cases this
    have hut:P.underlying t=some (.map kt vt):=eR T ht
    have e:=Tj hx (Mi Rt).1
    subst e
    have e:=Tj hy (Mj hf2)
    subst e
    have hl:es.toList.length=l.length:=by simpa using g5
    have hr:∀(j:Nat) (x:K.den × V'.den) (e:MapEntry),l[j]? = some x→es.toList[j]? = some e→dK w h c (N9 K x.1) e.key:=fun j x e hx he=>(g6 j x e hx (by simpa using he)).1
    obtain ⟨u,hu',hik,_⟩:=Ir T Rt rk rk
    have Iu:=run_findKey (w:=w) hu' (Mh T Rt rk hu' l es.toList 0 hl hr)
    have Yj:=run_checkKey (w:=w) hu' hik false 9999
    have C8:=Go.MapKept.run_getObj_map (P:=P) g2
    have lp:b<w.heap.size:=zt g2
    have sB:(h.at i).from_ (c.off i)=some 0:=by rw[hm]; rfl
    have ur:∀l':List (K.den × V'.den),(h.at i).iQ (.vL K V' l'):=fun l'=>by rw[hm]; exact ⟨rfl,rfl⟩
    rcases JM (K:=K) (T:=V') (k:=kx) l es.toList 0 hl with ⟨h1,h2,h3,h4⟩|⟨j,x,e,h1,h2,h3,h4,h5,h6,h7⟩
    · rw[h1]at Iu
      rw[h4 vx]
      have TG:=Go.MapKept.run_setObj_map (P:=P) (.map (es.push { key:=d,val:=y,born:=clock }) (clock+1)) g2
      obtain ⟨q1,q2⟩:=Qh wf (o' := .vL K V' (l ++ [(kx,vx)])) (o2 := .map (es.push { key:=d,val:=y,born:=clock }) (clock+1)) g1 g2 rfl sB rfl (ur _) (fun x=>by
        refine ⟨b,es.push { key:=d,val:=y,born:=clock },clock+1,g1,by simp[Array.getElem?_setIfInBounds,lp],g3,g4,by simp[g5],fun j q e hq he => ?_⟩
        by_cases hj:j<l.length
        · rw[List.getElem?_append_left hj]at hq
          rw[Array.getElem?_push,if_neg (by omega)]at he
          exact ⟨(g6 j q e hq he).1.mono x,(g6 j q e hq he).2.mono x⟩
        · have hj2:j=l.length:=by
            have:=(List.getElem?_eq_some_iff.1 hq).1
            simp at this; omega
          subst hj2
          rw[List.getElem?_append_right (Nat.le_refl _)]at hq
          simp at hq; subst hq
          rw[Array.getElem?_push,if_pos g5.symm]at he
          cases he
          exact ⟨rk.mono x,ru.mono x⟩)
      refine ⟨_,?_,q1,q2⟩
      simp[Instr.mapUpdate,run_underlying hut,C8,Yj,Iu,TG]
    · rw[Nat.zero_add]at h1
      rw[h1]at Iu
      rw[h7 vx]
      have hej:es[j]? = some e:=by simpa using h3
      have Yo:e.key=d:=by
        obtain ⟨u2,_,_,_,_,q⟩:=Ir T Rt rk (g6 j x e h2 hej).1
        exact q h4
      have hget2:((es[j]?).map (·.key)).getD d=d:=by rw[hej]; simpa using Yo
      have hstay:=run_keyThatStays (P:=P) (w:=w) hik
      have TG:=Go.MapKept.run_setObj_map (P:=P) (.map (es.modify j fun e => { e with key:=d,val:=y }) clock) g2
      obtain ⟨q1,q2⟩:=Qh wf (o' := .vL K V' (l.set j (kx,vx))) (o2 := .map (es.modify j fun e => { e with key:=d,val:=y }) clock) g1 g2 rfl sB rfl (ur _) (fun x'=>by
        refine ⟨b,es.modify j fun e => { e with key:=d,val:=y },clock,g1,by simp[Array.getElem?_setIfInBounds,lp],g3,g4,by simp[g5],fun j' q e' hq he => ?_⟩
        rw[Array.getElem?_modify]at he
        rw[List.getElem?_set]at hq
        by_cases hj:j=j'
        · subst hj
          rw[if_pos rfl]at hq he
          rw[hej]at he
          simp at he; subst he
          split at hq
          · cases hq; exact ⟨rk.mono x',ru.mono x'⟩
          · cases hq
        · rw[if_neg hj]at hq he
          exact ⟨(g6 j' q e' hq he).1.mono x',(g6 j' q e' hq he).2.mono x'⟩)
      refine ⟨_,?_,q1,q2⟩
      simp only[Instr.mapUpdate,Sem.run_bind,run_underlying hut,Result.andThen_ok,C8,Yj,Iu,hget2,hstay,TG]
end
end Go.ay

namespace Go.ay
open Go.RowKit

section
variable {P:Program} {tt:dO} {w w':World} {h:az} {c:kA} {R:Type}

theorem Wx (T:yb P tt) (wf:WF w h c) {o:Oper} {ρ:Operand→V} {ρ':Operand→Value} (hρ:∀x,dK w h c (ρ x) (ρ' x)) {id:Nat} (hid:id<h.length) (hf:h.at id = .free) {k:V→az→Option R} {r:R}
    (hk:Lz tt o.op ρ h id k=some r) :
    ∃v h' v' w' c' nx,(execOp ρ' o).run P w = .ok nx w'∧(nx = .value v'∨nx = .skip∧v'=undef)∧WF w' h' c'∧Ext w h c w' h' c'∧dK w' h' c' v v'∧k v h'=some r:=by
  obtain ⟨dst,op,type,pos,after,guard⟩:=o
  cases op <;> (try simp only[Lz]at hk) <;> try (first|cases hk)
  case store t x y =>
    split at hk <;> try (first|cases hk)
    rename_i vs hvs
    obtain ⟨rv,h1,_⟩:=FG (hρ y) hvs
    split at hk <;> try (first|cases hk)
    rename_i w6
    simp only[Bool.and_eq_true,decide_eq_true_eq]at w6
    obtain ⟨sv,qL⟩:=w6
    have rx:=hρ x
    split at hk <;> try (first|cases hk)
    · rename_i i o hx
      rw[hx]at rx
      split at hk <;> try (first|cases hk)
      · rename_i cs Cs
        split at hk <;> try (first|cases hk)
        rename_i lp
        obtain ⟨w',g1,g2,g3⟩:=RE (P:=P) wf T rx Cs rv h1 sv qL lp
        exact ⟨_,_,undef,w',c, .skip,by simp[execOp,g1], .inr ⟨rfl,rfl⟩,g2,g3, .undef _,hk⟩
      rename_i u Cs
      split at hk <;> try (first|cases hk)
      rename_i v
      obtain ⟨w',g1,g2,g3⟩:=Wq (P:=P) wf T rx Cs rv h1 sv (by simpa using qL)
      exact ⟨_,_,undef,w',c, .skip,by simp[execOp,g1], .inr ⟨rfl,rfl⟩,g2,g3, .undef _,hk⟩
    · rename_i i sz j o hx
      rw[hx]at rx
      split at hk <;> try (first|cases hk)
      rename_i T' l Cr
      split at hk <;> try (first|cases hk)
      rename_i hn
      split at hk <;> try (first|cases hk)
      rename_i lp
      split at hk <;> try (first|cases hk)
      rename_i z hz
      obtain ⟨hj,hk⟩:=cB hk
      simp only[decide_eq_true_eq]at hj
      obtain ⟨w',g1,g2,g3⟩:=Wr (P:=P) wf T rx Cr rv h1 sv hn qL hj lp hz
      exact ⟨_,_,undef,w',c, .skip,by simp[execOp,g1], .inr ⟨rfl,rfl⟩,g2,g3, .undef _,hk⟩
  case mapUpdate t m x y =>
    have rm:=hρ m
    split at hk <;> try (first|cases hk)
    rename_i kt vt i ht hx
    rw[hx]at rm
    split at hk <;> try (first|cases hk)
    rename_i K V' l hm
    split at hk <;> try (first|cases hk)
    rename_i hf
    split at hk <;> try (first|cases hk)
    rename_i kx vx hkx hvx
    obtain ⟨w',g1,g2,g3⟩:=ID (P:=P) T wf ht rm hm hf (hρ x) (hρ y) hkx hvx
    exact ⟨_,_,undef,w',c, .skip,by simp[execOp,g1], .inr ⟨rfl,rfl⟩,g2,g3, .undef _,hk⟩
  case insert t m x y =>
    have rm:=hρ m
    split at hk <;> try (first|cases hk)
    rename_i kt vt i ht hx
    rw[hx]at rm
    split at hk <;> try (first|cases hk)
    rename_i K V' l hm
    split at hk <;> try (first|cases hk)
    rename_i hf
    split at hk <;> try (first|cases hk)
    rename_i kx vx hkx hvx
    obtain ⟨w',g1,g2,g3⟩:=ID (P:=P) T wf ht rm hm hf (hρ x) (hρ y) hkx hvx
    exact ⟨_,_,undef,w',c, .skip,by simp[execOp,g1], .inr ⟨rfl,rfl⟩,g2,g3, .undef _,hk⟩
  case next x str =>
    have rx:=hρ x
    split at hk <;> try (first|cases hk)
    rename_i i hx
    rw[hx]at rx
    split at hk <;> try (first|cases hk)
    rename_i s pos hit
    obtain ⟨v,h',v',w',c',g1,g2,g3,g4,g5⟩:=TF (P:=P) wf rx hit type hk
    exact ⟨v,h',v',w',c', .value v',by simp[execOp,g1], .inl rfl,g2,g3,g4,g5⟩
  case call cl =>
    obtain ⟨callee,args,argTypes⟩:=cl
    simp only at hk
    split at hk <;> try (first|cases hk)
    rename_i s x t xt ha Q3
    obtain rfl:args = #[s,x]:=by cases args; simp_all
    obtain rfl:argTypes = #[t,xt]:=by cases argTypes; simp_all
    split at hk <;> try (first|cases hk)
    · rename_i e e' ht Qc
      have hu:=eR T Qc
      simp only[TD.Is]at hu
      obtain ⟨v,h',v',w',c',g1,g2,g3,g4,g5⟩:=IC T wf ht (.inl ⟨_,hu⟩) (hρ s) (hρ x) hid hf type hk
      exact ⟨v,h',v',w',c', .value v',by simp[execOp,resolve,invoke,builtin,g1], .inl rfl,g2,g3,g4,g5⟩
    · rename_i e ht Qc
      have hu:=eR T Qc
      simp only[TD.Is]at hu
      obtain ⟨v,h',v',w',c',g1,g2,g3,g4,g5⟩:=IC T wf ht (.inr hu) (hρ s) (hρ x) hid hf type hk
      exact ⟨v,h',v',w',c', .value v',by simp[execOp,resolve,invoke,builtin,g1], .inl rfl,g2,g3,g4,g5⟩
end

section
variable {w w':World} {h h2:az} {c c2:kA}

theorem LC (ρ:Nat→Option Nat):∀l:List V,V.yt ρ l=l.map (V.pZ ρ)
  | []=>rfl
  | v::l=>by simp only[V.yt,List.map_cons,LC ρ l]

theorem uW (ρ:Nat→Option Nat) (l:List V):(V.yt ρ l).length=l.length:=by simp[LC]
theorem BY (ρ:Nat→Option Nat) (l:List V) (j:Nat):(V.yt ρ l)[j]? = (l[j]?).map (V.pZ ρ):=by simp[LC]

structure O2 (ρ:Nat→Option Nat) (h:az) (c:kA) (h2:az) (c2:kA):Prop where
  used:∀i j,ρ i=some j→Used h i→Used h2 j
  obj:∀i j,ρ i=some j→h2.at j ≠ .dead→h.at i ≠ .dead∧c2.s5 j=c.s5 i∧c2.off j=c.off i
  tok:∀i j,ρ i=some j→h2.at j = .tok→h.at i = .tok
  row:∀i j,ρ i=some j→∀(T:Ty) (l:List T.den),h2.at j = .row T l→h.at i = .row T l
  free:∀b x,GL h c b x→GL h2 c2 b x

theorem dK.pZ {ρ:Nat→Option Nat} (k:O2 ρ h c h2 c2) {v:V} {d:Value} (r:dK w h c v d):dK w h2 c2 (v.pZ ρ) d:=by
  induction r with
  | undef v=>exact .undef v
  | int hn=>exact .int hn
  | bool b=>exact .bool b
  | str hl=>exact .str hl
  | eQ=>exact .eQ
  | cJ=>exact .cJ
  | aV=>exact .aV
  | oN=>exact .oN
  | cX=>exact .cX
  | iface t v=>exact .iface t v
  | FA hn=>exact .FA hn
  | GK b=>exact .GK b
  | @ptr i o v hi hv =>
    obtain ⟨b,hv,hb⟩:=hv
    simp only[V.pZ]
    cases e:ρ i with
    | none=>exact .undef _
    | some j=>exact .ptr (k.used i j e hi) ⟨b,hv,fun hd=>by obtain ⟨h1,h2,_⟩:=k.obj i j e hd; rw[h2]; exact hb h1⟩
  | @map i v hi hv =>
    obtain ⟨b,hv,hb⟩:=hv
    simp only[V.pZ]
    cases e:ρ i with
    | none=>exact .undef _
    | some j=>exact .map (k.used i j e hi) ⟨b,hv,fun hd=>by obtain ⟨h1,h2,_⟩:=k.obj i j e hd; rw[h2]; exact hb h1⟩
  | @yc cs b o f hc _ ih =>
    simp only[V.pZ]
    refine .yc f (fun j hj => ?_) (fun j v hv => ?_)
    · rw[uW]at hj
      exact ⟨(hc j hj).1,k.free _ _ (hc j hj).2⟩
    · rw[BY]at hv
      cases e:cs[j]? with
      | none=>rw[e]at hv; cases hv
      | some u=>rw[e]at hv; simp at hv; subst hv; exact ih j u e
  | @sl T l t A cap f me s7 hc hr yv nk ih =>
    simp only[V.pZ]
    refine .sl f me s7 (fun i j hi hj => ?_) (fun i j x v hx hv => ?_) (fun ht => ?_) (fun j ht => ?_)
    · obtain ⟨b,o,hA,h1,h2⟩:=hc i j hi hj
      exact ⟨b,o,hA,h1,k.free _ _ h2⟩
    · have:=ih i j x v hx hv
      have e:v.pZ ρ=v:=by
        have Fz:∀(T:Ty) (x:T.den) (j:Nat) (v:V),(T.cells x)[j]? = some v→v.pZ ρ=v:=by
          intro T x
          have:∀v∈T.cells x,v.pZ ρ=v:=by
            cases T <;> simp[Ty.cells,V.pZ,Tok.pZ]
          intro j v hv
          exact this v (List.mem_of_getElem? hv)
        exact Fz T x j v hv
      rw[e]at this; exact this
    · cases t with
      | no=>cases ht
      | nil=>exact yv rfl
      | own i=>simp only[Tok.pZ]at ht; split at ht <;> cases ht
    · cases t with
      | no=>cases ht
      | nil=>cases ht
      | own i =>
        simp only[Tok.pZ]at ht
        split at ht
        · rename_i j' e
          cases ht
          obtain ⟨hu,ho⟩:=nk i rfl
          refine ⟨k.used i j e hu,fun Ma => ?_⟩
          obtain ⟨_,e1,e2⟩:=k.obj i j e (by rw[Ma]; simp)
          rw[e1,e2]
          exact ho (k.tok i j e Ma)
        · cases ht
  | @N8 n sz cs A hn s7 f hc _ ih =>
    simp only[V.pZ]
    refine .N8 (sz:=sz) (by rw[uW]; exact hn) s7 f (fun j hj => ?_) (fun j v hv => ?_)
    · rw[uW]at hj
      obtain ⟨b,o,hA,h1,h2⟩:=hc j hj
      exact ⟨b,o,hA,h1,k.free _ _ h2⟩
    · rw[BY]at hv
      cases e:cs[j]? with
      | none=>rw[e]at hv; cases hv
      | some u=>rw[e]at hv; simp at hv; subst hv; exact ih j u e
  | @row i n v hi hn hv =>
    simp only[V.pZ]
    cases e:ρ i with
    | none=>exact .undef _
    | some j =>
      obtain ⟨A,cap,VU,hA,hv⟩:=hv
      refine .row (k.used i j e hi) hn ⟨A,cap,VU,hA,fun T l he => ?_⟩
      obtain ⟨_,e1,e2⟩:=k.obj i j e (by rw[he]; simp)
      rw[e1,e2]
      exact hv T l (k.row i j e T l he)
  | @Ds i q n v hi hn hv =>
    simp only[V.pZ]
    cases e:ρ i with
    | none=>exact .undef _
    | some j =>
      obtain ⟨A,cap,VU,hA,hv⟩:=hv
      refine .Ds (k.used i j e hi) hn ⟨A,cap,VU,hA,fun T l he => ?_⟩
      obtain ⟨_,e1,e2⟩:=k.obj i j e (by rw[he]; simp)
      rw[e1,e2]
      exact hv T l (k.row i j e T l he)
  | @tJ i n q o v hi hv =>
    simp only[V.pZ]
    cases e:ρ i with
    | none=>exact .undef _
    | some j =>
      obtain ⟨a,ha,hv⟩:=hv
      refine .tJ (k.used i j e hi) ⟨a,ha,fun T l he hn hj => ?_⟩
      obtain ⟨_,e1,e2⟩:=k.obj i j e (by rw[he]; simp)
      rw[e1,e2]
      exact hv T l (k.row i j e T l he) hn hj
  | @func f a b x y ha hb _ _ iha ihb =>
    simp only[V.pZ]
    refine .func (by rw[uW]; exact ha) (by rw[uW]; exact hb) (fun j v d hv hd => ?_) (fun j v d hv hd => ?_)
    · rw[BY]at hv
      cases e:a[j]? with
      | none=>rw[e]at hv; cases hv
      | some u=>rw[e]at hv; simp at hv; subst hv; exact iha j u d e hd
    · rw[BY]at hv
      cases e:b[j]? with
      | none=>rw[e]at hv; cases hv
      | some u=>rw[e]at hv; simp at hv; subst hv; exact ihb j u d e hd
  | @agg cs x hl _ ih =>
    simp only[V.pZ]
    refine .agg (by rw[uW]; exact hl) (fun j v d hv hd => ?_)
    rw[BY]at hv
    cases e:cs[j]? with
    | none=>rw[e]at hv; cases hv
    | some u=>rw[e]at hv; simp at hv; subst hv; exact ih j u d e hd
  | @tuple cs x hl _ ih =>
    simp only[V.pZ]
    refine .tuple (by rw[uW]; exact hl) (fun j v d hv hd => ?_)
    rw[BY]at hv
    cases e:cs[j]? with
    | none=>rw[e]at hv; cases hv
    | some u=>rw[e]at hv; simp at hv; subst hv; exact ih j u d e hd

theorem cK.pZ {ρ:Nat→Option Nat} (k:O2 ρ h c h2 c2) {cs:List V} {ds:List Value} (r:cK w h c cs ds):cK w h2 c2 (V.yt ρ cs) ds:=by
  refine ⟨by rw[uW]; exact r.1,fun j v d hv hd => ?_⟩
  rw[BY]at hv
  cases e:cs[j]? with
  | none=>rw[e]at hv; cases hv
  | some u=>rw[e]at hv; simp at hv; subst hv; exact (r.2 j u d e hd).pZ k

theorem Wy (ρ:Nat→Option Nat) (T:Ty) (x:T.den):∀v∈T.cells x,v.pZ ρ=v:=by cases T <;> simp[Ty.cells,V.pZ,Tok.pZ]

theorem oJ.pZ {ρ:Nat→Option Nat} (k:O2 ρ h c h2 c2) {i j:Nat} {o:ca} (e1:c2.s5 j=c.s5 i) (e2:c2.off j=c.off i) (ho:oJ w h c i o):oJ w h2 c2 j (o.pZ ρ):=by
  cases o <;> simp only[oJ,ca.pZ]at ho ⊢
  · obtain ⟨b,arr,e,h1,Yh,h3⟩:=ho
    exact ⟨b,arr,e,e1▸h1,Yh,h3.pZ k⟩
  · rw[e1,e2]
    rcases ho with h1|⟨b,arr,e,fz,h1,Yh,h3,h4,h5⟩
    · exact .inl h1
    · refine .inr ⟨b,arr,e,fz,h1,Yh,h3,h4,fun n q x v hx hv => ?_⟩
      obtain ⟨d,g1,g2⟩:=h5 n q x v hx hv
      refine ⟨d,g1,?_⟩
      have:=g2.pZ k
      rw[Wy ρ _ x v (List.mem_of_getElem? hv)]at this
      exact this
  · rw[e1,e2]; exact ho
  · rw[e1]; exact ho
  · rw[e1]
    obtain ⟨b,p,d,h1,Yh,h3,h4⟩:=ho
    exact ⟨b,p,d,h1,Yh,h3,h4.pZ k⟩
  · rw[e1]
    obtain ⟨b,es,cl,h1,Yh,h3,h4,h5,h6⟩:=ho
    refine ⟨b,es,cl,h1,Yh,h3,h4,h5,fun j q e hq he => ?_⟩
    obtain ⟨g1,g2⟩:=h6 j q e hq he
    have g1':=g1.pZ k
    have g2':=g2.pZ k
    have key:∀(T:Ty) (x:T.den),(Ly T=true∨T.one=true)→(N9 T x).pZ ρ=N9 T x:=by
      intro T x hT
      cases T <;> first|(simp[N9,Ty.one,Ty.cells,V.pZ]; done)|(simp[N9,Ty.one,Ty.cells,V.pZ,V.yt]; done)|(simp[Ly,Ty.one]at hT)
    rw[key _ _ (.inl h3)]at g1'
    rw[key _ _ (.inr h4)]at g2'
    exact ⟨g1',g2'⟩

def kA.pick (c:kA) (ord:List Nat) (ext:Rh):kA :=
  ⟨fun j=>(ord[j]?).bind c.s5,fun j=>c.off (ord.getD j 0),ext⟩

theorem BZ {ord:List Nat} {i j:Nat} (e:yp ord i=some j):ord[j]? = some i:=by
  unfold yp at e
  simp only at e
  split at e
  · rename_i lp
    cases e
    rw[List.getElem?_eq_getElem lp,List.getElem_idxOf lp]
  · cases e

theorem vB (h:az) (ord:List Nat) (j:Nat):az.at (h.pick ord) j=match ord[j]? with|some i=>(h.at i).pZ (yp ord)|none => .dead:=by
  unfold az.at az.pick
  simp only[List.getD,List.getElem?_map]
  cases ord[j]? <;> rfl

theorem IE {ρ:Nat→Option Nat} {o:ca}:o.pZ ρ = .dead↔o = .dead:=by cases o <;> simp[ca.pZ]
theorem DA {ρ:Nat→Option Nat} {o:ca}:o.pZ ρ = .free↔o = .free:=by cases o <;> simp[ca.pZ]
theorem U6 {ρ:Nat→Option Nat} {o:ca}:o.pZ ρ = .tok↔o = .tok:=by cases o <;> simp[ca.pZ]
theorem U7 {ρ:Nat→Option Nat} {o:ca} {T:Ty} {l:List T.den}:o.pZ ρ = .row T l↔o = .row T l:=by cases o <;> simp[ca.pZ]
theorem RN {ρ:Nat→Option Nat} {o:ca} {f:Nat}:(o.pZ ρ).from_ f=o.from_ f:=by cases o <;> rfl
theorem DB {ρ:Nat→Option Nat} {o:ca}:(o.pZ ρ).live↔o.live:=by cases o <;> simp[ca.pZ,ca.live]

theorem DC {ord:List Nat} {ext:Rh} {b x:Nat} (ho:uo (h.pick ord) (c.pick ord ext) b x):∃i∈ord,∃f,c.s5 i=some b∧(h.at i).from_ (c.off i)=some f∧f≤x:=by
  obtain ⟨j,f,g1,g2,g3⟩:=ho
  rw[vB]at g2
  cases e:ord[j]? with
  | none=>rw[e]at g2; cases g2
  | some i =>
    rw[e]at g2
    simp only[kA.pick,e,Option.bind_some]at g1
    simp only[RN,kA.pick,List.getD,e,Option.getD_some]at g2
    exact ⟨i,List.mem_of_getElem? e,f,g1,g2,g3⟩

theorem Mu {ord:List Nat} {ext:Rh} (Yp:∀b x,GL h c b x→¬ext b x):O2 (yp ord) h c (h.pick ord) (c.pick ord ext) where
  used:=fun i j e hu=>by
    have hj:=BZ e
    refine ⟨?_,?_⟩
    · have:=(List.getElem?_eq_some_iff.1 hj).1
      simpa [az.pick]using this
    · rw[vB,hj]
      simp only[ne_eq,DA]
      exact hu.2
  obj:=fun i j e hd=>by
    have hj:=BZ e
    rw[vB,hj]at hd
    simp only[ne_eq,IE]at hd
    exact ⟨hd,by simp[kA.pick,hj],by simp[kA.pick,List.getD,hj]⟩
  tok:=fun i j e ht=>by
    rw[vB,BZ e]at ht
    exact U6.1 ht
  row:=fun i j e T l ht=>by
    rw[vB,BZ e]at ht
    exact U7.1 ht
  free:=fun b x hf=>⟨fun ho=>by
    obtain ⟨i,_,f,g1,g2,g3⟩:=DC ho
    exact hf.1 ⟨i,f,g1,g2,g3⟩,Yp b x hf⟩

theorem U8 (wf:WF w h c) {ord:List Nat} (E7:ord.Nodup) {ext:Rh} (Yp:∀b x,GL h c b x→¬ext b x) (lp:∀b x,ext b x→b<w.heap.size)
    (hdis:∀b x,(∃i∈ord,∃f,c.s5 i=some b∧(h.at i).from_ (c.off i)=some f∧f≤x)→¬ext b x):WF w (h.pick ord) (c.pick ord ext) where
  lay:=⟨wf.lay.1,fun b hb=>⟨(wf.lay.2 b hb).1,fun x ho=>by
    obtain ⟨i,_,f,g1,g2,g3⟩:=DC ho
    exact (wf.lay.2 b hb).2 x ⟨i,f,g1,g2,g3⟩⟩⟩
  yw:=fun b x ho=>hdis b x (DC ho)
  pP:=lp
  obj:=fun j hj=>by
    rw[vB]
    cases e:ord[j]? with
    | none=>trivial
    | some i =>
      by_cases hl:(h.at i).live
      · exact (wf.obj i (az.gM rfl (w7 hl))).pZ (Mu Yp) (by simp[kA.pick,e]) (by simp[kA.pick,List.getD,e])
      · have h0:h.at i = .free∨h.at i = .dead:=by revert hl; cases h.at i <;> simp[ca.live]
        rcases h0 with h0|h0 <;> simp only[h0,ca.pZ] <;> trivial
  inj:=fun j k b hj hk h1 h2=>by
    rw[vB]at hj hk
    cases e1:ord[j]? with
    | none=>rw[e1]at hj; exact hj.elim
    | some i1 =>
      cases e2:ord[k]? with
      | none=>rw[e2]at hk; exact hk.elim
      | some i2 =>
        rw[e1]at hj; rw[e2]at hk
        simp only[kA.pick,e1,e2,Option.bind_some]at h1 h2
        have:=wf.inj i1 i2 b (DB.1 hj) (DB.1 hk) h1 h2
        subst this
        obtain ⟨OX,U9⟩:=List.getElem?_eq_some_iff.1 e1
        obtain ⟨rN,e2'⟩:=List.getElem?_eq_some_iff.1 e2
        have hp:=List.pairwise_iff_getElem.1 E7
        rcases Nat.lt_trichotomy j k with lp|rfl|lp
        · exact (hp j k OX rN lp (U9.trans e2'.symm)).elim
        · rfl
        · exact (hp k j rN OX lp (e2'.trans U9.symm)).elim

theorem CQ (h:az):∀(n:Nat) (todo seen:List Nat),seen.Nodup→(reach h n todo seen).Nodup
  | 0,_,_,hn=>hn
  | n+1, [],_,hn=>hn
  | n+1,i::todo,seen,hn=>by
    simp only[reach]
    split
    · exact CQ h n _ _ hn
    · rename_i hc
      refine CQ h n _ _ ?_
      rw[List.nodup_append]
      refine ⟨hn,by simp,fun a ha b hb => ?_⟩
      simp at hb; subst hb
      rintro rfl
      simp at hc
      exact hc ha
end
end Go.ay

