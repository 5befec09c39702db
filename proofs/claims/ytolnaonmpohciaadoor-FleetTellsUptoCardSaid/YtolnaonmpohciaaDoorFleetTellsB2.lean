/-
  FleetTells: for every input whose bulk is at most 1048576 the law returns true, and each argument reads behind the call as it read before; part 2 of 9 of the proof: an interpreter of the model's code over typed data, proved sound; the functions that the law reaches, printed as Lean functions and tied; the plain law. Own texts laid one behind the other.
-/
import Derived.Laws.StructEq
import Derived.WalkKit
import Derived.MapKept
import Derived.Laws.BytesString
import Derived.Laws.Cover4
import Derived.Laws.Rows
import Derived.Laws.MakeOwn
import Derived.Laws.Append
import Derived.Test.YtolnaonmpohciaaDoorFleetTellsB1
set_option linter.unusedSimpArgs false
set_option linter.unnecessarySimpa false
set_option linter.unusedVariables false
set_option linter.unusedSectionVars false
noncomputable section
namespace Go.ad
open Go.RowKit

def TD.Is (P:Program) (t:Nat):TD→Prop
 | .bool=>P.underlying t=some .bool
 | .int k=>P.underlying t=some (.int k)
 | .string=>P.underlying t=some .string
 | .ptr e=>P.underlying t=some (.pointer e)
 | .slice e=>P.underlying t=some (.slice e)
 | .arr n e=>P.underlying t=some (.array n e)
 | .map k e=>P.underlying t=some (.map k e)
 | .struct fs=>∃F,P.underlying t=some (.struct F)∧F.toList.map (fun f=>(f.offset,f.type))=fs
 | .func=>∃a b c,P.underlying t=some (.func a b c)
 | .iface=>∃a,P.underlying t=some (.interface a)
 | .other=>True

structure tq (P:Program) (tt:ca):Prop where
 und:∀t,(tt.at t).d.Is P t
 info:∀t,tt.ok t=true→∃i z,P.info? t=some i∧i.size=(tt.at t).size∧i.bytes=(tt.at t).bytes∧i.zero=some z∧z.cells.size=i.size ∧
  ∀(w:World) (h:ai) (c:eT),bl w h c (tt.at t).zero z.cells.toList
 eqs:∀t,∀(w:World) (h:ai) (c:eT) (cs ds:List V) (xs ys:Array Value) (b:Bool),Pp (tt.at t) cs ds=true→bl w h c cs xs.toList→bl w h c ds ys.toList →
  fC cs ds=some b→P.eqGuardType P.depth t=false∧(Op.equalIn 10000 t (.agg xs) (.agg ys)).run P w = .ok b w
 u8s:∀e,(tt.at e).ty=some (.int .u8)→e=mZ.u8
 blds:∀t,(tt.at t).qV=true→t=mZ.qV∧(tt.at t).zero = [.gk, .aI]∧tt.ok t=true
 ones:∀t,tt.ok t=true→∀i z,P.info? t=some i→i.zero=some z→z.oneCell' = !tt.isAgg t

section
variable {P:Program} {tt:ca} {w:World}

theorem tq.isAgg (T:tq P tt) {t:Nat} (h:tt.ok t=true):(isAgg t).run P w = .ok (tt.isAgg t) w:=by
 have hu:=T.und t
 unfold ca.ok at h
 unfold ca.isAgg
 cases hd:(tt.at t).d <;> rw[hd]at hu h <;> simp only[TD.Is]at hu
 case struct fs=>obtain ⟨F,hF,_⟩:=hu; simp[Go.isAgg,run_underlying hF]
 case func=>obtain ⟨a,b,c,hF⟩:=hu; simp[Go.isAgg,run_underlying hF]
 case iface=>obtain ⟨a,hF⟩:=hu; simp[Go.isAgg,run_underlying hF]
 case other=>cases h
 all_goals simp[Go.isAgg,run_underlying hu]

theorem tq.sizeOf (T:tq P tt) {t:Nat} (h:tt.ok t=true):(sizeOf t).run P w = .ok (tt.at t).size w:=by
 obtain ⟨i,z,hi,hs,_⟩:=T.info t h
 simp[Go.sizeOf,typeInfo,hi,hs]

theorem tq.zero (T:tq P tt) {t:Nat} (h:tt.ok t=true):∃z,(zeroValue t).run P w = .ok z w∧z.cells.size=(tt.at t).size ∧
  ∀(w:World) (h:ai) (c:eT),bl w h c (tt.at t).zero z.cells.toList:=by
 obtain ⟨i,z,hi,hs,_,hz,Zc,hr⟩:=T.info t h
 exact ⟨z,by simp[Go.zeroValue,typeInfo,hi,hz],by omega,hr⟩

theorem cG (T:tq P tt) {t:Nat} {d:TD} (h:(tt.at t).d=d):d.Is P t:=h▸T.und t

theorem Hd (T:tq P tt) {t f off ty:Nat} {fs:List (Nat×Nat)} (h:(tt.at t).d = .struct fs) (hf:fs[f]? = some (off,ty)) :
  ∃F fd,P.underlying t=some (.struct F)∧F[f]? = some fd∧fd.offset=off∧fd.type=ty:=by
 obtain ⟨F,hF,e⟩:=cG T h
 subst e
 rw[List.getElem?_map]at hf
 cases hx:F.toList[f]? with
 | none=>rw[hx]at hf; cases hf
 | some fd =>
  rw[hx]at hf
  simp at hf
  exact ⟨F,fd,hF,by simpa using hx,hf.1,hf.2⟩

variable {h:ai} {c:eT} {R:Type}

theorem JR (T:tq P tt) {t off:Nat} {cs:List V} {x:Array Value} (hr:bl w h c cs x.toList) {k:V→Option R} {r:R} (hk:mF tt t cs off k=some r) :
  ∃v v',(part t x off).run P w = .ok v' w∧cd w h c v v'∧k v=some r:=by
 unfold mF at hk
 split at hk
 ·rename_i lh
  have hlen:cs.length=x.size:=by have:=hr.1; simpa using this
  split at hk
  ·rename_i LJ
   split at hk
   ·rename_i k8
    refine ⟨_, .agg (x.extract off (off+(tt.at t).size)),?_,?_,hk⟩
    ·simp[part,T.isAgg lh,LJ,T.sizeOf lh]
    ·have Pt:=(hr.drop off).take (tt.at t).size
     refine .agg ?_ fun j v d hv hd=>Pt.2 j v d hv ?_
     ·simp[hlen]; omega
     ·simp only[Array.getElem?_extract]at hd
      rw[List.getElem?_take,List.getElem?_drop]
      split at hd
      ·rename_i hj
       have Oq:j<(tt.at t).size:=by omega
       simp only[Oq,if_true]; simpa using hd
      ·cases hd
   ·cases hk
  ·rename_i LJ
   split at hk
   ·rename_i v hv
    have dH:off<cs.length:=(List.getElem?_eq_some_iff.1 hv).1
    have hx:x[off]? = some (x[off]'(by omega)):=Array.getElem?_eq_getElem (by omega)
    refine ⟨v,x[off]'(by omega),?_,hr.2 off v _ hv (by simp),hk⟩
    simp[part,T.isAgg lh,LJ,hx]
   ·cases hk
 ·cases hk
end

section
variable {P:Program} {tt:ca} {w:World} {h:ai} {c:eT} {R:Type}

theorem LK (k:IntKind) (n:Int):k.has (k.wrap n):=by
 unfold IntKind.has
 cases k <;> simp only[IntKind.wrap,IntKind.min,IntKind.max,IntKind.signed,IntKind.bits] <;> simp <;> omega

theorem aV {b:Bool} {k:Option R} {r:R} (hk:cC b k=some r):b=true∧k=some r:=by
 unfold cC at hk; cases b <;> simp_all

theorem cd.gd {k:IntKind} {n:Int} {v:Value} (r:cd w h c (.int k n) v):v = .int k n∧k.has n:=by cases r; exact ⟨rfl, ‹_›⟩
theorem cd.zW {b:Bool} {v:Value} (r:cd w h c (.bool b) v):v = .bool b:=by cases r; rfl
theorem cd.mG {s:aA} {v:Value} (r:cd w h c (.str s) v):∃t,v = .string t∧t.data.toList=s∧t.size≤mx:=by cases r; exact ⟨_,rfl,rfl, ‹_›⟩

theorem LL (n:Nat) (hn:n<256):IntKind.u8.has (n:Int):=by unfold IntKind.has; simp[IntKind.min,IntKind.max,IntKind.signed,IntKind.bits]; omega
theorem E5 (n:Nat) (hn:n≤mx):IntKind.i64.has (n:Int):=by unfold IntKind.has; unfold mx at hn; simp[IntKind.min,IntKind.max,IntKind.signed,IntKind.bits]; omega

theorem He (v:Value):cd w h c (DL v) v:=by
 unfold DL
 split
 ·exact .bool _
 ·split
  ·rename_i hk; unfold inK at hk; simp at hk; exact .int hk
  ·exact .undef _
 ·split
  ·exact .str ‹_›
  ·exact .undef _
 ·exact .gk
 ·exact .aI
 ·exact .fB
 ·exact .km
 ·exact .dd
 ·exact .undef _

theorem JS (v:Value):cd w h c (ofConst v) v:=by
 unfold ofConst
 split
 ·refine .agg (by simp) fun j v d hv hd => ?_
  rw[List.getElem?_map,Array.getElem?_toList,hd]at hv
  cases hv
  exact He d
 ·exact He v

theorem wq {a b:ByteArray} (h:a.data.toList=b.data.toList):a=b:=by
 obtain ⟨⟨x⟩⟩:=a; obtain ⟨⟨y⟩⟩:=b; simp at h; subst h; rfl
theorem toList_data (a:ByteArray):a.toList=a.data.toList:=ByteArray.toList_eq a
theorem size_data (a:ByteArray):a.data.toList.length=a.size:=by rw[Array.length_toList]; rfl
theorem Br {s:aA} (t:ByteArray) (e:t.data.toList=s) (hl:s.length≤mx):cd w h c (.str s) (.string t):=by
 subst e; rw[size_data]at hl; exact .str hl

theorem LM:∀a b:aA,Op.bytesLess a b=xG a b
 | [], []=>rfl
 | [],_::_=>rfl
 | _::_, []=>rfl
 | a::x,b::y=>by simp[Op.bytesLess,xG,LM x y]

def jI (P:Program) (w:World) (h:ai) (c:eT) (s:Sem Value) (k:V→Option R) (r:R):Prop:=∃v v',s.run P w = .ok v' w∧cd w h c v v'∧k v=some r

theorem QA (a b:Int):(0≤a→0≤a.tmod b∧a.tmod b≤a)∧(a≤0→a≤a.tmod b∧a.tmod b≤0):=by
 have key:∀m:Nat,∀b:Int,0≤(m:Int).tmod b∧(m:Int).tmod b≤m:=fun m b=>by
  cases b with
  | ofNat n =>
   have:((m:Int).tmod (Int.ofNat n))=((m % n:Nat):Int):=rfl
   have h:=Nat.mod_le m n
   rw[this]; omega
  | negSucc n =>
   have:((m:Int).tmod (Int.negSucc n))=((m % (n+1):Nat):Int):=rfl
   have h:=Nat.mod_le m (n+1)
   rw[this]; omega
 constructor
 ·intro h
  obtain ⟨m,rfl⟩:=Int.eq_ofNat_of_zero_le h
  exact key m b
 ·intro h
  obtain ⟨m,hm⟩:=Int.eq_ofNat_of_zero_le (show 0 ≤ -a by omega)
  have e:a = -(m:Int):=by omega
  subst e
  rw[Int.neg_tmod]
  have:=key m b
  omega

theorem WC {op:BinOp} {i j:IntKind} {a b:Int} (hb:j.has b) (t:TypeId) (x y:Operand) {k:V→Option R} {r:R} (hk:tm op (.int i a) (.int j b) k=some r) (ha:i.has a) :
  jI P w h c (do eqGuard op t x y (.int i a) (.int j b); binOp op t (.int i a) (.int j b)) k r:=by
 have hg:∀op:BinOp,(eqGuard op t x y (.int i a) (.int j b)).run P w = .ok () w:=fun op=>by cases op <;> simp[eqGuard]
 unfold jI
 simp only[Sem.run_bind,hg,Result.andThen_ok]
 have hw:=fun n=>LK i n
 by_cases hsh:op = .shl∨op = .shr
 ·rcases hsh with rfl|rfl
  ·simp only[tm]at hk
   obtain ⟨h0,hk⟩:=aV hk
   simp at h0
   exact ⟨_,_,by simp[binOp,Op.shift]; intro hn; omega, .int (hw _),hk⟩
  ·simp only[tm]at hk
   obtain ⟨h0,hk⟩:=aV hk
   simp at h0
   refine ⟨_,_,by simp[binOp,Op.shift]; intro hn; omega, .int ?_,hk⟩
   have hp:(0:Int)<2 ^ (min b.toNat i.bits):=Int.pow_pos (by decide)
   have h1:(1:Int)≤2 ^ (min b.toNat i.bits):=hp
   unfold IntKind.has at ha ⊢
   have hmin:i.min≤0:=by cases i <;> simp[IntKind.min,IntKind.signed,IntKind.bits]
   have hmax:0≤i.max:=by cases i <;> simp[IntKind.max,IntKind.signed,IntKind.bits]
   rw[Int.fdiv_eq_ediv_of_nonneg _ (Int.le_of_lt hp)]
   constructor
   ·rcases Int.lt_or_le a 0 with hn|hn
    ·have:a≤a / 2 ^ (min b.toNat i.bits):=by
      refine (Int.le_ediv_iff_mul_le hp).2 ?_
      have h2:=Int.mul_nonneg (show 0 ≤ -a by omega) (show 0≤(2:Int) ^ (min b.toNat i.bits) - 1 by omega)
      rw[Int.mul_sub,Int.neg_mul]at h2
      omega
     omega
    ·have:=Int.ediv_nonneg hn (Int.le_of_lt hp); omega
   ·rcases Int.lt_or_le a 0 with hn|hn
    ·have:=Int.ediv_neg_of_neg_of_pos hn hp; omega
    ·have:=Int.ediv_le_self (2 ^ (min b.toNat i.bits)) hn; omega
 ·have mV:(if i=j then (match op with
    | .add=>k (.int i (i.wrap (a+b)))
    | .sub=>k (.int i (i.wrap (a - b)))
    | .mul=>k (.int i (i.wrap (a*b)))
    | .quo=>cC (!decide (b=0)) (k (.int i (i.wrap (a.tdiv b))))
    | .rem=>cC (!decide (b=0)) (k (.int i (a.tmod b)))
    | .and=>k (.int i (i.wrap (BitVec.ofInt i.bits a &&& BitVec.ofInt i.bits b).toNat))
    | .or=>k (.int i (i.wrap (BitVec.ofInt i.bits a ||| BitVec.ofInt i.bits b).toNat))
    | .xor=>k (.int i (i.wrap (BitVec.ofInt i.bits a ^^^ BitVec.ofInt i.bits b).toNat))
    | .eql=>k (.bool (a==b))
    | .neq=>k (.bool (a != b))
    | .lss=>k (.bool (decide (a<b)))
    | .leq=>k (.bool (decide (a≤b)))
    | .gtr=>k (.bool (decide (a>b)))
    | .geq=>k (.bool (decide (a≥b)))
    | _=>none)else none)=some r:=by
   cases op <;> first|exact absurd (.inl rfl) hsh|exact absurd (.inr rfl) hsh|exact hk
  clear hk
  split at mV
  ·rename_i tR
   subst tR
   cases op <;> simp only at mV <;> try (first|exact absurd (.inl rfl) hsh|exact absurd (.inr rfl) hsh|cases mV)
   case add=>exact ⟨_,_,by simp[binOp,Op.intArith], .int (hw _),mV⟩
   case sub=>exact ⟨_,_,by simp[binOp,Op.intArith], .int (hw _),mV⟩
   case mul=>exact ⟨_,_,by simp[binOp,Op.intArith], .int (hw _),mV⟩
   case quo =>
    obtain ⟨h0,mV⟩:=aV mV
    simp at h0
    exact ⟨_,_,by simp[binOp,Op.intDiv,h0], .int (hw _),mV⟩
   case rem =>
    obtain ⟨h0,mV⟩:=aV mV
    simp at h0
    refine ⟨_,_,by simp[binOp,Op.intDiv,h0], .int ?_,mV⟩
    unfold IntKind.has at ha ⊢
    have hmin:i.min≤0:=by cases i <;> simp[IntKind.min,IntKind.signed,IntKind.bits]
    have hmax:0≤i.max:=by cases i <;> simp[IntKind.max,IntKind.signed,IntKind.bits]
    have hb:=QA a b
    rcases Int.lt_or_le a 0 with hn|hn
    ·have:=hb.2 (by omega); omega
    ·have:=hb.1 hn; omega
   case and=>exact ⟨_,_,by simp[binOp,Op.intBits], .int (hw _),mV⟩
   case or=>exact ⟨_,_,by simp[binOp,Op.intBits], .int (hw _),mV⟩
   case xor=>exact ⟨_,_,by simp[binOp,Op.intBits], .int (hw _),mV⟩
   case eql=>exact ⟨_,_,by simp[binOp,Op.intCmp], .bool _,mV⟩
   case neq=>exact ⟨_,_,by simp[binOp,Op.intCmp], .bool _,mV⟩
   case lss=>exact ⟨_,_,by simp[binOp,Op.intCmp], .bool _,mV⟩
   case leq=>exact ⟨_,_,by simp[binOp,Op.intCmp], .bool _,mV⟩
   case gtr=>exact ⟨_,_,by simp[binOp,Op.intCmp], .bool _,mV⟩
   case geq=>exact ⟨_,_,by simp[binOp,Op.intCmp], .bool _,mV⟩
  ·cases mV
end

section
variable {P:Program} {tt:ca} {w:World} {h:ai} {c:eT} {R:Type}

theorem WD (a b:ByteArray):(a.toList==b.toList)=(a.data.toList==b.data.toList):=by rw[toList_data,toList_data]

theorem size_append (a b:ByteArray):(a++b).size=a.size+b.size:=ByteArray.size_append

theorem WE {op:BinOp} {a b:ByteArray} (t:TypeId) (x y:Operand) {k:V→Option R} {r:R}
  (hk:tm op (.str a.data.toList) (.str b.data.toList) k=some r) :
  jI P w h c (do eqGuard op t x y (.string a) (.string b); binOp op t (.string a) (.string b)) k r:=by
 have hg:∀op:BinOp,(eqGuard op t x y (.string a) (.string b)).run P w = .ok () w:=fun op=>by cases op <;> simp[eqGuard]
 have he:(a.toList==b.toList)=(a.data.toList==b.data.toList):=WD a b
 have hl:Op.bytesLess a.toList b.toList=xG a.data.toList b.data.toList:=by rw[toList_data,toList_data,LM]
 unfold jI
 simp only[Sem.run_bind,hg,Result.andThen_ok]
 cases op <;> simp only[tm]at hk <;> try (first|cases hk)
 case add =>
  obtain ⟨h0,hk⟩:=aV hk
  simp at h0
  refine ⟨_, .string (a++b),?_,Br (a++b) (by simp) (by simp; exact h0),hk⟩
  have:¬(((a.size+b.size:Nat):Int)>IntKind.i64.max):=by
   have e:IntKind.i64.max=9223372036854775807:=by decide
   rw[e]; omega
  simp only[binOp,Op.stringOp]
  rw[if_neg this]; rfl
 case eql=>exact ⟨_, .bool _,by simp only[binOp,Op.stringOp,he]; rfl, .bool _,hk⟩
 case neq=>exact ⟨_, .bool _,by simp only[binOp,Op.stringOp,he]; rfl, .bool _,hk⟩
 case lss=>exact ⟨_, .bool _,by simp only[binOp,Op.stringOp,hl]; rfl, .bool _,hk⟩
 case leq=>exact ⟨_, .bool _,by simp only[binOp,Op.stringOp,hl,he]; rfl, .bool _,hk⟩
 case gtr=>exact ⟨_, .bool _,by simp only[binOp,Op.stringOp,hl,he]; rfl, .bool _,hk⟩
 case geq=>exact ⟨_, .bool _,by simp only[binOp,Op.stringOp,hl]; rfl, .bool _,hk⟩

theorem UG (T:tq P tt) {op:BinOp} {a b:Bool} {t:TypeId} (ht:(tt.at t).d = .bool) (x y:Operand) {k:V→Option R} {r:R}
  (hk:tm op (.bool a) (.bool b) k=some r):jI P w h c (do eqGuard op t x y (.bool a) (.bool b); binOp op t (.bool a) (.bool b)) k r:=by
 have hu:P.underlying t=some .bool:=cG T ht
 have hg:∀op:BinOp,(eqGuard op t x y (.bool a) (.bool b)).run P w = .ok () w:=fun op=>by cases op <;> simp[eqGuard]
 have hq:=run_equalIn_bool w 9999 t a b hu
 unfold jI
 simp only[Sem.run_bind,hg,Result.andThen_ok]
 cases op <;> simp only[tm,eqV]at hk <;> try (first|cases hk)
 case eql=>exact ⟨_, .bool (a==b),by simp[binOp,Op.equal,Op.maxDepth,hq], .bool _,hk⟩
 case neq=>exact ⟨_, .bool (!(a==b)),by simp[binOp,Op.equal,Op.maxDepth,hq], .bool _,hk⟩

theorem WG (T:tq P tt) {op:BinOp} {cs ds:List V} {xs ys:Array Value} {t:TypeId} (ht:Pp (tt.at t) cs ds=true) (rx:bl w h c cs xs.toList) (ry:bl w h c ds ys.toList)
  (x y:Operand) {k:V→Option R} {r:R} (hk:tm op (.agg cs) (.agg ds) k=some r) :
  jI P w h c (do eqGuard op t x y (.agg xs) (.agg ys); binOp op t (.agg xs) (.agg ys)) k r:=by
 cases op <;> simp only[tm,eqV]at hk <;> try (first|cases hk)
 all_goals
  split at hk
  ·rename_i b hb
   obtain ⟨hg,hq⟩:=T.eqs t w h c cs ds xs ys b ht rx ry hb
   have hg':=fun op=>run_eqGuard_agg (P:=P) (w:=w) op t x y xs ys hg
   unfold jI
   simp only[Sem.run_bind,hg',Result.andThen_ok]
   first
    | exact ⟨_, .bool b,by simp only[binOp]; unfold Op.equal Op.maxDepth; simp[hq], .bool _,hk⟩
    | exact ⟨_, .bool (!b),by simp only[binOp]; unfold Op.equal Op.maxDepth; simp[hq], .bool _,hk⟩
  ·cases hk

theorem Gx (d:Nat) (t e:TypeId) (q:Option Addr) (hu:P.underlying t=some (.pointer e)) :
  (Op.equalIn (d+1) t (.pointer q) (.pointer none)).run P w = .ok q.isNone w:=by
 cases q <;> simp[Op.equalIn,run_underlying hu]

theorem zX (t e:TypeId) (q:Option Addr) (hu:P.underlying t=some (.pointer e)) :
  (Op.equal t (.pointer q) (.pointer none)).run P w = .ok q.isNone w:=Gx 9999 t e q hu

theorem Sp (T:tq P tt) {op:BinOp} {a b:V} {u v:Value} {t e:TypeId} (ht:(tt.at t).d = .ptr e) (ra:cd w h c a u) (rb:cd w h c b v) (x y:Operand)
  {k:V→Option R} {r:R} (hk:Po op a b k=some r):jI P w h c (do eqGuard op t x y u v; binOp op t u v) k r:=by
 have hu:P.underlying t=some (.pointer e):=cG T ht
 unfold Po at hk
 split at hk
 ·cases rb
  have key:∀r,Sf a=some r→∃q:Option Addr,u = .pointer q∧r=q.isNone:=by
   intro r hr
   unfold Sf at hr
   split at hr <;> try cases hr
   ·cases ra; exact ⟨none,rfl,rfl⟩
   ·cases ra with|ptr _ hv=>obtain ⟨b,hv,_⟩:=hv; exact ⟨_,hv,rfl⟩
   ·cases ra; exact ⟨_,rfl,rfl⟩
   ·cases ra with|nu _ hv=>obtain ⟨b,hv,_⟩:=hv; exact ⟨_,hv,rfl⟩
  split at hk
  ·rename_i q hq
   obtain ⟨q,rfl,rfl⟩:=key _ hq
   refine ⟨_, .bool q.isNone,?_, .bool _,hk⟩
   have hq:=zX (w:=w) t e q hu
   cases q <;> simp[eqGuard,binOp,hq]
  ·rename_i q hq
   obtain ⟨q,rfl,rfl⟩:=key _ hq
   refine ⟨_, .bool (!q.isNone),?_, .bool _,hk⟩
   have hq:=zX (w:=w) t e q hu
   cases q <;> simp[eqGuard,binOp,hq]
  ·cases hk
 ·cases hk

theorem cd.TP {t:Nat} {k:IntKind} {n:Int} {v:Value} (r:cd w h c (.Lq t k n) v):v = .iface t (.int k n)∧k.has n:=by cases r; exact ⟨rfl, ‹_›⟩

theorem UH (T:tq P tt) {op:BinOp} {a b:V} {u v:Value} {t:TypeId} (ht:(tt.at t).d = .iface) (ra:cd w h c a u) (rb:cd w h c b v) (x y:Operand)
  {k:V→Option R} {r:R} (hk:ifK op y a b k=some r):jI P w h c (do eqGuard op t x y u v; binOp op t u v) k r:=by
 obtain ⟨ms,hu⟩:=cG T ht
 have hq:∀(d:Nat) (u:Value),(u = .nilIface∨∃t x,u = .iface t x)→(Op.equalIn (d+1) t u .nilIface).run P w = .ok (match u with | .nilIface=>true|_=>false) w:=by
  rintro d u (rfl|⟨t',x',rfl⟩) <;> simp[Op.equalIn,run_underlying hu]
 have hq1:=hq 9999 .nilIface (.inl rfl)
 unfold ifK at hk
 split at hk <;> try (first|cases hk)
 ·cases ra; cases rb
  refine ⟨_, .bool true,?_, .bool _,hk⟩
  simp[eqGuard,binOp,Op.equal,Op.maxDepth,hq1]
 ·cases ra; cases rb
  refine ⟨_, .bool false,?_, .bool _,hk⟩
  simp[eqGuard,binOp,Op.equal,Op.maxDepth,hq1]
 ·cases ra with
  | iface t' v' =>
   cases rb
   have WH:=hq 9999 (.iface t' v') (.inr ⟨_,_,rfl⟩)
   refine ⟨_, .bool false,?_, .bool _,hk⟩
   simp[eqGuard,binOp,Op.equal,Op.maxDepth,WH]
 ·cases ra with
  | iface t' v' =>
   cases rb
   have WH:=hq 9999 (.iface t' v') (.inr ⟨_,_,rfl⟩)
   refine ⟨_, .bool true,?_, .bool _,hk⟩
   simp[eqGuard,binOp,Op.equal,Op.maxDepth,WH]
 ·obtain ⟨rfl,_⟩:=ra.TP
  cases rb
  refine ⟨_, .bool false,?_, .bool _,hk⟩
  simp[eqGuard,binOp,Op.equal,Op.maxDepth,hq 9999 (.iface _ (.int _ _)) (.inr ⟨_,_,rfl⟩)]
 ·obtain ⟨rfl,_⟩:=ra.TP
  cases rb
  refine ⟨_, .bool true,?_, .bool _,hk⟩
  simp[eqGuard,binOp,Op.equal,Op.maxDepth,hq 9999 (.iface _ (.int _ _)) (.inr ⟨_,_,rfl⟩)]

theorem Ty.ZD (T:Ty):0<T.sz:=by cases T <;> simp[Ty.sz]

theorem xI (d:Nat) (t e:TypeId) (A:Option Addr) (n cap:Nat) (hu:P.underlying t=some (.slice e)) :
  (Op.equalIn (d+1) t (.slice A n cap) (.slice none 0 0)).run P w = .ok A.isNone w:=by
 cases A <;> simp[Op.equalIn,run_underlying hu]

theorem UI (T:tq P tt) {op:BinOp} {a b:V} {u v:Value} {t e:TypeId} (ht:(tt.at t).d = .slice e) (ra:cd w h c a u) (rb:cd w h c b v) (x y:Operand)
  {k:V→Option R} {r:R} (hk:ZA op a b k=some r):jI P w h c (do eqGuard op t x y u v; binOp op t u v) k r:=by
 have hu:P.underlying t=some (.slice e):=cG T ht
 unfold ZA at hk
 split at hk
 ·cases rb
  have key:∀(neg:Bool) (k:V→Option R),Db a (fun r=>k (Ly neg r))=some r→∃A n cap,u = .slice A n cap∧∃z,cd w h c z (.bool (bif neg then !A.isNone else A.isNone))∧k z=some r:=by
   intro neg k hk
   unfold Db at hk
   split at hk <;> try cases hk
   ·cases ra; exact ⟨none,0,0,rfl, .bool (bif neg then false else true),by cases neg <;> exact .bool _,by cases neg <;> exact hk⟩
   ·rename_i T l tk _
    cases ra with
    | @sl _ _ _ A cap f eQ lD hc hr vL fA =>
     refine ⟨A,_,cap,rfl,?_⟩
     cases hl:l.isEmpty with
     | true=>rw[hl]at hk; exact ⟨.Fh, .Fh _,hk⟩
     | false =>
      rw[hl]at hk
      have Hf:0<l.length:=List.length_pos_iff.2 (by intro e; rw[e]at hl; cases hl)
      obtain ⟨b,o,rfl,_⟩:=hc 0 0 Hf (Ty.ZD T)
      exact ⟨_, .bool _,hk⟩
   ·rename_i i n _
    cases ra with
    | row hi hn hv =>
     obtain ⟨A,cap,rfl,⟨_,_,hA⟩,_⟩:=hv
     refine ⟨A,n,cap,rfl,?_⟩
     cases hl:decide (n=0)with
     | true=>rw[hl]at hk; exact ⟨.Fh, .Fh _,hk⟩
     | false =>
      rw[hl]at hk
      obtain ⟨q,rfl⟩:=hA (Nat.pos_of_ne_zero (by simpa using hl))
      exact ⟨_, .bool _,hk⟩
  split at hk
  ·obtain ⟨A,n,cap,rfl,z,rz,hk⟩:=key false k hk
   refine ⟨_, .bool A.isNone,?_,rz,hk⟩
   have hq:=xI (w:=w) 9999 t e A n cap hu
   simp[eqGuard,binOp,Op.equal,Op.maxDepth,hq]
  ·obtain ⟨A,n,cap,rfl,z,rz,hk⟩:=key true k hk
   refine ⟨_, .bool (!A.isNone),?_,rz,hk⟩
   have hq:=xI (w:=w) 9999 t e A n cap hu
   simp[eqGuard,binOp,Op.equal,Op.maxDepth,hq]
  ·cases hk
 ·cases hk
end

section
variable {P:Program} {tt:ca} {w:World} {h:ai} {c:eT} {R:Type}

theorem QB {v:V} {d:Value} (r:cd w h c v d) (h1:v.one=true):d.oneCell'=true∧d.cells = #[d]:=by
 cases r <;> simp_all [V.one,Value.oneCell',Value.cells]
 case ptr hi hv=>obtain ⟨b,rfl,_⟩:=hv; simp
 case nu hi hv=>obtain ⟨b,rfl,_⟩:=hv; simp
 case row hi _ hv=>obtain ⟨A,cap,rfl,_,_⟩:=hv; simp
 case m0 hi _ hv=>obtain ⟨A,cap,rfl,_,_⟩:=hv; simp
 case map hi hv=>obtain ⟨b,rfl,_⟩:=hv; simp

def Sq (ds:List Value):Prop:=∀d∈ds,d.oneCell'=true

theorem TQ {cs:List V} {ds:List Value} (r:bl w h c cs ds) (h1:cs.all V.one=true):Sq ds:=by
 intro d hd
 obtain ⟨j,hj,rfl⟩:=List.mem_iff_getElem.1 hd
 have Oq:j<cs.length:=by have:=r.1; omega
 have:=r.2 j cs[j] ds[j] (List.getElem?_eq_getElem Oq) (List.getElem?_eq_getElem hj)
 exact (QB this (by simpa using List.all_eq_true.1 h1 _ (List.getElem_mem Oq))).1

theorem DN {v:V} {d:Value} (r:cd w h c v d) {cs:List V} (hf:Ol v=some cs):bl w h c cs d.cells.toList∧Sq d.cells.toList∧cs.all V.one=true:=by
 unfold Ol at hf
 split at hf
 ·split at hf
  ·rename_i vM
   cases hf
   cases r with
   | @agg _ x hl hr =>
    have hr':bl w h c cs x.toList:=⟨by rw[hl,Array.length_toList],fun j v d hv hd=>hr j v d hv (by simpa using hd)⟩
    exact ⟨hr',TQ hr' vM,vM⟩
  ·cases hf
 ·split at hf
  ·rename_i h1
   cases hf
   obtain ⟨ho,hc⟩:=QB r h1
   rw[hc]
   refine ⟨.cons r .nil,fun d' hd => ?_,by simp[h1]⟩
   simp at hd; subst hd; exact ho
  ·cases hf

theorem WI (xs:List Value):∀(k off:Nat) (a:Array Value),off+k+xs.length≤a.size →
  ((xs.zipIdx k).foldl (fun cs (p:Value×Nat)=>cs.setIfInBounds (off+p.2) p.1) a).toList=a.toList.take (off+k)++xs++a.toList.drop (off+k+xs.length):=by
 induction xs with
 | nil=>intro k off a hs; simp
 | cons x xs ih =>
  intro k off a hs
  simp only[List.length_cons]at hs
  simp only[List.zipIdx_cons,List.foldl_cons]
  rw[ih (k+1) off _ (by simp; omega)]
  simp only[Array.toList_setIfInBounds]
  have dH:off+k<a.toList.length:=by simp; omega
  apply List.ext_getElem?
  intro i
  simp only[List.getElem?_append,List.length_take,List.length_set,List.getElem?_take,List.getElem?_drop,List.getElem?_set,List.length_cons,List.length_append,List.getElem?_cons]
  simp only[Array.length_toList]at dH ⊢
  by_cases h1:i<off+k
  ·have e1:off+k≠i:=by omega
   have e2:i<off+(k+1):=by omega
   have e3:i<min (off+(k+1)) a.size:=by omega
   have e4:i<min (off+k) a.size:=by omega
   have e5:i<min (off+(k+1)) a.size+xs.length:=by omega
   have e6:i<min (off+k) a.size+(xs.length+1):=by omega
   simp[h1,e1,e2,e3,e4,e5,e6]
  ·by_cases h2:i=off+k
   ·subst h2
    have m1:min (off+(k+1)) a.size=off+k+1:=by omega
    have m2:min (off+k) a.size=off+k:=by omega
    have e2:off+k<off+(k+1):=by omega
    have e3:off+k<a.size:=by omega
    rw[m1,m2]
    simp[e2,e3]
    intro h7; omega
   ·have m1:min (off+(k+1)) a.size=off+k+1:=by omega
    have m2:min (off+k) a.size=off+k:=by omega
    rw[m1,m2]
    by_cases h3:i<off+k+1+xs.length
    ·have e1:¬i<off+k+1:=by omega
     have e2:¬i<off+k:=by omega
     have e4:i<off+k+(xs.length+1):=by omega
     have e5:¬(i - (off+k)=0):=by omega
     have e6:i - (off+k) - 1=i - (off+k+1):=by omega
     simp[h3,e1,e2,e4,e5,e6]
    ·have e1:¬i<off+k+1:=by omega
     have e4:¬i<off+k+(xs.length+1):=by omega
     have e8:off+(k+1)+xs.length+(i - (off+k+1+xs.length))=off+k+(xs.length+1)+(i - (off+k+(xs.length+1))):=by omega
     simp[h3,e4,e8]
     intro hh; omega

theorem putCells (cells:Array Value) (d:Value) (off:Nat) (hs:off+d.cells.size≤cells.size) :
  (d.cells.zipIdx.foldl (fun cs (p:Value×Nat)=>cs.setIfInBounds (off+p.2) p.1) cells).toList=cells.toList.take off++d.cells.toList++cells.toList.drop (off+d.cells.size):=by
 have h:=WI d.cells.toList 0 off cells (by simpa using hs)
 simp only[Nat.add_zero,Array.length_toList]at h
 rw[←h,←Array.foldl_toList,Array.toList_zipIdx]

theorem bl.len {cs:List V} {ds:List Value} (r:bl w h c cs ds):cs.length=ds.length:=r.1

theorem Bs (place:Nat→Option (Nat×Nat)):∀(parts:List (Nat×V)) (Gy:List (Nat×Value)) (cs:List V) (cells:Array Value) (out:List V),
  (parts.map Prod.fst=Gy.map Prod.fst)→bl w h c (parts.map Prod.snd) (Gy.map Prod.snd)→bl w h c cs cells.toList →
  FH cs (parts.map fun p=>(((place p.1).getD (0,1000000)).1,((place p.1).getD (0,1000000)).2,p.2))=some out→cells.size<1000000 →
  ∃IV,Instr.fill place cells Gy=some IV∧bl w h c out IV.toList∧IV.size=cells.size
 | [],Gy,cs,cells,out,he,_,rc,hf,_=>by
  cases Gy with
  | nil=>simp[FH]at hf; subst hf; exact ⟨cells,rfl,rc,rfl⟩
  | cons p ps=>simp at he
 | (i,v)::parts,Gy,cs,cells,out,he,rp,rc,hf,hno=>by
  cases Gy with
  | nil=>simp at he
  | cons p ps =>
   obtain ⟨i',d⟩:=p
   simp only[List.map_cons,List.cons.injEq]at he
   obtain ⟨rfl,he⟩:=he
   simp only[List.map_cons]at rp hf
   simp only[FH]at hf
   split at hf
   ·rename_i vs hvs
    split at hf
    ·rename_i ko
     simp only[Bool.and_eq_true,decide_eq_true_eq]at ko
     obtain ⟨hlen,k8⟩:=ko
     obtain ⟨rv,_,_⟩:=DN rp.head hvs
     have hl1:=rv.len
     have R2:=rc.len
     simp only[Array.length_toList]at hl1 R2
     cases Wh:place i with
     | none =>
      rw[Wh]at k8
      simp at k8; omega
     | some q =>
      obtain ⟨off,size⟩:=q
      simp only[Wh,Option.getD_some]at hlen k8 hf
      have DO:=putCells cells d off (by omega)
      have Pt:bl w h c (cs.take off++vs++cs.drop (off+size)) (d.cells.zipIdx.foldl (fun cs (p:Value×Nat)=>cs.setIfInBounds (off+p.2) p.1) cells).toList:=by
       rw[DO]
       have hd:d.cells.size=size:=by omega
       rw[hd]
       exact ((rc.take off).append rv).append (rc.drop _)
      obtain ⟨IV,h1,h2,h3⟩:=Bs place parts ps _ _ out he rp.tail Pt hf (by rw[←Array.length_toList,DO]; simp; omega)
      refine ⟨IV,?_,h2,?_⟩
      ·simp only[Instr.fill,Wh]
       rw[if_neg]
       ·exact h1
       ·simp; omega
      ·rw[h3,←Array.length_toList,DO]; simp; omega
    ·cases hf
   ·cases hf
end

section
variable {P:Program} {tt:ca} {w:World} {h:ai} {c:eT} {R:Type}

theorem kk (b o n:Nat):(⟨b,o,none⟩:Addr).add n=⟨b,o+n,none⟩:=by unfold Addr.add; split <;> simp_all

theorem TR {T:Ty} {l:List T.den} {t:Tok} {A:Option Addr} {n cap:Nat} (r:cd w h c (.sl T l t) (.slice A n cap)) (lo hi:Nat) (h1:lo≤hi) (h2:hi≤l.length) :
  cd w h c (.sl T ((l.drop lo).take (hi - lo)) .no) (.slice (if cap=lo then A else A.map (·.add (lo*T.sz))) (hi - lo) (cap - lo)):=by
 cases r with
 | sl f eQ lD hc hr vL fA =>
  have hlen:((l.drop lo).take (hi - lo)).length=hi - lo:=by simp; omega
  have key:=cd.sl (w:=w) (h:=h) (c:=c) (T:=T) (l:=(l.drop lo).take (hi - lo)) (t := .no) (A:=if cap=lo then A else A.map (·.add (lo*T.sz))) (cap:=cap - lo)
   (fun i j=>f (lo+i) j) (by omega) (by omega) ?_ ?_ (by simp) (by simp)
  ·rw[hlen]at key; exact key
  ·intro i j hi' hj
   rw[hlen]at hi'
   obtain ⟨b,o,hA,DP,WJ⟩:=hc (lo+i) j (by omega) hj
   rw[if_neg (by omega)]
   refine ⟨b,o+lo*T.sz,by rw[hA]; simp[kk],?_⟩
   have e:o+lo*T.sz+i*T.sz+j=o+(lo+i)*T.sz+j:=by rw[Nat.add_mul]; omega
   rw[e]
   exact ⟨DP,WJ⟩
  ·intro i j x v hx hv
   rw[List.getElem?_take,List.getElem?_drop]at hx
   split at hx
   ·exact hr _ j x v hx hv
   ·cases hx

theorem Bt {T:Ty} {l:List T.den} {t:Tok} {v:Value} (r:cd w h c (.sl T l t) v):∃A cap,v = .slice A l.length cap∧l.length≤cap∧cap≤mx:=by
 cases r with
 | sl f eQ lD hc hr vL fA=>exact ⟨_,_,rfl,eQ,lD⟩

theorem Ty.Bu (T:Ty):0<T.sz:=by cases T <;> simp[Ty.sz]
theorem Ty.dX (T:Ty) (x:T.den):(T.cells x).length=T.sz:=by cases T <;> rfl

theorem qx {v:Option V} {v':Option Value} (hv:match v,v' with|none,none=>True|some a,some b=>cd w h c a b|_,_=>False) {d:Int} {k:Int→Option R} {r:R}
  (hk:yv v d k=some r):∃n,k n=some r∧((v'=none∧n=d)∨∃i,v'=some (.int i n)):=by
 unfold yv at hk
 split at hk
 ·split at hv <;> simp_all
 ·rename_i i n
  cases v' with
  | none=>exact hv.elim
  | some b=>exact ⟨n,hk, .inr ⟨_,by rw[(show cd w h c (.int i n) b from hv).gd.1]⟩⟩
 ·cases hk

theorem Bv {ρ:Operand→V} {ρ':Operand→Value} (hρ:∀x,cd w h c (ρ x) (ρ' x)) (o:Option Operand) :
  match o.map ρ,o.map ρ' with|none,none=>True|some a,some b=>cd w h c a b|_,_=>False:=by
 cases o <;> simp[hρ]

theorem lF (isSlice:Bool) (len cap:Nat) (lo hi:Option Value) (l hh:Int) (Zd:(lo=none∧l=0)∨∃k,lo=some (.int k l))
  (Ze:(hi=none∧hh=len)∨∃k,hi=some (.int k hh)) (h0:0≤l) (h1:l≤hh) (h2:hh≤cap) :
  (Instr.sliceBounds isSlice len cap lo hi none).run P w = .ok (l.toNat,hh.toNat,cap) w:=by
 have hb:∀(k:IntKind) (n:Int) (y:Nat) (code:BoundsCode),0≤n→n≤y→(Instr.sliceBound (.int k n) y code).run P w = .ok n.toNat w:=by
  intro k n y code h0 h1
  simp[Instr.sliceBound,asIntOf,h0,h1]
 rcases Zd with ⟨rfl,rfl⟩|⟨k,rfl⟩ <;> rcases Ze with ⟨rfl,rfl⟩|⟨k',rfl⟩
 ·simp[Instr.sliceBounds]
 ·simp[Instr.sliceBounds,hb _ _ _ _ (show 0≤hh by omega) h2]
 ·simp[Instr.sliceBounds,hb _ _ _ _ h0 h1]
 ·simp only[Instr.sliceBounds]
  have e:((hh.toNat:Nat):Int)=hh:=by omega
  simp[hb _ _ _ _ (show 0≤hh by omega) h2,hb k l hh.toNat .sliceB h0 (by omega)]

theorem LN {v:V} {d:Value} (r0:cd w h c v d) {k:Int→Option R} {r:R} (hk:idxOf v k=some r):∃i n,d = .int i n∧k n=some r:=by
 unfold idxOf at hk
 split at hk
 ·exact ⟨_,_,r0.gd.1,hk⟩
 ·cases hk

theorem Kw (T:tq P tt) {t:Nat} {a i:V} {a' i':Value} (ra:cd w h c a a') (ri:cd w h c i i') {k:V→Option R} {r:R}
  (hk:(idxOf i fun n =>
   match (generalizing:=false) (tt.at t).d,a with
   | .slice e, .sl T l _=>if T.sz=(tt.at e).size&&tt.ok e then cC (decide (0≤n)&&decide (n<l.length)) (k (.lX (T.cells (l.getD n.toNat T.aC))))else none
   | .slice e, .row id m=>if tt.ok e then cC (decide (0≤n)&&decide (n<m)) (k (.nu id (tt.at e).size n.toNat 0))else none
   | .arr m e, .ptr id o=>if tt.ok e then cC (decide (0≤n)&&decide (n<m)) (k (.ptr id (o+n.toNat*(tt.at e).size)))else none
   | .slice e, .Ku m cs=>if tt.ok e&&decide ((tt.at e).size≠0)&&decide (cs.length=m*(tt.at e).size)then cC (decide (0≤n)&&decide (n<m)) (k (.lX (cs.drop (n.toNat*(tt.at e).size))))else none
   | .arr m e, .lX cs=>if tt.ok e&&decide ((tt.at e).size≠0)&&decide (m*(tt.at e).size≤cs.length)then cC (decide (0≤n)&&decide (n<m)) (k (.lX (cs.drop (n.toNat*(tt.at e).size))))else none
   | _,_=>none)=some r):jI P w h c (Instr.indexAt t a' i') k r:=by
 obtain ⟨ik,n,rfl,FK⟩:=LN ri hk
 clear hk
 split at FK
 ·rename_i e T' l tk hd
  split at FK
  ·rename_i ko
   simp only[Bool.and_eq_true,decide_eq_true_eq]at ko
   obtain ⟨k8,lh⟩:=ko
   obtain ⟨hb,hk⟩:=aV FK
   simp only[Bool.and_eq_true,decide_eq_true_eq]at hb
   have hu:P.underlying t=some (.slice e):=cG T hd
   have yx:=T.sizeOf (w:=w) lh
   cases ra with
   | @sl _ _ _ A cap f eQ lD hc hr vL fA =>
    have QC:n.toNat<l.length:=by omega
    have hxd:l.getD n.toNat T'.aC=l[n.toNat]:=by simp[List.getD,List.getElem?_eq_getElem QC]
    have hx:l[n.toNat]? = some l[n.toNat]:=List.getElem?_eq_getElem QC
    obtain ⟨b,o,rfl,_,_⟩:=hc n.toNat 0 QC T'.Bu
    refine ⟨_, .pointer (some ⟨b,o+n.toNat*T'.sz,none⟩),?_,?_,hk⟩
    ·simp[Instr.indexAt,asIntOf,run_underlying hu,hb.1,hb.2,yx,←k8,kk]
    ·refine .lX (fun j=>f n.toNat j) (fun j hj => ?_) (fun j v hv=>hr n.toNat j _ v hx (by rw[hxd]at hv; exact hv))
     rw[Ty.dX]at hj
     obtain ⟨b',o',e',h1,h2⟩:=hc n.toNat j QC hj
     cases e'
     exact ⟨h1,h2⟩
  ·cases FK
 ·rename_i e id m hd
  split at FK
  ·rename_i lh
   obtain ⟨hb,hk⟩:=aV FK
   simp only[Bool.and_eq_true,decide_eq_true_eq]at hb
   have hu:P.underlying t=some (.slice e):=cG T hd
   have yx:=T.sizeOf (w:=w) lh
   cases ra with
   | row hi _ hv =>
    obtain ⟨A,cap,rfl,⟨_,_,hA⟩,hv⟩:=hv
    obtain ⟨a,rfl⟩:=hA (by omega)
    refine ⟨_, .pointer (some (a.add (n.toNat*(tt.at e).size))),?_,?_,hk⟩
    ·simp[Instr.indexAt,asIntOf,run_underlying hu,hb.1,hb.2,yx]
    ·refine .nu hi ⟨_,rfl,fun T' l' he k8 hj => ?_⟩
     obtain ⟨_,_,_,h3⟩:=hv T' l' he
     rcases h3 with ⟨_,h3,_⟩|⟨b,arr,el,fz,g1,g2,_,_⟩
     ·cases h3
     ·cases g2
      exact ⟨b,g1,by rw[k8,kk]; rfl⟩
  ·cases FK
 ·rename_i m e id o hd
  split at FK
  ·rename_i lh
   obtain ⟨hb,hk⟩:=aV FK
   simp only[Bool.and_eq_true,decide_eq_true_eq]at hb
   have hu:P.underlying t=some (.array m e):=cG T hd
   have yx:=T.sizeOf (w:=w) lh
   cases ra with
   | ptr hi hv =>
    obtain ⟨b,rfl,hv⟩:=hv
    refine ⟨_, .pointer (some (Addr.add ⟨b,o,none⟩ (n.toNat*(tt.at e).size))),?_,?_,hk⟩
    ·simp[Instr.indexAt,asIntOf,run_underlying hu,hb.1,hb.2,yx,Instr.sureAddr]
    ·exact .ptr hi ⟨b,by rw[kk],hv⟩
  ·cases FK
 ·rename_i e m cs hd
  split at FK
  ·rename_i ko
   simp only[Bool.and_eq_true,decide_eq_true_eq]at ko
   obtain ⟨⟨lh,h0⟩,hlen⟩:=ko
   obtain ⟨hb,hk⟩:=aV FK
   simp only[Bool.and_eq_true,decide_eq_true_eq]at hb
   have hu:P.underlying t=some (.slice e):=cG T hd
   have yx:=T.sizeOf (w:=w) lh
   have dH:n.toNat*(tt.at e).size+(tt.at e).size≤cs.length:=by
    rw[hlen,←Nat.succ_mul]
    exact Nat.mul_le_mul_right _ (by omega)
   cases ra with
   | @Ku _ sz _ A hn lD f hc hr =>
    obtain ⟨b,o,rfl,_,_⟩:=hc (n.toNat*(tt.at e).size) (by omega)
    refine ⟨_, .pointer (some ⟨b,o+n.toNat*(tt.at e).size,none⟩),?_,?_,hk⟩
    ·simp[Instr.indexAt,asIntOf,run_underlying hu,hb.1,hb.2,yx,kk]
    ·refine .lX (fun j=>f (n.toNat*(tt.at e).size+j)) (fun j hj => ?_) (fun j v hv=>hr _ v (by rw[List.getElem?_drop]at hv; exact hv))
     rw[List.length_drop]at hj
     obtain ⟨b',o',e',h1,h2⟩:=hc (n.toNat*(tt.at e).size+j) (by omega)
     cases e'
     rw[Nat.add_assoc]
     exact ⟨h1,h2⟩
  ·cases FK
 ·rename_i m e cs hd
  split at FK
  ·rename_i ko
   simp only[Bool.and_eq_true,decide_eq_true_eq]at ko
   obtain ⟨⟨lh,h0⟩,hlen⟩:=ko
   obtain ⟨hb,hk⟩:=aV FK
   simp only[Bool.and_eq_true,decide_eq_true_eq]at hb
   have hu:P.underlying t=some (.array m e):=cG T hd
   have yx:=T.sizeOf (w:=w) lh
   have dH:n.toNat*(tt.at e).size+(tt.at e).size≤cs.length:=by
    refine Nat.le_trans ?_ hlen
    rw[←Nat.succ_mul]
    exact Nat.mul_le_mul_right _ (by omega)
   cases ra with
   | @lX _ b o f hc hr =>
    refine ⟨_, .pointer (some ⟨b,o+n.toNat*(tt.at e).size,none⟩),?_,?_,hk⟩
    ·simp[Instr.indexAt,asIntOf,run_underlying hu,hb.1,hb.2,yx,Instr.sureAddr,kk]
    ·refine .lX (fun j=>f (n.toNat*(tt.at e).size+j)) (fun j hj => ?_) (fun j v hv=>hr _ v (by rw[List.getElem?_drop]at hv; exact hv))
     rw[List.length_drop]at hj
     have:=hc (n.toNat*(tt.at e).size+j) (by omega)
     rw[Nat.add_assoc]
     exact this
  ·cases FK
 ·cases FK
end

section
variable {P:Program} {tt:ca} {w:World} {h:ai} {c:eT} {R:Type}

theorem QD {t off:Nat} {cs:List V} {k:V→Option R} {r:R} (hk:mF tt t cs off k=some r):tt.ok t=true:=by
 unfold mF at hk
 split at hk
 ·assumption
 ·cases hk

theorem Kx (T:tq P tt) {s f:Nat} {a:V} {a':Value} (ra:cd w h c a a') {k:V→Option R} {r:R}
  (hk:(match (generalizing:=false) (tt.at s).d with
  | .struct fs =>
   (match (generalizing:=false) fs[f]? with
    | some (off,t) =>
     if (tt.at t).size=0 || !tt.ok t then none else
     (match (generalizing:=false) a with
     | .ptr i o=>k (.ptr i (o+off))
     | .lX cs=>k (.lX (cs.drop off))
     | .nu i n j o=>k (.nu i n j (o+off))
     | _=>none)
    | none=>none)
  | _=>none)=some r):jI P w h c (Instr.fieldAt s a' f) k r:=by
 split at hk
 ·rename_i fs hd
  split at hk
  ·rename_i off t hf
   split at hk
   ·cases hk
   ·rename_i La
    simp only[Bool.or_eq_true,decide_eq_true_eq,Bool.not_eq_true',not_or,Bool.not_eq_false]at La
    obtain ⟨k8,lh⟩:=La
    obtain ⟨F,fd,hu,hfd,rfl,rfl⟩:=Hd T hd hf
    have hs:=T.sizeOf (w:=w) lh
    have run:∀b o,(Instr.fieldAt s (.pointer (some ⟨b,o,none⟩)) f).run P w = .ok (.pointer (some ⟨b,o+fd.offset,none⟩)) w:=by
     intro b o
     simp[Instr.fieldAt,run_underlying hu,hfd,Instr.sureAddr,fieldPlace,hs,k8,kk]
    have run':∀a:Addr,(Instr.fieldAt s (.pointer (some a)) f).run P w = .ok (.pointer (some (a.add fd.offset))) w:=by
     intro a
     simp[Instr.fieldAt,run_underlying hu,hfd,Instr.sureAddr,fieldPlace,hs,k8]
    split at hk
    ·rename_i ra
     cases ra with
     | ptr hi hv =>
      obtain ⟨b,rfl,hb⟩:=hv
      exact ⟨_,_,run _ _, .ptr hi ⟨b,rfl,hb⟩,hk⟩
    ·rename_i ra
     cases ra with
     | lX g hc hr =>
      refine ⟨_,_,run _ _, .lX (fun j=>g (fd.offset+j)) (fun j hj => ?_) (fun j v hv => ?_),hk⟩
      ·simp at hj
       have:=hc (fd.offset+j) (by omega)
       rw[Nat.add_assoc]; exact this
      ·rw[List.getElem?_drop]at hv
       exact hr _ v hv
    ·rename_i ra
     cases ra with
     | nu hi hv =>
      obtain ⟨a,rfl,hv⟩:=hv
      refine ⟨_,_,run' a, .nu hi ⟨_,rfl,fun T' l he hn hj => ?_⟩,hk⟩
      obtain ⟨b,hb,rfl⟩:=hv T' l he hn hj
      exact ⟨b,hb,by rw[kk,Nat.add_assoc]⟩
    ·cases hk
  ·cases hk
 ·cases hk

theorem QE (T:tq P tt) {s f:Nat} {a:V} {a':Value} (ra:cd w h c a a') {k:V→Option R} {r:R}
  (hk:(match (generalizing:=false) (tt.at s).d,a with
  | .struct fs, .agg cs=>(match (generalizing:=false) fs[f]? with|some (off,t)=>mF tt t cs off k|none=>none)
  | _,_=>none)=some r):jI P w h c (Instr.field s a' f) k r:=by
 split at hk
 ·have hd := ‹(tt.at s).d = .struct _›
  have ra := ‹cd w h c (.agg _) a'›
  split at hk
  ·rename_i off t hf
   obtain ⟨F,fd,hu,hfd,rfl,rfl⟩:=Hd T hd hf
   cases ra with
   | @agg _ x hl hr =>
    obtain ⟨v,v',h1,h2,h3⟩:=JR (x:=x) T ⟨by rw[hl,Array.length_toList],fun j v d hv hd=>hr j v d hv (by simpa using hd)⟩ hk
    exact ⟨v,v',by simp[Instr.field,run_underlying hu,hfd,asAgg,h1],h2,h3⟩
  ·cases hk
 ·cases hk

theorem UJ {s:ByteArray} {n:Int} (h0:0≤n) (h1:n<s.data.toList.length):(if 0≤n then s[n.toNat]? else none)=some (s.data.toList.getD n.toNat 0):=by
 have dH:n.toNat<s.size:=by rw[←size_data]; omega
 have e:s[n.toNat]? = some (s[n.toNat]'dH):=getElem?_pos s n.toNat dH
 rw[if_pos h0,e]
 have:s[n.toNat]'dH=s.data.toList.getD n.toNat 0:=by
  have hl:n.toNat<s.data.toList.length:=by omega
  simp only[List.getD,List.getElem?_eq_getElem hl,Option.getD_some]
  rfl
 rw[this]

theorem QF (T:tq P tt) {t:Nat} {a i:V} {a' i':Value} (ra:cd w h c a a') (ri:cd w h c i i') {k:V→Option R} {r:R}
  (hk:(idxOf i fun n =>
  match (generalizing:=false) (tt.at t).d,a with
  | .string, .str s=>cC (decide (0≤n)&&decide (n<s.length)) (k (.int .u8 (s.getD n.toNat 0).toNat))
  | .arr m e, .agg cs=>cC (decide (0≤n)&&decide (n<m)) (mF tt e cs (n.toNat*(tt.at e).size) k)
  | _,_=>none)=some r):jI P w h c (Instr.index t a' i') k r:=by
 obtain ⟨ik,n,rfl,FK⟩:=LN ri hk
 clear hk
 split at FK
 ·have hd := ‹(tt.at t).d = .string›
  have ra := ‹cd w h c (.str _) a'›
  obtain ⟨hb,hk⟩:=aV FK
  simp only[Bool.and_eq_true,decide_eq_true_eq]at hb
  have hu:P.underlying t=some .string:=cG T hd
  obtain ⟨t',rfl,rfl,_⟩:=ra.mG
  refine ⟨_,_,?_, .int (LL _ (UInt8.toNat_lt _)),hk⟩
  have:=UJ hb.1 hb.2
  simp only[Instr.index,Sem.run_bind,asIntOf,Sem.run_pure,Result.andThen_ok,run_underlying hu,this]
 ·have hd := ‹(tt.at t).d = .arr _ _›
  have ra := ‹cd w h c (.agg _) a'›
  obtain ⟨hb,hk⟩:=aV FK
  simp only[Bool.and_eq_true,decide_eq_true_eq]at hb
  have hu:=cG T hd
  simp only[TD.Is]at hu
  have lh:=QD hk
  have hs:=T.sizeOf (w:=w) lh
  cases ra with
  | @agg _ x hl hr =>
   obtain ⟨v,v',h1,h2,h3⟩:=JR (x:=x) T ⟨by rw[hl,Array.length_toList],fun j v d hv hd=>hr j v d hv (by simpa using hd)⟩ hk
   exact ⟨v,v',by simp[Instr.index,asIntOf,run_underlying hu,hb.1,hb.2,hs,h1],h2,h3⟩
 ·cases FK

theorem UK {s:ByteArray} {l hh:Nat}:(s.extract l hh).data.toList=(s.data.toList.drop l).take (hh - l):=by
 simp[ByteArray.data_extract,List.extract]

theorem WK {i n sz:Nat} {A:Option Addr} {cap:Nat} (hu:Used h i) (hn:n≤mx) (eQ:n≤cap) (lD:cap≤mx) (hA:0<n→∃a,A=some a)
  (hv:∀T l,h.at i = .row T l→n=l.length∧n≤cap∧cap≤mx ∧
    ((c.mX i=none∧A=none∧cap=0)∨∃b arr e fz,c.mX i=some b∧A=some ⟨b,c.off i,none⟩∧w.heap[b]? = some (Obj.cells arr e fz)∧c.off i+cap*T.sz≤arr.size)) (lo hi:Nat) (h1:lo≤hi) (h2:hi≤n) :
  cd w h c (.m0 i sz lo (hi - lo)) (.slice (if cap=lo then A else A.map (·.add (lo*sz))) (hi - lo) (cap - lo)):=by
 refine .m0 hu (by omega) ⟨_,_,rfl,⟨by omega,by omega,fun hp => ?_⟩,fun T l he hz hq => ?_⟩
 ·obtain ⟨a,ha⟩:=hA (by omega)
  rw[if_neg (by omega),ha]
  exact ⟨_,rfl⟩
 ·obtain ⟨g1,_,_,g4⟩:=hv T l he
  refine ⟨by omega,fun dH => ?_⟩
  rcases g4 with ⟨_,_,g⟩|⟨b,arr,e,fz,k1,k2,k3,k4⟩
  ·omega
  ·subst hz
   refine ⟨b,arr,e,fz,k1,?_,k3,?_⟩
   ·rw[if_neg (by omega),k2]
    simp[kk]
   ·rw[show lo+(cap - lo)=cap by omega]; exact k4

theorem QG (T:tq P tt) {t:Nat} {a:V} {a':Value} (ra:cd w h c a a') {ρ:Operand→V} {ρ':Operand→Value} (hρ:∀x,cd w h c (ρ x) (ρ' x)) (lo hi:Option Operand)
  {k:V→Option R} {r:R}
  (hk:(match (generalizing:=false) (tt.at t).d,a with
    | .string, .str s =>
     yv (hi.map ρ) s.length fun h=>yv (lo.map ρ) 0 fun l =>
     cC (decide (0≤h)&&decide (h≤s.length)) (cC (decide (0≤l)&&decide (l≤h)) (k (.str ((s.drop l.toNat).take (h.toNat - l.toNat)))))
    | .slice e, .sl T s _ =>
     if T.sz=(tt.at e).size&&tt.ok e then
     yv (lo.map ρ) 0 fun l =>
     (match (generalizing:=false) hi with
     | none=>cC (decide (0≤l)&&decide (l≤s.length)) (k (.sl T (s.drop l.toNat) .no))
     | some hi =>
      yv (some (ρ hi)) 0 fun h =>
      cC (decide (0≤h)&&decide (h≤s.length)) (cC (decide (0≤l)&&decide (l≤h)) (k (.sl T ((s.drop l.toNat).take (h.toNat - l.toNat)) .no))))
     else none
    | .slice e, .aI =>
     if !tt.ok e then none else
     yv (hi.map ρ) 0 fun h=>yv (lo.map ρ) 0 fun l=>cC (decide (h=0)&&decide (l=0)) (k .aI)
    | .slice e, .row i n =>
     if !tt.ok e then none else
     yv (hi.map ρ) n fun h=>yv (lo.map ρ) 0 fun l=>cC (decide (0≤h)&&decide (h≤n)) (cC (decide (0≤l)&&decide (l≤h)) (k (.m0 i (tt.at e).size l.toNat (h.toNat - l.toNat))))
    | _,_=>none)=some r):jI P w h c (Instr.sliceAt t a' (lo.map ρ') (hi.map ρ') none) k r:=by
 split at hk
 ·have hd := ‹(tt.at t).d = .string›
  have ra := ‹cd w h c (.str _) a'›
  have hu:P.underlying t=some .string:=cG T hd
  obtain ⟨hh,hk,Ze⟩:=qx (Bv hρ hi) hk
  obtain ⟨l,hk,Zd⟩:=qx (Bv hρ lo) hk
  obtain ⟨hb,hk⟩:=aV hk
  obtain ⟨k9,hk⟩:=aV hk
  simp only[Bool.and_eq_true,decide_eq_true_eq]at hb k9
  obtain ⟨t',rfl,rfl,lD⟩:=ra.mG
  rw[size_data]at hb Ze
  have gN:=lF (P:=P) (w:=w) false t'.size t'.size (lo.map ρ') (hi.map ρ') l hh Zd Ze k9.1 k9.2 hb.2
  refine ⟨_, .string (t'.extract l.toNat hh.toNat),?_,Br _ UK ?_,hk⟩
  ·simp[Instr.sliceAt,Instr.slice,run_underlying hu,gN]
  ·simp; omega
 ·have hd := ‹(tt.at t).d = .slice _›
  have ra := ‹cd w h c (.sl _ _ _) a'›
  rename_i s _ _ _
  split at hk
  ·rename_i ko
   simp only[Bool.and_eq_true,decide_eq_true_eq]at ko
   obtain ⟨k8,lh⟩:=ko
   have hu:=cG T hd
   simp only[TD.Is]at hu
   have hs:=T.sizeOf (w:=w) lh
   obtain ⟨A,cap,rfl,eQ,lD⟩:=Bt ra
   obtain ⟨l,hk,Zd⟩:=qx (Bv hρ lo) hk
   cases hi with
   | none =>
    obtain ⟨hb,hk⟩:=aV hk
    simp only[Bool.and_eq_true,decide_eq_true_eq]at hb
    have gN:=lF (P:=P) (w:=w) true s.length cap (lo.map ρ') none l s.length Zd (.inl ⟨rfl,rfl⟩) hb.1 hb.2 (by omega)
    have hc:=TR ra l.toNat s.length (by omega) (Nat.le_refl _)
    rw[List.take_of_length_le (by simp)]at hc
    refine ⟨_,_,?_,hc,hk⟩
    simp[Instr.sliceAt,Instr.slice,run_underlying hu,gN,hs,←k8]
   | some hi =>
    obtain ⟨hh,hk,Ze⟩:=qx (v':=some (ρ' hi)) (hρ hi) hk
    obtain ⟨hb,hk⟩:=aV hk
    obtain ⟨k9,hk⟩:=aV hk
    simp only[Bool.and_eq_true,decide_eq_true_eq]at hb k9
    have gN:=lF (P:=P) (w:=w) true s.length cap (lo.map ρ') (some (ρ' hi)) l hh Zd (Ze.imp (fun x=>by cases x.1) id) k9.1 k9.2 (by omega)
    have hc:=TR ra l.toNat hh.toNat (by omega) (by omega)
    refine ⟨_,_,?_,hc,hk⟩
    simp[Instr.sliceAt,Instr.slice,run_underlying hu,gN,hs,←k8]
  ·cases hk
 ·have hd := ‹(tt.at t).d = .slice _›
  have ra := ‹cd w h c .aI a'›
  split at hk
  ·cases hk
  ·rename_i lh
   simp at lh
   have hu:=cG T hd
   simp only[TD.Is]at hu
   have hs:=T.sizeOf (w:=w) lh
   obtain ⟨hh,hk,Ze⟩:=qx (Bv hρ hi) hk
   obtain ⟨l,hk,Zd⟩:=qx (Bv hρ lo) hk
   obtain ⟨hb,hk⟩:=aV hk
   simp only[Bool.and_eq_true,decide_eq_true_eq]at hb
   obtain ⟨rfl,rfl⟩:=hb
   have gN:=lF (P:=P) (w:=w) true 0 0 (lo.map ρ') (hi.map ρ') 0 0 Zd Ze (by omega) (by omega) (by omega)
   cases ra
   refine ⟨_, .slice none 0 0,?_, .aI,hk⟩
   simp[Instr.sliceAt,Instr.slice,run_underlying hu,gN,hs]
 ·have hd := ‹(tt.at t).d = .slice _›
  have ra := ‹cd w h c (.row _ _) a'›
  split at hk
  ·cases hk
  ·rename_i lh
   simp at lh
   have hu:=cG T hd
   simp only[TD.Is]at hu
   have hs:=T.sizeOf (w:=w) lh
   obtain ⟨hh,hk,Ze⟩:=qx (Bv hρ hi) hk
   obtain ⟨l,hk,Zd⟩:=qx (Bv hρ lo) hk
   obtain ⟨hb,hk⟩:=aV hk
   obtain ⟨k9,hk⟩:=aV hk
   simp only[Bool.and_eq_true,decide_eq_true_eq]at hb k9
   cases ra with
   | row Wi hn hv =>
    obtain ⟨A,cap,rfl,⟨eQ,lD,hA⟩,hv⟩:=hv
    have gN:=lF (P:=P) (w:=w) true _ cap (lo.map ρ') (hi.map ρ') l hh Zd Ze k9.1 k9.2 (by omega)
    refine ⟨_,_,?_,WK Wi hn eQ lD hA hv l.toNat hh.toNat (by omega) (by omega),hk⟩
    simp[Instr.sliceAt,Instr.slice,run_underlying hu,gN,hs]
 ·cases hk
end

section
variable {P:Program} {tt:ca} {w:World} {h:ai} {c:eT} {R:Type}

theorem jD {s:Sem Value} {k:V→Option R} {r:R} (hm:jI P w h c s k r) :
  ∃v v',((do pure (Next.value (←s))):Sem Next).run P w = .ok (.value v') w∧cd w h c v v'∧k v=some r:=by
 obtain ⟨v,v',h1,h2,h3⟩:=hm
 exact ⟨v,v',by simp[h1],h2,h3⟩

theorem QH (T:tq P tt) {op:BinOp} {t:Nat} (x y:Operand) {a b:V} {a' b':Value} (ra:cd w h c a a') (rb:cd w h c b b') {k:V→Option R} {r:R}
  (hk:(match (generalizing:=false) a,b with
  | .agg a, .agg b=>if Pp (tt.at t) a b then tm op (.agg a) (.agg b) k else none
  | .bool a, .bool b=>(match (generalizing:=false) (tt.at t).d with | .bool=>tm op (.bool a) (.bool b) k|_=>none)
  | .int i a, .int j b=>tm op (.int i a) (.int j b) k
  | .str a, .str b=>tm op (.str a) (.str b) k
  | a,b=>(match (generalizing:=false) (tt.at t).d with | .ptr _=>Po op a b k | .slice _=>ZA op a b k | .iface=>ifK op y a b k|_=>none))=some r) :
  jI P w h c (do eqGuard op t x y a' b'; binOp op t a' b') k r:=by
 split at hk
 ·have ra := ‹cd w h c (.agg _) a'›
  have rb := ‹cd w h c (.agg _) b'›
  split at hk
  ·rename_i heq
   cases ra with
   | @agg _ u hl hr =>
    cases rb with
    | @agg _ v Wj hr' =>
     exact WG T heq ⟨by rw[hl,Array.length_toList],fun j v d hv hd=>hr j v d hv (by simpa using hd)⟩
      ⟨by rw[Wj,Array.length_toList],fun j v d hv hd=>hr' j v d hv (by simpa using hd)⟩ x y hk
  ·cases hk
 ·have ra := ‹cd w h c (.bool _) a'›
  have rb := ‹cd w h c (.bool _) b'›
  split at hk
  ·rename_i hd
   rw[ra.zW,rb.zW]
   exact UG T hd x y hk
  ·cases hk
 ·have ra := ‹cd w h c (.int _ _) a'›
  have rb := ‹cd w h c (.int _ _) b'›
  rename_i i m j n _ _
  have e1:=ra.gd
  have e2:=rb.gd
  rw[e1.1,e2.1]
  exact WC e2.2 t x y hk e1.2
 ·have ra := ‹cd w h c (.str _) a'›
  have rb := ‹cd w h c (.str _) b'›
  obtain ⟨s,rfl,rfl,_⟩:=ra.mG
  obtain ⟨u,rfl,rfl,_⟩:=rb.mG
  exact WE t x y hk
 ·split at hk
  ·rename_i hd
   exact Sp T hd ra rb x y hk
  ·rename_i hd
   exact UI T hd ra rb x y hk
  ·rename_i hd
   exact UH T hd ra rb x y hk
  ·cases hk

theorem NH (T:tq P tt) {s d:Nat} {a:V} {a':Value} (ra:cd w h c a a') {k:V→Option R} {r:R}
  (hk:(match (generalizing:=false) (tt.at d).d,a with
  | .int i, .int _ n=>k (.int i (i.wrap n))
  | .string, .str t=>(match (generalizing:=false) (tt.at s).d with | .string=>k (.str t)|_=>none)
  | _,_=>none)=some r)
  (hs:tt.ok s=true):jI P w h c (convert s d a') k r:=by
 split at hk
 ·have hd := ‹(tt.at d).d = .int _›
  have ra := ‹cd w h c (.int _ _) a'›
  have hu:=cG T hd
  simp only[TD.Is]at hu
  obtain ⟨rfl,_⟩:=ra.gd
  have hsu:=T.und s
  refine ⟨_,_,?_, .int (LK _ _),hk⟩
  unfold ca.ok at hs
  cases UL:(tt.at s).d <;> rw[UL]at hsu hs <;> simp only[TD.Is]at hsu
  case struct fs=>obtain ⟨F,hF,_⟩:=hsu; simp[convert,run_underlying hu,run_underlying hF,Conv.intToInt]
  case func=>obtain ⟨x,y,z,hF⟩:=hsu; simp[convert,run_underlying hu,run_underlying hF,Conv.intToInt]
  case iface=>obtain ⟨x,hF⟩:=hsu; simp[convert,run_underlying hu,run_underlying hF,Conv.intToInt]
  case other=>cases hs
  all_goals simp[convert,run_underlying hu,run_underlying hsu,Conv.intToInt]
 ·have hd := ‹(tt.at d).d = .string›
  have ra := ‹cd w h c (.str _) a'›
  have hu:=cG T hd
  simp only[TD.Is]at hu
  split at hk
  ·have hd2 := ‹(tt.at s).d = .string›
   have hu2:=cG T hd2
   simp only[TD.Is]at hu2
   have ra':=ra
   obtain ⟨t,rfl,rfl,hl⟩:=ra.mG
   exact ⟨_,_,by simp[convert,run_underlying hu,run_underlying hu2],ra',hk⟩
  ·cases hk
 ·cases hk

theorem UM (T:tq P tt) {t:Nat} {o:Nat} {a:V} {a':Value} (ra:cd w h c a a') {k:V→Option R} {r:R}
  (hk:(match (generalizing:=false) (tt.at t).d,a with
     | .string, .str s=>k (.int .i64 s.length)
     | .slice _, .sl _ l _=>k (.int .i64 l.length)
     | .slice _, .Ku n _=>k (.int .i64 n)
     | .slice _, .row _ n=>k (.int .i64 n)
     | .slice _, .aI=>k (.int .i64 0)
     | _,_=>none)=some r):jI P w h c (Builtin.len_ #[t] o #[a']) k r:=by
 have key:∀(e:TypeId) (A:Option Addr) (n m:Nat),P.underlying t=some (.slice e)→(Builtin.len_ #[t] o #[.slice A n m]).run P w = .ok (.int .i64 n) w:=by
  intro e A n m hu; simp[Builtin.len_,run_underlying hu,goInt]
 split at hk
 ·have hu:P.underlying t=some .string:=cG T ‹(tt.at t).d = .string›
  have ra := ‹cd w h c (.str _) a'›
  obtain ⟨s,rfl,rfl,hl⟩:=ra.mG
  refine ⟨_, .int .i64 s.size,by simp[Builtin.len_,run_underlying hu,goInt],?_,hk⟩
  rw[size_data]; exact .int (E5 _ hl)
 ·have hu:=cG T ‹(tt.at t).d = .slice _›
  simp only[TD.Is]at hu
  have ra := ‹cd w h c (.sl _ _ _) a'›
  obtain ⟨A,cap,rfl,h1,h2⟩:=Bt ra
  exact ⟨_,_,key _ _ _ _ hu, .int (E5 _ (by omega)),hk⟩
 ·have hu:=cG T ‹(tt.at t).d = .slice _›
  simp only[TD.Is]at hu
  have ra := ‹cd w h c (.Ku _ _) a'›
  cases ra with
  | Ku hn lD f hc hr=>exact ⟨_,_,key _ _ _ _ hu, .int (E5 _ lD),hk⟩
 ·have hu:=cG T ‹(tt.at t).d = .slice _›
  simp only[TD.Is]at hu
  have ra := ‹cd w h c (.row _ _) a'›
  cases ra with
  | row hi hn hv =>
   obtain ⟨A,cap,rfl,_,_⟩:=hv
   exact ⟨_,_,key _ _ _ _ hu, .int (E5 _ hn),hk⟩
 ·have hu:=cG T ‹(tt.at t).d = .slice _›
  simp only[TD.Is]at hu
  have ra := ‹cd w h c .aI a'›
  cases ra
  exact ⟨_,_,key _ _ 0 0 hu, .int (E5 0 (by unfold mx; omega)),hk⟩
 ·cases hk

theorem QI (T:tq P tt) (F:Array Field) (lh:∀f∈F.toList,tt.ok f.type=true) :
  (F.mapM (m:=Sem) fun f=>do pure (f.offset,←Go.sizeOf f.type)).run P w = .ok (F.map fun f=>(f.offset,(tt.at f.type).size)) w:=by
 rw[Array.mapM_eq_mapM_toList]
 have key:∀l:List Field,(∀f∈l,tt.ok f.type=true)→(l.mapM (m:=Sem) fun f=>do pure (f.offset,←Go.sizeOf f.type)).run P w = .ok (l.map fun f=>(f.offset,(tt.at f.type).size)) w:=by
  intro l
  induction l with
  | nil=>intro _; simp
  | cons f l ih =>
   intro h
   have hs:=T.sizeOf (w:=w) (h f (by simp))
   have:=ih fun g hg=>h g (by simp[hg])
   simp only[List.mapM_cons,Sem.run_bind,hs,Result.andThen_ok,Sem.run_pure,this,List.map_cons]
 simp only[Sem.run_map,key _ lh,Result.andThen_ok]
 congr 1
 apply Array.ext'
 simp

theorem mem_fs {fs:List (Nat×Nat)} {F:Array Field} (e:F.toList.map (fun f=>(f.offset,f.type))=fs) (vM:fs.all (fun f=>tt.ok f.2)=true):∀f∈F.toList,tt.ok f.type=true:=by
 intro f hf
 have:(f.offset,f.type)∈fs:=by rw[←e]; exact List.mem_map.2 ⟨f,hf,rfl⟩
 exact List.all_eq_true.1 vM _ this

theorem TS (T:tq P tt) {t:Nat} (h:tt.ok t=true):(tt.at t).zero.length=(tt.at t).size:=by
 obtain ⟨z,_,h2,h3⟩:=T.zero (w:=default) h
 have:=(h3 default [] ⟨fun _=>none,fun _=>0,⟨fun _ _=>False⟩⟩).1
 simp at this; omega

theorem Ot {ρ:Operand→V} {ρ':Operand→Value} (hρ:∀x,cd w h c (ρ x) (ρ' x)) (parts:List (Nat×Operand)) :
  (parts.map fun p=>(p.1,ρ p.2)).map Prod.fst=(parts.map fun p=>(p.1,ρ' p.2)).map Prod.fst ∧
  bl w h c ((parts.map fun p=>(p.1,ρ p.2)).map Prod.snd) ((parts.map fun p=>(p.1,ρ' p.2)).map Prod.snd):=by
 refine ⟨by simp[Function.comp_def],?_⟩
 simp only[List.map_map]
 exact bl.map parts fun p _=>hρ p.2

theorem QJ (T:tq P tt) {t:Nat} {parts:Array (Nat×Operand)} {ρ:Operand→V} {ρ':Operand→Value} (hρ:∀x,cd w h c (ρ x) (ρ' x)) {k:V→Option R} {r:R}
  (hk:(match (generalizing:=false) (tt.at t).d with
  | .struct fs =>
   if !fs.all (fun f=>tt.ok f.2) || !tt.ok t||decide (1000000≤(tt.at t).zero.length)then none else
   (match (generalizing:=false) FH (tt.at t).zero (parts.toList.map fun (i,x)=>((fs.getD i (0,0)).1,if i<fs.length then (tt.at (fs.getD i (0,0)).2).size else 1000000,ρ x))with
    | some cs=>k (.agg cs)|none=>none)
  | .arr _ e =>
   if !tt.ok e || !tt.ok t||decide (1000000≤(tt.at t).zero.length)then none else
   (match (generalizing:=false) FH (tt.at t).zero (parts.toList.map fun (i,x)=>(i*(tt.at e).size,(tt.at e).size,ρ x))with
    | some cs=>k (.agg cs)|none=>none)
  | _=>none)=some r):jI P w h c (Instr.build t (parts.map fun (i,x)=>(i,ρ' x))) k r:=by
 have Gz:=Ot hρ parts.toList
 split at hk
 ·rename_i fs hd
  split at hk
  ·cases hk
  ·rename_i La
   simp only[Bool.or_eq_true,Bool.not_eq_true',decide_eq_true_eq,not_or,Bool.not_eq_false,Nat.not_le]at La
   obtain ⟨⟨vM,lh⟩,hsm⟩:=La
   obtain ⟨F,hu,he⟩:=cG T hd
   obtain ⟨z,hz,Zc,LO⟩:=T.zero (w:=w) lh
   split at hk
   ·rename_i cs hf
    have ZE:=QI (w:=w) T F (mem_fs he vM)
    have hl:=TS T lh
    obtain ⟨IV,h1,h2,h3⟩:=Bs (w:=w) (h:=h) (c:=c) (fun i=>(F.map fun f=>(f.offset,(tt.at f.type).size))[i]?) (parts.toList.map fun p=>(p.1,ρ p.2)) (parts.toList.map fun p=>(p.1,ρ' p.2))
     (tt.at t).zero z.cells cs Gz.1 Gz.2 (LO w h c) (by
      rw[←hf,List.map_map]
      congr 1
      apply List.map_congr_left
      intro p _
      obtain ⟨i,x⟩:=p
      subst he
      simp only[Function.comp,List.length_map,Array.length_toList,Array.getElem?_map]
      by_cases hi:i<F.size
      ·simp[hi,List.getD]
      ·simp[hi,List.getD]) (by omega)
    have TU:cd w h c (.agg cs) (.agg IV) := .agg (by have:=h2.1; simpa using this) (fun j v d hv hd=>h2.2 j v d hv (by simpa using hd))
    refine ⟨.agg cs, .agg IV,?_,TU,hk⟩
    simp only[Instr.build,Sem.run_bind,hz,Result.andThen_ok,run_underlying hu,ZE,Array.toList_map]
    rw[h1]
    rfl
   ·cases hk
 ·rename_i n e hd
  split at hk
  ·cases hk
  ·rename_i La
   simp only[Bool.or_eq_true,Bool.not_eq_true',decide_eq_true_eq,not_or,Bool.not_eq_false,Nat.not_le]at La
   obtain ⟨⟨hoke,lh⟩,hsm⟩:=La
   have hu:=cG T hd
   simp only[TD.Is]at hu
   obtain ⟨z,hz,Zc,LO⟩:=T.zero (w:=w) lh
   have hse:=T.sizeOf (w:=w) hoke
   split at hk
   ·rename_i cs hf
    have hl:=TS T lh
    obtain ⟨IV,h1,h2,h3⟩:=Bs (w:=w) (h:=h) (c:=c) (fun i=>some (i*(tt.at e).size,(tt.at e).size)) (parts.toList.map fun p=>(p.1,ρ p.2)) (parts.toList.map fun p=>(p.1,ρ' p.2))
     (tt.at t).zero z.cells cs Gz.1 Gz.2 (LO w h c) (by
      rw[←hf,List.map_map]
      congr 1) (by omega)
    have TU:cd w h c (.agg cs) (.agg IV) := .agg (by have:=h2.1; simpa using this) (fun j v d hv hd=>h2.2 j v d hv (by simpa using hd))
    refine ⟨.agg cs, .agg IV,?_,TU,hk⟩
    simp[Instr.build,hz,run_underlying hu,hse,h1]
   ·cases hk
 ·cases hk
end

section
variable {P:Program} {tt:ca} {w:World} {h:ai} {c:eT} {R:Type}

theorem WL {ρ:Operand→V} {ρ':Operand→Value} (hρ:∀x,cd w h c (ρ x) (ρ' x)) (l:List Operand):bl w h c (l.map ρ) (l.map ρ'):=bl.map l fun x _=>hρ x

theorem QK {ρ:Operand→V} {ρ':Operand→Value} (hρ:∀x,cd w h c (ρ x) (ρ' x)) (l:Array Operand) :
  (l.toList.map ρ).length=(l.map ρ').size∧∀(j:Nat) (v:V) (d:Value),(l.toList.map ρ)[j]? = some v→(l.map ρ')[j]? = some d→cd w h c v d:=by
 have:=WL hρ l.toList
 exact ⟨by simp,fun j v d hv hd=>this.2 j v d hv (by simpa using hd)⟩

theorem UN {ts:Array TypeId} {o:Nat} {x y:V} {x' y':Value} (rx:cd w h c x x') (ry:cd w h c y y') {k:V→Option R} {r:R}
  (hk:(match (generalizing:=false) x,y with | .int i a, .int j b=>if i=j then k (.int i (min a b))else none|_,_=>none)=some r):jI P w h c (Builtin.min_ ts o #[x',y']) k r:=by
 split at hk
 ·rename_i i a j b'
  split at hk
  ·rename_i tR
   subst tR
   obtain ⟨rfl,ha⟩:=rx.gd
   obtain ⟨rfl,hb⟩:=ry.gd
   refine ⟨_, .int i (min a b'),?_, .int (by unfold IntKind.has at *; omega),hk⟩
   rw[run_min_int2]
   congr 2
   split <;> omega
  ·cases hk
 ·cases hk

theorem UO {ts:Array TypeId} {o:Nat} {x y:V} {x' y':Value} (rx:cd w h c x x') (ry:cd w h c y y') {k:V→Option R} {r:R}
  (hk:(match (generalizing:=false) x,y with | .int i a, .int j b=>if i=j then k (.int i (max a b))else none|_,_=>none)=some r):jI P w h c (Builtin.max_ ts o #[x',y']) k r:=by
 split at hk
 ·rename_i i a j b'
  split at hk
  ·rename_i tR
   subst tR
   obtain ⟨rfl,ha⟩:=rx.gd
   obtain ⟨rfl,hb⟩:=ry.gd
   refine ⟨_, .int i (max a b'),?_, .int (by unfold IntKind.has at *; omega),hk⟩
   rw[run_max_int2]
   congr 2
   split <;> omega
  ·cases hk
 ·cases hk

theorem UP (T:tq P tt) {o:Oper} {ρ:Operand→V} {ρ':Operand→Value} (hρ:∀x,cd w h c (ρ x) (ρ' x)) {k:V→Option R} {r:R}
  (hk:Za tt o.op ρ k=some r):∃v v',(execOp ρ' o).run P w = .ok (.value v') w∧cd w h c v v'∧k v=some r:=by
 obtain ⟨dst,op,type,pos,after,guard⟩:=o
 cases op <;> simp only[Za]at hk <;> try (first|cases hk)
 case move x=>exact ⟨_,_,by simp[execOp],hρ x,hk⟩
 case assign x=>exact ⟨_,_,by simp[execOp],hρ x,hk⟩
 case pick cc a b =>
  have rc:=hρ cc
  have ra:=hρ a
  have rb:=hρ b
  split at hk
  ·rename_i t ht
   rw[ht]at rc
   have ec:=rc.zW
   have run:(execOp ρ' ⟨dst, .pick cc a b,type,pos,after,guard⟩).run P w = .ok (.value (if t then ρ' a else ρ' b)) w:=by
    simp[execOp,ec,asBool]
   split at hk
   ·rename_i u v hu hv
    rw[hu]at ra; rw[hv]at rb
    refine ⟨_,_,run,?_,hk⟩
    rw[ra.zW,rb.zW]
    cases t <;> exact .bool _
   ·cases t
    ·exact ⟨_,_,run,rb,hk⟩
    ·exact ⟨_,_,run,ra,hk⟩
  ·cases hk
 case nilCheck x =>
  have rx:=hρ x
  split at hk <;> try (first|cases hk)
  ·rename_i i o hx
   rw[hx]at rx
   have rx':=rx
   cases rx with
   | ptr hi hv=>obtain ⟨b,hv,_⟩:=hv; exact ⟨_,ρ' x,by simp[execOp,hv],rx',hk⟩
  ·rename_i cs hx
   rw[hx]at rx
   have rx':=rx
   generalize hy:ρ' x=y at rx
   cases rx with
   | lX f hc hr=>exact ⟨_,ρ' x,by simp[execOp,hy],rx',hk⟩
  ·rename_i i n j o hx
   rw[hx]at rx
   have rx':=rx
   cases rx with
   | nu hi hv=>obtain ⟨b,hv,_⟩:=hv; exact ⟨_,ρ' x,by simp[execOp,hv],rx',hk⟩
  ·rename_i f a b hx
   rw[hx]at rx
   have rx':=rx
   generalize hy:ρ' x=y at rx
   cases rx with
   | func ha hb Zb hrb=>exact ⟨_,ρ' x,by simp[execOp,hy],rx',hk⟩
 case binOp op t x y ty =>
  exact jD (QH T x y (hρ x) (hρ y) hk)
 case unOp op t x =>
  have rx:=hρ x
  split at hk <;> try (first|cases hk)
  ·rename_i i n hx
   rw[hx]at rx
   exact ⟨_, .int i (i.wrap (0 - n)),by simp[execOp,Op.unary,rx.gd.1,Op.intArith], .int (LK _ _),hk⟩
  ·rename_i b hx
   rw[hx]at rx
   exact ⟨_,_,by simp[execOp,Op.unary,rx.zW], .bool _,hk⟩
 case convert s d x =>
  split at hk
  ·cases hk
  ·rename_i hs
   exact jD (NH T (hρ x) hk (by simpa using hs))
 case makeInterface t x =>
  have rx:=hρ x
  split at hk <;> try (first|cases hk)
  rename_i k0 i n hd hx
  rw[hx]at rx
  have hu:=cG T hd
  simp only[TD.Is]at hu
  exact ⟨_, .iface t (.int i n),by simp[execOp,Instr.makeInterface,run_underlying hu,rx.gd.1], .Lq rx.gd.2,hk⟩
 case fieldAddr s x f=>exact jD (Kx T (hρ x) hk)
 case field s x f=>exact jD (QE T (hρ x) hk)
 case indexAddr t x i=>exact jD (Kw T (hρ x) (hρ i) hk)
 case index t x i=>exact jD (QF T (hρ x) (hρ i) hk)
 case slice t x lo hi mx =>
  split at hk
  ·cases hk
  ·exact jD (QG T (hρ x) hρ lo hi hk)
 case makeFunc fn first cap =>
  cases fn <;> simp only at hk <;> try (first|cases hk)
  rename_i f
  obtain ⟨l1,r1⟩:=QK hρ first
  obtain ⟨l2,r2⟩:=QK hρ cap
  exact ⟨_, .func (.func f) (first.map ρ') (cap.map ρ'),by simp[execOp,Instr.makeFunc], .func l1 l2 r1 r2,hk⟩
 case extract t i =>
  have rt:=hρ t
  split at hk <;> try (first|cases hk)
  rename_i vs ht
  rw[ht]at rt
  split at hk
  ·rename_i v hv
   generalize hy:ρ' t=y at rt
   cases rt with
   | @tuple _ x hl hr =>
    have dH:i<vs.length:=(List.getElem?_eq_some_iff.1 hv).1
    have hx:x[i]? = some (x[i]'(by omega)):=Array.getElem?_eq_getElem (by omega)
    exact ⟨v,_,by simp[execOp,hy,Instr.extract,hx],hr i v _ hv hx,hk⟩
  ·cases hk
 case build t parts=>exact jD (QJ T hρ hk)
 case call cl =>
  obtain ⟨callee,args,argTypes⟩:=cl
  simp only at hk
  split at hk <;> try (first|cases hk)
  ·rename_i x ha
   obtain rfl:args = #[x]:=by cases args; simp_all
   split at hk <;> try (first|cases hk)
   rename_i t ht
   obtain rfl:argTypes = #[t]:=by cases argTypes; simp_all
   have:=jD (UM (P:=P) (o:=type) T (hρ x) hk)
   simpa [execOp,resolve,invoke,builtin]using this
  ·rename_i x y ha
   obtain rfl:args = #[x,y]:=by cases args; simp_all
   have:=jD (UN (P:=P) (ts:=argTypes) (o:=type) (hρ x) (hρ y) hk)
   simpa [execOp,resolve,invoke,builtin]using this
  ·rename_i x y ha
   obtain rfl:args = #[x,y]:=by cases args; simp_all
   have:=jD (UO (P:=P) (ts:=argTypes) (o:=type) (hρ x) (hρ y) hk)
   simpa [execOp,resolve,invoke,builtin]using this
end
end Go.ad

namespace Go.ad
open Go.RowKit Go.MapKept

section
variable {P:Program} {tt:ca} {w w':World} {h:ai} {c:eT} {R:Type}

def Hg (K T:Ty) (k:K.den):List (K.den×T.den)→List MapEntry→Nat→Option (Nat×Value)
 | x::l,e::es,i=>if Da K k x.1 then some (i,e.val)else Hg K T k l es (i+1)
 | _,_,_=>none

theorem IW {K T:Ty} {k:K.den}:∀(l:List (K.den×T.den)) (es:List MapEntry) (i:Nat),es.length=l.length →
  (Hg K T k l es i=none∧Bl K T k l=false∧pQ K T k l=T.aC∧∀v,yu K T k v l=l ++ [(k,v)]) ∨
  ∃j x e,Hg K T k l es i=some (i+j,e.val)∧l[j]? = some x∧es[j]? = some e∧Da K k x.1=true∧Bl K T k l=true∧pQ K T k l=x.2∧∀v,yu K T k v l=l.set j (k,v)
 | [], [],_,_ => .inl ⟨rfl,rfl,rfl,fun _=>rfl⟩
 | [],_::_,_,hl=>by cases hl
 | _::_, [],_,hl=>by cases hl
 | x::l,e::es,i,hl=>by
  cases hk:Da K k x.1 with
  | true=>exact .inr ⟨0,x,e,by simp[Hg,hk],rfl,rfl,hk,by simp[Bl,hk],by simp[pQ,hk],fun v=>by simp[yu,hk]⟩
  | false =>
   rcases IW (T:=T) (k:=k) l es (i+1) (by simpa using hl)with ⟨h1,h2,h3,h4⟩|⟨j,y,f,h1,h2,h3,h4,h5,h6,h7⟩
   ·exact .inl ⟨by simp[Hg,hk,h1],by simp[Bl,hk,h2],by simp[pQ,hk,h3],fun v=>by simp[yu,hk,h4 v]⟩
   ·exact .inr ⟨j+1,y,f,by simp[Hg,hk,h1]; omega,by simpa using h2,by simpa using h3,h4,by simp[Bl,hk,h5],by simp[pQ,hk,h6],fun v=>by simp[yu,hk,h7 v]⟩

theorem TV {kx:aA} {d:Value} (r:cd w h c (Nv .str kx) d):∃s,d = .string s∧s.data.toList=kx:=by
 obtain ⟨s,h1,h2,_⟩:=cd.mG (s:=kx) r
 exact ⟨s,h1,h2⟩
theorem TW {k:IntKind} {n:Int} {d:Value} (r:cd w h c (Nv (.int k) n) d):d = .int k n:=(cd.gd (n:=n) r).1

theorem UQ {a b:ByteArray}:(a==b)=(a.data.toList==b.data.toList):=by
 rw[Bool.eq_iff_iff]
 rw[bytes_beq]
 simp only[beq_iff_eq]
 exact ⟨fun e=>by rw[e],fun e=>wq e⟩

theorem Hh {kt:Nat} (T:tq P tt) {K:Ty} (hk:qX tt kt K=true) {kx ky:K.den} {d e:Value} (rk:cd w h c (Nv K kx) d) (re:cd w h c (Nv K ky) e) :
  ∃u,P.underlying kt=some u∧IsKey u d∧IsKey u e∧Instr.sameNow u d e=some (Da K kx ky)∧(Da K kx ky=true→e=d):=by
 unfold qX at hk
 split at hk
 ·split at hk
  ·rename_i hd
   have hu:P.underlying kt=some .string:=cG T hd
   obtain ⟨s,rfl,hs⟩:=TV rk
   obtain ⟨t,rfl,ht⟩:=TV re
   subst hs; subst ht
   refine ⟨_,hu,by simp[IsKey],by simp[IsKey],?_,fun he => ?_⟩
   ·simp only[Instr.sameNow,Da,UQ]
   ·have:s.data.toList=t.data.toList:=by simpa [Da]using he
    rw[wq this]
  ·cases hk
 ·rename_i k
  split at hk
  ·rename_i k' hd
   have e:k'=k:=by simpa using hk
   subst e
   have hu:P.underlying kt=some (.int k'):=cG T hd
   have e1:=TW rk
   have e2:=TW re
   subst e1; subst e2
   refine ⟨_,hu,by simp[IsKey],by simp[IsKey],?_,fun he => ?_⟩
   ·simp[Instr.sameNow,Da]
   ·have h' : @BEq.beq Int _ kx ky=true:=he
    have:kx=ky := @eq_of_beq Int _ _ kx ky h'
    rw[this]
  ·cases hk
 ·cases hk

theorem LP {kt:Nat} (T:tq P tt) {K V':Ty} (hk:qX tt kt K=true) {kx:K.den} {d:Value} (rk:cd w h c (Nv K kx) d) {u:TypeDesc} (hu:P.underlying kt=some u) :
  ∀(l:List (K.den×V'.den)) (es:List MapEntry) (i:Nat),es.length=l.length→(∀(j:Nat) (x:K.den×V'.den) (e:MapEntry),l[j]? = some x→es[j]? = some e→cd w h c (Nv K x.1) e.key) →
   Instr.findNow u d es i=some (Hg K V' kx l es i)
 | [], [],_,_,_=>rfl
 | [],_::_,_,hl,_=>by cases hl
 | _::_, [],_,hl,_=>by cases hl
 | x::l,e::es,i,hl,hr=>by
  obtain ⟨u',Wi,_,_,hs,_⟩:=Hh T hk rk (hr 0 x e rfl rfl)
  rw[hu]at Wi; cases Wi
  have ih:=LP T hk rk hu l es (i+1) (by simpa using hl) fun j y f hy hf=>hr (j+1) y f (by simpa using hy) (by simpa using hf)
  simp only[Instr.findNow,hs]
  cases hb:Da K kx x.1 with
  | true=>simp[Hg,hb]
  | false=>simp[Hg,hb,ih]

theorem LQ {kt:Nat} {K:Ty} (hk:qX tt kt K=true):K.one=true∧K6 K=true:=by
 cases K <;> first|exact ⟨rfl,rfl⟩|(simp[qX]at hk)
theorem LR {kt:Nat} {K:Ty} (hk:va tt kt K=true):K.one=true:=by
 cases K <;> first|rfl|(simp[va]at hk)

theorem UR {k:IntKind} {v:V} {x:Int} (h:Lr k [v]=some x):v = .int k x:=by
 unfold Lr at h
 split at h
 ·rename_i e
  simp only[List.cons.injEq,and_true]at e
  split at h
  ·rename_i e2; cases h; subst e2; exact e
  ·cases h
 ·cases h
theorem Sr {v:V} {x:Bool} (h:G9 [v]=some x):v = .bool x:=by
 unfold G9 at h
 split at h
 ·rename_i e
  simp only[List.cons.injEq,and_true]at e
  cases h; exact e
 ·cases h
theorem US {v:V} {x:aA} (h:Ls [v]=some x):v = .str x:=by
 unfold Ls at h
 split at h
 ·rename_i e
  simp only[List.cons.injEq,and_true]at e
  cases h; exact e
 ·cases h

theorem Ss {K:Ty} {v:V} {x:K.den} (hx:Y9 K v=some x) (ho:K.one=true):v=Nv K x:=by
 have hd:K.dec [v]=some x:=by
  unfold Y9 at hx
  split at hx <;> simp only[ho,cond_true]at hx
  ·cases hx
  ·exact hx
 cases K <;> simp only[Ty.one]at ho <;> try (first|cases ho)
 ·exact UR hd
 ·exact Sr hd
 ·exact US hd

theorem ZF {vt:Nat} {V':Ty} (hv:va tt vt V'=true):tt.ok vt=true∧tt.isAgg vt=false:=by
 unfold va at hv
 unfold ca.ok ca.isAgg
 split at hv
 ·split at hv
  ·rename_i hd _; rw[hd]; exact ⟨rfl,rfl⟩
  ·cases hv
 ·split at hv
  ·rename_i hd _; rw[hd]; exact ⟨rfl,rfl⟩
  ·cases hv
 ·cases hv

theorem UT {z:Value} (h:z.oneCell'=true):z.cells.toList = [z]:=by
 cases z <;> simp_all [Value.oneCell',Value.cells]

theorem QL (T:tq P tt) {vt:Nat} {V':Ty} (hv:va tt vt V'=true):∃z,(zeroValue vt).run P w = .ok z w∧cd w h c (Nv V' V'.aC) z:=by
 obtain ⟨lh,hag⟩:=ZF hv
 obtain ⟨i,z,hi,hs,hby,hz,Zc,hr⟩:=T.info vt lh
 have h1:=T.ones vt lh i z hi hz
 rw[hag]at h1
 have h3:=hr w h c
 rw[UT h1]at h3
 refine ⟨z,by simp[Go.zeroValue,typeInfo,hi,hz],?_⟩
 unfold va at hv
 split at hv
 ·split at hv
  ·rename_i hd hz'
   rw[hz']at h3
   exact h3.head
  ·cases hv
 ·split at hv
  ·rename_i hd hz'
   have e:_=_:=of_decide_eq_true hv
   subst e
   rw[hz']at h3
   exact h3.head
  ·cases hv
 ·cases hv

theorem Pv (T:tq P tt) (wf:WF w h c) {t kt vt i:Nat} {K V':Ty} {l:List (K.den×V'.den)} (ht:(tt.at t).d = .map kt vt) {m d:Value} (rm:cd w h c (.map i) m) (hm:h.at i = .qW K V' l)
  (hf:(qX tt kt K&&va tt vt V')=true) {v:V} (rk:cd w h c v d) {kx:K.den} (hx:Y9 K v=some kx) (ok:Bool) :
  ∃r,(Instr.lookup t m d ok).run P w = .ok r w∧cd w h c (bif ok then .tuple [Nv V' (pQ K V' kx l), .bool (Bl K V' kx l)]else Nv V' (pQ K V' kx l)) r:=by
 simp only[Bool.and_eq_true]at hf
 obtain ⟨QM,hf2⟩:=hf
 have hi:i<h.length:=by
  unfold ai.at at hm
  rcases Nat.lt_or_ge i (List.length h)with hi|hi
  ·exact hi
  ·simp[List.getD,List.getElem?_eq_none hi]at hm
 have ho:=wf.obj i hi
 rw[hm]at ho
 obtain ⟨b,es,clock,g1,g2,g3,g4,g5,g6⟩:=ho
 cases rm with
 | map hu hv =>
  obtain ⟨b',rfl,k9⟩:=hv
  have:=k9 (by rw[hm]; simp)
  rw[g1]at this; cases this
  have hut:P.underlying t=some (.map kt vt):=cG T ht
  have e:=Ss hx (LQ QM).1
  subst e
  have hl:es.toList.length=l.length:=by simpa using g5
  have hr:∀(j:Nat) (x:K.den×V'.den) (e:MapEntry),l[j]? = some x→es.toList[j]? = some e→cd w h c (Nv K x.1) e.key:=fun j x e hx he=>(g6 j x e hx (by simpa using he)).1
  obtain ⟨z,hz,rz⟩:=QL (w:=w) (h:=h) (c:=c) T hf2
  have hkey:∃u,P.underlying kt=some u∧IsKey u d:=by
   obtain ⟨u,q1,q2,_⟩:=Hh T QM rk rk
   exact ⟨u,q1,q2⟩
  obtain ⟨u,Wi,hik⟩:=hkey
  have Hi:=run_findKey (w:=w) Wi (LP T QM rk Wi l es.toList 0 hl hr)
  have WM:=run_checkKey (w:=w) Wi hik es.isEmpty 9999
  have DQ:=Go.MapKept.run_getObj_map (P:=P) g2
  rcases IW (K:=K) (T:=V') (k:=kx) l es.toList 0 hl with ⟨h1,h2,h3,_⟩|⟨j,x,e,h1,h2,h3,h4,h5,h6,_⟩
  ·rw[h1]at Hi
   rw[h2,h3]
   refine ⟨if ok then .tuple #[z, .bool false]else z,?_,?_⟩
   ·simp[Instr.lookup,run_underlying hut,DQ,WM,Hi,hz]
   ·cases ok with
    | true =>
     refine .tuple rfl fun j v d hv hd => ?_
     match j,hv,hd with
     | 0,hv,hd=>simp at hv hd; subst hv; subst hd; exact rz
     | 1,hv,hd=>simp at hv hd; subst hv; subst hd; exact .bool _
     | j+2,hv,_=>simp at hv
    | false=>exact rz
  ·rw[h1]at Hi
   rw[h5,h6]
   have re:=(g6 j x e h2 (by simpa using h3)).2
   refine ⟨if ok then .tuple #[e.val, .bool true]else e.val,?_,?_⟩
   ·simp[Instr.lookup,run_underlying hut,DQ,WM,Hi]
   ·cases ok with
    | true =>
     refine .tuple rfl fun j v d hv hd => ?_
     match j,hv,hd with
     | 0,hv,hd=>simp at hv hd; subst hv; subst hd; exact re
     | 1,hv,hd=>simp at hv hd; subst hv; subst hd; exact .bool _
     | j+2,hv,_=>simp at hv
    | false=>exact re
end
end Go.ad

namespace Go.ad
open Go.RowKit

section
variable {P:Program} {tt:ca} {w:World} {h:ai} {c:eT} {R:Type}

def mH (w:World) (b o:Nat) (ds:List Value):Prop:=∀(j:Nat) (d:Value),ds[j]? = some d→w.cell? ⟨b,o+j,none⟩=some d

theorem uE (T:tq P tt) {t b o off:Nat} {cs:List V} {ds:List Value} (hr:bl w h c cs ds) (hc:mH w b o ds) {k:V→Option R} {r:R} (hk:mF tt t cs off k=some r) :
  jI P w h c (loadVar t ⟨b,o+off,none⟩) k r:=by
 have lh:=QD hk
 unfold mF at hk
 rw[if_pos lh]at hk
 split at hk
 ·rename_i LJ
  split at hk
  ·rename_i k8
   have hlen:((ds.drop off).take (tt.at t).size).length=(tt.at t).size:=by have:=hr.1; simp; omega
   have Pt:=(hr.drop off).take (tt.at t).size
   have DO:=run_loadCells_list (P:=P) w ⟨b,o+off,none⟩ ((ds.drop off).take (tt.at t).size) (fun j v hv=>by
    rw[List.getElem?_take]at hv
    split at hv
    ·rw[List.getElem?_drop]at hv
     rw[kk,Nat.add_assoc]
     exact hc _ v hv
    ·cases hv)
   rw[hlen]at DO
   refine ⟨_, .agg ((ds.drop off).take (tt.at t).size).toArray,?_, .agg (by have:=Pt.1; simpa using this) (fun j v d hv hd=>Pt.2 j v d hv (by simpa using hd)),hk⟩
   simp[loadVar,T.isAgg lh,LJ,T.sizeOf lh,DO]
  ·cases hk
 ·rename_i LJ
  split at hk
  ·rename_i v hv
   have dH:off<cs.length:=(List.getElem?_eq_some_iff.1 hv).1
   have hd:ds[off]? = some (ds[off]'(by have:=hr.1; omega)):=List.getElem?_eq_getElem _
   refine ⟨v,_,?_,hr.2 off v _ hv hd,hk⟩
   simp[loadVar,T.isAgg lh,LJ,hc off _ hd]
  ·cases hk

theorem ai.dR {i:Nat} {o:aP} (e:h.at i=o) (hl:o ≠ .dead):i<h.length:=by
 unfold ai.at at e
 rcases Nat.lt_or_ge i (List.length h)with hi|hi
 ·exact hi
 ·simp[List.getD,List.getElem?_eq_none hi]at e
  exact absurd e.symm hl

theorem foldl_push (ns:List Int):∀s:ByteArray,(ns.foldl (fun (r:ByteArray) n=>r.push (UInt8.ofNat n.toNat)) s).data.toList=s.data.toList++ns.map fun n=>UInt8.ofNat n.toNat:=by
 induction ns with
 | nil=>intro s; simp
 | cons n ns ih=>intro s; simp only[List.foldl_cons]; rw[ih]; simp[ByteArray.push]

theorem UU (wf:WF w h c) {i:Nat} {T':Ty} {l:List T'.den} (he:h.at i = .row T' l) {j:Nat} (hj:j<l.length) :
  ∃b ds,c.mX i=some b∧mH w b (c.off i+j*T'.sz) ds∧bl w h c (T'.cells l[j]) ds:=by
 have hi:=ai.dR he (by simp)
 have ho:=wf.obj i hi
 rw[he]at ho
 rcases ho with ⟨_,rfl⟩|⟨b,arr,e,fz,h1,h2,h3,h4,h5⟩
 ·simp at hj
 ·have hlen:=T'.dX l[j]
  have hm:(j+1)*T'.sz≤l.length*T'.sz:=Nat.mul_le_mul_right _ hj
  rw[Nat.add_mul]at hm
  refine ⟨b,(arr.toList.drop (c.off i+j*T'.sz)).take T'.sz,h1,fun x d hd => ?_,?_,fun x v d hv hd => ?_⟩
  ·rw[List.getElem?_take]at hd
   split at hd
   ·rw[List.getElem?_drop]at hd
    rw[cell_of_row w b _ arr e fz h2]
    simpa using hd
   ·cases hd
  ·rw[hlen]; simp; omega
  ·obtain ⟨d',g1,g2⟩:=h5 j x l[j] v (List.getElem?_eq_getElem hj) hv
   rw[List.getElem?_take]at hd
   split at hd
   ·rw[List.getElem?_drop]at hd
    have:d'=d:=by
     have e1:arr[c.off i+j*T'.sz+x]? = some d:=by simpa using hd
     rw[g1]at e1; exact Option.some.inj e1
    subst this
    exact g2
   ·cases hd

theorem getD_eq {T':Ty} {l:List T'.den} {j:Nat} (hj:j<l.length):l.getD j T'.aC=l[j]:=by simp[List.getD,List.getElem?_eq_getElem hj]

theorem LS (T:tq P tt) (wf:WF w h c) {t:Nat} {a:V} {a':Value} (ra:cd w h c a a') {lim:Option Nat} {k:V→Option R} {r:R}
  (hk:(match (generalizing:=false) a with
  | .ptr i o =>
   if Dc lim i then
    match (generalizing:=false) h.at i with
    | .cells cs=>mF tt t cs o k
    | .qV v=>mF tt t [.undef,v] o k
    | _=>none
   else none
  | .lX cs=>mF tt t cs 0 k
  | .nu i sz j o =>
   if Dc lim i then
    match (generalizing:=false) h.at i with
    | .row T l=>if sz=T.sz then cC (decide (j<l.length)) (mF tt t (T.cells (l.getD j T.aC)) o k)else none
    | _=>none
   else none
  | _=>none)=some r):jI P w h c (Instr.loadAt t a') k r:=by
 split at hk
 ·rename_i i o
  split at hk
  ·split at hk
   ·rename_i cs he
    have hi:=ai.dR he (by simp)
    have ho:=wf.obj i hi
    rw[he]at ho
    obtain ⟨b,arr,e,h1,h2,h3⟩:=ho
    cases ra with
    | ptr hu hv =>
     obtain ⟨b',rfl,hb⟩:=hv
     have k9:=hb (by rw[he]; simp)
     rw[h1]at k9
     cases k9
     have:=uE (w:=w) (b:=b) (o:=0) T h3 (fun j d hd=>by
      rw[cell_of_row w b _ arr e _ h2]; simpa using hd) hk
     simpa [jI,Instr.loadAt,Instr.sureAddr]using this
   ·rename_i v he
    have hi:=ai.dR he (by simp)
    have ho:=wf.obj i hi
    rw[he]at ho
    obtain ⟨b,p,d,h1,h2,_,h3⟩:=ho
    cases ra with
    | ptr hu hv =>
     obtain ⟨b',rfl,hb⟩:=hv
     have k9:=hb (by rw[he]; simp)
     rw[h1]at k9
     cases k9
     have:=uE (w:=w) (b:=b) (o:=0) T (bl.cons (.undef p) (bl.cons h3 .nil)) (fun j d hd=>by
      rw[cell_of_row w b _ _ _ _ h2]
      match j,hd with
      | 0,hd=>simpa using hd
      | 1,hd=>simpa using hd
      | j+2,hd=>simp at hd) hk
     simpa [jI,Instr.loadAt,Instr.sureAddr]using this
   ·cases hk
  ·cases hk
 ·rename_i cs
  cases ra with
  | @lX _ b o f hc hr =>
   have hr':bl w h c cs ((List.range cs.length).map f):=by
    refine ⟨by simp,fun j v d hv hd => ?_⟩
    simp only[List.getElem?_map]at hd
    have dH:j<cs.length:=(List.getElem?_eq_some_iff.1 hv).1
    rw[List.getElem?_range dH]at hd
    simp at hd; subst hd
    exact hr j v hv
   have:=uE (w:=w) (b:=b) (o:=o) (off:=0) T hr' (fun j d hd=>by
    simp only[List.getElem?_map]at hd
    by_cases dH:j<cs.length
    ·rw[List.getElem?_range dH]at hd
     simp at hd; subst hd
     exact (hc j dH).1
    ·rw[List.getElem?_eq_none (by simp; omega)]at hd; cases hd) hk
   simpa [jI,Instr.loadAt,Instr.sureAddr]using this
 ·rename_i i sz j o
  split at hk
  ·split at hk
   ·rename_i T' l he
    split at hk
    ·rename_i k8
     obtain ⟨hj,hk⟩:=aV hk
     simp at hj
     rw[getD_eq hj]at hk
     obtain ⟨b,ds,h1,h2,h3⟩:=UU wf he hj
     cases ra with
     | nu hu hv =>
      obtain ⟨a,rfl,hv⟩:=hv
      obtain ⟨b',k9,rfl⟩:=hv T' l he k8 hj
      rw[h1]at k9
      cases k9
      have:=uE T h3 h2 hk
      simpa [jI,Instr.loadAt,Instr.sureAddr]using this
    ·cases hk
   ·cases hk
  ·cases hk
 ·cases hk

theorem UW (wf:WF w h c) {i:Nat} {ik:IntKind} {l:List Int} (hl:h.at i = .row (.int ik) l) (gX:l ≠ []) :
  ∃b,c.mX i=some b∧mH w b (c.off i) (l.map (Value.int ik)):=by
 have hi:=ai.dR hl (by simp)
 have ho:=wf.obj i hi
 rw[hl]at ho
 rcases ho with ⟨_,rfl⟩|⟨b,arr,el,fz,p1,p2,p3,p4,p5⟩
 ·exact absurd rfl gX
 ·have p5':∀(n:Nat) (z:Int),l[n]? = some z→arr[c.off i+n]? = some (.int ik z):=fun n z hz=>by
   obtain ⟨d,t1,t2⟩:=p5 n 0 z (.int ik z) hz rfl
   rw[t2.gd.1]at t1
   simpa [Ty.sz]using t1
  refine ⟨b,p1,fun j d hd => ?_⟩
  simp only[List.getElem?_map]at hd
  cases Zf:l[j]? with
  | none=>rw[Zf]at hd; cases hd
  | some z =>
   rw[Zf]at hd; simp at hd; subst hd
   rw[cell_of_row w b _ arr el fz p2]
   exact p5' j z Zf

theorem QN {ik:IntKind} {l:List Int} {t:Tok} {A:Option Addr} {n cap:Nat} (r:cd w h c (.sl (.int ik) l t) (.slice A n cap)) (gX:l ≠ []) :
  ∃b o,A=some ⟨b,o,none⟩∧n=l.length∧mH w b o (l.map (Value.int ik)):=by
 cases r with
 | sl f eQ lD hc hr vL fA =>
  have Hf:0<l.length:=List.length_pos_iff.2 gX
  obtain ⟨b,o,rfl,_⟩:=hc 0 0 Hf (by simp[Ty.sz])
  refine ⟨b,o,rfl,rfl,fun j d hd => ?_⟩
  simp only[List.getElem?_map]at hd
  cases Zf:l[j]? with
  | none=>rw[Zf]at hd; cases hd
  | some z =>
   rw[Zf]at hd; simp at hd; subst hd
   have dH:j<l.length:=(List.getElem?_eq_some_iff.1 Zf).1
   obtain ⟨b',o',e',g1,_⟩:=hc j 0 dH (by simp[Ty.sz])
   cases e'
   have:=hr j 0 z (.int ik z) Zf rfl
   rw[this.gd.1]at g1
   simpa [Ty.sz]using g1

theorem GA {s d e:TypeId} (us:P.underlying s=some (.slice e)) (ue:P.underlying e=some (.int .u8)) (ud:P.underlying d=some .string) {l:List Int} {A:Option Addr} {n cap:Nat}
  (hn:n=l.length) (DP:l ≠ []→∃b o,A=some ⟨b,o,none⟩∧mH w b o (l.map (Value.int .u8))) :
  ∃t,(convert s d (.slice A n cap)).run P w = .ok (.string t) w∧t.data.toList=l.map fun n=>UInt8.ofNat n.toNat:=by
 rw[run_convert_bytes_string w s d e A n cap us ue ud]
 by_cases Su:l = []
 ·subst Su
  subst hn
  refine ⟨.empty,?_,rfl⟩
  cases A with
  | none=>simp[Conv.bytesToString]
  | some a =>
   have ZG:=run_loadCells_list (P:=P) w a [] (fun j v hv=>by simp at hv)
   exact run_bytesToString (P:=P) w a 0 cap [] (by simpa using ZG)
 ·obtain ⟨b,o,rfl,hc⟩:=DP Su
  have ZG:=run_loadCells_list (P:=P) w ⟨b,o,none⟩ (l.map (Value.int .u8)) (fun j v hv=>by rw[kk]; exact hc j v hv)
  rw[List.length_map,←hn]at ZG
  exact ⟨_,run_bytesToString (P:=P) w ⟨b,o,none⟩ n cap l ZG,by rw[foldl_push]; rfl⟩

theorem QO (l:List Int):∀s:ByteArray,(l.foldl (fun r n=>r++Utf8.encode n) s).data.toList=s.data.toList++IP l:=by
 induction l with
 | nil=>intro s; simp[IP]
 | cons n l ih=>intro s; simp only[List.foldl_cons]; rw[ih]; simp[IP]

theorem Ky (l:List Int):(Go.runesBytes l).data.toList=IP l:=by
 unfold Go.runesBytes
 rw[QO]
 simp

theorem Sv {s d e:TypeId} (us:P.underlying s=some (.slice e)) (ue:P.underlying e=some (.int .i32)) (ud:P.underlying d=some .string) {l:List Int} {A:Option Addr} {n cap:Nat}
  (hn:n=l.length) (DP:l ≠ []→∃b o,A=some ⟨b,o,none⟩∧mH w b o (l.map (Value.int .i32))) :
  ∃t,(convert s d (.slice A n cap)).run P w = .ok (.string t) w∧t.data.toList=IP l∧t.size≤4*l.length:=by
 have hcv:(convert s d (.slice A n cap)).run P w=(Conv.runesToString (.slice A n cap)).run P w:=by
  unfold convert
  simp[run_underlying us,run_underlying ue,run_underlying ud]
 rw[hcv]
 by_cases Su:l = []
 ·subst Su
  subst hn
  refine ⟨.empty,?_,rfl,by simp⟩
  cases A with
  | none=>simp[Conv.runesToString]
  | some a =>
   have ZG:=run_loadCells_list (P:=P) w a [] (fun j v hv=>by simp at hv)
   exact Go.run_runesToString (P:=P) w a 0 cap [] (by simpa using ZG)
 ·obtain ⟨b,o,rfl,hc⟩:=DP Su
  have ZG:=run_loadCells_list (P:=P) w ⟨b,o,none⟩ (l.map (Value.int .i32)) (fun j v hv=>by rw[kk]; exact hc j v hv)
  rw[List.length_map,←hn]at ZG
  exact ⟨_,Go.run_runesToString (P:=P) w ⟨b,o,none⟩ n cap l ZG,Ky l,Go.runesBytes_size_le l⟩

theorem UX (T:tq P tt) (wf:WF w h c) {o:Oper} {ρ:Operand→V} {ρ':Operand→Value} (hρ:∀x,cd w h c (ρ x) (ρ' x)) {lim:Option Nat} {k:V→Option R} {r:R}
  (hk:UC tt o.op ρ h lim k=some r):∃v v',(execOp ρ' o).run P w = .ok (.value v') w∧cd w h c v v'∧k v=some r:=by
 obtain ⟨dst,op,type,pos,after,guard⟩:=o
 cases op <;> simp only[UC]at hk <;> try (first|cases hk)
 case load t x=>exact jD (LS T wf (hρ x) hk)
 case lookup t x ix ok =>
  have rx:=hρ x
  split at hk <;> try (first|cases hk)
  rename_i kt vt i ht hx
  rw[hx]at rx
  split at hk <;> try (first|cases hk)
  split at hk <;> try (first|cases hk)
  rename_i K V' l hm
  split at hk <;> try (first|cases hk)
  rename_i hf
  split at hk <;> try (first|cases hk)
  rename_i kx ZH
  obtain ⟨v',g1,g2⟩:=Pv T wf ht rx hm hf (hρ ix) ZH ok
  refine ⟨_,v',by simp[execOp,g1],g2,?_⟩
  cases ok <;> exact hk
 case convert s d x =>
  have rx:=hρ x
  split at hk <;> try (first|cases hk)
  ·rename_i e i n hd hs hx
   rw[hx]at rx
   split at hk
   ·split at hk <;> try (first|cases hk)
    rename_i l he hl
    have ud:=cG T hd
    have us:=cG T hs
    have ue:=cG T he
    simp only[TD.Is]at ud us ue
    cases rx with
    | row hu hn hv =>
     obtain ⟨A,cap,hv',hA,hv⟩:=hv
     obtain ⟨g1,g2,g3,g4⟩:=hv _ _ hl
     obtain ⟨t,h1,h2⟩:=GA (w:=w) (A:=A) (cap:=cap) (l:=l) us ue ud g1 (fun gX=>by
      obtain ⟨b,hb,hc⟩:=UW wf hl gX
      rcases g4 with ⟨q0,_⟩|⟨b',arr,el,fz,q1,rfl,q2,q3⟩
      ·rw[hb]at q0; cases q0
      ·rw[hb]at q1; cases q1
       exact ⟨b,_,rfl,hc⟩)
     refine ⟨_, .string t,?_,Br t h2 ?_,hk⟩
     ·simp only[execOp,Sem.run_bind,hv',h1,Result.andThen_ok,Sem.run_pure]
     ·refine Nat.le_trans (Nat.le_of_eq (@List.length_map Int UInt8 (l:List Int) _)) ?_
      exact (show l.length≤mx from g1▸hn)
   ·cases hk
  ·rename_i e T' l tk hd hs hx
   rw[hx]at rx
   split at hk <;> try (first|cases hk)
   ·rename_i l he
    have ud:=cG T hd
    have us:=cG T hs
    have ue:=cG T he
    simp only[TD.Is]at ud us ue
    obtain ⟨A,cap,hv,eQ,lD⟩:=Bt rx
    rw[hv]at rx
    obtain ⟨t,h1,h2⟩:=GA (w:=w) (A:=A) (cap:=cap) (l:=l) (n:=List.length l) us ue ud rfl (fun gX=>by
     obtain ⟨b,o,e1,_,e3⟩:=QN rx gX
     exact ⟨b,o,e1,e3⟩)
    refine ⟨_, .string t,?_,Br t h2 ?_,hk⟩
    ·simp only[execOp,Sem.run_bind,hv,h1,Result.andThen_ok,Sem.run_pure]
    ·refine Nat.le_trans (Nat.le_of_eq (@List.length_map Int UInt8 (l:List Int) _)) ?_
     exact Nat.le_trans eQ lD
   ·rename_i l he
    obtain ⟨hb,hk⟩:=aV hk
    have ud:=cG T hd
    have us:=cG T hs
    have ue:=cG T he
    simp only[TD.Is]at ud us ue
    obtain ⟨A,cap,hv,eQ,lD⟩:=Bt rx
    rw[hv]at rx
    obtain ⟨t,h1,h2,h3⟩:=Sv (w:=w) (A:=A) (cap:=cap) (l:=l) (n:=List.length l) us ue ud rfl (fun gX=>by
     obtain ⟨b,o,e1,_,e3⟩:=QN rx gX
     exact ⟨b,o,e1,e3⟩)
    refine ⟨_, .string t,?_,Br t h2 ?_,hk⟩
    ·simp only[execOp,Sem.run_bind,hv,h1,Result.andThen_ok,Sem.run_pure]
    ·rw[←h2]
     have k9:4*List.length (l:List Int)≤9223372036854775807:=of_decide_eq_true hb
     refine Nat.le_trans ?_ k9
     exact h3
  ·rename_i e hd hs hx
   rw[hx]at rx
   split at hk <;> try (first|cases hk)
   rename_i he
   have ud:=cG T hd
   have us:=cG T hs
   have ue:=cG T he
   simp only[TD.Is]at ud us ue
   generalize hv:ρ' x=xv at rx
   cases rx
   obtain ⟨t,h1,h2⟩:=GA (w:=w) (A:=none) (cap:=0) (l := []) (n:=0) us ue ud rfl (fun gX=>(gX rfl).elim)
   refine ⟨_, .string t,?_,Br t h2 (Nat.zero_le _),hk⟩
   simp only[execOp,Sem.run_bind,hv,h1,Result.andThen_ok,Sem.run_pure]
end
end Go.ad

namespace Go.ad

def Wk (u v:V):Prop:=u=v∨∃(T:Ty) (l:List T.den),v = .sl T l .no∧zR T u=some l

inductive E6:List V→List V→Prop where
 | nil:E6 [] []
 | cons {u v:V} {us vs:List V} (h:Wk u v) (t:E6 us vs):E6 (u::us) (v::vs)

theorem Wk.rfl {u:V}:Wk u u := .inl _root_.rfl
theorem Wk.sl {T:Ty} {u:V} {l:List T.den} (h:zR T u=some l):Wk u (.sl T l .no) := .inr ⟨T,l,_root_.rfl,h⟩

theorem UY (k:IntKind) {cs:List V} {x:Int} (h:Lr k cs=some x):E6 cs (Ty.cells (.int k) x):=by
 unfold Lr at h
 split at h
 ·split at h
  ·rename_i e; subst e; cases h; exact .cons .rfl .nil
  ·cases h
 ·cases h
theorem Sw  {cs:List V} {x:Bool} (h:G9 cs=some x):E6 cs (Ty.cells (.bool) x):=by
 unfold G9 at h
 split at h
 ·cases h; exact .cons .rfl .nil
 ·cases h
theorem UZ  {cs:List V} {x:aA} (h:Ls cs=some x):E6 cs (Ty.cells (.str) x):=by
 unfold Ls at h
 split at h
 ·cases h; exact .cons .rfl .nil
 ·cases h
theorem U0  {cs:List V} {x:Bi} (h:R7 cs=some x):E6 cs (Ty.cells (.dcm) x):=by
 unfold R7 at h
 split at h
 ·cases h; exact .cons .rfl (.cons .rfl .nil)
 ·cases h
theorem Sx  {cs:List V} {x:Json} (h:Pb cs=some x):E6 cs (Ty.cells (.json) x):=by
 unfold Pb at h
 split at h
 ·split at h
  ·cases h; exact .cons .rfl (.cons .rfl (.cons .rfl (.cons .rfl (.cons (.sl ‹_›) (.cons (.sl ‹_›) .nil)))))
  ·cases h
 ·cases h
theorem U1  {cs:List V} {x:Raw} (h:R8 cs=some x):E6 cs (Ty.cells (.raw) x):=by
 unfold R8 at h
 split at h
 ·split at h
  ·cases h; exact .cons .rfl (.cons .rfl (.cons .rfl (.cons (.sl ‹_›) (.cons (.sl ‹_›) .nil))))
  ·cases h
 ·cases h
theorem Sy  {cs:List V} {x:Nx} (h:Pc cs=some x):E6 cs (Ty.cells (.Qp) x):=by
 unfold Pc at h
 split at h
 ·split at h
  ·cases h; exact .cons .rfl (.cons .rfl (.cons .rfl (.cons (.sl ‹_›) .nil)))
  ·cases h
 ·cases h
theorem U2  {cs:List V} {x:Y7} (h:R9 cs=some x):E6 cs (Ty.cells (.fld) x):=by
 unfold R9 at h
 split at h
 ·cases h; exact .cons .rfl (.cons .rfl (.cons .rfl (.cons .rfl (.cons .rfl .nil))))
 ·cases h
theorem Sz  {cs:List V} {x:Ny} (h:Pd cs=some x):E6 cs (Ty.cells (.Pa) x):=by
 unfold Pd at h
 split at h
 ·cases h; exact .cons .rfl (.cons .rfl (.cons .rfl .nil))
 ·cases h
theorem QP  {cs:List V} {x:Token} (h:Lt cs=some x):E6 cs (Ty.cells (.token) x):=by
 unfold Lt at h
 split at h
 ·cases h; exact .cons .rfl (.cons .rfl (.cons .rfl (.cons .rfl (.cons .rfl .nil))))
 ·cases h
theorem SA  {cs:List V} {x:Stop} (h:Pe cs=some x):E6 cs (Ty.cells (.stop) x):=by
 unfold Pe at h
 split at h
 ·cases h; exact .cons .rfl (.cons .rfl (.cons .rfl .nil))
 ·cases h
theorem U3  {cs:List V} {x:Way} (h:Sa cs=some x):E6 cs (Ty.cells (.dt) x):=by
 unfold Sa at h
 split at h
 ·cases h; exact .cons .rfl (.cons .rfl (.cons .rfl .nil))
 ·cases h
theorem QQ  {cs:List V} {x:Order} (h:Lu cs=some x):E6 cs (Ty.cells (.order) x):=by
 unfold Lu at h
 split at h
 ·split at h
  ·cases h; exact .cons .rfl (.cons .rfl (.cons .rfl (.cons .rfl (.cons (.sl ‹_›) (.cons (.sl ‹_›) .nil)))))
  ·cases h
 ·cases h
theorem SB  {cs:List V} {x:Edge} (h:Pf cs=some x):E6 cs (Ty.cells (.fk) x):=by
 unfold Pf at h
 split at h
 ·cases h; exact .cons .rfl (.cons .rfl (.cons .rfl .nil))
 ·cases h
theorem Pw  {cs:List V} {x:cf} (h:IM cs=some x):E6 cs (Ty.cells (.layout) x):=by
 unfold IM at h
 split at h
 ·split at h
  ·cases h; exact .cons .rfl (.cons (.sl ‹_›) .nil)
  ·cases h
 ·cases h
theorem QR  {cs:List V} {x:FG} (h:Lv cs=some x):E6 cs (Ty.cells (.topic) x):=by
 unfold Lv at h
 split at h
 ·cases h; exact .cons .rfl (.cons .rfl (.cons .rfl .nil))
 ·cases h
theorem QS  {cs:List V} {x:State} (h:Lw cs=some x):E6 cs (Ty.cells (.state) x):=by
 unfold Lw at h
 split at h
 ·cases h; exact .cons .rfl (.cons .rfl (.cons .rfl (.cons .rfl (.cons .rfl (.cons .rfl (.cons .rfl (.cons .rfl (.cons .rfl (.cons .rfl .nil)))))))))
 ·cases h
theorem U4  {cs:List V} {x:bN} (h:Sb cs=some x):E6 cs (Ty.cells (.C8) x):=by
 unfold Sb at h
 split at h
 ·split at h
  ·cases h; exact .cons .rfl (.cons .rfl (.cons .rfl (.cons .rfl (.cons .rfl (.cons .rfl (.cons (.sl ‹_›) (.cons .rfl (.cons .rfl (.cons .rfl (.cons .rfl (.cons .rfl (.cons .rfl (.cons .rfl (.cons .rfl (.cons (.sl ‹_›) (.cons (.sl ‹_›) .nil))))))))))))))))
  ·cases h
 ·cases h
theorem SC  {cs:List V} {x:Nz} (h:Pg cs=some x):E6 cs (Ty.cells (.Qq) x):=by
 unfold Pg at h
 split at h
 ·cases h; exact .cons .rfl (.cons .rfl (.cons .rfl (.cons .rfl (.cons .rfl .nil))))
 ·cases h
theorem QT  {cs:List V} {x:kh} (h:Lx cs=some x):E6 cs (Ty.cells (.C9) x):=by
 unfold Lx at h
 split at h
 ·split at h
  ·cases h; exact .cons .rfl (.cons .rfl (.cons .rfl (.cons .rfl (.cons .rfl (.cons .rfl (.cons (.sl ‹_›) .nil))))))
  ·cases h
 ·cases h
theorem SD  {cs:List V} {x:NA} (h:Ph cs=some x):E6 cs (Ty.cells (.Qr) x):=by
 unfold Ph at h
 split at h
 ·split at h
  ·cases h; exact .cons .rfl (.cons .rfl (.cons .rfl (.cons .rfl (.cons .rfl (.cons .rfl (.cons .rfl (.cons (.sl ‹_›) (.cons .rfl .nil))))))))
  ·cases h
 ·cases h
theorem SE  {cs:List V} {x:NB} (h:Pj cs=some x):E6 cs (Ty.cells (.Qs) x):=by
 unfold Pj at h
 split at h
 ·split at h
  ·cases h; exact .cons .rfl (.cons .rfl (.cons (.sl ‹_›) .nil))
  ·cases h
 ·cases h
theorem SF  {cs:List V} {x:oD} (h:Pk cs=some x):E6 cs (Ty.cells (.u7) x):=by
 unfold Pk at h
 split at h
 ·cases h; exact .cons .rfl (.cons .rfl (.cons .rfl .nil))
 ·cases h
theorem SG  {cs:List V} {x:Kt} (h:Pl cs=some x):E6 cs (Ty.cells (.NF) x):=by
 unfold Pl at h
 split at h
 ·cases h; exact .cons .rfl (.cons .rfl .nil)
 ·cases h
theorem SH  {cs:List V} {x:NC} (h:Pm cs=some x):E6 cs (Ty.cells (.Qt) x):=by
 unfold Pm at h
 split at h
 ·cases h; exact .cons .rfl (.cons .rfl (.cons .rfl (.cons .rfl .nil)))
 ·cases h
theorem SI  {cs:List V} {x:ND} (h:Pn cs=some x):E6 cs (Ty.cells (.post) x):=by
 unfold Pn at h
 split at h
 ·cases h; exact .cons .rfl (.cons .rfl .nil)
 ·cases h
theorem U5  {cs:List V} {x:Y8} (h:Se cs=some x):E6 cs (Ty.cells (.job) x):=by
 unfold Se at h
 split at h
 ·cases h; exact .cons .rfl (.cons .rfl (.cons .rfl (.cons .rfl .nil)))
 ·cases h
theorem Px  {cs:List V} {x:yt} (h:IN cs=some x):E6 cs (Ty.cells (.record) x):=by
 unfold IN at h
 split at h
 ·split at h
  ·cases h; exact .cons .rfl (.cons (.sl ‹_›) (.cons .rfl .nil))
  ·cases h
 ·cases h

theorem dec_wk:∀(T:Ty) {cs:List V} {x:T.den},T.dec cs=some x→E6 cs (T.cells x)
 | .int k,_,_,h=>UY k h
 | .bool,_,_,h=>Sw h
 | .str,_,_,h=>UZ h
 | .dcm,_,_,h=>U0 h
 | .json,_,_,h=>Sx h
 | .raw,_,_,h=>U1 h
 | .Qp,_,_,h=>Sy h
 | .fld,_,_,h=>U2 h
 | .Pa,_,_,h=>Sz h
 | .token,_,_,h=>QP h
 | .stop,_,_,h=>SA h
 | .dt,_,_,h=>U3 h
 | .order,_,_,h=>QQ h
 | .fk,_,_,h=>SB h
 | .layout,_,_,h=>Pw h
 | .topic,_,_,h=>QR h
 | .state,_,_,h=>QS h
 | .C8,_,_,h=>U4 h
 | .Qq,_,_,h=>SC h
 | .C9,_,_,h=>QT h
 | .Qr,_,_,h=>SD h
 | .Qs,_,_,h=>SE h
 | .u7,_,_,h=>SF h
 | .NF,_,_,h=>SG h
 | .Qt,_,_,h=>SH h
 | .post,_,_,h=>SI h
 | .job,_,_,h=>U5 h
 | .record,_,_,h=>Px h

end Go.ad

namespace Go.ad
open Go.RowKit

section
variable {P:Program} {tt:ca} {w w':World} {h h':ai} {c c':eT}

theorem gm (h:ai) (i j:Nat) (o:aP):ai.at (h.set i o) j=if i=j∧i<h.length then o else h.at j:=by
 unfold ai.at
 simp only[List.getD,List.getElem?_set]
 by_cases tR:i=j
 ·subst tR
  by_cases hl:i<h.length
  ·simp[hl]
  ·simp[hl]
 ·simp[tR]

theorem bm {i j:Nat} (o:aP) (tR:i≠j):ai.at (h.set i o) j=h.at j:=by rw[gm]; simp[tR]
theorem fT {i:Nat} (o:aP) (hi:i<h.length):ai.at (h.set i o) i=o:=by rw[gm]; simp[hi]

def eT.put (c:eT) (i:Nat) (b:Option Nat) (o:Nat):eT:=⟨fun j=>if j=i then b else c.mX j,fun j=>if j=i then o else c.off j,c.ext⟩
theorem lj {i j:Nat} (b:Option Nat) (o:Nat) (h:j≠i):(c.put i b o).mX j=c.mX j:=by simp[eT.put,h]
theorem tS {i j:Nat} (b:Option Nat) (o:Nat) (h:j≠i):(c.put i b o).off j=c.off j:=by simp[eT.put,h]
theorem bE (i:Nat) (b:Option Nat) (o:Nat):(c.put i b o).mX i=b:=by simp[eT.put]
theorem cH (i:Nat) (b:Option Nat) (o:Nat):(c.put i b o).off i=o:=by simp[eT.put]

theorem E7 {o:aP} (h1:o ≠ .free) (h2:o ≠ .dead):o.live:=by cases o <;> simp_all [aP.live]
theorem rh {o:aP} (h:o.live):o ≠ .dead:=by rintro rfl; exact h
theorem uF {b:Nat} {o:Obj} (h:w.heap[b]? = some o):b<w.heap.size:=(Array.getElem?_eq_some_iff.1 h).1

theorem iN.lt {i b:Nat} {o:aP} (ho:iN w h c i o) (hl:o.live) (hb:c.mX i=some b):b<w.heap.size:=by
 cases o <;> simp only[aP.live]at hl <;> simp only[iN]at ho
 ·obtain ⟨b',arr,e,h1,h2,_⟩:=ho
  rw[h1]at hb; cases hb; exact uF h2
 ·rcases ho with ⟨h1,_⟩|⟨b',arr,e,fz,h1,h2,_⟩
  ·rw[h1]at hb; cases hb
  ·rw[h1]at hb; cases hb; exact uF h2
 ·rcases ho with h1|⟨b',arr,e,fz,h1,h2,_⟩
  ·rw[h1]at hb; cases hb
  ·rw[h1]at hb; cases hb; exact uF h2
 ·obtain ⟨b',bs,h1,h2,_⟩:=ho
  rw[h1]at hb; cases hb; exact uF h2
 ·obtain ⟨b',p,d,h1,h2,_⟩:=ho
  rw[h1]at hb; cases hb; exact uF h2
 ·obtain ⟨b',es,cl,h1,h2,_⟩:=ho
  rw[h1]at hb; cases hb; exact uF h2

theorem iN.pP (x:Ext w h c w' h' c') {i:Nat} {o:aP} (ho:iN w h c i o) (hb:∀b,c.mX i=some b→w'.heap[b]? = w.heap[b]?) (e1:c'.mX i=c.mX i) (e2:c'.off i=c.off i) :
  iN w' h' c' i o:=by
 have TX:∀b x,c.mX i=some b→w'.frozen? ⟨b,x,none⟩=w.frozen? ⟨b,x,none⟩:=fun b x h=>by simp only[World.frozen?,hb b h]
 cases o <;> simp only[iN]at ho ⊢
 ·obtain ⟨b,arr,e,h1,h2,h3⟩:=ho
  exact ⟨b,arr,e,e1▸h1,(hb b h1).trans h2,h3.mono x⟩
 ·rcases ho with ⟨h1,h2⟩|⟨b,arr,e,fz,h1,h2,h3,h4,h5⟩
  ·exact .inl ⟨e1▸h1,h2⟩
  ·refine .inr ⟨b,arr,e,fz,e1▸h1,(hb b h1).trans h2,by rw[e2]; exact h3,fun x hx=>by rw[TX b x h1]; exact h4 x hx,fun n j y v hy hv => ?_⟩
   obtain ⟨d,g1,g2⟩:=h5 n j y v hy hv
   exact ⟨d,by rw[e2]; exact g1,g2.mono x⟩
 ·rcases ho with h1|⟨b,arr,e,fz,h1,h2,h3,h4⟩
  ·exact .inl (e1▸h1)
  ·exact .inr ⟨b,arr,e,fz,e1▸h1,(hb b h1).trans h2,by rw[e2]; exact h3,by rw[e2]; exact h4⟩
 ·obtain ⟨b,bs,h1,h2,h3⟩:=ho
  exact ⟨b,bs,e1▸h1,(hb b h1).trans h2,h3⟩
 ·obtain ⟨b,p,d,h1,h2,h3,h4⟩:=ho
  exact ⟨b,p,d,e1▸h1,(hb b h1).trans h2,h3,h4.mono x⟩
 ·obtain ⟨b,es,cl,h1,h2,h3,h4,h5,h6⟩:=ho
  exact ⟨b,es,cl,e1▸h1,(hb b h1).trans h2,h3,h4,h5,fun j q e hq he=>⟨(h6 j q e hq he).1.mono x,(h6 j q e hq he).2.mono x⟩⟩

theorem qy {b x:Nat} (h:w'.heap[b]? = w.heap[b]?):w'.cell? ⟨b,x,none⟩=w.cell? ⟨b,x,none⟩:=by simp only[World.cell?,h]

theorem nw (hb:Below w.heap.size w w') {id:Nat} (hf:h.at id = .free) (ob:aP) {nb:Option Nat} {no:Nat} (hn:∀b,nb=some b→w.heap.size≤b) :
  Ext w h c w' (h.set id ob) (c.put id nb no) where
 os:=hb.os
 tape:=hb.tape
 output:=hb.output
 size:=hb.size
 used:=fun i hi=>by
  have gX:id≠i:=by rintro rfl; exact hi.2 hf
  exact ⟨by simpa using hi.1,by rw[bm _ gX]; exact hi.2⟩
 same:=fun i hi hd=>by
  have gX:id≠i:=by rintro rfl; exact hi.2 hf
  rw[bm _ gX]at hd ⊢
  refine ⟨?_,lj _ _ (Ne.symm gX),tS _ _ (Ne.symm gX)⟩
  have h2:=hi.2
  revert hd h2
  cases h.at i <;> simp[aP.dV]
 cell:=fun b x hx _=>qy (hb.block b hx)
 block:=fun b hx _=>hb.block b hx
 tp:=fun b x hx ho=>by
  obtain ⟨i,f,h1,h2,h3⟩:=ho
  by_cases gX:id=i
  ·subst gX
   rw[bE]at h1
   have:=hn b h1
   omega
  ·rw[lj _ _ (Ne.symm gX)]at h1
   rw[bm _ gX,tS _ _ (Ne.symm gX)]at h2
   exact ⟨i,f,h1,h2,h3⟩
 ext:=rfl
 arr:=fun b arr e fz hx=>⟨arr,fz,by rw[hb.block b (uF hx)]; exact hx,rfl⟩

theorem WF.nz (wf:WF w h c) {h':ai} {c':eT} (x:Ext w h c w' h' c'):Laid w' h' c' :=
 ⟨mZ.pP w w' (fun b hb=>x.block b (wf.lay.2 b hb).1 (wf.lay.2 b hb).2) wf.lay.1,
  fun b hb=>⟨Nat.lt_of_lt_of_le (wf.lay.2 b hb).1 x.size,fun y ho=>(wf.lay.2 b hb).2 y (x.tp b y (wf.lay.2 b hb).1 ho)⟩⟩

theorem vd (wf:WF w h c) (hb:Below w.heap.size w w') {id:Nat} (hid:id<h.length) (hf:h.at id = .free) {ob:aP} {nb:Option Nat} {no:Nat} (hn:∀b,nb=some b→w.heap.size≤b)
  (Bw:iN w' (h.set id ob) (c.put id nb no) id ob):WF w' (h.set id ob) (c.put id nb no):=by
 have x:=nw (h:=h) (c:=c) hb hf ob (no:=no) hn
 constructor
 ·intro b y ho he
  have dH:b<w.heap.size:=wf.la b y he
  exact wf.uU b y (x.tp b y dH ho) he
 ·intro b y he
  exact Nat.lt_of_lt_of_le (wf.la b y he) hb.size
 ·intro i hi
  by_cases gX:id=i
  ·subst gX; rw[fT _ hid]; exact Bw
  ·rw[bm _ gX]
   by_cases hl:(h.at i).live
   ·have ho:=wf.obj i (by simpa using hi)
    exact ho.pP x (fun b hbk=>hb.block b (ho.lt hl hbk)) (lj _ _ (Ne.symm gX)) (tS _ _ (Ne.symm gX))
   ·revert hl; cases h.at i <;> simp[aP.live,iN]
 ·intro i j b hi hj h1 h2
  have dH:∀k,id≠k→(ai.at (h.set id ob) k).live→(c.put id nb no).mX k=some b→b<w.heap.size:=by
   intro k gX hl hbk
   rw[bm _ gX]at hl
   rw[lj _ _ (Ne.symm gX)]at hbk
   exact (wf.obj k (ai.dR rfl (rh hl))).lt hl hbk
  by_cases h3:id=i <;> by_cases h4:id=j
  ·exact h3.symm.trans h4
  ·subst h3
   rw[bE]at h1
   have:=hn b h1
   have:=dH j h4 hj h2
   omega
  ·subst h4
   rw[bE]at h2
   have:=hn b h2
   have:=dH i h3 hi h1
   omega
  ·rw[bm _ h3]at hi
   rw[bm _ h4]at hj
   rw[lj _ _ (Ne.symm h3)]at h1
   rw[lj _ _ (Ne.symm h4)]at h2
   exact wf.inj i j b hi hj h1 h2
 ·exact wf.nz x

theorem LU {T:Ty} {v:V} {d:Value} (r:cd w h c v d) {l:List T.den} (hs:zR T v=some l):cd w h c (.sl T l .no) d:=by
 unfold zR at hs
 split at hs
 ·cases hs
  cases r
  exact .sl (fun _ _=>undef) (Nat.le_refl _) (by unfold mx; exact Nat.zero_le _) (fun i j hi=>by simp at hi) (fun i j x v hx=>by simp at hx) (by simp) (by simp)
 ·rename_i T' l' t
  split at hs
  ·rename_i e
   subst e
   cases hs
   cases r with
   | sl f eQ lD hc hr vL fA=>exact .sl f eQ lD hc hr (by simp) (by simp)
  ·cases hs
 ·cases hs

theorem Wk.rep {u v:V} {d:Value} (k:Wk u v) (r:cd w h c u d):cd w h c v d:=by
 rcases k with rfl|⟨T,l,rfl,e⟩
 ·exact r
 ·exact LU r e

theorem E6.rep {us vs:List V} (k:E6 us vs):∀ {ds:List Value},bl w h c us ds→bl w h c vs ds:=by
 induction k with
 | nil=>exact fun r=>r
 | cons a _ ih =>
  intro ds r
  cases ds with
  | nil=>have:=r.1; simp at this
  | cons d ds=>exact .cons (a.rep r.head) (ih r.tail)

theorem E8 {T:Ty} {cs:List V} {x:T.den} (hx:T.dec cs=some x) {ds:List Value} (r:bl w h c cs ds):bl w h c (T.cells x) ds:=(dec_wk T hx).rep r
end

section
variable {P:Program} {tt:ca} {w:World} {h:ai} {c:eT} {R:Type}

def GB (P:Program) (w:World) (h:ai) (c:eT) (s:Sem Value) (ob:aP) (mk:Nat→V):Prop :=
 ∀id,id<h.length→h.at id = .free→∃v' w' c',s.run P w = .ok v' w'∧WF w' (h.set id ob) c'∧Ext w h c w' (h.set id ob) c'∧cd w' (h.set id ob) c' (mk id) v'

theorem jJ (w:World) (o:Obj):Below w.heap.size w (w.alloc o):=(Below.refl _ _).alloc (Nat.le_refl _) o

theorem m5 {id:Nat} (hid:id<h.length) {ob:aP} (ho:ob ≠ .free):Used (h.set id ob) id:=⟨by simpa using hid,by rw[fT _ hid]; exact ho⟩

theorem JT (wf:WF w h c) {cs:List V} {ds:Array Value} (r:bl w h c cs ds.toList) (e:TypeId) {s:Sem Value} (gN:s.run P w = .ok (.pointer (some ⟨w.heap.size,0,none⟩)) (w.alloc (.cells ds e))) :
  GB P w h c s (.cells cs) fun i => .ptr i 0:=by
 intro id hid hf
 have hb:=jJ w (.cells ds e)
 have hn:∀b,some w.heap.size=some b→w.heap.size≤b:=by intro b hb; cases hb; exact Nat.le_refl _
 have x:=nw (h:=h) (c:=c) hb hf (.cells cs) (no:=0) hn
 have Bw:iN (w.alloc (.cells ds e)) (h.set id (.cells cs)) (c.put id (some w.heap.size) 0) id (.cells cs):=by
  refine ⟨w.heap.size,ds,e,bE _ _ _,heap_alloc_new w _,r.mono x⟩
 exact ⟨_,_,_,gN,vd wf hb hid hf hn Bw,x, .ptr (m5 hid (by simp)) ⟨w.heap.size,rfl,fun _=>bE _ _ _⟩⟩

theorem LV (n:Nat):∀(m:Nat) (l:List V) (i:Nat),i<m→(chunks n m l)[i]? = some ((l.drop (i*n)).take n)
 | m+1,l,0,_=>by simp[chunks]
 | m+1,l,i+1,h=>by
  simp only[chunks,List.getElem?_cons_succ]
  rw[LV n m (l.drop n) i (by omega),List.drop_drop]
  congr 3
  rw[Nat.add_mul]; omega

theorem tT (n:Nat):∀(m:Nat) (l:List V),(chunks n m l).length=m
 | 0,_=>rfl
 | m+1,l=>by simp[chunks,tT n m]

theorem tU {T:Ty}:∀ {css:List (List V)} {l:List T.den},oE T css=some l→l.length=css.length
 | [],l,hd=>by simp[oE]at hd; subst hd; rfl
 | c::cs,l,hd=>by
  simp only[oE]at hd
  split at hd
  ·cases hd; rename_i h1 h2; simp[tU h2]
  ·cases hd

theorem LW {T:Ty}:∀ {css:List (List V)} {l:List T.den},oE T css=some l→∀(i:Nat) (x:T.den),l[i]? = some x→∃cs,css[i]? = some cs∧T.dec cs=some x
 | [],l,hd,i,x,hx=>by simp[oE]at hd; subst hd; simp at hx
 | c::cs,l,hd,i,x,hx=>by
  simp only[oE]at hd
  split at hd
  ·cases hd
   rename_i y ys h1 h2
   cases i with
   | zero=>simp at hx; subst hx; exact ⟨c,rfl,h1⟩
   | succ i=>simp at hx; exact LW h2 i x hx
  ·cases hd

theorem Ou {T:Ty} {n:Nat} {cs:List V} {ds:List Value} (r:bl w h c cs ds) {l:List T.den} (hd:oE T (chunks T.sz n cs)=some l) :
  ∀(i j:Nat) (x:T.den) (v:V),l[i]? = some x→(T.cells x)[j]? = some v→cd w h c v (ds.getD (i*T.sz+j) undef):=by
 intro i j x v hx hv
 have hl:=tU hd
 rw[tT]at hl
 have hi:i<l.length:=(List.getElem?_eq_some_iff.1 hx).1
 obtain ⟨cs',h1,h2⟩:=LW hd i x hx
 rw[LV _ _ _ _ (by omega)]at h1
 cases h1
 have rr:=E8 h2 ((r.drop (i*T.sz)).take T.sz)
 have hj:j<(T.cells x).length:=(List.getElem?_eq_some_iff.1 hv).1
 rw[T.dX]at hj
 have hlen:=rr.1
 rw[T.dX]at hlen
 have UL:((ds.drop (i*T.sz)).take T.sz)[j]? = some (((ds.drop (i*T.sz)).take T.sz)[j]'(by omega)):=List.getElem?_eq_getElem _
 have:=rr.2 j v _ hv UL
 have e:ds.getD (i*T.sz+j) undef=((ds.drop (i*T.sz)).take T.sz)[j]'(by omega):=by
  rw[List.getElem?_take,if_pos hj,List.getElem?_drop]at UL
  simp[List.getD,UL]
 rw[e]; exact this

theorem NI (z:Array Value) (m:Nat):(madeCells z (z.size+m)).toList=z.toList++(madeCells z m).toList:=by
 simp only[madeCells,Array.toList_map,Array.toList_range,List.range_add,List.map_append,List.map_map]
 congr 1
 ·apply List.ext_getElem
  ·simp
  ·intro i h1 h2
   simp only[List.length_map,List.length_range]at h1
   simp[Nat.mod_eq_of_lt h1,getElem!_pos z i h1]
 ·apply List.map_congr_left
  intro k _
  simp

theorem QU {zs:List V} {z:Array Value} (r:bl w h c zs z.toList):∀n:Nat,bl w h c (List.replicate n zs).flatten (madeCells z (n*z.size)).toList
 | 0=>by simp[madeCells]; exact .nil
 | n+1=>by
  have e:(n+1)*z.size=z.size+n*z.size:=by rw[Nat.add_mul]; omega
  rw[e,NI z _,List.replicate_succ,List.flatten_cons]
  exact r.append (QU r n)

theorem yy (wf:WF w h c) {id:Nat} (ob:aP) (no x:Nat) (hx:∀f,ob.from_ no=some f→¬f≤x) (hid:id<h.length):Fi (h.set id ob) (c.put id (some w.heap.size) no) w.heap.size x:=by
 refine ⟨?_,fun he=>Nat.lt_irrefl _ (wf.la _ _ he)⟩
 rintro ⟨i,f,h1,h2,h3⟩
 by_cases gX:id=i
 ·subst gX
  rw[fT _ hid,cH]at h2
  exact hx f h2 h3
 ·rw[bm _ gX,tS _ _ (Ne.symm gX)]at h2
  rw[lj _ _ (Ne.symm gX)]at h1
  have hl:(h.at i).live:=by revert h2; cases h.at i <;> simp[aP.from_,aP.live]
  have:=(wf.obj i (ai.dR rfl (rh hl))).lt hl h1
  omega

theorem QV (wf:WF w h c) {T:Ty} {n:Nat} {cs:List V} {ds:Array Value} (r:bl w h c cs ds.toList) {l:List T.den} (hd:oE T (chunks T.sz n cs)=some l) (k8:ds.size=n*T.sz) (hn:n≤mx)
  (e:TypeId) (hte:So T 0 e) {s:Sem Value} (gN:s.run P w = .ok (.slice (some ⟨w.heap.size,0,none⟩) n n) (w.alloc (.cells ds e))) :
  GB P w h c s .tok fun i => .sl T l (.own i):=by
 intro id hid hf
 have hb:=jJ w (.cells ds e)
 have Hj:∀b,some w.heap.size=some b→w.heap.size≤b:=by intro b hb; cases hb; exact Nat.le_refl _
 have x:=nw (h:=h) (c:=c) hb hf .tok (no:=n*T.sz) Hj
 have hl:l.length=n:=by rw[tU hd,tT]
 have tu:=heap_alloc_new w (.cells ds e)
 have Bw:iN (w.alloc (.cells ds e)) (h.set id .tok) (c.put id (some w.heap.size) (n*T.sz)) id .tok:=by
  refine .inr ⟨w.heap.size,ds,e,(0,0),bE _ _ _,tu,by rw[cH]; omega, .inl rfl⟩
 have hel:=Ou (r.mono x) hd
 refine ⟨_,_,_,gN,vd wf hb hid hf Hj Bw,x,?_⟩
 subst hl
 refine .sl (fun i j=>ds.toList.getD (i*T.sz+j) undef) (Nat.le_refl _) hn (fun i j hi hj=>⟨w.heap.size,0,rfl,?_,?_⟩) hel (by simp) (fun i he => ?_)
 ·have dH:i*T.sz+j<ds.size:=by
   have:=Nat.mul_le_mul_right T.sz hi
   rw[Nat.succ_mul]at this; omega
  rw[Nat.zero_add,cell_of_row _ _ _ _ _ _ tu]
  simp[List.getD,dH]
 ·refine yy wf _ _ _ (fun f U6 => ?_) hid
  simp[aP.from_]at U6
  have:=Nat.mul_le_mul_right T.sz hi
  rw[Nat.succ_mul]at this; omega
 ·cases he
  refine ⟨m5 hid (by simp),fun _ => .inr ⟨w.heap.size,0,ds,e,(0,0),bE _ _ _,rfl,by rw[cH,Nat.zero_add],tu,by omega,hte⟩⟩

theorem Hk (wf:WF w h c) {n sz:Nat} {cs:List V} {ds:Array Value} (r:bl w h c cs ds.toList) (k8:cs.length=n*sz) (hn:n≤mx)
  (e:TypeId) {s:Sem Value} (gN:s.run P w = .ok (.slice (some ⟨w.heap.size,0,none⟩) n n) (w.alloc (.cells ds e))) :
  GB P w h c s .dead fun _ => .Ku n cs:=by
 intro id hid hf
 have hb:=jJ w (.cells ds e)
 have Hj:∀b,some w.heap.size=some b→w.heap.size≤b:=by intro b hb; cases hb; exact Nat.le_refl _
 have x:=nw (h:=h) (c:=c) hb hf .dead (no:=0) Hj
 have tu:=heap_alloc_new w (.cells ds e)
 refine ⟨_,_,_,gN,vd wf hb hid hf Hj trivial,x,?_⟩
 have r':=r.mono x
 have hl:=r.1
 refine .Ku k8 hn (fun j=>ds.toList.getD j undef) (fun j hj=>⟨w.heap.size,0,rfl,?_,?_⟩) (fun j v hv => ?_)
 ·rw[Nat.zero_add,cell_of_row _ _ _ _ _ _ tu]
  have dH:j<ds.size:=by simp at hl; omega
  simp[List.getD,dH]
 ·exact yy wf _ _ _ (fun f U6=>by simp[aP.from_]at U6) hid
 ·have hj:j<cs.length:=(List.getElem?_eq_some_iff.1 hv).1
  have dH:j<ds.toList.length:=by omega
  refine r'.2 j v _ hv ?_
  simp only[List.getD,List.getElem?_eq_getElem dH,Option.getD_some]

end

section
variable {P:Program} {tt:ca} {w:World} {h:ai} {c:eT} {R:Type}

theorem qz {w:World} {b:Nat} {arr:Array Value} {e:TypeId} (hb:w.heap[b]? = some (.cells arr e (0,0))) (x:Nat):w.frozen? ⟨b,x,none⟩=false:=by
 simp[World.frozen?,hb]

theorem SJ (wf:WF w h c) {T:Ty} {l:List T.den} {ds:Array Value} {w':World} (hb:Below w.heap.size w w') {e:TypeId} {fz:Nat×Nat} (tu:w'.heap[w.heap.size]? = some (.cells ds e fz))
  (TX:∀x,(x<ds.size∨T.DK=true)→w'.frozen? ⟨w.heap.size,x,none⟩=false) {cap:Nat} (eQ:l.length≤cap) (lD:cap≤mx) (k8:cap*T.sz≤ds.size)
  (hr:∀(n j:Nat) (x:T.den) (v:V),l[n]? = some x→(T.cells x)[j]? = some v→∃d,ds[n*T.sz+j]? = some d∧cd w h c v d)
  {s:Sem Value} (gN:s.run P w = .ok (.slice (some ⟨w.heap.size,0,none⟩) l.length cap) w') :
  GB P w h c s (.row T l) fun i => .row i l.length:=by
 intro id hid hf
 have Hj:∀b,some w.heap.size=some b→w.heap.size≤b:=by intro b hb; cases hb; exact Nat.le_refl _
 have x:=nw (h:=h) (c:=c) hb hf (.row T l) (no:=0) Hj
 have hm:l.length*T.sz≤cap*T.sz:=Nat.mul_le_mul_right _ eQ
 have Bw:iN w' (h.set id (.row T l)) (c.put id (some w.heap.size) 0) id (.row T l):=by
  refine .inr ⟨w.heap.size,ds,e,fz,bE _ _ _,tu,by rw[cH]; omega,TX,fun n j y v hy hv => ?_⟩
  obtain ⟨d,h1,h2⟩:=hr n j y v hy hv
  exact ⟨d,by rw[cH,Nat.zero_add]; exact h1,h2.mono x⟩
 refine ⟨_,_,_,gN,vd wf hb hid hf Hj Bw,x,?_⟩
 refine .row (m5 hid (by simp)) (by omega) ⟨_,_,rfl,⟨eQ,lD,fun _=>⟨_,rfl⟩⟩,fun T' l' he => ?_⟩
 rw[fT _ hid]at he
 cases he
 exact ⟨rfl,eQ,lD, .inr ⟨w.heap.size,ds,e,fz,bE _ _ _,by rw[cH],tu,by rw[cH]; omega⟩⟩

theorem IX (wf:WF w h c) {T:Ty} {l:List T.den} {ds:Array Value} {w':World} (hb:Below w.heap.size w w') {e:TypeId} {fz:Nat×Nat} (tu:w'.heap[w.heap.size]? = some (.cells ds e fz))
  (TX:∀x,(x<ds.size∨T.DK=true)→w'.frozen? ⟨w.heap.size,x,none⟩=false) {cap:Nat} (eQ:l.length≤cap) (lD:cap≤mx) (k8:cap*T.sz≤ds.size)
  (hr:∀(n j:Nat) (x:T.den) (v:V),l[n]? = some x→(T.cells x)[j]? = some v→∃d,ds[n*T.sz+j]? = some d∧∀(w:World) (h:ai) (c:eT),cd w h c v d)
  {s:Sem Value} (gN:s.run P w = .ok (.slice (some ⟨w.heap.size,0,none⟩) l.length cap) w') :
  GB P w h c s (.row T l) fun i => .row i l.length:=by
 intro id hid hf
 have Hj:∀b,some w.heap.size=some b→w.heap.size≤b:=by intro b hb; cases hb; exact Nat.le_refl _
 have x:=nw (h:=h) (c:=c) hb hf (.row T l) (no:=0) Hj
 have hm:l.length*T.sz≤cap*T.sz:=Nat.mul_le_mul_right _ eQ
 have Bw:iN w' (h.set id (.row T l)) (c.put id (some w.heap.size) 0) id (.row T l):=by
  refine .inr ⟨w.heap.size,ds,e,fz,bE _ _ _,tu,by rw[cH]; omega,TX,fun n j y v hy hv => ?_⟩
  obtain ⟨d,h1,h2⟩:=hr n j y v hy hv
  exact ⟨d,by rw[cH,Nat.zero_add]; exact h1,h2 _ _ _⟩
 refine ⟨_,_,_,gN,vd wf hb hid hf Hj Bw,x,?_⟩
 refine .row (m5 hid (by simp)) (by omega) ⟨_,_,rfl,⟨eQ,lD,fun _=>⟨_,rfl⟩⟩,fun T' l' he => ?_⟩
 rw[fT _ hid]at he
 cases he
 exact ⟨rfl,eQ,lD, .inr ⟨w.heap.size,ds,e,fz,bE _ _ _,by rw[cH],tu,by rw[cH]; omega⟩⟩

theorem IY (T:tq P tt) (wf:WF w h c) {t len:Nat} {parts:Array (Nat×Operand)} {ρ:Operand→V} {ρ':Operand→Value} (hρ:∀x,cd w h c (ρ x) (ρ' x)) {k:aP→(Nat→V)→Option R} {r:R}
  (hk:We tt (.buildSlice t len parts) ρ k=some r):∃ob mk,k ob mk=some r∧ob ≠ .free∧GB P w h c (Instr.buildSlice t len (parts.map fun (i,x)=>(i,ρ' x))) ob mk:=by
 simp only[We]at hk
 split at hk
 ·rename_i e hd
  split at hk
  ·cases hk
  ·rename_i La
   simp only[Bool.or_eq_true,Bool.not_eq_true',decide_eq_true_eq,not_or,Bool.not_eq_false,Nat.not_lt]at La
   obtain ⟨⟨k8,hsm⟩,lh⟩:=La
   have hu:=cG T hd
   simp only[TD.Is]at hu
   have hse:=T.sizeOf (w:=w) lh
   obtain ⟨z,hz,Zc,LO⟩:=T.zero (w:=w) lh
   have Gz:=Ot hρ parts.toList
   have hmade:=QU (w:=w) (h:=h) (c:=c) (LO w h c) len
   rw[Zc]at hmade
   have key:∀cs,FH ((List.replicate len (tt.at e).zero).flatten) (parts.toList.map fun (i,x)=>(i*(tt.at e).size,(tt.at e).size,ρ x))=some cs →
     ∃ds:Array Value,bl w h c cs ds.toList∧ds.size=len*(tt.at e).size ∧
      (Instr.buildSlice t len (parts.map fun (i,x)=>(i,ρ' x))).run P w = .ok (.slice (some ⟨w.heap.size,0,none⟩) len len) (w.alloc (.cells ds e)):=by
    intro cs hf
    obtain ⟨IV,h1,h2,h3⟩:=Bs (w:=w) (h:=h) (c:=c) (fun i=>some (i*(tt.at e).size,(tt.at e).size)) (parts.toList.map fun p=>(p.1,ρ p.2)) (parts.toList.map fun p=>(p.1,ρ' p.2))
     ((List.replicate len (tt.at e).zero).flatten) (madeCells z.cells (len*(tt.at e).size)) cs Gz.1 Gz.2 hmade (by
      rw[←hf,List.map_map]
      congr 1) (by rw[size_madeCells]; omega)
    rw[size_madeCells]at h3
    refine ⟨IV,h2,h3,?_⟩
    have hlim:¬(len*(tt.at e).size>2 ^ 24):=by omega
    simp only[Instr.buildSlice,Sem.run_bind,run_underlying hu,Result.andThen_ok,hse,if_neg hlim]
    by_cases Su:len*(tt.at e).size=0
    ·simp only[Su,if_true,Array.toList_map]
     have e0:madeCells z.cells (len*(tt.at e).size) = #[]:=by rw[Su]; simp[madeCells]
     rw[e0]at h1
     simp only[Array.range_zero',Array.map_empty]
     rw[h1]
     simp[newRow]
    ·simp only[if_neg Su,Sem.run_bind,hz,Result.andThen_ok,Sem.run_pure,Array.toList_map]
     have e1:(Array.range (len*(tt.at e).size)).map (z.cells[· % z.cells.size]!)=madeCells z.cells (len*(tt.at e).size):=rfl
     rw[e1,h1]
     simp[newRow]
   split at hk
   ·rename_i cs T' hf hty
    split at hk
    ·rename_i hT
     obtain ⟨ds,g1,g2,g3⟩:=key cs hf
     split at hk
     ·rename_i uV
      simp only[Bool.and_eq_true,decide_eq_true_eq]at uV
      obtain ⟨_,rfl⟩:=uV
      have WN:ds.size=0:=by omega
      have tu:=heap_alloc_new w (.cells ds e)
      exact ⟨_,_,hk,by simp,IX (T:=T') (l := []) (cap:=0) wf (jJ w _) tu (fun x _=>qz tu x) (Nat.le_refl _) (by unfold mx; omega) (by omega) (fun n j x v hx=>by simp at hx) g3⟩
     split at hk
     ·split at hk <;> try (first|cases hk)
      rename_i l hl
      rw[←hT]at hl g2
      have hlen:l.length=len:=by rw[tU hl,tT]
      have tu:=heap_alloc_new w (.cells ds e)
      have lD:len≤mx:=by unfold mx; have:len≤len*(tt.at e).size:=Nat.le_mul_of_pos_right _ (by omega); omega
      have hel:=Ou g1 hl
      exact ⟨_,_,hk,by simp,SJ (T:=T') (l:=l) (cap:=l.length) wf (jJ w _) tu (fun x _=>qz tu x) (Nat.le_refl _) (by omega) (by rw[hlen]; omega) (fun n j x v hx hv=>by
       have hn:n<l.length:=(List.getElem?_eq_some_iff.1 hx).1
       have hj:j<T'.sz:=by rw[←T'.dX x]; exact (List.getElem?_eq_some_iff.1 hv).1
       have dH:n*T'.sz+j<ds.size:=by
        have:=Nat.mul_le_mul_right T'.sz (show n+1≤len by omega)
        rw[Nat.succ_mul]at this; omega
       have:=hel n j x v hx hv
       refine ⟨_,?_,this⟩
       simp[List.getD,dH]) (by rw[hlen]; exact g3)⟩
     split at hk
     ·rename_i l hl
      rw[←hT]at hl g2
      exact ⟨_,_,hk,by simp,QV wf g1 hl g2 (by unfold mx; have:len≤len*(tt.at e).size:=Nat.le_mul_of_pos_right _ (by omega); omega) e (fun hT'=>⟨rfl,T.u8s e (by rw[hty,hT'])⟩) g3⟩
     ·exact ⟨_,_,hk,by simp,Hk wf (sz:=(tt.at e).size) g1 (by have:=g1.1; simp at this; omega) (by unfold mx; have:len≤len*(tt.at e).size:=Nat.le_mul_of_pos_right _ (by omega); omega) e g3⟩
    ·cases hk
   ·rename_i cs hf hty
    obtain ⟨ds,g1,g2,g3⟩:=key cs hf
    exact ⟨_,_,hk,by simp,Hk wf (sz:=(tt.at e).size) g1 (by have:=g1.1; simp at this; omega) (by unfold mx; have:len≤len*(tt.at e).size:=Nat.le_mul_of_pos_right _ (by omega); omega) e g3⟩
   ·cases hk
 ·cases hk

theorem tV {o:Oper} {ρ':Operand→Value} {s:Sem Value} {ob:aP} {mk:Nat→V} (he:execOp ρ' o=(do pure (.value (←s)))) (ha:GB P w h c s ob mk) :
  ∀id,id<h.length→h.at id = .free→∃v' w' c',(execOp ρ' o).run P w = .ok (.value v') w'∧WF w' (h.set id ob) c'∧Ext w h c w' (h.set id ob) c'∧cd w' (h.set id ob) c' (mk id) v':=by
 intro id hid hf
 obtain ⟨v',w',c',h1,h2⟩:=ha id hid hf
 exact ⟨v',w',c',by rw[he]; simp[h1],h2⟩

theorem IZ (T:tq P tt) {t e:Nat} (hd:(tt.at t).d = .slice e) (lh:tt.ok e=true) {i j:IntKind} {a:Int} (h0:0≤a) (hb:a*(tt.at e).bytes≤140737488355328) (lD:a≤9223372036854775807) :
  ∃z:Value,z.cells.size=(tt.at e).size∧(∀(w:World) (h:ai) (c:eT),bl w h c (tt.at e).zero z.cells.toList) ∧
   (Instr.makeSlice t (.int i a) (.int j a)).run P w = .ok (.slice (some ⟨w.heap.size,0,none⟩) a.toNat a.toNat) (w.alloc (.cells (madeCells z.cells (a.toNat*(tt.at e).size)) e)):=by
 have hu:=cG T hd
 simp only[TD.Is]at hu
 obtain ⟨inf,z,hi,hs,hby,hz,Zc,hr⟩:=T.info e lh
 have gN:=run_make (P:=P) w t e inf z hu hi hz i j a a h0 (Int.le_refl _) (by rw[hby,Int.mul_comm]; omega) lD
 rw[hs]at gN
 exact ⟨z,by omega,hr,gN⟩

theorem U7 {z:Array Value} (n:Nat) {i j:Nat} (hi:i<n) (hj:j<z.size):(madeCells z (n*z.size))[i*z.size+j]? = some (z[j]):=by
 have dH:i*z.size+j<n*z.size:=by
  have:=Nat.mul_le_mul_right z.size hi
  rw[Nat.succ_mul]at this; omega
 simp only[madeCells,Array.getElem?_map]
 rw[Array.getElem?_eq_getElem (by simpa using dH)]
 simp only[Array.getElem_range,Option.map_some]
 congr 1
 rw[Nat.mul_comm,Nat.mul_add_mod,Nat.mod_eq_of_lt hj,getElem!_pos z j hj]

theorem Hl (e:TypeId) (s:ByteArray):∃(cap:Nat) (w':World),(Conv.stringToBytes e s).run P w = .ok (.slice (some ⟨w.heap.size,0,none⟩) s.size cap) w'∧Below w.heap.size w w'∧s.size≤cap∧(s.size≤mx→cap≤mx) ∧
  ∃ds:Array Value,w'.heap[w.heap.size]? = some (.cells ds e (ds.size,ds.size+1))∧ds.size=cap∧∀(i:Nat) (b:UInt8),s.data.toList[i]? = some b→ds[i]? = some (.int .u8 b.toNat):=by
 let cap:=(Question.appendCap s.size 0 e).cut (w.tape w.drawn (.appendCap s.size 0 e))
 have eQ:s.size≤cap:=by simp only[cap,Question.cut]; omega
 let ds:Array Value:=(s.data.map fun b=>Value.int .u8 b.toNat)++Array.replicate (cap - s.size) (.int .u8 0)
 have WN:ds.size=cap:=by
  simp only[ds,Array.size_append,Array.size_map,Array.size_replicate]
  have:s.data.size=s.size:=rfl
  omega
 refine ⟨cap,(w.drew.alloc (.cells ds e)).freeze ⟨w.heap.size,ds.size,none⟩ 1,?_,?_,eQ,fun hs => ?_,ds,?_,WN,fun i b hb => ?_⟩
 ·have hf:(Question.appendCap s.size 0 e).forced=false:=rfl
  simp only[Conv.stringToBytes,Sem.run_bind,run_choose,hf]
  simp only[Bool.false_eq_true,if_false,Result.andThen_ok,newRow,Sem.run_bind,run_newObj,Sem.run_pure]
  have hsh:(w.drew.alloc (.cells ds e)).shape? w.heap.size=some (e,ds.size):=by
   have:=heap_alloc_new w.drew (.cells ds e)
   simp only[World.shape?]
   rw[show (w.drew.alloc (.cells ds e)).heap[w.heap.size]? = some (.cells ds e)from this]
  show ((markStringish ⟨w.heap.size,0,none⟩).run P (w.drew.alloc (.cells ds e))).andThen _=_
  simp only[markStringish,Sem.run_bind,run_shape,hsh,Result.andThen_ok,run_freeze]
  rfl
 ·refine ⟨rfl,rfl,rfl,?_,fun k hk => ?_⟩
  ·have:((w.drew.alloc (.cells ds e)).freeze ⟨w.heap.size,ds.size,none⟩ 1).heap.size=w.heap.size+1:=by simp[World.freeze]
   omega
  ·simp only[World.freeze]
   rw[if_neg (by decide)]
   simp only[Array.getElem?_modify]
   rw[if_neg (by show ¬w.heap.size=k; omega)]
   exact Below.heap_alloc w.drew _ k hk
 ·have dH:w.tape w.drawn (Question.appendCap s.size 0 e) % (2 ^ 63 - s.size)<2 ^ 63 - s.size:=Nat.mod_lt _ (by unfold mx at hs; omega)
  simp only[cap,Question.cut]
  unfold mx at hs ⊢
  omega
 ·simp only[World.freeze]
  rw[if_neg (by decide)]
  simp only[Array.getElem?_modify]
  have:=heap_alloc_new w.drew (.cells ds e)
  rw[show (w.drew.alloc (.cells ds e)).heap[w.heap.size]? = some (.cells ds e)from this]
  simp
 ·have dH:i<s.data.size:=by
   have:=(List.getElem?_eq_some_iff.1 hb).1
   simpa using this
  simp only[ds]
  rw[Array.getElem?_append_left (by simpa using dH)]
  simp only[Array.getElem?_map]
  have:s.data[i]? = some b:=by simpa using hb
  rw[this]; rfl

theorem U8 (T:tq P tt) (wf:WF w h c) {o:Oper} {ρ:Operand→V} {ρ':Operand→Value} (hρ:∀x,cd w h c (ρ x) (ρ' x)) {k:aP→(Nat→V)→Option R} {r:R}
  (hk:We tt o.op ρ k=some r):∃ob mk,k ob mk=some r∧ob ≠ .free∧∀id,id<h.length→h.at id = .free →
   ∃v' w' c',(execOp ρ' o).run P w = .ok (.value v') w'∧WF w' (h.set id ob) c'∧Ext w h c w' (h.set id ob) c'∧cd w' (h.set id ob) c' (mk id) v':=by
 obtain ⟨dst,op,type,pos,after,guard⟩:=o
 cases op <;> (try simp only[We]at hk) <;> try (first|cases hk)
 case alloc t =>
  split at hk
  ·rename_i hb
   obtain ⟨rfl,hz0,lh⟩:=T.blds t hb
   obtain ⟨z,hz,Zc,LO⟩:=T.zero (w:=w) lh
   refine ⟨_,_,hk,by simp,tV (s:=Instr.alloc mZ.qV true (.tuple #[])) rfl ?_⟩
   have LO:=LO w h c
   rw[hz0]at LO
   have tW:z.cells = #[.pointer none, .slice none 0 0]:=by
    generalize z.cells=q at LO
    obtain ⟨l⟩:=q
    match l,LO with
    | [p,d],LO =>
     have r0:=LO.head
     have r1:=LO.tail.head
     cases r0; cases r1; rfl
    | [],LO=>have:=LO.1; simp at this
    | [_],LO=>have:=LO.1; simp at this
    | _::_::_::_,LO=>have:=LO.1; simp at this
   intro id hid hf
   have hbel:=jJ w (.cells #[.pointer none, .slice none 0 0] mZ.qV)
   have hn:∀b,some w.heap.size=some b→w.heap.size≤b:=by intro b hb; cases hb; exact Nat.le_refl _
   have x:=nw (h:=h) (c:=c) hbel hf (.qV .aI) (no:=0) hn
   have Bw:iN (w.alloc (.cells #[.pointer none, .slice none 0 0] mZ.qV)) (h.set id (.qV .aI)) (c.put id (some w.heap.size) 0) id (.qV .aI) :=
    ⟨w.heap.size,_,_,bE _ _ _,heap_alloc_new w _, .inl rfl, .aI⟩
   exact ⟨_,_,_,by simp[Instr.alloc,hz,newVar,newRow,tW],vd wf hbel hid hf hn Bw,x, .ptr (m5 hid (by simp)) ⟨w.heap.size,rfl,fun _=>bE _ _ _⟩⟩
  split at hk
  ·rename_i lh
   obtain ⟨z,hz,Zc,LO⟩:=T.zero (w:=w) lh
   exact ⟨_,_,hk,by simp,tV (s:=Instr.alloc t true (.tuple #[])) rfl (JT wf (LO w h c) t (by simp[Instr.alloc,hz,newVar,newRow]))⟩
  ·cases hk
 case box t x =>
  split at hk
  ·rename_i cs tW
   split at hk
   ·obtain ⟨rv,_,_⟩:=DN (hρ x) tW
    exact ⟨_,_,hk,by simp,tV (s:=Instr.box t (ρ' x)) rfl (JT wf rv t (by simp[Instr.box,newVar,newRow]))⟩
   ·cases hk
  ·cases hk
 case buildSlice t len parts =>
  obtain ⟨ob,mk,h1,h0,h2⟩:=IY T wf hρ hk
  exact ⟨ob,mk,h1,h0,tV rfl h2⟩
 case makeSlice t n cc =>
  split at hk
  ·rename_i e i a j b hd hn hc
   split at hk
   ·rename_i T' hty
    split at hk
    ·rename_i z hz
     split at hk
     ·rename_i ko
      simp only[Bool.and_eq_true,decide_eq_true_eq]at ko
      obtain ⟨k8,lh⟩:=ko
      obtain ⟨hb,FK⟩:=aV hk
      clear hk
      simp only[Bool.and_eq_true,decide_eq_true_eq]at hb
      obtain ⟨⟨⟨h0,rfl⟩,hby⟩,lD⟩:=hb
      have rn:=hρ n
      have rc:=hρ cc
      rw[hn]at rn; rw[hc]at rc
      obtain ⟨en,hn1,hn2⟩:=rn.gd
      obtain ⟨ec,hc1,hc2⟩:=rc.gd
      obtain ⟨zv,g1,g2,g3⟩:=IZ (w:=w) (i:=i) (j:=j) T hd lh h0 hby (by omega)
      have tu:=heap_alloc_new w (.cells (madeCells zv.cells (a.toNat*(tt.at e).size)) e)
      have hs:(Instr.makeSlice t (ρ' n) (ρ' cc)).run P w = .ok (.slice (some ⟨w.heap.size,0,none⟩) (List.replicate a.toNat z).length a.toNat) (w.alloc (.cells (madeCells zv.cells (a.toNat*(tt.at e).size)) e)):=by
       rw[en,ec,g3]; simp
      have:=IX (T:=T') (l:=List.replicate a.toNat z) wf (jJ w _) tu (fun x _=>qz tu x) (by simp) (by unfold mx; omega) (by rw[size_madeCells,k8]; exact Nat.le_refl _) (fun n' j' x v hx hv=>by
       simp only[List.getElem?_replicate]at hx
       split at hx
       ·rename_i dH
        cases hx
        have hj:j'<T'.sz:=by rw[←T'.dX z]; exact (List.getElem?_eq_some_iff.1 hv).1
        have Oq:j'<zv.cells.size:=by omega
        have hm:=U7 (z:=zv.cells) a.toNat dH Oq
        rw[g1]at hm
        rw[k8]
        refine ⟨_,hm,fun w h c => ?_⟩
        exact (E8 hz (g2 w h c)).2 j' v _ hv (by simp[Oq])
       ·cases hx) hs
      have e2:(List.replicate a.toNat z).length=a.toNat:=List.length_replicate
      rw[e2]at this
      exact ⟨_,_,FK,by simp,tV (o:=⟨dst, .makeSlice t n cc,type,pos,after,guard⟩) rfl this⟩
     ·cases hk
    ·cases hk
   ·cases hk
  ·cases hk
 case convert s d x =>
  split at hk
  ·rename_i e t hs hd hx
   split at hk
   ·rename_i he
    have rx:=hρ x
    rw[hx]at rx
    obtain ⟨bs,hv,rfl,hl⟩:=rx.mG
    have us:=cG T hs
    have ud:=cG T hd
    have ue:=cG T he
    simp only[TD.Is]at us ud ue
    obtain ⟨cap,w',g1,g2,g3,g4,ds,g5,g6,g7⟩:=Hl (P:=P) (w:=w) e bs
    obtain ⟨l,Wj⟩:∃l:List Int,l=bs.data.toList.map fun b=>(b.toNat:Int):=⟨_,rfl⟩
    have hlen:l.length=bs.size:=by rw[Wj,List.length_map,size_data]
    have DQ:∀(n:Nat) (z:Int),l[n]? = some z→∃b:UInt8,bs.data.toList[n]? = some b∧z=b.toNat:=fun n z hz=>by
     rw[Wj,List.getElem?_map]at hz
     cases hb:bs.data.toList[n]? with
     | none=>rw[hb]at hz; cases hz
     | some b=>rw[hb]at hz; simp at hz; exact ⟨b,rfl,hz.symm⟩
    have gN:(convert s d (ρ' x)).run P w = .ok (.slice (some ⟨w.heap.size,0,none⟩) l.length cap) w':=by
     rw[hv,hlen]
     simp only[convert,Sem.run_bind,run_underlying us,run_underlying ud,run_underlying ue,Result.andThen_ok,g1]
    have:=IX (T := .int .u8) (l:=l) wf g2 g5 (fun y hy=>by
      have hy:y<_:=hy.resolve_right (by simp[Ty.DK])
      simp only[World.frozen?,g5]
      simp; omega) (cap:=cap) (by show l.length≤cap; omega) (g4 hl) (by simp[Ty.sz]; omega) (fun n j y v hy hv=>by
      obtain ⟨b,h1,rfl⟩:=DQ n y hy
      have hj:j<1:=by
       have:=(List.getElem?_eq_some_iff.1 hv).1
       simpa [Ty.cells]using this
      obtain rfl:j=0:=by omega
      simp[Ty.cells]at hv
      subst hv
      exact ⟨_,by simpa [Ty.sz]using g7 n b h1,fun w h c => .int (LL _ (UInt8.toNat_lt b))⟩) gN
    have e2:List.length (α:=Int) l=bs.data.toList.length:=by rw[hlen,size_data]
    refine ⟨.row (.int .u8) l,fun i => .row i (List.length (α:=Int) l),?_,by simp,tV (o:=⟨dst, .convert s d x,type,pos,after,guard⟩) rfl this⟩
    rw[e2,Wj]; exact hk
   ·cases hk
  ·cases hk
 case makeMap t rsv =>
  split at hk <;> try (first|cases hk)
  rename_i hrs
  split at hk <;> try (first|cases hk)
  rename_i kt vt hd
  split at hk <;> try (first|cases hk)
  rename_i K V' hK hV
  split at hk <;> try (first|cases hk)
  rename_i hf
  simp only[Bool.and_eq_true]at hf
  have hu:=cG T hd
  simp only[TD.Is]at hu
  refine ⟨_,_,hk,by simp,fun id hid hfr => ?_⟩
  have hb:=jJ w (.map #[] 0)
  have Hj:∀b,some w.heap.size=some b→w.heap.size≤b:=by intro b hb; cases hb; exact Nat.le_refl _
  have x':=nw (h:=h) (c:=c) hb hfr (.qW K V' []) (no:=0) Hj
  have Bw:iN (w.alloc (.map #[] 0)) (h.set id (.qW K V' [])) (c.put id (some w.heap.size) 0) id (.qW K V' []) :=
   ⟨w.heap.size, #[],0,bE _ _ _,heap_alloc_new w _,(LQ hf.1).2,LR hf.2,rfl,fun j q e hq=>by simp at hq⟩
  refine ⟨.map (some w.heap.size),_,_,?_,vd wf hb hid hfr Hj Bw,x', .map (m5 hid (by simp)) ⟨w.heap.size,rfl,fun _=>bE _ _ _⟩⟩
  cases rsv with
  | none=>simp[execOp,Instr.makeMap]
  | some x =>
   have rx:=hρ x
   unfold zS at hrs
   simp only at hrs
   split at hrs
   ·rename_i i n hx
    rw[hx]at rx
    simp[execOp,Instr.makeMap,run_underlying hu,rx.gd.1,asInt,asIntOf]
   ·cases hrs
 case range t x =>
  split at hk
  ·rename_i s hd hx
   have rx:=hρ x
   rw[hx]at rx
   obtain ⟨bs,hv,rfl,hl⟩:=rx.mG
   have hu:=cG T hd
   simp only[TD.Is]at hu
   refine ⟨_,_,hk,by simp,fun id hid hf => ?_⟩
   have hb:=jJ w (.stringIter bs 0)
   have Hj:∀b,some w.heap.size=some b→w.heap.size≤b:=by intro b hb; cases hb; exact Nat.le_refl _
   have x':=nw (h:=h) (c:=c) hb hf (.iter bs.data.toList 0) (no:=0) Hj
   have Bw:iN (w.alloc (.stringIter bs 0)) (h.set id (.iter bs.data.toList 0)) (c.put id (some w.heap.size) 0) id (.iter bs.data.toList 0) :=
    ⟨w.heap.size,bs,bE _ _ _,heap_alloc_new w _,rfl,hl⟩
   refine ⟨.pointer (some ⟨w.heap.size,0,none⟩),_,_,?_,vd wf hb hid hf Hj Bw,x', .ptr (m5 hid (by simp)) ⟨w.heap.size,rfl,fun _=>bE _ _ _⟩⟩
   simp[execOp,hv,Instr.range,run_underlying hu]
  ·cases hk
end

section
variable {P:Program} {tt:ca} {w w':World} {h:ai} {c:eT} {R:Type}

structure Ov (w w':World) (b:Nat) (cur:Array Value) (e:TypeId) (fz:Nat×Nat):Prop where
 os:w'.os=w.os
 tape:w'.tape=w.tape
 output:w'.output=w.output
 size:w'.heap.size=w.heap.size
 other:∀k,k≠b→w'.heap[k]? = w.heap[k]?
 here:w'.heap[b]? = some (.cells cur e fz)

theorem zY {w:World} {b:Nat} {arr:Array Value} {e:TypeId} {lo hi:Nat} (hb:w.heap[b]? = some (.cells arr e (lo,hi))) (x:Nat):w.frozen? ⟨b,x,none⟩=(decide (lo≤x)&&decide (x<hi)):=by
 simp[World.frozen?,hb]

theorem SK {w:World} {b:Nat} {arr:Array Value} {e:TypeId} {fz:Nat×Nat} (hb:w.heap[b]? = some (.cells arr e fz)) {o x:Nat} (hf:fz.1=fz.2∨fz.2≤o) (hx:o≤x):w.frozen? ⟨b,x,none⟩=false:=by
 obtain ⟨lo,hi⟩:=fz
 rw[zY hb]
 simp only at hf
 rcases hf with rfl|hf
 ·by_cases h:lo≤x
  ·simp[h]
  ·simp[h]
 ·have:¬x<hi:=by omega
  simp[this]

theorem iO (b o:Nat) (e:TypeId) (fz:Nat×Nat):∀(vs:List Value) (i:Nat) (cur:Array Value) (w:World),w.heap[b]? = some (.cells cur e fz)→o+i+vs.length≤cur.size →
  (∀x,o+i≤x→x<o+i+vs.length→w.frozen? ⟨b,x,none⟩=false)→Sq vs →
  ∃(w':World) (iv:Array Value),(storeCells ⟨b,o,none⟩ vs i).run P w = .ok () w'∧Ov w w' b iv e fz∧iv.toList=cur.toList.take (o+i)++vs++cur.toList.drop (o+i+vs.length)
 | [],i,cur,w,hb,_,_,_=>⟨w,cur,by simp[storeCells],⟨rfl,rfl,rfl,rfl,fun _ _=>rfl,hb⟩,by simp⟩
 | v::vs,i,cur,w,hb,hs,hf,h1=>by
  simp only[List.length_cons]at hs hf
  have hv:v.oneCell'=true:=h1 v (by simp)
  have dH:o+i<cur.size:=by omega
  have DP:w.cell? ⟨b,o+i,none⟩=some cur[o+i]:=by rw[cell_of_row w b _ cur e fz hb]; exact Array.getElem?_eq_getElem dH
  have TX:=hf (o+i) (Nat.le_refl _) (by omega)
  have hstore:(store ((⟨b,o,none⟩:Addr).add i) v).run P w = .ok () (w.setCell ⟨b,o+i,none⟩ v):=by
   rw[kk,run_store P w _ v _ hv,DP]
   simp[TX]
  have k9:(w.setCell ⟨b,o+i,none⟩ v).heap[b]? = some (.cells (cur.setIfInBounds (o+i) v) e fz):=by
   simp[World.setCell,Array.getElem?_modify,hb]
  obtain ⟨w',iv,g1,g2,g3⟩:=iO b o e fz vs (i+1) (cur.setIfInBounds (o+i) v) (w.setCell ⟨b,o+i,none⟩ v) k9 (by simp; omega)
   (fun x hx1 hx2=>by rw[World.frozen?_setCell]; exact hf x (by omega) (by omega)) (fun d hd=>h1 d (by simp[hd]))
  refine ⟨w',iv,?_,⟨g2.os,g2.tape,g2.output,by rw[g2.size]; simp,fun k hk => ?_,g2.here⟩,?_⟩
  ·simp only[storeCells,Sem.run_bind,hstore,Result.andThen_ok,g1]
  ·rw[g2.other k hk]; exact heap_setCell_other w _ k v hk
  ·rw[g3]
   have:=WI [v] 0 (o+i) cur (by simp; omega)
   simp only[List.zipIdx_cons,List.zipIdx_nil,List.foldl_cons,List.foldl_nil,Nat.add_zero,List.length_singleton]at this
   rw[this]
   have e1:o+(i+1)=o+i+1:=by omega
   have l1:(cur.toList.take (o+i) ++ [v]).length=o+i+1:=by simp; omega
   rw[e1,List.take_append_of_le_length (by omega),List.take_of_length_le (by omega)]
   have e2:o+i+1+vs.length=(cur.toList.take (o+i) ++ [v]).length+vs.length:=by omega
   rw[e2,List.drop_append]
   have e3:(cur.toList.take (o+i) ++ [v]).length+vs.length - (cur.toList.take (o+i) ++ [v]).length=vs.length:=by omega
   rw[e3,List.drop_eq_nil_of_le (by omega),List.nil_append,List.drop_drop]
   simp only[List.append_assoc,List.length_cons,List.cons_append]
   rw[List.nil_append,show o+i+1+vs.length=o+i+(vs.length+1)from by omega]

theorem Lb {i b:Nat} {o':aP} {cur iv:Array Value} {e:TypeId} {fz:Nat×Nat} (hb:c.mX i=some b) (Hm:w.heap[b]? = some (.cells cur e fz)) (hw:Ov w w' b iv e fz) (k8:iv.size=cur.size)
  (o7:(h.at i).from_ (c.off i)=some 0) (LX:o'.from_ (c.off i)=some 0) (qT:(h.at i).dV o'):Ext w h c w' (h.set i o') c:=by
 have hi:i<h.length:=ai.dR rfl (aP.zV qT).1
 have fA:∀x,oF h c b x:=fun x=>⟨i,0,hb,o7,Nat.zero_le _⟩
 constructor
 ·exact hw.os
 ·exact hw.tape
 ·exact hw.output
 ·rw[hw.size]; exact Nat.le_refl _
 ·intro j hj
  by_cases tR:i=j
  ·subst tR
   refine ⟨by simpa using hj.1,?_⟩
   rw[fT _ hi]
   intro he; subst he; simp[aP.from_]at LX
  ·exact ⟨by simpa using hj.1,by rw[bm _ tR]; exact hj.2⟩
 ·intro j hj hd
  refine ⟨?_,rfl,rfl⟩
  by_cases tR:i=j
  ·subst tR; rw[fT _ hi]; exact qT
  ·rw[bm _ tR]at hd ⊢
   have h2:=hj.2
   revert hd h2
   cases h.at j <;> simp[aP.dV]
 ·intro b' x hx ho
  have gX:b'≠b:=by rintro rfl; exact ho (fA x)
  exact qy (hw.other b' gX)
 ·intro b' hx ho
  have gX:b'≠b:=by rintro rfl; exact ho 0 (fA 0)
  exact hw.other b' gX
 ·rintro b' x hx ⟨j,f,g1,g2,g3⟩
  by_cases tR:i=j
  ·subst tR
   rw[hb]at g1; cases g1
   exact fA x
  ·rw[bm _ tR]at g2
   exact ⟨j,f,g1,g2,g3⟩
 ·rfl
 ·intro b' arr el NG ha
  by_cases gX:b'=b
  ·subst gX
   rw[Hm]at ha; cases ha
   exact ⟨iv,fz,hw.here,k8⟩
  ·exact ⟨arr,NG,by rw[hw.other b' gX]; exact ha,rfl⟩

theorem lR {o:aP} {f g:Nat} (hf:o.from_ f=some g):o.live:=by revert hf; cases o <;> simp[aP.from_,aP.live]

theorem SL (wf:WF w h c) {i b:Nat} {o':aP} {cur iv:Array Value} {e:TypeId} {fz:Nat×Nat} (hb:c.mX i=some b) (Hm:w.heap[b]? = some (.cells cur e fz)) (hw:Ov w w' b iv e fz) (k8:iv.size=cur.size)
  (o7:(h.at i).from_ (c.off i)=some 0) (LX:o'.from_ (c.off i)=some 0) (qT:(h.at i).dV o') (Bw:iN w' (h.set i o') c i o'):WF w' (h.set i o') c:=by
 have hi:i<h.length:=ai.dR rfl (aP.zV qT).1
 have x:=Lb hb Hm hw k8 o7 LX qT
 have hli:=lR o7
 have QW:∀j,(ai.at (h.set i o') j).live→(h.at j).live:=fun j hj=>by
  by_cases tR:i=j
  ·subst tR; exact hli
  ·rw[bm _ tR]at hj; exact hj
 constructor
 ·intro b' y ho he
  exact wf.uU b' y (x.tp b' y (wf.la b' y he) ho) he
 ·intro b' y he
  rw[hw.size]; exact wf.la b' y he
 ·intro j hj
  by_cases tR:i=j
  ·subst tR; rw[fT _ hi]; exact Bw
  ·rw[bm _ tR]
   by_cases hl:(h.at j).live
   ·refine (wf.obj j (by simpa using hj)).pP x (fun b' k9=>hw.other b' ?_) rfl rfl
    rintro rfl
    exact tR (wf.inj i j b' hli hl hb k9)
   ·revert hl; cases h.at j <;> simp[aP.live,iN]
 ·intro j k b' hj hk h1 h2
  exact wf.inj j k b' (QW j hj) (QW k hk) h1 h2
 ·exact wf.nz x

theorem SM {cs vs:List V} {o:Nat} (h:o+vs.length≤cs.length):(vb cs o vs).length=cs.length:=by simp[vb]; omega
theorem LY {cs vs:List V} {ds us:List Value} (r:bl w h c cs ds) (s:bl w h c vs us) (o:Nat):bl w h c (vb cs o vs) (ds.take o++us++ds.drop (o+us.length)):=by
 unfold vb
 rw[s.1]
 exact ((r.take o).append s).append (r.drop _)

theorem QX (wf:WF w h c) {t:Nat} (T:tq P tt) {i o:Nat} {cs vs:List V} {a' y':Value} (ra:cd w h c (.ptr i o) a') (tW:h.at i = .cells cs) (rv:bl w h c vs y'.cells.toList) (h1:Sq y'.cells.toList)
  (lh:tt.ok t=true) (k8:vs.length=(tt.at t).size) (dH:o+vs.length≤cs.length) :
  ∃w',(Instr.storeAt t a' y').run P w = .ok () w'∧WF w' (h.set i (.cells (vb cs o vs))) c∧Ext w h c w' (h.set i (.cells (vb cs o vs))) c:=by
 have hi:=ai.dR tW (by simp)
 have ho:=wf.obj i hi
 rw[tW]at ho
 obtain ⟨b,arr,e,g1,g2,g3⟩:=ho
 cases ra with
 | ptr hu hv =>
  obtain ⟨b',rfl,k9⟩:=hv
  have:=k9 (by rw[tW]; simp)
  rw[g1]at this; cases this
  have hl:=g3.1
  simp only[Array.length_toList]at hl
  have Zg:=rv.1
  obtain ⟨w',iv,k1,k2,k3⟩:=iO (P:=P) b o e (0,0) y'.cells.toList 0 arr w g2 (by omega) (fun x _ _=>qz g2 x) h1
  have yx:iv.size=arr.size:=by
   rw[←Array.length_toList,k3]; simp only[Array.length_toList,List.length_append,List.length_take,List.length_drop]at *; omega
  have o7:(h.at i).from_ (c.off i)=some 0:=by rw[tW]; rfl
  have qT:(h.at i).dV (.cells (vb cs o vs)):=by rw[tW]; exact (SM dH).symm
  have x:=Lb g1 g2 k2 yx o7 rfl qT
  refine ⟨w',?_,SL wf g1 g2 k2 yx o7 rfl qT ⟨b,iv,e,g1,k2.here,?_⟩,x⟩
  ·simp only[Instr.storeAt,Instr.sureAddr,Sem.run_bind,Sem.run_pure,Result.andThen_ok,storeVar,T.sizeOf lh]
   rw[if_neg (by simp only[Array.length_toList]at Zg; omega)]
   simp only[k1]
  ·rw[k3]
   exact LY (g3.mono x) (rv.mono x) _

theorem U9 (wf:WF w h c) {t:Nat} (T:tq P tt) {i:Nat} {u v:V} {a' y':Value} (ra:cd w h c (.ptr i 1) a') (tW:h.at i = .qV u) (rv:bl w h c [v] y'.cells.toList) (h1:Sq y'.cells.toList)
  (lh:tt.ok t=true) (k8:1=(tt.at t).size) :
  ∃w',(Instr.storeAt t a' y').run P w = .ok () w'∧WF w' (h.set i (.qV v)) c∧Ext w h c w' (h.set i (.qV v)) c:=by
 have hi:=ai.dR tW (by simp)
 have ho:=wf.obj i hi
 rw[tW]at ho
 obtain ⟨b,p,d,g1,g2,g3,g4⟩:=ho
 cases ra with
 | ptr hu hv =>
  obtain ⟨b',rfl,k9⟩:=hv
  have:=k9 (by rw[tW]; simp)
  rw[g1]at this; cases this
  have Zg:=rv.1
  simp only[List.length_cons,List.length_nil]at Zg
  obtain ⟨w',iv,k1,k2,k3⟩:=iO (P:=P) b 1 mZ.qV (0,0) y'.cells.toList 0 #[p,d] w g2 (by simp at Zg ⊢; omega) (fun x _ _=>qz g2 x) h1
  have yx:iv.size=(#[p,d]:Array Value).size:=by
   rw[←Array.length_toList,k3]; simp at Zg ⊢; omega
  have o7:(h.at i).from_ (c.off i)=some 0:=by rw[tW]; rfl
  have qT:(h.at i).dV (.qV v):=by rw[tW]; trivial
  have x:=Lb g1 g2 k2 yx o7 rfl qT
  refine ⟨w',?_,SL wf g1 g2 k2 yx o7 rfl qT ?_,x⟩
  ·simp only[Instr.storeAt,Instr.sureAddr,Sem.run_bind,Sem.run_pure,Result.andThen_ok,storeVar,T.sizeOf lh]
   rw[if_neg (by simp at Zg; omega)]
   simp only[k1]
  ·match hy:y'.cells.toList,Zg with
   | [q],_ =>
    rw[hy]at k3 rv
    have K5:iv = #[p,q]:=by
     apply Array.ext'
     rw[k3]; rfl
    exact ⟨b,p,q,g1,by rw[←K5]; exact k2.here,g3,rv.head.mono x⟩

theorem QY {T':Ty} (l:List T'.den) (j:Nat) (y:T'.den):(aP.row T' l).dV (.row T' (l.set j y)):=⟨rfl,by simp⟩

theorem Va (wf:WF w h c) {t:Nat} (T:tq P tt) {i n j o:Nat} {T':Ty} {l:List T'.den} {vs:List V} {a' y':Value} (ra:cd w h c (.nu i n j o) a') (uV:h.at i = .row T' l) (rv:bl w h c vs y'.cells.toList) (h1:Sq y'.cells.toList)
  (lh:tt.ok t=true) (hn:n=T'.sz) (k8:vs.length=(tt.at t).size) (hj:j<l.length) (dH:o+vs.length≤(T'.cells (l.getD j T'.aC)).length) {y:T'.den} (hy:T'.dec (vb (T'.cells (l.getD j T'.aC)) o vs)=some y) :
  ∃w',(Instr.storeAt t a' y').run P w = .ok () w'∧WF w' (h.set i (.row T' (l.set j y))) c∧Ext w h c w' (h.set i (.row T' (l.set j y))) c:=by
 have hi:=ai.dR uV (by simp)
 have ho:=wf.obj i hi
 rw[uV]at ho
 rw[getD_eq hj]at dH hy
 have hclen:=T'.dX l[j]
 rcases ho with ⟨_,rfl⟩|⟨b,arr,e,fz,g1,g2,g3,g4,g5⟩
 ·simp at hj
 ·cases ra with
  | nu hu hv =>
   obtain ⟨a,rfl,hv⟩:=hv
   obtain ⟨b',k9,rfl⟩:=hv T' l uV hn hj
   rw[g1]at k9; cases k9
   have Zg:=rv.1
   have hm:=Nat.mul_le_mul_right T'.sz hj
   rw[Nat.succ_mul]at hm
   obtain ⟨w',iv,k1,k2,k3⟩:=iO (P:=P) b (c.off i+j*T'.sz+o) e fz y'.cells.toList 0 arr w g2 (by omega) (fun x _ hx=>g4 x (.inl (by omega))) h1
   have yx:iv.size=arr.size:=by
    rw[←Array.length_toList,k3]; simp only[Array.length_toList,List.length_append,List.length_take,List.length_drop]at *; omega
   have o7:(h.at i).from_ (c.off i)=some 0:=by rw[uV]; rfl
   have qT:(h.at i).dV (.row T' (l.set j y)):=by rw[uV]; exact QY l j y
   have x:=Lb g1 g2 k2 yx o7 rfl qT
   obtain ⟨fl,fh⟩:=fz
   refine ⟨w',?_,SL wf g1 g2 k2 yx o7 rfl qT (.inr ⟨b,iv,e,(fl,fh),g1,k2.here,by rw[yx]; simpa using g3,fun x hx => ?_,fun n' q z v hz hv' => ?_⟩),x⟩
   ·simp only[Instr.storeAt,Instr.sureAddr,Sem.run_bind,Sem.run_pure,Result.andThen_ok,storeVar,T.sizeOf lh]
    rw[if_neg (by simp only[Array.length_toList]at Zg; omega)]
    simp only[k1]
   ·have:=g4 x (hx.imp (fun h=>by omega) fun h=>h)
    rw[zY g2]at this
    rw[zY k2.here]; exact this
   ·have hq:q<T'.sz:=by rw[←T'.dX z]; exact (List.getElem?_eq_some_iff.1 hv').1
    rw[List.getElem?_set]at hz
    have DQ:∀p:Nat,iv[p]? = iv.toList[p]? :=fun p=>Array.getElem?_toList.symm
    rw[DQ,k3]
    by_cases hjn:j=n'
    ·subst hjn
     rw[if_pos rfl,if_pos hj]at hz
     cases hz
     -- the element that is written
     have base:bl w h c (T'.cells l[j]) ((arr.toList.drop (c.off i+j*T'.sz)).take T'.sz):=by
      refine ⟨by rw[hclen]; simp; omega,fun x v d hv hd => ?_⟩
      obtain ⟨d',p1,p2⟩:=g5 j x l[j] v (List.getElem?_eq_getElem hj) hv
      rw[List.getElem?_take]at hd
      split at hd
      ·rw[List.getElem?_drop]at hd
       have e1:arr[c.off i+j*T'.sz+x]? = some d:=by simpa using hd
       rw[p1]at e1; cases e1; exact p2
      ·cases hd
     have sp:=(E8 hy (LY base rv o)).mono x
     have QZ:=sp.1
     have WH:q<(((arr.toList.drop (c.off i+j*T'.sz)).take T'.sz).take o++y'.cells.toList++((arr.toList.drop (c.off i+j*T'.sz)).take T'.sz).drop (o+y'.cells.toList.length)).length:=by
      rw[←QZ,T'.dX]; exact hq
     refine ⟨_,?_,sp.2 q v _ hv' (List.getElem?_eq_getElem WH)⟩
     rw[←List.getElem?_eq_getElem WH]
     simp only[List.getElem?_append,List.length_append,List.length_take,List.length_drop,List.getElem?_take,List.getElem?_drop,Array.length_toList,Nat.add_zero]at *
     by_cases c1:q<o
     ·have e1:c.off i+j*T'.sz+q<c.off i+j*T'.sz+o:=by omega
      have e2:c.off i+j*T'.sz+q<min (c.off i+j*T'.sz+o) arr.size:=by omega
      have e3:c.off i+j*T'.sz+q<min (c.off i+j*T'.sz+o) arr.size+y'.cells.size:=by omega
      have e4:q<min o (min T'.sz (arr.size - (c.off i+j*T'.sz))):=by omega
      have e5:q<min o (min T'.sz (arr.size - (c.off i+j*T'.sz)))+y'.cells.size:=by omega
      simp only[e1,e2,e3,e4,e5,c1,hq,if_true]
     ·have m1:min (c.off i+j*T'.sz+o) arr.size=c.off i+j*T'.sz+o:=by omega
      have m2:min o (min T'.sz (arr.size - (c.off i+j*T'.sz)))=o:=by omega
      rw[m1,m2]
      by_cases c2:q<o+y'.cells.size
      ·have e1:c.off i+j*T'.sz+q<c.off i+j*T'.sz+o+y'.cells.size:=by omega
       have e2:¬c.off i+j*T'.sz+q<c.off i+j*T'.sz+o:=by omega
       have e3:c.off i+j*T'.sz+q - (c.off i+j*T'.sz+o)=q - o:=by omega
       simp only[e1,e2,e3,c1,c2,if_true,if_false]
      ·have e1:¬c.off i+j*T'.sz+q<c.off i+j*T'.sz+o+y'.cells.size:=by omega
       have e3:c.off i+j*T'.sz+o+y'.cells.size+(c.off i+j*T'.sz+q - (c.off i+j*T'.sz+o+y'.cells.size))=c.off i+j*T'.sz+(o+y'.cells.size+(q - (o+y'.cells.size))):=by omega
       have e4:o+y'.cells.size+(q - (o+y'.cells.size))<T'.sz:=by omega
       simp only[e1,e3,e4,c2,if_true,if_false]
    ·rw[if_neg hjn]at hz
     obtain ⟨d,p1,p2⟩:=g5 n' q z v hz hv'
     refine ⟨d,?_,p2.mono x⟩
     have Wg:n'<l.length:=(List.getElem?_eq_some_iff.1 hz).1
     have p1':arr.toList[c.off i+n'*T'.sz+q]? = some d:=by simpa using p1
     simp only[Array.length_toList]at Zg
     simp only[List.getElem?_append,List.length_append,List.length_take,List.getElem?_take,List.getElem?_drop,Array.length_toList,Nat.add_zero]
     rcases Nat.lt_or_ge n' j with hlt'|hge
     ·have ZI:=Nat.mul_le_mul_right T'.sz hlt'
      rw[Nat.succ_mul]at ZI
      have e1:c.off i+n'*T'.sz+q<c.off i+j*T'.sz+o:=by omega
      have e2:c.off i+n'*T'.sz+q<min (c.off i+j*T'.sz+o) arr.size:=by omega
      have e3:c.off i+n'*T'.sz+q<min (c.off i+j*T'.sz+o) arr.size+y'.cells.size:=by omega
      simp only[e1,e2,e3,if_true]; exact p1'
     ·have ZI:=Nat.mul_le_mul_right T'.sz (show j+1≤n' by omega)
      rw[Nat.succ_mul]at ZI
      have m1:min (c.off i+j*T'.sz+o) arr.size=c.off i+j*T'.sz+o:=by omega
      have e1:¬c.off i+n'*T'.sz+q<c.off i+j*T'.sz+o+y'.cells.size:=by omega
      have e3:c.off i+j*T'.sz+o+y'.cells.size+(c.off i+n'*T'.sz+q - (c.off i+j*T'.sz+o+y'.cells.size))=c.off i+n'*T'.sz+q:=by omega
      rw[m1]
      simp only[e1,e3,if_false]; exact p1'
end

section
variable {P:Program} {tt:ca} {w w':World} {h:ai} {c:eT} {R:Type}

def du (T:Ty):List T.den→List V
 | [] => []
 | x::l=>T.cells x++du T l

theorem fo (T:Ty):∀l:List T.den,(du T l).length=l.length*T.sz
 | []=>by simp[du]
 | x::l=>by simp only[du,List.length_append,T.dX,fo T l,List.length_cons,Nat.succ_mul]; omega

theorem o8 (T:Ty):∀l m:List T.den,du T (l++m)=du T l++du T m
 | [],m=>rfl
 | x::l,m=>by simp only[List.cons_append,du,o8 T l m,List.append_assoc]

theorem tX (T:Ty):∀(l:List T.den) (i j:Nat) (x:T.den),l[i]? = some x→j<T.sz→(du T l)[i*T.sz+j]? = (T.cells x)[j]?
 | [],i,j,x,hx,_=>by simp at hx
 | y::l,0,j,x,hx,hj=>by
  simp at hx; subst hx
  simp only[du,Nat.zero_mul,Nat.zero_add]
  rw[List.getElem?_append_left (by rw[T.dX]; exact hj)]
 | y::l,i+1,j,x,hx,hj=>by
  simp at hx
  simp only[du]
  rw[List.getElem?_append_right (by rw[T.dX,Nat.succ_mul]; omega),T.dX]
  rw[show (i+1)*T.sz+j - T.sz=i*T.sz+j from by rw[Nat.succ_mul]; omega]
  exact tX T l i j x hx hj

theorem Vb (T:Ty) (x:T.den):(T.cells x).all V.one=true:=by cases T <;> rfl
theorem LZ (T:Ty):∀l:List T.den,(du T l).all V.one=true
 | []=>rfl
 | x::l=>by simp only[du,List.all_append,Vb,LZ T l,Bool.and_true]

theorem L0 {T:Ty} {n:Nat}:∀ {cs:List V} {ds:List Value} {l:List T.den},cs.length=n*T.sz→bl w h c cs ds→oE T (chunks T.sz n cs)=some l→bl w h c (du T l) ds:=by
 induction n with
 | zero =>
  intro cs ds l hl r hd
  simp[chunks,oE]at hd
  subst hd
  have h0:cs = []:=List.eq_nil_of_length_eq_zero (by simpa using hl)
  subst h0
  exact r
 | succ n ih =>
  intro cs ds l hl r hd
  simp only[chunks,oE]at hd
  split at hd
  ·rename_i x xs h1 h2
   cases hd
   rw[Nat.succ_mul]at hl
   have r1:=E8 h1 (r.take T.sz)
   have r2:=ih (by simp; omega) (r.drop T.sz) h2
   have:=r1.append r2
   rw[List.take_append_drop]at this
   exact this
  ·cases hd

theorem Q0 {T:Ty} {l:List T.den} {t:Tok} {A:Option Addr} {n cap:Nat} (r:cd w h c (.sl T l t) (.slice A n cap)) :
  ∃ds,bl w h c (du T l) ds∧(l ≠ []→∃b o,A=some ⟨b,o,none⟩∧mH w b o ds∧∀x,o≤x→x<o+l.length*T.sz→Fi h c b x):=by
 cases r with
 | sl f eQ lD hc hr vL fA =>
  refine ⟨(List.range (l.length*T.sz)).map fun k=>f (k / T.sz) (k % T.sz),⟨by simp[fo],fun k v d hv hd => ?_⟩,fun gX => ?_⟩
  ·have hk:k<l.length*T.sz:=by rw[←fo]; exact (List.getElem?_eq_some_iff.1 hv).1
   have Hf:=T.Bu
   have hi:k / T.sz<l.length:=(Nat.div_lt_iff_lt_mul Hf).2 hk
   have hj:=Nat.mod_lt k Hf
   have e:k / T.sz*T.sz+k % T.sz=k:=by rw[Nat.mul_comm]; exact Nat.div_add_mod _ _
   have:=tX T l (k / T.sz) (k % T.sz) _ (List.getElem?_eq_getElem hi) hj
   rw[e]at this
   rw[this]at hv
   simp only[List.getElem?_map,List.getElem?_range hk,Option.map_some,Option.some.injEq]at hd
   subst hd
   exact hr _ _ _ v (List.getElem?_eq_getElem hi) hv
  ·have Hf:0<l.length:=List.length_pos_iff.2 gX
   obtain ⟨b,o,rfl,_⟩:=hc 0 0 Hf T.Bu
   have all:∀k,k<l.length*T.sz→w.cell? ⟨b,o+k,none⟩=some (f (k / T.sz) (k % T.sz))∧Fi h c b (o+k):=by
    intro k hk
    have hi:k / T.sz<l.length:=(Nat.div_lt_iff_lt_mul T.Bu).2 hk
    obtain ⟨b',o',e',g1,g2⟩:=hc _ _ hi (Nat.mod_lt k T.Bu)
    cases e'
    have e:k / T.sz*T.sz+k % T.sz=k:=by rw[Nat.mul_comm]; exact Nat.div_add_mod _ _
    rw[Nat.add_assoc,e]at g1 g2
    exact ⟨g1,g2⟩
   refine ⟨b,o,rfl,fun k d hd => ?_,fun x h1 h2 => ?_⟩
   ·simp only[List.getElem?_map]at hd
    by_cases hk:k<l.length*T.sz
    ·rw[List.getElem?_range hk]at hd
     simp at hd; subst hd
     exact (all k hk).1
    ·rw[List.getElem?_eq_none (by simp; omega)]at hd; cases hd
   ·have:=(all (x - o) (by omega)).2
    rw[show o+(x - o)=x from by omega]at this
    exact this

theorem uW {T:Ty} {l:List T.den} {t:Tok} {A:Option Addr} {cap:Nat} {ds:List Value} (r:bl w h c (du T l) ds) (eQ:l.length≤cap) (lD:cap≤mx)
  (hA:l ≠ []→∃b o,A=some ⟨b,o,none⟩∧mH w b o ds∧∀x,o≤x→x<o+l.length*T.sz→Fi h c b x) (vL:t = .nil→A=none∧cap=0)
  (fA:∀i,t = .own i→Used h i∧(h.at i = .tok →
    (c.mX i=none∧A=none∧cap=0)∨∃b o arr e fz,c.mX i=some b∧A=some ⟨b,o,none⟩∧c.off i=o+l.length*T.sz ∧
     w.heap[b]? = some (.cells arr e fz)∧o+cap*T.sz≤arr.size∧So T o e)):cd w h c (.sl T l t) (.slice A l.length cap):=by
 have hlen:=r.1
 rw[fo]at hlen
 refine .sl (fun i j=>ds.getD (i*T.sz+j) undef) eQ lD (fun i j hi hj => ?_) (fun i j x v hx hv => ?_) vL fA
 ·have hk:i*T.sz+j<l.length*T.sz:=by
   have:=Nat.mul_le_mul_right T.sz hi
   rw[Nat.succ_mul]at this; omega
  obtain ⟨b,o,e,h1,h2⟩:=hA (by intro e; subst e; simp at hi)
  refine ⟨b,o,e,?_,h2 _ (by omega) (by omega)⟩
  rw[Nat.add_assoc]
  refine h1 _ _ ?_
  rw[List.getElem?_eq_getElem (by omega)]
  simp[List.getD,List.getElem?_eq_getElem (show i*T.sz+j<ds.length by omega)]
 ·have hj:j<T.sz:=by rw[←T.dX x]; exact (List.getElem?_eq_some_iff.1 hv).1
  have hi:i<l.length:=(List.getElem?_eq_some_iff.1 hx).1
  have hk:i*T.sz+j<ds.length:=by
   have:=Nat.mul_le_mul_right T.sz hi
   rw[Nat.succ_mul]at this; omega
  have:=tX T l i j x hx hj
  refine r.2 (i*T.sz+j) v _ (this.trans hv) ?_
  rw[List.getElem?_eq_getElem hk]
  simp[List.getD,List.getElem?_eq_getElem hk]

theorem DR {b o n sz:Nat} {cap:Nat} {ds:List Value} (hl:ds.length=n*sz) (hc:mH w b o ds):(Builtin.firstCells sz n (.slice (some ⟨b,o,none⟩) n cap)).run P w = .ok ds.toArray w:=by
 have:=run_loadCells_list (P:=P) w ⟨b,o,none⟩ ds (fun j v hv=>by rw[kk]; exact hc j v hv)
 rw[hl]at this
 simpa [Builtin.firstCells]using this

theorem vf {A:Option Addr} {n sz cap:Nat} (hn:n*sz=0):(Builtin.firstCells sz n (.slice A n cap)).run P w = .ok #[] w:=by
 cases A with
 | none=>simp[Builtin.firstCells]
 | some a =>
  simp only[Builtin.firstCells,hn]
  exact run_loadCells_list (P:=P) w a [] (fun j v hv=>by simp at hv)

theorem rj (T:tq P tt) {t xt e:Nat} (ht:(tt.at t).d = .slice e) (lh:tt.ok e=true) (Q1:(∃e',P.underlying xt=some (.slice e'))∨P.underlying xt=some .string)
  {A:Option Addr} {n cap m:Nat} {x:Value} {olds news:List Value} (ty:Nat)
  (hlx:(Builtin.lenOf x).run P w = .ok m w) (WO:∀W:World,W.heap=w.heap→(Builtin.firstCells (tt.at e).size m x).run P W = .ok news.toArray W) (QC:news.length=m*(tt.at e).size) (h1:Sq news)
  (holds:olds.length=n*(tt.at e).size) (hold:n≠0→∃b o,A=some ⟨b,o,none⟩∧mH w b o olds) (hncap:n≤cap) (hcapmx:cap≤mx)
  (hA:(A=none∧cap=0)∨∃b o arr el fz,A=some ⟨b,o,none⟩∧w.heap[b]? = some (.cells arr el fz)∧o+cap*(tt.at e).size≤arr.size∧∀y,o+n*(tt.at e).size≤y→y<arr.size→w.frozen? ⟨b,y,none⟩=false)
  (xJ:(n+m)*(tt.at e).bytes≤140737488355328) (lD:n+m≤mx) :
  (n+m≤cap∧A=none∧m=0∧(Builtin.append_ #[t,xt] ty #[.slice A n cap,x]).run P w = .ok (.slice A (n+m) cap) w) ∨
  (n+m≤cap∧∃b o arr el fz w' iv,A=some ⟨b,o,none⟩∧w.heap[b]? = some (.cells arr el fz)∧o+cap*(tt.at e).size≤arr.size ∧
   (Builtin.append_ #[t,xt] ty #[.slice A n cap,x]).run P w = .ok (.slice A (n+m) cap) w'∧Ov w w' b iv el fz ∧
   iv.toList=arr.toList.take (o+n*(tt.at e).size)++news++arr.toList.drop (o+n*(tt.at e).size+news.length)) ∨
  (∃oG ds,n+m≤oG∧oG≤mx∧ds.size=oG*(tt.at e).size∧ds.toList.take ((n+m)*(tt.at e).size)=olds++news ∧
   (Builtin.append_ #[t,xt] ty #[.slice A n cap,x]).run P w = .ok (.slice (some ⟨w.heap.size,0,none⟩) (n+m) oG) (w.drew.alloc (.cells ds e))):=by
 have hu:=cG T ht
 simp only[TD.Is]at hu
 have hs:=T.sizeOf (w:=w) lh
 obtain ⟨inf,z,hi,hsi,hby,hzv,Zc,LO⟩:=T.info e lh
 have hx:∃d,P.underlying xt=some d∧((∃e',d = .slice e')∨d = .string):=by
  rcases Q1 with ⟨e',hx⟩|hx
  ·exact ⟨_,hx, .inl ⟨e',rfl⟩⟩
  ·exact ⟨_,hx, .inr rfl⟩
 by_cases Q2:n+m≤cap
 ·rcases hA with ⟨rfl,rfl⟩|⟨b,o,arr,el,fz,rfl,hb,k8,TX⟩
  ·have WQ:m=0:=by omega
   subst WQ
   refine .inl ⟨Q2,rfl,rfl,?_⟩
   have hn0:news = []:=List.eq_nil_of_length_eq_zero (by simpa using QC)
   have hf:=WO w rfl
   subst hn0
   rcases Q1 with ⟨e',hx⟩|hx <;>
    simp[Builtin.append_,run_underlying hu,run_underlying hx,hs,hlx,hf,show n=0 from by omega]
  ·refine .inr (.inl ⟨Q2,b,o,arr,el,fz,?_⟩)
   have hf:=WO w rfl
   obtain ⟨w',iv,k1,k2,k3⟩:=iO (P:=P) b (o+n*(tt.at e).size) el fz news 0 arr w hb (by
    have:(n+m)*(tt.at e).size≤cap*(tt.at e).size:=Nat.mul_le_mul_right _ Q2
    rw[Nat.add_mul]at this; omega) (fun y h1 h2=>TX y h1 (by
    have:(n+m)*(tt.at e).size≤cap*(tt.at e).size:=Nat.mul_le_mul_right _ Q2
    rw[Nat.add_mul]at this; omega)) h1
   refine ⟨w',iv,rfl,hb,k8,?_,k2,by simpa using k3⟩
   rcases Q1 with ⟨e',hx⟩|hx <;>
    simp[Builtin.append_,run_underlying hu,run_underlying hx,hs,hlx,hf,Q2,kk,k1]
 ·refine .inr (.inr ?_)
  let oG:=(Question.appendCap (n+m) cap e).cut (w.tape w.drawn (.appendCap (n+m) cap e))
  have hge:n+m≤oG:=by simp only[oG,Question.cut]; omega
  have dH:oG≤mx:=by
   have dH:w.tape w.drawn (Question.appendCap (n+m) cap e) % (2 ^ 63 - (n+m))<2 ^ 63 - (n+m):=Nat.mod_lt _ (by unfold mx at lD; omega)
   simp only[oG,Question.cut]
   unfold mx at lD ⊢
   omega
  let ds:Array Value:=olds.toArray++news.toArray++Builtin.zeroCells z.cells (oG - (n+m))
  have hzl:(Builtin.zeroCells z.cells (oG - (n+m))).size=(oG - (n+m))*(tt.at e).size:=by
   simp[Builtin.zeroCells]; rw[Zc,hsi]
  have WN:ds.size=oG*(tt.at e).size:=by
   simp only[ds,Array.size_append,List.size_toArray,holds,QC,hzl]
   rw[←Nat.add_mul,←Nat.add_mul]
   congr 1; omega
  refine ⟨oG,ds,hge,dH,WN,?_,?_⟩
  ·have:ds.toList=(olds++news)++(Builtin.zeroCells z.cells (oG - (n+m))).toList:=by simp[ds]
   rw[this,List.take_append_of_le_length (by simp[holds,QC,Nat.add_mul]),List.take_of_length_le (by simp[holds,QC,Nat.add_mul])]
  ·have hfo:(Builtin.firstCells (tt.at e).size n (.slice A n cap)).run P w.drew = .ok olds.toArray w.drew:=by
    by_cases hn0:n=0
    ·subst hn0
     have:olds = []:=List.eq_nil_of_length_eq_zero (by simpa using holds)
     subst this
     exact vf (by simp)
    ·obtain ⟨b,o,rfl,hc⟩:=hold hn0
     exact DR holds hc
   have hf:=WO w.drew rfl
   have h48':¬(281474976710656<Builtin.nextslicecap (n+m) cap*(tt.at e).bytes):=by
    have:=growslice_fits (need:=n+m) (old:=cap) (by omega) xJ
    omega
   have h63':¬(9223372036854775807<((n:Int)+(m:Int))):=by unfold mx at lD; omega
   have hsd:(sizeOf e).run P w.drew = .ok (tt.at e).size w.drew:=T.sizeOf lh
   rcases Q1 with ⟨e',hx⟩|hx <;>
    simp[Builtin.append_,run_underlying hu,run_underlying hx,hs,hlx,Q2,h63',typeInfo,hi,hby,h48',Question.forced,hfo,hf,zeroValue,hzv,newRow,ds,oG]
end

section
variable {P:Program} {tt:ca} {w w':World} {h:ai} {c:eT} {R:Type}

theorem Ow {i b x:Nat} (ho:oF (h.set i .dead) c b x):oF h c b x:=by
 obtain ⟨j,f,g1,g2,g3⟩:=ho
 rw[gm]at g2
 split at g2
 ·simp[aP.from_]at g2
 ·exact ⟨j,f,g1,g2,g3⟩

theorem wu (i:Nat):Ext w h c w (h.set i .dead) c where
 os:=rfl
 tape:=rfl
 output:=rfl
 size:=Nat.le_refl _
 used:=fun j hj=>⟨by simpa using hj.1,by rw[gm]; split; simp; exact hj.2⟩
 same:=fun j hj hd=>by
  rw[gm]at hd ⊢
  split
  ·rename_i hc; rw[if_pos hc]at hd; exact absurd rfl hd
  ·rename_i hc
   rw[if_neg hc]at hd
   refine ⟨?_,rfl,rfl⟩
   have h2:=hj.2
   revert hd h2
   cases h.at j <;> simp[aP.dV]
 cell:=fun _ _ _ _=>rfl
 block:=fun _ _ _=>rfl
 tp:=fun b x _ ho=>Ow ho
 ext:=rfl
 arr:=fun b arr e fz hb=>⟨arr,fz,hb,rfl⟩

theorem Lc (wf:WF w h c) (i:Nat):WF w (h.set i .dead) c where
 lay:=wf.nz (wu i)
 uU:=fun b x ho=>wf.uU b x (Ow ho)
 la:=wf.la
 obj:=fun j hj=>by
  rw[gm]
  split
  ·trivial
  ·exact (wf.obj j (by simpa using hj)).pP (wu i) (fun _ _=>rfl) rfl rfl
 inj:=fun j k b hj hk h1 h2=>by
  have key:∀j,(ai.at (h.set i .dead) j).live→(h.at j).live:=fun j hj=>by
   rw[gm]at hj
   split at hj
   ·exact hj.elim
   ·exact hj
  exact wf.inj j k b (key j hj) (key k hk) h1 h2

theorem zZ (w:World) (o:Obj):Below w.heap.size w (w.drew.alloc o):=((Below.refl _ _).drew).alloc (Nat.le_refl _) o

theorem Ox (wf:WF w h c) {id:Nat} (hid:id<h.length) (hf:h.at id = .free) {T:Ty} {l:List T.den} {us:List Value} (r:bl w h c (du T l) us) {ds:Array Value} {e:TypeId} (hte:So T 0 e) {cap:Nat}
  (WN:ds.size=cap*T.sz) (WR:ds.toList.take (l.length*T.sz)=us) (eQ:l.length≤cap) (lD:cap≤mx) :
  ∃c',WF (w.drew.alloc (.cells ds e)) (h.set id .tok) c'∧Ext w h c (w.drew.alloc (.cells ds e)) (h.set id .tok) c'∧cd (w.drew.alloc (.cells ds e)) (h.set id .tok) c' (.sl T l (.own id)) (.slice (some ⟨w.heap.size,0,none⟩) l.length cap):=by
 have hb:=zZ w (.cells ds e)
 have Hj:∀b,some w.heap.size=some b→w.heap.size≤b:=by intro b hb; cases hb; exact Nat.le_refl _
 have tu:(w.drew.alloc (.cells ds e)).heap[w.heap.size]? = some (.cells ds e (0,0)):=heap_alloc_new w.drew (.cells ds e)
 have x:=nw (h:=h) (c:=c) hb hf .tok (no:=l.length*T.sz) Hj
 have hm:l.length*T.sz≤cap*T.sz:=Nat.mul_le_mul_right _ eQ
 have Bw:iN (w.drew.alloc (.cells ds e)) (h.set id .tok) (c.put id (some w.heap.size) (l.length*T.sz)) id .tok :=
  .inr ⟨w.heap.size,ds,e,(0,0),bE _ _ _,tu,by rw[cH]; omega, .inl rfl⟩
 refine ⟨_,vd wf hb hid hf Hj Bw,x,uW (r.mono x) eQ lD (fun _=>⟨w.heap.size,0,rfl,fun j d hd => ?_,fun y _ hy => ?_⟩) (by simp) (fun i hi => ?_)⟩
 ·rw[Nat.zero_add,cell_of_row _ _ _ _ _ _ tu]
  rw[←WR,List.getElem?_take]at hd
  split at hd
  ·simpa using hd
  ·cases hd
 ·refine yy wf _ _ _ (fun f U6 => ?_) hid
  simp[aP.from_]at U6
  omega
 ·cases hi
  exact ⟨m5 hid (by simp),fun _ => .inr ⟨w.heap.size,0,ds,e,(0,0),bE _ _ _,rfl,by rw[cH,Nat.zero_add],tu,by omega,hte⟩⟩

theorem Oy (wf:WF w h c) {id:Nat} (hid:id<h.length) (hf:h.at id = .free) {T:Ty} {l:List T.den} {us:List Value} (r:bl w h c (du T l) us) {ds:Array Value} {e:TypeId} {cap:Nat}
  (WN:ds.size=cap*T.sz) (WR:ds.toList.take (l.length*T.sz)=us) (eQ:l.length≤cap) (lD:cap≤mx) :
  ∃c',WF (w.drew.alloc (.cells ds e)) (h.set id (.row T l)) c'∧Ext w h c (w.drew.alloc (.cells ds e)) (h.set id (.row T l)) c' ∧
   cd (w.drew.alloc (.cells ds e)) (h.set id (.row T l)) c' (.row id l.length) (.slice (some ⟨w.heap.size,0,none⟩) l.length cap):=by
 have hb:=zZ w (.cells ds e)
 have Hj:∀b,some w.heap.size=some b→w.heap.size≤b:=by intro b hb; cases hb; exact Nat.le_refl _
 have tu:(w.drew.alloc (.cells ds e)).heap[w.heap.size]? = some (.cells ds e (0,0)):=heap_alloc_new w.drew (.cells ds e)
 have x:=nw (h:=h) (c:=c) hb hf (.row T l) (no:=0) Hj
 have hm:l.length*T.sz≤cap*T.sz:=Nat.mul_le_mul_right _ eQ
 have r':=r.mono x
 have Bw:iN (w.drew.alloc (.cells ds e)) (h.set id (.row T l)) (c.put id (some w.heap.size) 0) id (.row T l):=by
  refine .inr ⟨w.heap.size,ds,e,(0,0),bE _ _ _,tu,by rw[cH]; omega,fun y _=>qz tu y,fun n j z v hz hv => ?_⟩
  have hj:j<T.sz:=by rw[←T.dX z]; exact (List.getElem?_eq_some_iff.1 hv).1
  have hn:n<l.length:=(List.getElem?_eq_some_iff.1 hz).1
  have dH:n*T.sz+j<l.length*T.sz:=by
   have:=Nat.mul_le_mul_right T.sz hn
   rw[Nat.succ_mul]at this; omega
  have hl:=r.1
  rw[fo]at hl
  have hg:=List.getElem?_eq_getElem (show n*T.sz+j<us.length by omega)
  refine ⟨us[n*T.sz+j]'(by omega),?_,r'.2 _ v _ ((tX T l n j z hz hj).trans hv) hg⟩
  rw[cH,Nat.zero_add,←hg,←WR,List.getElem?_take,if_pos dH]
  simp
 refine ⟨_,vd wf hb hid hf Hj Bw,x, .row (m5 hid (by simp)) (by omega) ⟨_,_,rfl,⟨eQ,lD,fun _=>⟨_,rfl⟩⟩,fun T' l' he => ?_⟩⟩
 rw[fT _ hid]at he
 cases he
 exact ⟨rfl,eQ,lD, .inr ⟨w.heap.size,ds,e,(0,0),bE _ _ _,by rw[cH],tu,by rw[cH]; omega⟩⟩

theorem Hn (wf:WF w h c) {id:Nat} (hid:id<h.length) (hf:h.at id = .free) {T:Ty} :
  ∃c',WF w (h.set id .tok) c'∧Ext w h c w (h.set id .tok) c'∧cd w (h.set id .tok) c' (.sl T [] (.own id)) (.slice none 0 0):=by
 have Hj:∀b,(none:Option Nat)=some b→w.heap.size≤b:=by intro b hb; cases hb
 have x:=nw (h:=h) (c:=c) (Below.refl w.heap.size w) hf .tok (no:=0) Hj
 refine ⟨_,vd wf (Below.refl _ _) hid hf Hj (.inl (bE _ _ _)),x,?_⟩
 exact uW (l := []) (ds := []) bl.nil (Nat.le_refl _) (by unfold mx; omega) (fun h=>absurd rfl h) (by simp) (fun i hi=>by
  cases hi; exact ⟨m5 hid (by simp),fun _ => .inl ⟨bE _ _ _,rfl,rfl⟩⟩)

theorem L1 (wf:WF w h c) {id:Nat} (hid:id<h.length) (hf:h.at id = .free) {T:Ty} :
  ∃c',WF w (h.set id (.row T [])) c'∧Ext w h c w (h.set id (.row T [])) c'∧cd w (h.set id (.row T [])) c' (.row id 0) (.slice none 0 0):=by
 have Hj:∀b,(none:Option Nat)=some b→w.heap.size≤b:=by intro b hb; cases hb
 have x:=nw (h:=h) (c:=c) (Below.refl w.heap.size w) hf (.row T []) (no:=0) Hj
 refine ⟨_,vd wf (Below.refl _ _) hid hf Hj (.inl ⟨bE _ _ _,rfl⟩),x,?_⟩
 refine .row (m5 hid (by simp)) (by unfold mx; omega) ⟨none,0,rfl,⟨Nat.le_refl _,by unfold mx; omega,fun h=>by omega⟩,fun T' l' he => ?_⟩
 rw[fT _ hid]at he
 cases he
 exact ⟨rfl,Nat.le_refl _,by unfold mx; omega, .inl ⟨bE _ _ _,rfl,rfl⟩⟩

theorem GC (s:aA):(IQ s).length=s.length := @List.length_map UInt8 Int s _
theorem Ho:∀s:aA,du (.int .u8) (IQ s)=s.map fun b=>V.int .u8 b.toNat
 | []=>rfl
 | b::s=>by
  show V.int .u8 b.toNat::du (.int .u8) (IQ s)=_
  rw[Ho s]; rfl

theorem Ld (wf:WF w h c) {i:Nat} {T:Ty} {l:List T.den} (he:h.at i = .row T l) :
  ∃ds,bl w h c (du T l) ds∧(l ≠ []→∃b,c.mX i=some b∧mH w b (c.off i) ds):=by
 have hi:=ai.dR he (by simp)
 have ho:=wf.obj i hi
 rw[he]at ho
 rcases ho with ⟨_,rfl⟩|⟨b,arr,e,fz,h1,h2,h3,h4,h5⟩
 ·exact ⟨[], .nil,fun h=>absurd rfl h⟩
 ·refine ⟨(arr.toList.drop (c.off i)).take (l.length*T.sz),⟨by rw[fo]; simp; omega,fun k v d hv hd => ?_⟩,fun _=>⟨b,h1,fun k d hd => ?_⟩⟩
  ·have hk:k<l.length*T.sz:=by rw[←fo]; exact (List.getElem?_eq_some_iff.1 hv).1
   have hq:k / T.sz<l.length:=(Nat.div_lt_iff_lt_mul T.Bu).2 hk
   have hj:=Nat.mod_lt k T.Bu
   have e:k / T.sz*T.sz+k % T.sz=k:=by rw[Nat.mul_comm]; exact Nat.div_add_mod _ _
   have hg:=tX T l (k / T.sz) (k % T.sz) _ (List.getElem?_eq_getElem hq) hj
   rw[e]at hg
   rw[hg]at hv
   obtain ⟨d',p1,p2⟩:=h5 _ _ _ v (List.getElem?_eq_getElem hq) hv
   rw[Nat.add_assoc,e]at p1
   rw[List.getElem?_take,if_pos hk,List.getElem?_drop]at hd
   have e1:arr[c.off i+k]? = some d:=by simpa using hd
   rw[p1]at e1; cases e1; exact p2
  ·rw[List.getElem?_take]at hd
   split at hd
   ·rw[List.getElem?_drop]at hd
    rw[cell_of_row w b _ arr e fz h2]; simpa using hd
   ·cases hd

theorem JU (T:Ty):∀(l:List T.den) (n:Nat),du T (l.take n)=(du T l).take (n*T.sz)
 | [],n=>by simp[du]
 | x::l,0=>by simp[du]
 | x::l,n+1=>by
  have hl:(T.cells x).length=T.sz:=T.dX x
  rw[List.take_succ_cons]
  simp only[du]
  rw[JU T l n,show (n+1)*T.sz=(T.cells x).length+n*T.sz by rw[hl,Nat.add_mul]; omega,List.take_append,List.take_of_length_le (Nat.le_add_right _ _),Nat.add_sub_cancel_left]
theorem JV (T:Ty):∀(l:List T.den) (n:Nat),du T (l.drop n)=(du T l).drop (n*T.sz)
 | [],n=>by simp[du]
 | x::l,0=>by simp[du]
 | x::l,n+1=>by
  have hl:(T.cells x).length=T.sz:=T.dX x
  rw[List.drop_succ_cons]
  simp only[du]
  rw[JV T l n,show (n+1)*T.sz=(T.cells x).length+n*T.sz by rw[hl,Nat.add_mul]; omega,List.drop_append]
  simp
theorem Vc {cs:List V} {ds:List Value} (r:bl w h c cs ds) (n:Nat):bl w h c (cs.take n) (ds.take n) :=
 ⟨by rw[List.length_take,List.length_take,r.1],fun j v d hv hd=>by
  rw[List.getElem?_take]at hv hd
  split at hv
  ·rename_i hj
   rw[if_pos hj]at hd
   exact r.2 j v d hv hd
  ·cases hv⟩
theorem Vd {cs:List V} {ds:List Value} (r:bl w h c cs ds) (n:Nat):bl w h c (cs.drop n) (ds.drop n) :=
 ⟨by rw[List.length_drop,List.length_drop,r.1],fun j v d hv hd=>by
  rw[List.getElem?_drop]at hv hd
  exact r.2 _ v d hv hd⟩

theorem Ve (wf:WF w h c) {T:Ty} {sz:Nat} (k8:T.sz=sz) {v:V} {v':Value} (rv:cd w h c v v') {m:List T.den} (lh:IS h v=true) (hs:JP T h v=some m) :
  ∃news,(Builtin.lenOf v').run P w = .ok m.length w∧(∀W:World,W.heap=w.heap→(Builtin.firstCells sz m.length v').run P W = .ok news.toArray W)∧bl w h c (du T m) news∧m.length≤mx:=by
 subst k8
 have DP:∀(W:World) (b x:Nat),W.heap=w.heap→W.cell? ⟨b,x,none⟩=w.cell? ⟨b,x,none⟩:=fun W b x hW=>by simp only[World.cell?,hW]
 have key:∀(A:Option Addr) (cap:Nat) (news:List Value),bl w h c (du T m) news→(m ≠ []→∃b o,A=some ⟨b,o,none⟩∧mH w b o news) →
   ∀W:World,W.heap=w.heap→(Builtin.firstCells T.sz m.length (.slice A m.length cap)).run P W = .ok news.toArray W:=by
  intro A cap news hr hA W hW
  have hl:=hr.1
  rw[fo]at hl
  by_cases hm:m = []
  ·subst hm
   have:news = []:=List.eq_nil_of_length_eq_zero (by simpa using hl.symm)
   subst this
   exact vf (by simp)
  ·obtain ⟨b,o,rfl,hc⟩:=hA hm
   exact DR hl.symm (fun j d hd=>by rw[DP W _ _ hW]; exact hc j d hd)
 unfold JP at hs
 split at hs
 ·cases hs
  cases rv
  exact ⟨[],by simp[Builtin.lenOf],fun W hW=>vf (by simp), .nil,by simp⟩
 ·rename_i T' l t
  split at hs
  ·rename_i e
   subst e
   obtain rfl:l=m:=by simpa using hs
   obtain ⟨A,cap,rfl,h1,h2⟩:=Bt rv
   obtain ⟨ds,g1,g2⟩:=Q0 rv
   exact ⟨ds,by simp[Builtin.lenOf],key A cap ds g1 (fun gX=>by obtain ⟨b,o,q1,q2,_⟩:=g2 gX; exact ⟨b,o,q1,q2⟩),g1,by omega⟩
  ·cases hs
 ·rename_i i n
  split at hs
  ·rename_i T' l uV
   split at hs
   ·rename_i e
    subst e
    obtain rfl:l=m:=by simpa using hs
    cases rv with
    | row hu hn hv =>
     obtain ⟨A,cap,rfl,hA,hv⟩:=hv
     obtain ⟨g1,g2,g3,g4⟩:=hv _ _ uV
     obtain ⟨ds,k1,k2⟩:=Ld wf uV
     subst g1
     exact ⟨ds,by simp[Builtin.lenOf],key A cap ds k1 (fun gX=>by
      obtain ⟨b,q1,q2⟩:=k2 gX
      rcases g4 with ⟨p1,_⟩|⟨b',arr,el,fz,p1,p2,_⟩
      ·rw[q1]at p1; cases p1
      ·rw[q1]at p1; cases p1
       exact ⟨b,_,p2,q2⟩),k1,hn⟩
   ·cases hs
  ·cases hs
 ·rename_i i z q n
  split at hs
  ·rename_i T' l uV
   split at hs
   ·rename_i e
    subst e
    ·simp only[IS,uV,Bool.and_eq_true,decide_eq_true_eq]at lh
     obtain ⟨hz,hq⟩:=lh
     obtain rfl:(l.drop q).take n=m:=by simpa using hs
     cases rv with
     | m0 hu hn hv =>
      obtain ⟨A,cap,rfl,hA,hv⟩:=hv
      obtain ⟨g1,g4⟩:=hv _ _ uV hz (by omega)
      obtain ⟨ds,k1,k2⟩:=Ld wf uV
      have ZJ:((l.drop q).take n).length=n:=by rw[List.length_take,List.length_drop]; omega
      have k3:bl w h c (du T' ((l.drop q).take n)) ((ds.drop (q*T'.sz)).take (n*T'.sz)):=by
       rw[JU,JV]
       exact Vc (Vd k1 _) _
      refine ⟨(ds.drop (q*T'.sz)).take (n*T'.sz),by simp[Builtin.lenOf,ZJ],?_,k3,by omega⟩
      have:=key A cap _ k3 (fun gX=>by
       have Hf:=List.length_pos_iff.2 gX
       obtain ⟨b,q1,q2⟩:=k2 (by rintro rfl; simp at gX)
       obtain ⟨b',arr,el,fz,p1,p2,_⟩:=g4 (by omega)
       rw[q1]at p1; cases p1
       refine ⟨b,_,p2,fun j d hd => ?_⟩
       rw[List.getElem?_take]at hd
       split at hd
       ·rw[List.getElem?_drop]at hd
        rw[Nat.add_assoc]
        exact q2 _ _ hd
       ·cases hd)
      rw[ZJ]at this ⊢
      exact this
   ·cases hs
  ·cases hs
 ·rename_i n cs
  split at hs
  ·rename_i GD
   cases rv with
   | @Ku _ sz' _ A hn lD f hc hr =>
    have hr':bl w h c cs ((List.range cs.length).map f):=by
     refine ⟨by simp,fun j v d hv hd => ?_⟩
     have dH:j<cs.length:=(List.getElem?_eq_some_iff.1 hv).1
     simp only[List.getElem?_map,List.getElem?_range dH,Option.map_some,Option.some.injEq]at hd
     subst hd
     exact hr j v hv
    have Pt:=L0 GD hr' hs
    have ZJ:m.length=n:=by rw[tU hs,tT]
    rw[←ZJ]
    exact ⟨_,by simp[Builtin.lenOf],key A m.length _ Pt (fun gX=>by
     have Hf:0<cs.length:=by
      have:=List.length_pos_iff.2 gX
      rw[GD,←ZJ]
      exact Nat.mul_pos this T.Bu
     obtain ⟨b,o,rfl,_⟩:=hc 0 Hf
     refine ⟨b,o,rfl,fun j d hd => ?_⟩
     simp only[List.getElem?_map]at hd
     by_cases dH:j<cs.length
     ·rw[List.getElem?_range dH]at hd
      simp at hd; subst hd
      obtain ⟨b',o',e',q1,_⟩:=hc j dH
      cases e'
      exact q1
     ·rw[List.getElem?_eq_none (by simp; omega)]at hd; cases hd),Pt,by omega⟩
  ·cases hs
 ·rename_i s
  split at hs
  ·rename_i e
   subst e
   obtain ⟨t,rfl,rfl,hl⟩:=rv.mG
   obtain rfl:IQ t.data.toList=m:=by simpa using hs
   refine ⟨t.data.toList.map fun b=>Value.int .u8 b.toNat,?_,fun W hW => ?_,?_,?_⟩
   ·rw[GC,size_data]; simp[Builtin.lenOf]
   ·rw[GC,size_data]
    simp only[Builtin.firstCells,Sem.run_pure]
    congr 1
    apply Array.ext'
    simp
   ·rw[Ho]; exact bl.map _ fun b _ => .int (LL _ (UInt8.toNat_lt b))
   ·rw[GC,size_data]; exact hl
  ·cases hs
 ·cases hs

theorem ZK (wf:WF w h c) {i id:Nat} (hi:h.at i = .tok) (hid:id<h.length) (hf:h.at id = .free) {b o:Nat} (hb:c.mX i=some b) {T:Ty} {l m:List T.den} (hoff:c.off i=o+l.length*T.sz)
  {arr iv:Array Value} {el:TypeId} (hte:So T o el) {fz:Nat×Nat} (wv:w.heap[b]? = some (.cells arr el fz)) (hw:Ov w w' b iv el fz) {cap:Nat} (eQ:(l++m).length≤cap) (lD:cap≤mx) (k8:o+cap*T.sz≤arr.size)
  {olds news:List Value} (ro:bl w h c (du T l) olds) (rn:bl w h c (du T m) news) (hold:l ≠ []→mH w b o olds) (hun:∀x,o≤x→x<o+l.length*T.sz→Fi h c b x)
  (Hm:iv.toList=arr.toList.take (o+l.length*T.sz)++news++arr.toList.drop (o+l.length*T.sz+news.length)) :
  ∃c',WF w' ((h.set i .dead).set id .tok) c'∧Ext w h c w' ((h.set i .dead).set id .tok) c'∧cd w' ((h.set i .dead).set id .tok) c' (.sl T (l++m) (.own id)) (.slice (some ⟨b,o,none⟩) (l++m).length cap):=by
 have gX:i≠id:=by rintro rfl; rw[hi]at hf; cases hf
 have hil:=ai.dR hi (by simp)
 have Q3:=ro.1
 have QZ:=rn.1
 rw[fo]at Q3 QZ
 have hmul:(l++m).length*T.sz≤cap*T.sz:=Nat.mul_le_mul_right _ eQ
 have hlm:(l++m).length*T.sz=l.length*T.sz+m.length*T.sz:=by rw[List.length_append,Nat.add_mul]
 have tW:iv.size=arr.size:=by
  rw[←Array.length_toList,Hm]; simp only[List.length_append,List.length_take,List.length_drop,Array.length_toList]; omega
 have Vf:id<(h.set i .dead).length:=by simpa using hid
 have Qm:∀j,ai.at ((h.set i .dead).set id .tok) j=if id=j then .tok else if i=j then .dead else h.at j:=by
  intro j
  rw[gm,gm]
  by_cases h1:id=j
  ·simp[h1]; intro h2; subst h1; omega
  ·simp only[h1,false_and,if_false]
   by_cases h2:i=j
   ·subst h2; simp[hil]
   ·simp[h2]
 have K5:∀j,j≠id→(c.put id (some b) (o+(l++m).length*T.sz)).mX j=c.mX j∧(c.put id (some b) (o+(l++m).length*T.sz)).off j=c.off j:=fun j hj=>⟨lj _ _ hj,tS _ _ hj⟩
 have Q4:∀j,j≠i→(h.at j).live→c.mX j≠some b:=fun j hj hl hbj=>hj (wf.inj j i b hl (by rw[hi]; trivial) hbj hb)
 have WS:∀x,x<o+l.length*T.sz→w'.cell? ⟨b,x,none⟩=w.cell? ⟨b,x,none⟩:=by
  intro x hx
  rw[cell_of_row w' b x iv el fz hw.here,cell_of_row w b x arr el fz wv,←Array.getElem?_toList,←Array.getElem?_toList,Hm,List.append_assoc,
   List.getElem?_append_left (by simp only[List.length_take,Array.length_toList]; omega),List.getElem?_take,if_pos hx]
 have Hp:∀b' x,oF ((h.set i .dead).set id .tok) (c.put id (some b) (o+(l++m).length*T.sz)) b' x→oF h c b' x:=by
  rintro b' x ⟨j,f,g1,g2,g3⟩
  rw[Qm]at g2
  by_cases h1:id=j
  ·subst h1
   rw[bE]at g1
   cases g1
   rw[if_pos rfl,cH]at g2
   simp only[aP.from_,Option.some.injEq]at g2
   exact ⟨i,c.off i,hb,by rw[hi]; rfl,by omega⟩
  ·rw[if_neg h1]at g2
   split at g2
   ·simp[aP.from_]at g2
   ·obtain ⟨e1,e2⟩:=K5 j (Ne.symm h1)
    rw[e1]at g1; rw[e2]at g2
    exact ⟨j,f,g1,g2,g3⟩
 have x:Ext w h c w' ((h.set i .dead).set id .tok) (c.put id (some b) (o+(l++m).length*T.sz)):=by
  constructor
  ·exact hw.os
  ·exact hw.tape
  ·exact hw.output
  ·rw[hw.size]; exact Nat.le_refl _
  ·intro j hj
   refine ⟨by simpa using hj.1,?_⟩
   rw[Qm]
   split
   ·simp
   ·split
    ·simp
    ·exact hj.2
  ·intro j hj hd
   have SN:id≠j:=by rintro rfl; exact hj.2 hf
   rw[Qm,if_neg SN]at hd ⊢
   split
   ·rename_i h2; rw[if_pos h2]at hd; exact absurd rfl hd
   ·rename_i h2
    rw[if_neg h2]at hd
    refine ⟨?_,(K5 j (Ne.symm SN)).1,(K5 j (Ne.symm SN)).2⟩
    have h3:=hj.2
    revert hd h3
    cases h.at j <;> simp[aP.dV]
  ·intro b' y hy ho
   by_cases Q5:b'=b
   ·subst Q5
    refine WS y ?_
    rcases Nat.lt_or_ge y (o+l.length*T.sz)with h1|h1
    ·exact h1
    ·exact absurd ⟨i,c.off i,hb,by rw[hi]; rfl,by omega⟩ ho
   ·exact qy (hw.other b' Q5)
  ·intro b' k9 ho
   have Q5:b'≠b:=by
    rintro rfl
    exact ho (c.off i) ⟨i,c.off i,hb,by rw[hi]; rfl,Nat.le_refl _⟩
   exact hw.other b' Q5
  ·intro b' y _ ho; exact Hp b' y ho
  ·rfl
  ·intro b' DB e' NG ha
   by_cases Q5:b'=b
   ·subst Q5
    rw[wv]at ha; cases ha
    exact ⟨iv,fz,hw.here,tW⟩
   ·exact ⟨DB,NG,by rw[hw.other b' Q5]; exact ha,rfl⟩
 obtain ⟨fl,fh⟩:=fz
 have ZL:=wf.obj i hil
 rw[hi]at ZL
 have TX:fl=fh∨fh≤o+l.length*T.sz:=by
  rcases ZL with h0|⟨b',DB,e',NG,p1,p2,p3,p4⟩
  ·rw[hb]at h0; cases h0
  ·rw[hb]at p1; cases p1
   rw[wv]at p2; cases p2
   rw[hoff]at p4
   exact p4
 have TY:WF w' ((h.set i .dead).set id .tok) (c.put id (some b) (o+(l++m).length*T.sz)):=by
  constructor
  ·intro b' y ho; exact wf.uU b' y (Hp b' y ho)
  ·intro b' y he; rw[hw.size]; exact wf.la b' y he
  ·intro j hj
   rw[Qm]
   by_cases h1:id=j
   ·subst h1
    rw[if_pos rfl]
    refine .inr ⟨b,iv,el,(fl,fh),bE _ _ _,hw.here,by rw[cH]; omega,?_⟩
    rw[cH]
    have:l.length*T.sz≤(l++m).length*T.sz:=Nat.mul_le_mul_right _ (by simp)
    exact TX.imp (fun e=>e) fun hh=>Nat.le_trans hh (by omega)
   ·rw[if_neg h1]
    split
    ·trivial
    ·rename_i h2
     by_cases hl:(h.at j).live
     ·refine (wf.obj j (by simpa using hj)).pP x (fun b' k9=>hw.other b' ?_) (K5 j (Ne.symm h1)).1 (K5 j (Ne.symm h1)).2
      rintro rfl
      exact Q4 j (Ne.symm h2) hl k9
     ·revert hl; cases h.at j <;> simp[aP.live,iN]
  ·intro j k b' hj hk h1 h2
   rw[Qm]at hj hk
   by_cases e1:id=j <;> by_cases e2:id=k
   ·exact e1.symm.trans e2
   ·subst e1
    rw[bE]at h1; cases h1
    rw[if_neg e2]at hk
    rw[(K5 k (Ne.symm e2)).1]at h2
    split at hk
    ·exact hk.elim
    ·rename_i h3; exact absurd h2 (Q4 k (Ne.symm h3) hk)
   ·subst e2
    rw[bE]at h2; cases h2
    rw[if_neg e1]at hj
    rw[(K5 j (Ne.symm e1)).1]at h1
    split at hj
    ·exact hj.elim
    ·rename_i h3; exact absurd h1 (Q4 j (Ne.symm h3) hj)
   ·rw[if_neg e1]at hj
    rw[if_neg e2]at hk
    rw[(K5 j (Ne.symm e1)).1]at h1
    rw[(K5 k (Ne.symm e2)).1]at h2
    split at hj
    ·exact hj.elim
    ·split at hk
     ·exact hk.elim
     ·exact wf.inj j k b' hj hk h1 h2
  ·exact wf.nz x
 refine ⟨_,TY,x,?_⟩
 have rr:bl w' ((h.set i .dead).set id .tok) (c.put id (some b) (o+(l++m).length*T.sz)) (du T (l++m)) (olds++news):=by
  rw[o8]; exact (ro.mono x).append (rn.mono x)
 refine uW rr eQ lD (fun _=>⟨b,o,rfl,fun j d hd => ?_,fun y h1 h2=>⟨fun ho => ?_,fun he => ?_⟩⟩) (by simp) (fun k hk => ?_)
 ·by_cases hj:j<olds.length
  ·rw[List.getElem?_append_left hj]at hd
   have hlne:l ≠ []:=by rintro rfl; simp at Q3; omega
   rw[WS (o+j) (by omega)]
   exact hold hlne j d hd
  ·rw[List.getElem?_append_right (by omega)]at hd
   have hj2:j - olds.length<news.length:=(List.getElem?_eq_some_iff.1 hd).1
   have l1:(arr.toList.take (o+l.length*T.sz)).length=o+l.length*T.sz:=by simp only[List.length_take,Array.length_toList]; omega
   rw[cell_of_row w' b _ iv el (fl,fh) hw.here,←Array.getElem?_toList,Hm,List.append_assoc,List.getElem?_append_right (by omega),l1,List.getElem?_append_left (by omega)]
   rw[←hd]; congr 1; omega
 ·obtain ⟨j,f,g1,g2,g3⟩:=ho
  rw[Qm]at g2
  by_cases e1:id=j
  ·subst e1
   rw[if_pos rfl,cH]at g2
   simp only[aP.from_,Option.some.injEq]at g2
   omega
  ·rw[if_neg e1]at g2
   rw[(K5 j (Ne.symm e1)).1]at g1
   split at g2
   ·simp[aP.from_]at g2
   ·rename_i h3; exact Q4 j (Ne.symm h3) (lR g2) g1
 ·rcases Nat.lt_or_ge y (o+l.length*T.sz)with q|q
  ·exact (hun y h1 q).2 he
  ·exact wf.uU b y ⟨i,c.off i,hb,by rw[hi]; rfl,by omega⟩ he
 ·cases hk
  refine ⟨⟨by simpa using hid,by rw[Qm,if_pos rfl]; simp⟩,fun _ => .inr ⟨b,o,iv,el,(fl,fh),bE _ _ _,rfl,cH _ _ _,hw.here,by rw[tW]; exact k8,hte⟩⟩
end

section
variable {P:Program} {tt:ca} {w w':World} {h:ai} {c:eT} {R:Type}

theorem Py {T:Ty} {l:List T.den} {us:List Value} (r:bl w h c (du T l) us) {arr:Array Value} {off:Nat} (ha:∀(k:Nat) (d:Value),us[k]? = some d→arr[off+k]? = some d) :
  ∀(n j:Nat) (x:T.den) (v:V),l[n]? = some x→(T.cells x)[j]? = some v→∃d,arr[off+n*T.sz+j]? = some d∧cd w h c v d:=by
 intro n j z v hz hv
 have hj:j<T.sz:=by rw[←T.dX z]; exact (List.getElem?_eq_some_iff.1 hv).1
 have hn:n<l.length:=(List.getElem?_eq_some_iff.1 hz).1
 have dH:n*T.sz+j<l.length*T.sz:=by
  have:=Nat.mul_le_mul_right T.sz hn
  rw[Nat.succ_mul]at this; omega
 have hl:=r.1
 rw[fo]at hl
 have hg:=List.getElem?_eq_getElem (show n*T.sz+j<us.length by omega)
 exact ⟨_,by rw[Nat.add_assoc]; exact ha _ _ hg,r.2 _ v _ ((tX T l n j z hz hj).trans hv) hg⟩

theorem ZM (wf:WF w h c) {i id:Nat} {T:Ty} {l m:List T.den} (hi:h.at i = .row T l) (hid:id<h.length) (hf:h.at id = .free) {b:Nat} (hb:c.mX i=some b)
  {arr iv:Array Value} {el:TypeId} {fz:Nat×Nat} (wv:w.heap[b]? = some (.cells arr el fz)) (hw:Ov w w' b iv el fz) {cap:Nat} (eQ:(l++m).length≤cap) (lD:cap≤mx) (k8:c.off i+cap*T.sz≤arr.size)
  {olds news:List Value} (ro:bl w h c (du T l) olds) (rn:bl w h c (du T m) news) (hold:l ≠ []→mH w b (c.off i) olds)
  (Hm:iv.toList=arr.toList.take (c.off i+l.length*T.sz)++news++arr.toList.drop (c.off i+l.length*T.sz+news.length)) :
  ∃c',WF w' ((h.set i .dead).set id (.row T (l++m))) c'∧Ext w h c w' ((h.set i .dead).set id (.row T (l++m))) c' ∧
   cd w' ((h.set i .dead).set id (.row T (l++m))) c' (.row id (l++m).length) (.slice (some ⟨b,c.off i,none⟩) (l++m).length cap):=by
 have gX:i≠id:=by rintro rfl; rw[hi]at hf; cases hf
 have hil:=ai.dR hi (by simp)
 have Q3:=ro.1
 have QZ:=rn.1
 rw[fo]at Q3 QZ
 have hmul:(l++m).length*T.sz≤cap*T.sz:=Nat.mul_le_mul_right _ eQ
 have hlm:(l++m).length*T.sz=l.length*T.sz+m.length*T.sz:=by rw[List.length_append,Nat.add_mul]
 have tW:iv.size=arr.size:=by
  rw[←Array.length_toList,Hm]; simp only[List.length_append,List.length_take,List.length_drop,Array.length_toList]; omega
 have Qm:∀j,ai.at ((h.set i .dead).set id (.row T (l++m))) j=if id=j then .row T (l++m)else if i=j then .dead else h.at j:=by
  intro j
  rw[gm,gm]
  by_cases h1:id=j
  ·simp[h1]; intro h2; subst h1; omega
  ·simp only[h1,false_and,if_false]
   by_cases h2:i=j
   ·subst h2; simp[hil]
   ·simp[h2]
 have K5:∀j,j≠id→(c.put id (some b) (c.off i)).mX j=c.mX j∧(c.put id (some b) (c.off i)).off j=c.off j:=fun j hj=>⟨lj _ _ hj,tS _ _ hj⟩
 have Q4:∀j,j≠i→(h.at j).live→c.mX j≠some b:=fun j hj hl hbj=>hj (wf.inj j i b hl (by rw[hi]; trivial) hbj hb)
 have fA:∀y,oF h c b y:=fun y=>⟨i,0,hb,by rw[hi]; rfl,Nat.zero_le _⟩
 have Hp:∀b' x,oF ((h.set i .dead).set id (.row T (l++m))) (c.put id (some b) (c.off i)) b' x→oF h c b' x:=by
  rintro b' x ⟨j,f,g1,g2,g3⟩
  rw[Qm]at g2
  by_cases h1:id=j
  ·subst h1
   rw[bE]at g1
   cases g1
   exact fA x
  ·rw[if_neg h1]at g2
   split at g2
   ·simp[aP.from_]at g2
   ·obtain ⟨e1,e2⟩:=K5 j (Ne.symm h1)
    rw[e1]at g1; rw[e2]at g2
    exact ⟨j,f,g1,g2,g3⟩
 have x:Ext w h c w' ((h.set i .dead).set id (.row T (l++m))) (c.put id (some b) (c.off i)):=by
  constructor
  ·exact hw.os
  ·exact hw.tape
  ·exact hw.output
  ·rw[hw.size]; exact Nat.le_refl _
  ·intro j hj
   refine ⟨by simpa using hj.1,?_⟩
   rw[Qm]
   split
   ·simp
   ·split
    ·simp
    ·exact hj.2
  ·intro j hj hd
   have SN:id≠j:=by rintro rfl; exact hj.2 hf
   rw[Qm,if_neg SN]at hd ⊢
   split
   ·rename_i h2; rw[if_pos h2]at hd; exact absurd rfl hd
   ·rename_i h2
    rw[if_neg h2]at hd
    refine ⟨?_,(K5 j (Ne.symm SN)).1,(K5 j (Ne.symm SN)).2⟩
    have h3:=hj.2
    revert hd h3
    cases h.at j <;> simp[aP.dV]
  ·intro b' y hy ho
   have Q5:b'≠b:=by rintro rfl; exact ho (fA y)
   exact qy (hw.other b' Q5)
  ·intro b' k9 ho
   have Q5:b'≠b:=by rintro rfl; exact ho 0 (fA 0)
   exact hw.other b' Q5
  ·intro b' y _ ho; exact Hp b' y ho
  ·rfl
  ·intro b' DB e' NG ha
   by_cases Q5:b'=b
   ·subst Q5
    rw[wv]at ha; cases ha
    exact ⟨iv,fz,hw.here,tW⟩
   ·exact ⟨DB,NG,by rw[hw.other b' Q5]; exact ha,rfl⟩
 obtain ⟨fl,fh⟩:=fz
 have ZL:=wf.obj i hil
 rw[hi]at ZL
 have TX:∀y,(y<arr.size∨T.DK=true)→w.frozen? ⟨b,y,none⟩=false:=by
  rcases ZL with ⟨h0,_⟩|⟨b',DB,e',NG,p1,p2,p3,p4,p5⟩
  ·rw[hb]at h0; cases h0
  ·rw[hb]at p1; cases p1
   rw[wv]at p2; cases p2
   exact p4
 have rr:bl w' ((h.set i .dead).set id (.row T (l++m))) (c.put id (some b) (c.off i)) (du T (l++m)) (olds++news):=by
  rw[o8]; exact (ro.mono x).append (rn.mono x)
 have DO:∀(k:Nat) (d:Value),(olds++news)[k]? = some d→iv[c.off i+k]? = some d:=by
  intro k d hd
  have l1:(arr.toList.take (c.off i+l.length*T.sz)).length=c.off i+l.length*T.sz:=by simp only[List.length_take,Array.length_toList]; omega
  rw[←Array.getElem?_toList,Hm,List.append_assoc]
  by_cases hk:k<olds.length
  ·rw[List.getElem?_append_left hk]at hd
   have hlne:l ≠ []:=by rintro rfl; simp at Q3; omega
   have hc1:=hold hlne k d hd
   rw[cell_of_row w b _ arr el (fl,fh) wv]at hc1
   rw[List.getElem?_append_left (by omega),List.getElem?_take,if_pos (by omega),Array.getElem?_toList]
   exact hc1
  ·rw[List.getElem?_append_right (by omega)]at hd
   have hj2:k - olds.length<news.length:=(List.getElem?_eq_some_iff.1 hd).1
   rw[List.getElem?_append_right (by omega),l1,List.getElem?_append_left (by omega)]
   rw[←hd]; congr 1; omega
 have TY:WF w' ((h.set i .dead).set id (.row T (l++m))) (c.put id (some b) (c.off i)):=by
  constructor
  ·intro b' y ho; exact wf.uU b' y (Hp b' y ho)
  ·intro b' y he; rw[hw.size]; exact wf.la b' y he
  ·intro j hj
   rw[Qm]
   by_cases h1:id=j
   ·subst h1
    rw[if_pos rfl]
    refine .inr ⟨b,iv,el,(fl,fh),bE _ _ _,hw.here,by rw[cH]; omega,fun y h1 => ?_,?_⟩
    ·have:=TX y (h1.imp (fun h=>by omega) fun h=>h)
     rw[zY wv]at this
     rw[zY hw.here]; exact this
    ·rw[cH]; exact Py rr DO
   ·rw[if_neg h1]
    split
    ·trivial
    ·rename_i h2
     by_cases hl:(h.at j).live
     ·refine (wf.obj j (by simpa using hj)).pP x (fun b' k9=>hw.other b' ?_) (K5 j (Ne.symm h1)).1 (K5 j (Ne.symm h1)).2
      rintro rfl
      exact Q4 j (Ne.symm h2) hl k9
     ·revert hl; cases h.at j <;> simp[aP.live,iN]
  ·intro j k b' hj hk h1 h2
   rw[Qm]at hj hk
   by_cases e1:id=j <;> by_cases e2:id=k
   ·exact e1.symm.trans e2
   ·subst e1
    rw[bE]at h1; cases h1
    rw[if_neg e2]at hk
    rw[(K5 k (Ne.symm e2)).1]at h2
    split at hk
    ·exact hk.elim
    ·rename_i h3; exact absurd h2 (Q4 k (Ne.symm h3) hk)
   ·subst e2
    rw[bE]at h2; cases h2
    rw[if_neg e1]at hj
    rw[(K5 j (Ne.symm e1)).1]at h1
    split at hj
    ·exact hj.elim
    ·rename_i h3; exact absurd h1 (Q4 j (Ne.symm h3) hj)
   ·rw[if_neg e1]at hj
    rw[if_neg e2]at hk
    rw[(K5 j (Ne.symm e1)).1]at h1
    rw[(K5 k (Ne.symm e2)).1]at h2
    split at hj
    ·exact hj.elim
    ·split at hk
     ·exact hk.elim
     ·exact wf.inj j k b' hj hk h1 h2
  ·exact wf.nz x
 refine ⟨_,TY,x, .row ⟨by simpa using hid,by rw[Qm,if_pos rfl]; simp⟩ (by omega) ⟨_,_,rfl,⟨eQ,lD,fun _=>⟨_,rfl⟩⟩,fun T' l' he => ?_⟩⟩
 rw[Qm,if_pos rfl]at he
 cases he
 exact ⟨rfl,eQ,lD, .inr ⟨b,iv,el,(fl,fh),bE _ _ _,by rw[cH],hw.here,by rw[cH,tW]; exact k8⟩⟩

def Pz (P:Program) (w:World) (h:ai) (c:eT) (s:Sem Value) (k:V→ai→Option R) (r:R):Prop :=
 ∃v h' v' w' c',s.run P w = .ok v' w'∧WF w' h' c'∧Ext w h c w' h' c'∧cd w' h' c' v v'∧k v h'=some r

theorem Hq (T:tq P tt) (wf:WF w h c) {t xt e id:Nat} (ht:(tt.at t).d = .slice e) (Q1:(∃e',P.underlying xt=some (.slice e'))∨P.underlying xt=some .string) {s x:V} {s' x':Value}
  (rs:cd w h c s s') (rx:cd w h c x x') (hid:id<h.length) (hf:h.at id = .free) (ty:Nat) {k:V→ai→Option R} {r:R} (hk:js tt e s x h id k=some r) :
  Pz P w h c (Builtin.append_ #[t,xt] ty #[s',x']) k r:=by
 unfold js at hk
 have hk0:=aV hk
 clear hk
 obtain ⟨Q6,hk⟩:=hk0
 unfold o6 at hk
 split at hk <;> try (first|cases hk)
 rename_i T' hty
 split at hk <;> try (first|cases hk)
 rename_i ko
 simp only[Bool.and_eq_true,decide_eq_true_eq,bne_iff_ne,ne_eq]at ko
 obtain ⟨⟨k8,hnz⟩,lh⟩:=ko
 split at hk <;> try (first|cases hk)
 rename_i m hsrc
 obtain ⟨news,n1,n2,n3,n4⟩:=Ve (P:=P) wf k8 rx Q6 hsrc
 clear Q6
 have QC:=n3.1
 rw[fo,k8]at QC
 have TZ:=TQ n3 (LZ T' m)
 have hbig:∀n:Nat,(n+m.length)*(tt.at e).bytes≤140737488355328→n+m.length≤mx:=fun n hb=>by
  have:n+m.length≤(n+m.length)*(tt.at e).bytes:=Nat.le_mul_of_pos_right _ (by omega)
  unfold mx; omega
 have hte:∀o:Nat,o=0→So T' o e:=fun o ho hT=>⟨ho,T.u8s e (by rw[hty,hT])⟩
 have T0:((0+m.length)*(tt.at e).bytes≤140737488355328)→k (.sl T' m (.own id)) (h.set id .tok)=some r→Pz P w h c (Builtin.append_ #[t,xt] ty #[.slice none 0 0,x']) k r:=by
  intro xJ hk
  have:=rj (P:=P) (w:=w) (A:=none) (n:=0) (cap:=0) (m:=m.length) (x:=x') (olds := []) (news:=news) T ht lh Q1 ty n1 n2 QC.symm TZ (by simp) (fun h=>absurd rfl h) (Nat.le_refl _) (by unfold mx; omega) (.inl ⟨rfl,rfl⟩) xJ (by omega)
  rcases this with ⟨h1,_,WQ,gN⟩|⟨_,b,o,arr,el,fz,w',iv,hA,_⟩|⟨cap,ds,h1,h2,h3,h4,gN⟩
  ·have hm:m = []:=List.eq_nil_of_length_eq_zero WQ
   subst hm
   obtain ⟨c',g1,g2,g3⟩:=Hn wf hid hf (T:=T')
   exact ⟨_,_,_,w,c',gN,g1,g2,g3,hk⟩
  ·cases hA
  ·rw[Nat.zero_add]at h1 h4 gN
   rw[←k8]at h3 h4
   obtain ⟨c',g1,g2,g3⟩:=Ox wf hid hf n3 (hte 0 rfl) h3 (by simpa using h4) h1 h2 (e:=e)
   exact ⟨_,_,_,_,c',gN,g1,g2,g3,hk⟩
 have DM:((0+m.length)*(tt.at e).bytes≤140737488355328)→k (.row id m.length) (h.set id (.row T' m))=some r→Pz P w h c (Builtin.append_ #[t,xt] ty #[.slice none 0 0,x']) k r:=by
  intro xJ hk
  have:=rj (P:=P) (w:=w) (A:=none) (n:=0) (cap:=0) (m:=m.length) (x:=x') (olds := []) (news:=news) T ht lh Q1 ty n1 n2 QC.symm TZ (by simp) (fun h=>absurd rfl h) (Nat.le_refl _) (by unfold mx; omega) (.inl ⟨rfl,rfl⟩) xJ (by omega)
  rcases this with ⟨h1,_,WQ,gN⟩|⟨_,b,o,arr,el,fz,w',iv,hA,_⟩|⟨cap,ds,h1,h2,h3,h4,gN⟩
  ·have hm:m = []:=List.eq_nil_of_length_eq_zero WQ
   subst hm
   obtain ⟨c',g1,g2,g3⟩:=L1 wf hid hf (T:=T')
   exact ⟨_,_,_,w,c',gN,g1,g2,g3,hk⟩
  ·cases hA
  ·rw[Nat.zero_add]at h1 h4 gN
   rw[←k8]at h3 h4
   obtain ⟨c',g1,g2,g3⟩:=Oy wf hid hf n3 h3 (by simpa using h4) h1 h2 (e:=e)
   exact ⟨_,_,_,_,c',gN,g1,g2,g3,hk⟩
 split at hk <;> try (first|cases hk)
 ·obtain ⟨xJ,hk⟩:=aV hk
  cases rs
  split at hk
  ·exact DM (by simpa using xJ) hk
  ·exact T0 (by simpa using xJ) hk
 ·rename_i T'' l tk
  split at hk <;> try (first|cases hk)
  rename_i q
  subst q
  simp only at hk
  split at hk <;> try (first|cases hk)
  ·obtain ⟨xJ,hk⟩:=aV hk
   cases rs with
   | sl f eQ lD hc hr vL fA =>
    obtain ⟨rfl,rfl⟩:=vL rfl
    have Su:l = []:=List.eq_nil_of_length_eq_zero (by omega)
    subst Su
    exact T0 (by simpa using xJ) hk
  ·rename_i i
   split at hk <;> try (first|cases hk)
   rename_i LI
   obtain ⟨xJ,hk⟩:=aV hk
   have L2:(l.length+m.length)*(tt.at e).bytes≤140737488355328:=by simpa using xJ
   have gX:i≠id:=by rintro rfl; rw[LI]at hf; cases hf
   have Vf:id<(h.set i .dead).length:=by simpa using hid
   have QM:ai.at (h.set i .dead) id = .free:=by rw[bm _ gX]; exact hf
   obtain ⟨A,cap,rfl,eQ,lD⟩:=Bt rs
   obtain ⟨olds,ro,ho⟩:=Q0 rs
   have hol:=ro.1
   rw[fo,k8]at hol
   have fA:(c.mX i=none∧A=none∧cap=0)∨∃b o arr e fz,c.mX i=some b∧A=some ⟨b,o,none⟩∧c.off i=o+l.length*T''.sz∧w.heap[b]? = some (.cells arr e fz)∧o+cap*T''.sz≤arr.size∧So T'' o e:=by
    cases rs with
    | sl f eQ lD hc hr vL fA=>exact (fA i rfl).2 LI
   have WT:=wf.obj i (ai.dR LI (by simp))
   rw[LI]at WT
   have hA:(A=none∧cap=0)∨∃b o arr el fz,A=some ⟨b,o,none⟩∧w.heap[b]? = some (.cells arr el fz)∧o+cap*(tt.at e).size≤arr.size∧∀y,o+l.length*(tt.at e).size≤y→y<arr.size→w.frozen? ⟨b,y,none⟩=false:=by
    rcases fA with ⟨_,h1,h2⟩|⟨b,o,arr,el,fz,g1,g2,g3,g4,g5,_⟩
    ·exact .inl ⟨h1,h2⟩
    ·refine .inr ⟨b,o,arr,el,fz,g2,g4,by rw[←k8]; exact g5,?_⟩
     rcases WT with h0|⟨b',DB,e',NG,p1,p2,p3,p4⟩
     ·rw[g1]at h0; cases h0
     ·rw[g1]at p1; cases p1
      rw[g4]at p2; cases p2
      intro y h1 h2
      exact SK g4 p4 (by rw[g3,k8]; exact h1)
   have:=rj (P:=P) (w:=w) (n:=l.length) (olds:=olds) T ht lh Q1 ty n1 n2 QC.symm TZ hol.symm (fun hn=>by
    obtain ⟨b,o,q1,q2,_⟩:=ho (by rintro rfl; exact hn rfl)
    exact ⟨b,o,q1,q2⟩) eQ lD hA L2 (hbig _ L2)
   have k1:=wu (w:=w) (h:=h) (c:=c) i
   have k2:=Lc wf i
   rcases this with ⟨h1,hA0,WQ,gN⟩|⟨Q2,b,o,arr,el,fz,w',iv,ZN,wv,hsz1,gN,hw,Hm⟩|⟨cap',ds,h1,h2,h3,h4,gN⟩
   ·have hm:m = []:=List.eq_nil_of_length_eq_zero WQ
    subst hm
    have Su:l = []:=by
     rcases fA with ⟨_,_,La⟩|⟨b,o,arr,el,fz,_,g2,_⟩
     ·exact List.eq_nil_of_length_eq_zero (by omega)
     ·rw[g2]at hA0; cases hA0
    subst Su
    have La:cap=0:=by
     rcases fA with ⟨_,_,La⟩|⟨b,o,arr,el,fz,_,g2,_⟩
     ·exact La
     ·rw[g2]at hA0; cases hA0
    subst La
    subst hA0
    obtain ⟨c',g1,g2,g3⟩:=Hn k2 Vf QM (T:=T'')
    exact ⟨_,_,_,w,c',gN,g1,k1.trans g2,g3,hk⟩
   ·rcases fA with ⟨_,hA2,_⟩|⟨b',o',DB,el',NG,g1,g2,g3,g4,g5,g6⟩
    ·rw[hA2]at ZN; cases ZN
    ·rw[g2]at ZN; cases ZN
     rw[g4]at wv; cases wv
     subst g2
     have hlen:(l++m).length=l.length+m.length:=List.length_append
     obtain ⟨c',q1,q2,q3⟩:=ZK (l:=l) (m:=m) wf LI hid hf g1 g3 g6 g4 hw (by omega) lD g5 ro n3 (fun gX=>by
      obtain ⟨b2,o2,p1,p2,_⟩:=ho gX
      cases p1; exact p2) (fun y y1 y2=>by
      by_cases gX:l = []
      ·subst gX; simp at y2; omega
      ·obtain ⟨b2,o2,p1,_,p3⟩:=ho gX
       cases p1; exact p3 y y1 y2) (by rw[k8]; exact Hm)
     rw[hlen]at q3
     exact ⟨_,_,_,w',c',gN,q1,q2,q3,hk⟩
   ·have hlen:(l++m).length=l.length+m.length:=List.length_append
    obtain ⟨c',q1,q2,q3⟩:=Ox (l:=l++m) k2 Vf QM (by rw[o8]; exact (ro.mono k1).append (n3.mono k1)) (hte 0 rfl) (by rw[k8]; exact h3) (by rw[hlen,k8]; exact h4) (by omega) h2 (e:=e)
    rw[hlen]at q3
    exact ⟨_,_,_,_,c',gN,q1,k1.trans q2,q3,hk⟩
 ·rename_i i n
  split at hk <;> try (first|cases hk)
  rename_i T'' l uV
  split at hk <;> try (first|cases hk)
  rename_i q
  subst q
  obtain ⟨xJ,hk⟩:=aV hk
  simp only at hk
  have L2:(l.length+m.length)*(tt.at e).bytes≤140737488355328:=by simpa using xJ
  have gX:i≠id:=by rintro rfl; rw[uV]at hf; cases hf
  have Vf:id<(h.set i .dead).length:=by simpa using hid
  have QM:ai.at (h.set i .dead) id = .free:=by rw[bm _ gX]; exact hf
  obtain ⟨olds,ro,ho⟩:=Ld wf uV
  have hol:=ro.1
  rw[fo,k8]at hol
  have WT:=wf.obj i (ai.dR uV (by simp))
  rw[uV]at WT
  cases rs with
  | row hu hn hv =>
   obtain ⟨A,cap,rfl,hA0,hv⟩:=hv
   obtain ⟨hnl',eQ,lD,fA⟩:=hv _ _ uV
   subst hnl'
   have hA:(A=none∧cap=0)∨∃b o arr el fz,A=some ⟨b,o,none⟩∧w.heap[b]? = some (.cells arr el fz)∧o+cap*(tt.at e).size≤arr.size∧∀y,o+l.length*(tt.at e).size≤y→y<arr.size→w.frozen? ⟨b,y,none⟩=false:=by
    rcases fA with ⟨_,h1,h2⟩|⟨b,arr,el,fz,g1,g2,g4,g5⟩
    ·exact .inl ⟨h1,h2⟩
    ·refine .inr ⟨b,c.off i,arr,el,fz,g2,g4,by rw[←k8]; exact g5,?_⟩
     rcases WT with ⟨h0,_⟩|⟨b',DB,e',NG,p1,p2,p3,p4,_⟩
     ·rw[g1]at h0; cases h0
     ·rw[g1]at p1; cases p1
      rw[g4]at p2; cases p2
      intro y _ h2
      exact p4 y (.inl h2)
   have:=rj (P:=P) (w:=w) (n:=l.length) (olds:=olds) T ht lh Q1 ty n1 n2 QC.symm TZ hol.symm (fun hn=>by
    obtain ⟨b,q1,q2⟩:=ho (by rintro rfl; exact hn rfl)
    rcases fA with ⟨p1,_⟩|⟨b',arr,el,fz,p1,p2,_⟩
    ·rw[q1]at p1; cases p1
    ·rw[q1]at p1; cases p1
     exact ⟨b,_,p2,q2⟩) eQ lD hA L2 (hbig _ L2)
   have k1:=wu (w:=w) (h:=h) (c:=c) i
   have k2:=Lc wf i
   have hlen:(l++m).length=l.length+m.length:=List.length_append
   rcases this with ⟨h1,hAn,WQ,gN⟩|⟨Q2,b,o,arr,el,fz,w',iv,ZN,wv,hsz1,gN,hw,Hm⟩|⟨cap',ds,h1,h2,h3,h4,gN⟩
   ·have hm:m = []:=List.eq_nil_of_length_eq_zero WQ
    subst hm
    have La:cap=0:=by
     rcases fA with ⟨_,_,La⟩|⟨b,arr,el,fz,_,g2,_⟩
     ·exact La
     ·rw[g2]at hAn; cases hAn
    have Su:l = []:=List.eq_nil_of_length_eq_zero (by omega)
    subst Su
    subst La
    subst hAn
    obtain ⟨c',g1,g2,g3⟩:=L1 k2 Vf QM (T:=T'')
    exact ⟨_,_,_,w,c',gN,g1,k1.trans g2,g3,hk⟩
   ·rcases fA with ⟨_,hA2,_⟩|⟨b',DB,el',NG,g1,g2,g4,g5⟩
    ·rw[hA2]at ZN; cases ZN
    ·rw[g2]at ZN; cases ZN
     rw[g4]at wv; cases wv
     subst g2
     obtain ⟨c',q1,q2,q3⟩:=ZM (l:=l) (m:=m) wf uV hid hf g1 g4 hw (by omega) lD g5 ro n3 (fun gX=>by
      obtain ⟨b2,p1,p2⟩:=ho gX
      rw[g1]at p1; cases p1; exact p2) (by rw[k8]; exact Hm)
     rw[hlen]at q3
     exact ⟨_,_,_,w',c',gN,q1,q2,q3,hk⟩
   ·obtain ⟨c',q1,q2,q3⟩:=Oy (l:=l++m) k2 Vf QM (by rw[o8]; exact (ro.mono k1).append (n3.mono k1)) (by rw[k8]; exact h3) (by rw[hlen,k8]; exact h4) (by omega) h2 (e:=e)
    rw[hlen]at q3
    exact ⟨_,_,_,_,c',gN,q1,k1.trans q2,q3,hk⟩
end

section
variable {P:Program} {tt:ca} {w w':World} {h:ai} {c:eT} {R:Type}

def Obj.T1:Obj→Bool
 | .cells _ _ _=>true
 | _=>false

theorem PA (wf:WF w h c) {i b:Nat} {o':aP} {o1 o2:Obj} (hb:c.mX i=some b) (h1:w.heap[b]? = some o1) (hn1:Obj.T1 o1=false)
  (o7:(h.at i).from_ (c.off i)=some 0) (LX:o'.from_ (c.off i)=some 0) (qT:(h.at i).dV o')
  (Bw:Ext w h c { w with heap:=w.heap.setIfInBounds b o2 } (h.set i o') c→iN { w with heap:=w.heap.setIfInBounds b o2 } (h.set i o') c i o') :
  WF { w with heap:=w.heap.setIfInBounds b o2 } (h.set i o') c∧Ext w h c { w with heap:=w.heap.setIfInBounds b o2 } (h.set i o') c:=by
 have hi:i<h.length:=ai.dR rfl (aP.zV qT).1
 have fA:∀x,oF h c b x:=fun x=>⟨i,0,hb,o7,Nat.zero_le _⟩
 have PB:∀k,k≠b→(w.heap.setIfInBounds b o2)[k]? = w.heap[k]? :=fun k hk=>by
  rw[Array.getElem?_setIfInBounds]; simp[Ne.symm hk]
 have hli:=lR o7
 have x:Ext w h c { w with heap:=w.heap.setIfInBounds b o2 } (h.set i o') c:=by
  constructor
  ·rfl
  ·rfl
  ·rfl
  ·simp
  ·intro j hj
   by_cases tR:i=j
   ·subst tR
    refine ⟨by simpa using hj.1,?_⟩
    rw[fT _ hi]
    intro he; subst he; simp[aP.from_]at LX
   ·exact ⟨by simpa using hj.1,by rw[bm _ tR]; exact hj.2⟩
  ·intro j hj hd
   refine ⟨?_,rfl,rfl⟩
   by_cases tR:i=j
   ·subst tR; rw[fT _ hi]; exact qT
   ·rw[bm _ tR]at hd ⊢
    have h2:=hj.2
    revert hd h2
    cases h.at j <;> simp[aP.dV]
  ·intro b' x hx ho
   have gX:b'≠b:=by rintro rfl; exact ho (fA x)
   exact qy (PB b' gX)
  ·intro b' hx ho
   have gX:b'≠b:=by rintro rfl; exact ho 0 (fA 0)
   exact PB b' gX
  ·rintro b' x hx ⟨j,f,g1,g2,g3⟩
   by_cases tR:i=j
   ·subst tR
    rw[hb]at g1; cases g1
    exact fA x
   ·rw[bm _ tR]at g2
    exact ⟨j,f,g1,g2,g3⟩
  ·rfl
  ·intro b' arr el NG ha
   by_cases gX:b'=b
   ·subst gX
    rw[h1]at ha; cases ha
    simp[Obj.T1]at hn1
   ·exact ⟨arr,NG,by rw[PB b' gX]; exact ha,rfl⟩
 have QW:∀j,(ai.at (h.set i o') j).live→(h.at j).live:=fun j hj=>by
  by_cases tR:i=j
  ·subst tR; exact hli
  ·rw[bm _ tR]at hj; exact hj
 refine ⟨?_,x⟩
 constructor
 ·intro b' y ho he
  exact wf.uU b' y (x.tp b' y (wf.la b' y he) ho) he
 ·intro b' y he
  simpa using wf.la b' y he
 ·intro j hj
  by_cases tR:i=j
  ·subst tR; rw[fT _ hi]; exact Bw x
  ·rw[bm _ tR]
   by_cases hl:(h.at j).live
   ·refine (wf.obj j (by simpa using hj)).pP x (fun b' k9=>PB b' ?_) rfl rfl
    rintro rfl
    exact tR (wf.inj i j b' hli hl hb k9)
   ·revert hl; cases h.at j <;> simp[aP.live,iN]
 ·intro j k b' hj hk h1 h2
  exact wf.inj j k b' (QW j hj) (QW k hk) h1 h2
 ·exact wf.nz x

theorem Vg (s:ByteArray) (i:Nat):(Utf8.decode s i).1<2097152∧1≤(Utf8.decode s i).2∧(Utf8.decode s i).2≤4:=by
 have hb:∀k,(s.get! k).toNat<256:=fun k=>UInt8.toNat_lt _
 have h0:=hb (i+0)
 unfold Utf8.decode
 simp only
 split
 ·exact ⟨by omega,by simp,by simp⟩
 ·split
  ·split
   ·exact ⟨by simp only; omega,by simp,by simp⟩
   ·exact ⟨by simp[Utf8.runeError],by simp,by simp⟩
  ·split
   ·split
    ·exact ⟨by simp only; omega,by simp,by simp⟩
    ·exact ⟨by simp[Utf8.runeError],by simp,by simp⟩
   ·split
    ·split
     ·exact ⟨by simp only; omega,by simp,by simp⟩
     ·exact ⟨by simp[Utf8.runeError],by simp,by simp⟩
    ·exact ⟨by simp[Utf8.runeError],by simp,by simp⟩

theorem WU (n:Nat) (h:n<2097152):IntKind.i32.has (n:Int):=by
 unfold IntKind.has; simp[IntKind.min,IntKind.max,IntKind.signed,IntKind.bits]; omega

theorem SO (wf:WF w h c) {i:Nat} {s:aA} {pos:Nat} {a':Value} (ra:cd w h c (.ptr i 0) a') (hit:h.at i = .iter s pos) (ty:TypeId) {k:V→ai→Option R} {r:R}
  (hk:(bif decide (pos<s.length)then k (.tuple [.bool true, .int .i64 pos, .int .i32 (wm s pos).1]) (h.set i (.iter s (pos+(wm s pos).2)))else k (.tuple [.bool false]) h)=some r) :
  Pz P w h c (Instr.next a' true ty) k r:=by
 have hi:=ai.dR hit (by simp)
 have ho:=wf.obj i hi
 rw[hit]at ho
 obtain ⟨b,bs,g1,g2,g3,g4⟩:=ho
 cases ra with
 | ptr hu hv =>
  obtain ⟨b',rfl,k9⟩:=hv
  have:=k9 (by rw[hit]; simp)
  rw[g1]at this; cases this
  have hlen:s.length=bs.size:=by rw[←g3,size_data]
  have hbs:bs=⟨s.toArray⟩:=wq (by rw[g3])
  have hdec:Utf8.decode bs pos=wm s pos:=by rw[hbs]; rfl
  have DQ:(getObj b).run P w = .ok (.stringIter bs pos) w:=by simp[getObj,Sem.run,g2]
  by_cases hp:pos<s.length
  ·have hc:decide (pos<s.length)=true:=by simpa using hp
   rw[hc]at hk
   have WV:(setObj b (.stringIter bs (pos+(wm s pos).2))).run P w = .ok () { w with heap:=w.heap.setIfInBounds b (.stringIter bs (pos+(wm s pos).2)) }:=by
    simp[setObj,Sem.run,g2]
   have dH:b<w.heap.size:=uF g2
   have hrune:=(Vg bs pos).1
   rw[hdec]at hrune
   have o7:(h.at i).from_ (c.off i)=some 0:=by rw[hit]; rfl
   have qT:(h.at i).dV (.iter s (pos+(wm s pos).2)):=by rw[hit]; trivial
   obtain ⟨q1,q2⟩:=PA wf (o' := .iter s (pos+(wm s pos).2)) (o2 := .stringIter bs (pos+(wm s pos).2)) g1 g2 rfl o7 rfl qT
    (fun _=>⟨b,bs,g1,by simp[Array.getElem?_setIfInBounds,dH],g3,g4⟩)
   refine ⟨_,_, .tuple #[.bool true,goInt pos, .int .i32 (wm s pos).1],_,c,?_,q1,q2,?_,hk⟩
   ·simp only[Instr.next,Sem.run_bind,DQ,Result.andThen_ok]
    rw[if_pos (by omega),hdec]
    simp only[Sem.run_bind,WV,Result.andThen_ok,Sem.run_pure]
   ·refine .tuple rfl fun j v d hv hd => ?_
    match j,hv,hd with
    | 0,hv,hd=>simp at hv hd; subst hv; subst hd; exact .bool _
    | 1,hv,hd=>simp[goInt]at hv hd; subst hv; subst hd; exact .int (E5 _ (by omega))
    | 2,hv,hd=>simp at hv hd; subst hv; subst hd; exact .int (WU _ hrune)
    | j+3,hv,_=>simp at hv
  ·have hc:decide (pos<s.length)=false:=by simpa using hp
   rw[hc]at hk
   refine ⟨_,_, .tuple #[.bool false],w,c,?_,wf, .refl _ _ _,?_,hk⟩
   ·simp only[Instr.next,Sem.run_bind,DQ,Result.andThen_ok]
    rw[if_neg (by omega)]
    rfl
   ·refine .tuple rfl fun j v d hv hd => ?_
    match j,hv,hd with
    | 0,hv,hd=>simp at hv hd; subst hv; subst hd; exact .bool _
    | j+1,hv,_=>simp at hv
end
end Go.ad

namespace Go.ad
open Go.RowKit Go.MapKept

section
variable {P:Program} {tt:ca} {w w':World} {h:ai} {c:eT} {R:Type}

theorem Hr (T:tq P tt) (wf:WF w h c) {t kt vt i:Nat} {K V':Ty} {l:List (K.den×V'.den)} (ht:(tt.at t).d = .map kt vt) {m d y:Value} (rm:cd w h c (.map i) m) (hm:h.at i = .qW K V' l)
  (hf:(qX tt kt K&&va tt vt V')=true) {v u:V} (rk:cd w h c v d) (ru:cd w h c u y) {kx:K.den} {vx:V'.den} (hx:Y9 K v=some kx) (hy:Y9 V' u=some vx) :
  ∃w',(Instr.mapUpdate t m d y).run P w = .ok () w'∧WF w' (h.set i (.qW K V' (yu K V' kx vx l))) c∧Ext w h c w' (h.set i (.qW K V' (yu K V' kx vx l))) c:=by
 simp only[Bool.and_eq_true]at hf
 obtain ⟨QM,hf2⟩:=hf
 have hi:=ai.dR hm (by simp)
 have ho:=wf.obj i hi
 rw[hm]at ho
 obtain ⟨b,es,clock,g1,g2,g3,g4,g5,g6⟩:=ho
 cases rm with
 | map hu hv =>
  obtain ⟨b',rfl,k9⟩:=hv
  have:=k9 (by rw[hm]; simp)
  rw[g1]at this; cases this
  have hut:P.underlying t=some (.map kt vt):=cG T ht
  have e:=Ss hx (LQ QM).1
  subst e
  have e:=Ss hy (LR hf2)
  subst e
  have hl:es.toList.length=l.length:=by simpa using g5
  have hr:∀(j:Nat) (x:K.den×V'.den) (e:MapEntry),l[j]? = some x→es.toList[j]? = some e→cd w h c (Nv K x.1) e.key:=fun j x e hx he=>(g6 j x e hx (by simpa using he)).1
  obtain ⟨u,Wi,hik,_⟩:=Hh T QM rk rk
  have Hi:=run_findKey (w:=w) Wi (LP T QM rk Wi l es.toList 0 hl hr)
  have WM:=run_checkKey (w:=w) Wi hik false 9999
  have DQ:=Go.MapKept.run_getObj_map (P:=P) g2
  have dH:b<w.heap.size:=uF g2
  have o7:(h.at i).from_ (c.off i)=some 0:=by rw[hm]; rfl
  have qT:∀l':List (K.den×V'.den),(h.at i).dV (.qW K V' l'):=fun l'=>by rw[hm]; exact ⟨rfl,rfl⟩
  rcases IW (K:=K) (T:=V') (k:=kx) l es.toList 0 hl with ⟨h1,h2,h3,h4⟩|⟨j,x,e,h1,h2,h3,h4,h5,h6,h7⟩
  ·rw[h1]at Hi
   rw[h4 vx]
   have WV:=Go.MapKept.run_setObj_map (P:=P) (.map (es.push { key:=d,val:=y,born:=clock }) (clock+1)) g2
   obtain ⟨q1,q2⟩:=PA wf (o' := .qW K V' (l ++ [(kx,vx)])) (o2 := .map (es.push { key:=d,val:=y,born:=clock }) (clock+1)) g1 g2 rfl o7 rfl (qT _) (fun x=>by
    refine ⟨b,es.push { key:=d,val:=y,born:=clock },clock+1,g1,by simp[Array.getElem?_setIfInBounds,dH],g3,g4,by simp[g5],fun j q e hq he => ?_⟩
    by_cases hj:j<l.length
    ·rw[List.getElem?_append_left hj]at hq
     rw[Array.getElem?_push,if_neg (by omega)]at he
     exact ⟨(g6 j q e hq he).1.mono x,(g6 j q e hq he).2.mono x⟩
    ·have hj2:j=l.length:=by
      have:=(List.getElem?_eq_some_iff.1 hq).1
      simp at this; omega
     subst hj2
     rw[List.getElem?_append_right (Nat.le_refl _)]at hq
     simp at hq; subst hq
     rw[Array.getElem?_push,if_pos g5.symm]at he
     cases he
     exact ⟨rk.mono x,ru.mono x⟩)
   refine ⟨_,?_,q1,q2⟩
   simp[Instr.mapUpdate,run_underlying hut,DQ,WM,Hi,WV]
  ·rw[Nat.zero_add]at h1
   rw[h1]at Hi
   rw[h7 vx]
   have hej:es[j]? = some e:=by simpa using h3
   have WW:e.key=d:=by
    obtain ⟨u2,_,_,_,_,q⟩:=Hh T QM rk (g6 j x e h2 hej).1
    exact q h4
   have hget2:((es[j]?).map (·.key)).getD d=d:=by rw[hej]; simpa using WW
   have hstay:=run_keyThatStays (P:=P) (w:=w) hik
   have WV:=Go.MapKept.run_setObj_map (P:=P) (.map (es.modify j fun e => { e with key:=d,val:=y }) clock) g2
   obtain ⟨q1,q2⟩:=PA wf (o' := .qW K V' (l.set j (kx,vx))) (o2 := .map (es.modify j fun e => { e with key:=d,val:=y }) clock) g1 g2 rfl o7 rfl (qT _) (fun x'=>by
    refine ⟨b,es.modify j fun e => { e with key:=d,val:=y },clock,g1,by simp[Array.getElem?_setIfInBounds,dH],g3,g4,by simp[g5],fun j' q e' hq he => ?_⟩
    rw[Array.getElem?_modify]at he
    rw[List.getElem?_set]at hq
    by_cases hj:j=j'
    ·subst hj
     rw[if_pos rfl]at hq he
     rw[hej]at he
     simp at he; subst he
     split at hq
     ·cases hq; exact ⟨rk.mono x',ru.mono x'⟩
     ·cases hq
    ·rw[if_neg hj]at hq he
     exact ⟨(g6 j' q e' hq he).1.mono x',(g6 j' q e' hq he).2.mono x'⟩)
   refine ⟨_,?_,q1,q2⟩
   simp only[Instr.mapUpdate,Sem.run_bind,run_underlying hut,Result.andThen_ok,DQ,WM,Hi,hget2,hstay,WV]
end
end Go.ad

namespace Go.ad
open Go.RowKit

section
variable {P:Program} {tt:ca} {w w':World} {h:ai} {c:eT} {R:Type}

theorem L3 (T:tq P tt) (wf:WF w h c) {t:Nat} {v:V} {a':Value} (ra:cd w h c v a') {k:V→ai→Option R} {r:R} (hk:zT tt t v h k=some r) :
  ∃u h' d,(Instr.sliceAt t a' none none none).run P w = .ok d w∧WF w h' c∧Ext w h c w h' c∧cd w h' c u d∧k u h'=some r:=by
 unfold zT at hk
 split at hk <;> try (first|cases hk)
 rename_i m e i hd
 split at hk <;> try (first|cases hk)
 rename_i cs tW
 split at hk <;> try (first|cases hk)
 rename_i T' hT
 split at hk <;> try (first|cases hk)
 rename_i hc
 simp only[Bool.and_eq_true,decide_eq_true_eq]at hc
 obtain ⟨⟨⟨⟨k8,lh⟩,hlen⟩,WQ⟩,hm⟩:=hc
 split at hk <;> try (first|cases hk)
 rename_i l hl
 have hu:P.underlying t=some (.array m e):=cG T hd
 have yx:=T.sizeOf (w:=w) lh
 have hi:i<h.length:=ai.dR tW (by simp)
 have ho:=wf.obj i hi
 rw[tW]at ho
 obtain ⟨b,arr,el,g1,g2,g3⟩:=ho
 cases ra with
 | ptr hi' hv =>
  obtain ⟨b',rfl,k9⟩:=hv
  have Q5:=k9 (by rw[tW]; simp)
  rw[g1]at Q5
  cases Q5
  have hll:l.length=m:=by
   rw[tU hl]
   exact tT _ _ _
  have hae:P.arrayLen t=m∧P.elem t=e:=by
   unfold Program.arrayLen Program.elem
   rw[hu]
   exact ⟨rfl,rfl⟩
  have rr:=L0 hlen g3 hl
  have gN:=run_sliceAt_array_all (P:=P) w t ⟨b,0,none⟩ (by rw[hae.1,hae.2]; exact hu)
  rw[hae.1,hae.2,yx]at gN
  have gX:¬m=0:=WQ
  refine ⟨.sl T' l .no,h.set i .dead, .slice (some ⟨b,0,none⟩) l.length m,?_,Lc wf i,wu i,?_,hk⟩
  ·rw[gN,hll]
   simp[slicedAt,gX,kk]
  ·refine uW (rr.mono (wu i)) (by omega) (by unfold mx; omega) (fun _ => ?_) (fun h=>by cases h) (fun _ h=>by cases h)
   refine ⟨b,0,rfl,fun j d hj => ?_,fun x _ _ => ?_⟩
   ·rw[Nat.zero_add]
    have e:w.cell? ⟨b,j,none⟩=arr[j]? :=by simp[World.cell?,g2]
    rw[e]
    simpa using hj
   ·have fA:oF h c b x:=⟨i,0,g1,by rw[tW]; rfl,Nat.zero_le _⟩
    refine ⟨fun hq => ?_,wf.uU b x fA⟩
    obtain ⟨j,f,q1,q2,q3⟩:=hq
    rw[gm]at q2
    split at q2
    ·cases q2
    ·rename_i tR
     have:=wf.inj i j b (by rw[tW]; trivial) (lR q2) g1 q1
     exact tR ⟨this,hi⟩

theorem Vh (T:tq P tt) (wf:WF w h c) {o:Oper} {ρ:Operand→V} {ρ':Operand→Value} (hρ:∀x,cd w h c (ρ x) (ρ' x)) {id:Nat} (hid:id<h.length) (hf:h.at id = .free) {k:V→ai→Option R} {r:R}
  (hk:Lz tt o.op ρ h id k=some r) :
  ∃v h' v' w' c' nx,(execOp ρ' o).run P w = .ok nx w'∧(nx = .value v'∨nx = .skip∧v'=undef)∧WF w' h' c'∧Ext w h c w' h' c'∧cd w' h' c' v v'∧k v h'=some r:=by
 obtain ⟨dst,op,type,pos,after,guard⟩:=o
 cases op <;> (try simp only[Lz]at hk) <;> try (first|cases hk)
 case store t x y =>
  split at hk <;> try (first|cases hk)
  rename_i vs hvs
  obtain ⟨rv,h1,_⟩:=DN (hρ y) hvs
  split at hk <;> try (first|cases hk)
  rename_i ko
  simp only[Bool.and_eq_true,decide_eq_true_eq]at ko
  obtain ⟨lh,k8⟩:=ko
  have rx:=hρ x
  split at hk <;> try (first|cases hk)
  ·rename_i i o hx
   rw[hx]at rx
   split at hk <;> try (first|cases hk)
   ·rename_i cs tW
    split at hk <;> try (first|cases hk)
    rename_i dH
    obtain ⟨w',g1,g2,g3⟩:=QX (P:=P) wf T rx tW rv h1 lh k8 dH
    exact ⟨_,_,undef,w',c, .skip,by simp[execOp,g1], .inr ⟨rfl,rfl⟩,g2,g3, .undef _,hk⟩
   rename_i u tW
   split at hk <;> try (first|cases hk)
   rename_i v
   obtain ⟨w',g1,g2,g3⟩:=U9 (P:=P) wf T rx tW rv h1 lh (by simpa using k8)
   exact ⟨_,_,undef,w',c, .skip,by simp[execOp,g1], .inr ⟨rfl,rfl⟩,g2,g3, .undef _,hk⟩
  ·rename_i i sz j o hx
   rw[hx]at rx
   split at hk <;> try (first|cases hk)
   rename_i T' l uV
   split at hk <;> try (first|cases hk)
   rename_i hn
   split at hk <;> try (first|cases hk)
   rename_i dH
   split at hk <;> try (first|cases hk)
   rename_i z hz
   obtain ⟨hj,hk⟩:=aV hk
   simp only[decide_eq_true_eq]at hj
   obtain ⟨w',g1,g2,g3⟩:=Va (P:=P) wf T rx uV rv h1 lh hn k8 hj dH hz
   exact ⟨_,_,undef,w',c, .skip,by simp[execOp,g1], .inr ⟨rfl,rfl⟩,g2,g3, .undef _,hk⟩
 case slice t x lo hi mx =>
  cases lo <;> cases hi <;> cases mx <;> simp only[Option.isNone,Bool.and_true,Bool.and_false,Bool.false_and,cond_true,cond_false]at hk <;> try (first|cases hk)
  obtain ⟨u,h',d,g1,g2,g3,g4,g5⟩:=L3 T wf (hρ x) hk
  exact ⟨u,h',d,w,c, .value d,by simp[execOp,g1], .inl rfl,g2,g3,g4,g5⟩
 case mapUpdate t m x y =>
  have rm:=hρ m
  split at hk <;> try (first|cases hk)
  rename_i kt vt i ht hx
  rw[hx]at rm
  split at hk <;> try (first|cases hk)
  rename_i K V' l hm
  split at hk <;> try (first|cases hk)
  rename_i hf
  split at hk <;> try (first|cases hk)
  rename_i kx vx ZH ZO
  obtain ⟨w',g1,g2,g3⟩:=Hr (P:=P) T wf ht rm hm hf (hρ x) (hρ y) ZH ZO
  exact ⟨_,_,undef,w',c, .skip,by simp[execOp,g1], .inr ⟨rfl,rfl⟩,g2,g3, .undef _,hk⟩
 case insert t m x y =>
  have rm:=hρ m
  split at hk <;> try (first|cases hk)
  rename_i kt vt i ht hx
  rw[hx]at rm
  split at hk <;> try (first|cases hk)
  rename_i K V' l hm
  split at hk <;> try (first|cases hk)
  rename_i hf
  split at hk <;> try (first|cases hk)
  rename_i kx vx ZH ZO
  obtain ⟨w',g1,g2,g3⟩:=Hr (P:=P) T wf ht rm hm hf (hρ x) (hρ y) ZH ZO
  exact ⟨_,_,undef,w',c, .skip,by simp[execOp,g1], .inr ⟨rfl,rfl⟩,g2,g3, .undef _,hk⟩
 case next x str =>
  have rx:=hρ x
  split at hk <;> try (first|cases hk)
  rename_i i hx
  rw[hx]at rx
  split at hk <;> try (first|cases hk)
  rename_i s pos hit
  obtain ⟨v,h',v',w',c',g1,g2,g3,g4,g5⟩:=SO (P:=P) wf rx hit type hk
  exact ⟨v,h',v',w',c', .value v',by simp[execOp,g1], .inl rfl,g2,g3,g4,g5⟩
 case call cl =>
  obtain ⟨callee,args,argTypes⟩:=cl
  simp only at hk
  split at hk <;> try (first|cases hk)
  rename_i s x t xt ha Qm
  obtain rfl:args = #[s,x]:=by cases args; simp_all
  obtain rfl:argTypes = #[t,xt]:=by cases argTypes; simp_all
  split at hk <;> try (first|cases hk)
  ·rename_i e e' ht Q1
   have hu:=cG T Q1
   simp only[TD.Is]at hu
   obtain ⟨v,h',v',w',c',g1,g2,g3,g4,g5⟩:=Hq T wf ht (.inl ⟨_,hu⟩) (hρ s) (hρ x) hid hf type hk
   exact ⟨v,h',v',w',c', .value v',by simp[execOp,resolve,invoke,builtin,g1], .inl rfl,g2,g3,g4,g5⟩
  ·rename_i e ht Q1
   have hu:=cG T Q1
   simp only[TD.Is]at hu
   obtain ⟨v,h',v',w',c',g1,g2,g3,g4,g5⟩:=Hq T wf ht (.inr hu) (hρ s) (hρ x) hid hf type hk
   exact ⟨v,h',v',w',c', .value v',by simp[execOp,resolve,invoke,builtin,g1], .inl rfl,g2,g3,g4,g5⟩
end

section
variable {w w':World} {h h2:ai} {c c2:eT}

theorem Le (ρ:Nat→Option Nat):∀l:List V,V.tP ρ l=l.map (V.kj ρ)
 | []=>rfl
 | v::l=>by simp only[V.tP,List.map_cons,Le ρ l]

theorem o9 (ρ:Nat→Option Nat) (l:List V):(V.tP ρ l).length=l.length:=by simp[Le]
theorem wx (ρ:Nat→Option Nat) (l:List V) (j:Nat):(V.tP ρ l)[j]? = (l[j]?).map (V.kj ρ):=by simp[Le]

structure Oz (ρ:Nat→Option Nat) (h:ai) (c:eT) (h2:ai) (c2:eT):Prop where
 used:∀i j,ρ i=some j→Used h i→Used h2 j
 obj:∀i j,ρ i=some j→h2.at j ≠ .dead→h.at i ≠ .dead∧c2.mX j=c.mX i∧c2.off j=c.off i
 tok:∀i j,ρ i=some j→h2.at j = .tok→h.at i = .tok
 row:∀i j,ρ i=some j→∀(T:Ty) (l:List T.den),h2.at j = .row T l→h.at i = .row T l
 free:∀b x,Fi h c b x→Fi h2 c2 b x

theorem cd.kj {ρ:Nat→Option Nat} (k:Oz ρ h c h2 c2) {v:V} {d:Value} (r:cd w h c v d):cd w h2 c2 (v.kj ρ) d:=by
 induction r with
 | undef v=>exact .undef v
 | int hn=>exact .int hn
 | bool b=>exact .bool b
 | str hl=>exact .str hl
 | gk=>exact .gk
 | aI=>exact .aI
 | fB=>exact .fB
 | km=>exact .km
 | dd=>exact .dd
 | iface t v=>exact .iface t v
 | Lq hn=>exact .Lq hn
 | Fh b=>exact .Fh b
 | @ptr i o v hi hv =>
  obtain ⟨b,hv,hb⟩:=hv
  simp only[V.kj]
  cases e:ρ i with
  | none=>exact .undef _
  | some j=>exact .ptr (k.used i j e hi) ⟨b,hv,fun hd=>by obtain ⟨h1,h2,_⟩:=k.obj i j e hd; rw[h2]; exact hb h1⟩
 | @map i v hi hv =>
  obtain ⟨b,hv,hb⟩:=hv
  simp only[V.kj]
  cases e:ρ i with
  | none=>exact .undef _
  | some j=>exact .map (k.used i j e hi) ⟨b,hv,fun hd=>by obtain ⟨h1,h2,_⟩:=k.obj i j e hd; rw[h2]; exact hb h1⟩
 | @lX cs b o f hc _ ih =>
  simp only[V.kj]
  refine .lX f (fun j hj => ?_) (fun j v hv => ?_)
  ·rw[o9]at hj
   exact ⟨(hc j hj).1,k.free _ _ (hc j hj).2⟩
  ·rw[wx]at hv
   cases e:cs[j]? with
   | none=>rw[e]at hv; cases hv
   | some u=>rw[e]at hv; simp at hv; subst hv; exact ih j u e
 | @sl T l t A cap f eQ lD hc hr vL fA ih =>
  simp only[V.kj]
  refine .sl f eQ lD (fun i j hi hj => ?_) (fun i j x v hx hv => ?_) (fun ht => ?_) (fun j ht => ?_)
  ·obtain ⟨b,o,hA,h1,h2⟩:=hc i j hi hj
   exact ⟨b,o,hA,h1,k.free _ _ h2⟩
  ·have:=ih i j x v hx hv
   have e:v.kj ρ=v:=by
    have GD:∀(T:Ty) (x:T.den) (j:Nat) (v:V),(T.cells x)[j]? = some v→v.kj ρ=v:=by
     intro T x
     have:∀v∈T.cells x,v.kj ρ=v:=by
      cases T <;> simp[Ty.cells,V.kj,Tok.kj]
     intro j v hv
     exact this v (List.mem_of_getElem? hv)
    exact GD T x j v hv
   rw[e]at this; exact this
  ·cases t with
   | no=>cases ht
   | nil=>exact vL rfl
   | own i=>simp only[Tok.kj]at ht; split at ht <;> cases ht
  ·cases t with
   | no=>cases ht
   | nil=>cases ht
   | own i =>
    simp only[Tok.kj]at ht
    split at ht
    ·rename_i j' e
     cases ht
     obtain ⟨hu,ho⟩:=fA i rfl
     refine ⟨k.used i j e hu,fun LI => ?_⟩
     obtain ⟨_,e1,e2⟩:=k.obj i j e (by rw[LI]; simp)
     rw[e1,e2]
     exact ho (k.tok i j e LI)
    ·cases ht
 | @Ku n sz cs A hn lD f hc _ ih =>
  simp only[V.kj]
  refine .Ku (sz:=sz) (by rw[o9]; exact hn) lD f (fun j hj => ?_) (fun j v hv => ?_)
  ·rw[o9]at hj
   obtain ⟨b,o,hA,h1,h2⟩:=hc j hj
   exact ⟨b,o,hA,h1,k.free _ _ h2⟩
  ·rw[wx]at hv
   cases e:cs[j]? with
   | none=>rw[e]at hv; cases hv
   | some u=>rw[e]at hv; simp at hv; subst hv; exact ih j u e
 | @row i n v hi hn hv =>
  simp only[V.kj]
  cases e:ρ i with
  | none=>exact .undef _
  | some j =>
   obtain ⟨A,cap,hv1,hA,hv⟩:=hv
   refine .row (k.used i j e hi) hn ⟨A,cap,hv1,hA,fun T l he => ?_⟩
   obtain ⟨_,e1,e2⟩:=k.obj i j e (by rw[he]; simp)
   rw[e1,e2]
   exact hv T l (k.row i j e T l he)
 | @m0 i z q n v hi hn hv =>
  simp only[V.kj]
  cases e:ρ i with
  | none=>exact .undef _
  | some j =>
   obtain ⟨A,cap,hv1,hA,hv⟩:=hv
   refine .m0 (k.used i j e hi) hn ⟨A,cap,hv1,hA,fun T l he hz hq => ?_⟩
   obtain ⟨_,e1,e2⟩:=k.obj i j e (by rw[he]; simp)
   rw[e1,e2]
   exact hv T l (k.row i j e T l he) hz hq
 | @nu i n q o v hi hv =>
  simp only[V.kj]
  cases e:ρ i with
  | none=>exact .undef _
  | some j =>
   obtain ⟨a,ha,hv⟩:=hv
   refine .nu (k.used i j e hi) ⟨a,ha,fun T l he hn hj => ?_⟩
   obtain ⟨_,e1,e2⟩:=k.obj i j e (by rw[he]; simp)
   rw[e1,e2]
   exact hv T l (k.row i j e T l he) hn hj
 | @func f a b x y ha hb _ _ iha ihb =>
  simp only[V.kj]
  refine .func (by rw[o9]; exact ha) (by rw[o9]; exact hb) (fun j v d hv hd => ?_) (fun j v d hv hd => ?_)
  ·rw[wx]at hv
   cases e:a[j]? with
   | none=>rw[e]at hv; cases hv
   | some u=>rw[e]at hv; simp at hv; subst hv; exact iha j u d e hd
  ·rw[wx]at hv
   cases e:b[j]? with
   | none=>rw[e]at hv; cases hv
   | some u=>rw[e]at hv; simp at hv; subst hv; exact ihb j u d e hd
 | @agg cs x hl _ ih =>
  simp only[V.kj]
  refine .agg (by rw[o9]; exact hl) (fun j v d hv hd => ?_)
  rw[wx]at hv
  cases e:cs[j]? with
  | none=>rw[e]at hv; cases hv
  | some u=>rw[e]at hv; simp at hv; subst hv; exact ih j u d e hd
 | @tuple cs x hl _ ih =>
  simp only[V.kj]
  refine .tuple (by rw[o9]; exact hl) (fun j v d hv hd => ?_)
  rw[wx]at hv
  cases e:cs[j]? with
  | none=>rw[e]at hv; cases hv
  | some u=>rw[e]at hv; simp at hv; subst hv; exact ih j u d e hd

theorem bl.kj {ρ:Nat→Option Nat} (k:Oz ρ h c h2 c2) {cs:List V} {ds:List Value} (r:bl w h c cs ds):bl w h2 c2 (V.tP ρ cs) ds:=by
 refine ⟨by rw[o9]; exact r.1,fun j v d hv hd => ?_⟩
 rw[wx]at hv
 cases e:cs[j]? with
 | none=>rw[e]at hv; cases hv
 | some u=>rw[e]at hv; simp at hv; subst hv; exact (r.2 j u d e hd).kj k

theorem Vi (ρ:Nat→Option Nat) (T:Ty) (x:T.den):∀v∈T.cells x,v.kj ρ=v:=by cases T <;> simp[Ty.cells,V.kj,Tok.kj]

theorem iN.kj {ρ:Nat→Option Nat} (k:Oz ρ h c h2 c2) {i j:Nat} {o:aP} (e1:c2.mX j=c.mX i) (e2:c2.off j=c.off i) (ho:iN w h c i o):iN w h2 c2 j (o.kj ρ):=by
 cases o <;> simp only[iN,aP.kj]at ho ⊢
 ·obtain ⟨b,arr,e,h1,TU,h3⟩:=ho
  exact ⟨b,arr,e,e1▸h1,TU,h3.kj k⟩
 ·rw[e1,e2]
  rcases ho with h1|⟨b,arr,e,fz,h1,TU,h3,h4,h5⟩
  ·exact .inl h1
  ·refine .inr ⟨b,arr,e,fz,h1,TU,h3,h4,fun n q x v hx hv => ?_⟩
   obtain ⟨d,g1,g2⟩:=h5 n q x v hx hv
   refine ⟨d,g1,?_⟩
   have:=g2.kj k
   rw[Vi ρ _ x v (List.mem_of_getElem? hv)]at this
   exact this
 ·rw[e1,e2]; exact ho
 ·rw[e1]; exact ho
 ·rw[e1]
  obtain ⟨b,p,d,h1,TU,h3,h4⟩:=ho
  exact ⟨b,p,d,h1,TU,h3,h4.kj k⟩
 ·rw[e1]
  obtain ⟨b,es,cl,h1,TU,h3,h4,h5,h6⟩:=ho
  refine ⟨b,es,cl,h1,TU,h3,h4,h5,fun j q e hq he => ?_⟩
  obtain ⟨g1,g2⟩:=h6 j q e hq he
  have g1':=g1.kj k
  have g2':=g2.kj k
  have key:∀(T:Ty) (x:T.den),(K6 T=true∨T.one=true)→(Nv T x).kj ρ=Nv T x:=by
   intro T x hT
   cases T <;> first|(simp[Nv,Ty.one,Ty.cells,V.kj]; done)|(simp[Nv,Ty.one,Ty.cells,V.kj,V.tP]; done)|(simp[K6,Ty.one]at hT)
  rw[key _ _ (.inl h3)]at g1'
  rw[key _ _ (.inr h4)]at g2'
  exact ⟨g1',g2'⟩

def eT.pick (c:eT) (ord:List Nat) (ext:Qz):eT :=
 ⟨fun j=>(ord[j]?).bind c.mX,fun j=>c.off (ord.getD j 0),ext⟩

theorem wy {ord:List Nat} {i j:Nat} (e:tz ord i=some j):ord[j]? = some i:=by
 unfold tz at e
 simp only at e
 split at e
 ·rename_i dH
  cases e
  rw[List.getElem?_eq_getElem dH,List.getElem_idxOf dH]
 ·cases e

theorem mI (h:ai) (ord:List Nat) (j:Nat):ai.at (h.pick ord) j=match ord[j]? with|some i=>(h.at i).kj (tz ord)|none => .dead:=by
 unfold ai.at ai.pick
 simp only[List.getD,List.getElem?_map]
 cases ord[j]? <;> rfl

theorem Hs {ρ:Nat→Option Nat} {o:aP}:o.kj ρ = .dead↔o = .dead:=by cases o <;> simp[aP.kj]
theorem wz {ρ:Nat→Option Nat} {o:aP}:o.kj ρ = .free↔o = .free:=by cases o <;> simp[aP.kj]
theorem T2 {ρ:Nat→Option Nat} {o:aP}:o.kj ρ = .tok↔o = .tok:=by cases o <;> simp[aP.kj]
theorem T3 {ρ:Nat→Option Nat} {o:aP} {T:Ty} {l:List T.den}:o.kj ρ = .row T l↔o = .row T l:=by cases o <;> simp[aP.kj]
theorem Q7 {ρ:Nat→Option Nat} {o:aP} {f:Nat}:(o.kj ρ).from_ f=o.from_ f:=by cases o <;> rfl
theorem Aa {ρ:Nat→Option Nat} {o:aP}:(o.kj ρ).live↔o.live:=by cases o <;> simp[aP.kj,aP.live]

theorem Ab {ord:List Nat} {ext:Qz} {b x:Nat} (ho:oF (h.pick ord) (c.pick ord ext) b x):∃i∈ord,∃f,c.mX i=some b∧(h.at i).from_ (c.off i)=some f∧f≤x:=by
 obtain ⟨j,f,g1,g2,g3⟩:=ho
 rw[mI]at g2
 cases e:ord[j]? with
 | none=>rw[e]at g2; cases g2
 | some i =>
  rw[e]at g2
  simp only[eT.pick,e,Option.bind_some]at g1
  simp only[Q7,eT.pick,List.getD,e,Option.getD_some]at g2
  exact ⟨i,List.mem_of_getElem? e,f,g1,g2,g3⟩

theorem L4 {ord:List Nat} {ext:Qz} (WX:∀b x,Fi h c b x→¬ext b x):Oz (tz ord) h c (h.pick ord) (c.pick ord ext) where
 used:=fun i j e hu=>by
  have hj:=wy e
  refine ⟨?_,?_⟩
  ·have:=(List.getElem?_eq_some_iff.1 hj).1
   simpa [ai.pick]using this
  ·rw[mI,hj]
   simp only[ne_eq,wz]
   exact hu.2
 obj:=fun i j e hd=>by
  have hj:=wy e
  rw[mI,hj]at hd
  simp only[ne_eq,Hs]at hd
  exact ⟨hd,by simp[eT.pick,hj],by simp[eT.pick,List.getD,hj]⟩
 tok:=fun i j e ht=>by
  rw[mI,wy e]at ht
  exact T2.1 ht
 row:=fun i j e T l ht=>by
  rw[mI,wy e]at ht
  exact T3.1 ht
 free:=fun b x hf=>⟨fun ho=>by
  obtain ⟨i,_,f,g1,g2,g3⟩:=Ab ho
  exact hf.1 ⟨i,f,g1,g2,g3⟩,WX b x hf⟩

theorem T4 (wf:WF w h c) {ord:List Nat} (DC:ord.Nodup) {ext:Qz} (WX:∀b x,Fi h c b x→¬ext b x) (dH:∀b x,ext b x→b<w.heap.size)
  (hdis:∀b x,(∃i∈ord,∃f,c.mX i=some b∧(h.at i).from_ (c.off i)=some f∧f≤x)→¬ext b x):WF w (h.pick ord) (c.pick ord ext) where
 lay:=⟨wf.lay.1,fun b hb=>⟨(wf.lay.2 b hb).1,fun x ho=>by
  obtain ⟨i,_,f,g1,g2,g3⟩:=Ab ho
  exact (wf.lay.2 b hb).2 x ⟨i,f,g1,g2,g3⟩⟩⟩
 uU:=fun b x ho=>hdis b x (Ab ho)
 la:=dH
 obj:=fun j hj=>by
  rw[mI]
  cases e:ord[j]? with
  | none=>trivial
  | some i =>
   by_cases hl:(h.at i).live
   ·exact (wf.obj i (ai.dR rfl (rh hl))).kj (L4 WX) (by simp[eT.pick,e]) (by simp[eT.pick,List.getD,e])
   ·have h0:h.at i = .free∨h.at i = .dead:=by revert hl; cases h.at i <;> simp[aP.live]
    rcases h0 with h0|h0 <;> simp only[h0,aP.kj] <;> trivial
 inj:=fun j k b hj hk h1 h2=>by
  rw[mI]at hj hk
  cases e1:ord[j]? with
  | none=>rw[e1]at hj; exact hj.elim
  | some i1 =>
   cases e2:ord[k]? with
   | none=>rw[e2]at hk; exact hk.elim
   | some i2 =>
    rw[e1]at hj; rw[e2]at hk
    simp only[eT.pick,e1,e2,Option.bind_some]at h1 h2
    have:=wf.inj i1 i2 b (Aa.1 hj) (Aa.1 hk) h1 h2
    subst this
    obtain ⟨Oq,e1'⟩:=List.getElem?_eq_some_iff.1 e1
    obtain ⟨mV,e2'⟩:=List.getElem?_eq_some_iff.1 e2
    have hp:=List.pairwise_iff_getElem.1 DC
    rcases Nat.lt_trichotomy j k with dH|rfl|dH
    ·exact (hp j k Oq mV dH (e1'.trans e2'.symm)).elim
    ·rfl
    ·exact (hp k j mV Oq dH (e2'.trans e1'.symm)).elim

theorem xK (h:ai):∀(n:Nat) (todo seen:List Nat),seen.Nodup→(reach h n todo seen).Nodup
 | 0,_,_,hn=>hn
 | n+1, [],_,hn=>hn
 | n+1,i::todo,seen,hn=>by
  simp only[reach]
  split
  ·exact xK h n _ _ hn
  ·rename_i hc
   refine xK h n _ _ ?_
   rw[List.nodup_append]
   refine ⟨hn,by simp,fun a ha b hb => ?_⟩
   simp at hb; subst hb
   rintro rfl
   simp at hc
   exact hc ha
end
end Go.ad
end
