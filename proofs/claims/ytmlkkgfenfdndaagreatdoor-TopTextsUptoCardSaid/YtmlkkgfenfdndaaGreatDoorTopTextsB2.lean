/-
  TopTexts: for every input whose bulk is at most 1048576 the law returns true, and each argument reads behind the call as it read before; part 2 of 8 of the proof: an interpreter of the model's code over typed data, proved sound; the functions that the law reaches, printed as Lean functions and tied; the plain law. Own texts laid one behind the other.
-/
import Derived.Laws.StructEq
import Derived.WalkKit
import Derived.MapKept
import Derived.Laws.BytesString
import Derived.Laws.Cover4
import Derived.Laws.Rows
import Derived.Laws.MakeOwn
import Derived.Laws.Append
import Derived.Test.YtmlkkgfenfdndaaGreatDoorTopTextsB1
set_option linter.unusedSimpArgs false
set_option linter.unnecessarySimpa false
set_option linter.unusedVariables false
set_option linter.unusedSectionVars false
noncomputable section
namespace Go.aF
open Go.RowKit

def TD.Is (P:Program) (t:Nat):TD→Prop
 | .bool=>P.underlying t=some .bool
 | .int k=>P.underlying t=some (.int k)
 | .string=>P.underlying t=some .string
 | .ptr e=>P.underlying t=some (.pointer e)
 | .slice e=>P.underlying t=some (.slice e)
 | .arr n e=>P.underlying t=some (.array n e)
 | .map k e=>P.underlying t=some (.map k e)
 | .struct fs=>∃F,P.underlying t=some (.struct F)∧F.toList.map (fun f=>(f.offset,f.type))=fs
 | .func=>∃a b c,P.underlying t=some (.func a b c)
 | .iface=>∃a,P.underlying t=some (.interface a)
 | .other=>True

structure vS (P:Program) (tt:dA):Prop where
 und:∀t,(tt.at t).d.Is P t
 info:∀t,tt.ok t=true→∃i z,P.info? t=some i∧i.size=(tt.at t).size∧i.bytes=(tt.at t).bytes∧i.zero=some z∧z.cells.size=i.size ∧
  ∀(w:World) (h:aG) (c:js),cy w h c (tt.at t).zero z.cells.toList
 eqs:∀t,∀(w:World) (h:aG) (c:js) (cs ds:List V) (xs ys:Array Value) (b:Bool),O5 (tt.at t) cs ds=true→cy w h c cs xs.toList→cy w h c ds ys.toList →
  lB cs ds=some b→P.eqGuardType P.depth t=false∧(Op.equalIn 10000 t (.agg xs) (.agg ys)).run P w = .ok b w
 u8s:∀e,(tt.at e).ty=some (.int .u8)→e=nR.u8
 blds:∀t,(tt.at t).lW=true→t=nR.lW∧(tt.at t).zero = [.eI, .cM]∧tt.ok t=true
 ones:∀t,tt.ok t=true→∀i z,P.info? t=some i→i.zero=some z→z.oneCell' = !tt.isAgg t

section
variable {P:Program} {tt:dA} {w:World}

theorem vS.isAgg (T:vS P tt) {t:Nat} (h:tt.ok t=true):(isAgg t).run P w = .ok (tt.isAgg t) w:=by
 have hu:=T.und t
 unfold dA.ok at h
 unfold dA.isAgg
 cases hd:(tt.at t).d <;> rw[hd]at hu h <;> simp only[TD.Is]at hu
 case struct fs=>obtain ⟨F,hF,_⟩:=hu; simp[Go.isAgg,run_underlying hF]
 case func=>obtain ⟨a,b,c,hF⟩:=hu; simp[Go.isAgg,run_underlying hF]
 case iface=>obtain ⟨a,hF⟩:=hu; simp[Go.isAgg,run_underlying hF]
 case other=>cases h
 all_goals simp[Go.isAgg,run_underlying hu]

theorem vS.sizeOf (T:vS P tt) {t:Nat} (h:tt.ok t=true):(sizeOf t).run P w = .ok (tt.at t).size w:=by
 obtain ⟨i,z,hi,hs,_⟩:=T.info t h
 simp[Go.sizeOf,typeInfo,hi,hs]

theorem vS.zero (T:vS P tt) {t:Nat} (h:tt.ok t=true):∃z,(zeroValue t).run P w = .ok z w∧z.cells.size=(tt.at t).size ∧
  ∀(w:World) (h:aG) (c:js),cy w h c (tt.at t).zero z.cells.toList:=by
 obtain ⟨i,z,hi,hs,_,hz,hzs,hr⟩:=T.info t h
 exact ⟨z,by simp[Go.zeroValue,typeInfo,hi,hz],by omega,hr⟩

theorem er (T:vS P tt) {t:Nat} {d:TD} (h:(tt.at t).d=d):d.Is P t:=h▸T.und t

theorem Hn (T:vS P tt) {t f off ty:Nat} {fs:List (Nat × Nat)} (h:(tt.at t).d = .struct fs) (hf:fs[f]? = some (off,ty)) :
  ∃F fd,P.underlying t=some (.struct F)∧F[f]? = some fd∧fd.offset=off∧fd.type=ty:=by
 obtain ⟨F,hF,e⟩:=er T h
 subst e
 rw[List.getElem?_map]at hf
 cases hx:F.toList[f]? with
 | none=>rw[hx]at hf; cases hf
 | some fd =>
  rw[hx]at hf
  simp at hf
  exact ⟨F,fd,hF,by simpa using hx,hf.1,hf.2⟩

variable {h:aG} {c:js} {R:Type}

theorem JE (T:vS P tt) {t off:Nat} {cs:List V} {x:Array Value} (hr:cy w h c cs x.toList) {k:V→Option R} {r:R} (hk:rh tt t cs off k=some r) :
  ∃v v',(part t x off).run P w = .ok v' w∧dz w h c v v'∧k v=some r:=by
 unfold rh at hk
 split at hk
 ·rename_i qy
  have hlen:cs.length=x.size:=by have:=hr.1; simpa using this
  split at hk
  ·rename_i Lj
   split at hk
   ·rename_i oJ
    refine ⟨_, .agg (x.extract off (off+(tt.at t).size)),?_,?_,hk⟩
    ·simp[part,T.isAgg qy,Lj,T.sizeOf qy]
    ·have Ho:=(hr.drop off).take (tt.at t).size
     refine .agg ?_ fun j v d hv hd=>Ho.2 j v d hv ?_
     ·simp[hlen]; omega
     ·simp only[Array.getElem?_extract]at hd
      rw[List.getElem?_take,List.getElem?_drop]
      split at hd
      ·rename_i hj
       have NV:j<(tt.at t).size:=by omega
       simp only[NV,if_true]; simpa using hd
      ·cases hd
   ·cases hk
  ·rename_i Lj
   split at hk
   ·rename_i v hv
    have jb:off<cs.length:=(List.getElem?_eq_some_iff.1 hv).1
    have hx:x[off]? = some (x[off]'(by omega)):=Array.getElem?_eq_getElem (by omega)
    refine ⟨v,x[off]'(by omega),?_,hr.2 off v _ hv (by simp),hk⟩
    simp[part,T.isAgg qy,Lj,hx]
   ·cases hk
 ·cases hk
end

section
variable {P:Program} {tt:dA} {w:World} {h:aG} {c:js} {R:Type}

theorem Lk (k:IntKind) (n:Int):k.has (k.wrap n):=by
 unfold IntKind.has
 cases k <;> simp only[IntKind.wrap,IntKind.min,IntKind.max,IntKind.signed,IntKind.bits] <;> simp <;> omega

theorem cf {b:Bool} {k:Option R} {r:R} (hk:cw b k=some r):b=true∧k=some r:=by
 unfold cw at hk; cases b <;> simp_all

theorem dz.hZ {k:IntKind} {n:Int} {v:Value} (r:dz w h c (.int k n) v):v = .int k n∧k.has n:=by cases r; exact ⟨rfl, ‹_›⟩
theorem dz.Cb {b:Bool} {v:Value} (r:dz w h c (.bool b) v):v = .bool b:=by cases r; rfl
theorem dz.iK {s:aj} {v:Value} (r:dz w h c (.str s) v):∃t,v = .string t∧t.data.toList=s∧t.size≤mx:=by cases r; exact ⟨_,rfl,rfl, ‹_›⟩

theorem Ll (n:Nat) (hn:n<256):IntKind.u8.has (n:Int):=by unfold IntKind.has; simp[IntKind.min,IntKind.max,IntKind.signed,IntKind.bits]; omega
theorem CL (n:Nat) (hn:n≤mx):IntKind.i64.has (n:Int):=by unfold IntKind.has; unfold mx at hn; simp[IntKind.min,IntKind.max,IntKind.signed,IntKind.bits]; omega

theorem Hp (v:Value):dz w h c (Eo v) v:=by
 unfold Eo
 split
 ·exact .bool _
 ·split
  ·rename_i hk; unfold inK at hk; simp at hk; exact .int hk
  ·exact .undef _
 ·split
  ·exact .str ‹_›
  ·exact .undef _
 ·exact .eI
 ·exact .cM
 ·exact .aT
 ·exact .nS
 ·exact .dv
 ·exact .undef _

theorem JF (v:Value):dz w h c (ofConst v) v:=by
 unfold ofConst
 split
 ·refine .agg (by simp) fun j v d hv hd => ?_
  rw[List.getElem?_map,Array.getElem?_toList,hd]at hv
  cases hv
  exact Hp d
 ·exact Hp v

theorem qa {a b:ByteArray} (h:a.data.toList=b.data.toList):a=b:=by
 obtain ⟨⟨x⟩⟩:=a; obtain ⟨⟨y⟩⟩:=b; simp at h; subst h; rfl
theorem toList_data (a:ByteArray):a.toList=a.data.toList:=ByteArray.toList_eq a
theorem size_data (a:ByteArray):a.data.toList.length=a.size:=by rw[Array.length_toList]; rfl
theorem zP {s:aj} (t:ByteArray) (e:t.data.toList=s) (hl:s.length≤mx):dz w h c (.str s) (.string t):=by
 subst e; rw[size_data]at hl; exact .str hl

theorem Lm:∀a b:aj,Op.bytesLess a b=Bm a b
 | [], []=>rfl
 | [],_::_=>rfl
 | _::_, []=>rfl
 | a::x,b::y=>by simp[Op.bytesLess,Bm,Lm x y]

def n9 (P:Program) (w:World) (h:aG) (c:js) (s:Sem Value) (k:V→Option R) (r:R):Prop:=∃v v',s.run P w = .ok v' w∧dz w h c v v'∧k v=some r

theorem Qr (a b:Int):(0≤a→0≤a.tmod b∧a.tmod b≤a)∧(a≤0→a≤a.tmod b∧a.tmod b≤0):=by
 have key:∀m:Nat,∀b:Int,0≤(m:Int).tmod b∧(m:Int).tmod b≤m:=fun m b=>by
  cases b with
  | ofNat n =>
   have:((m:Int).tmod (Int.ofNat n))=((m % n:Nat):Int):=rfl
   have h:=Nat.mod_le m n
   rw[this]; omega
  | negSucc n =>
   have:((m:Int).tmod (Int.negSucc n))=((m % (n+1):Nat):Int):=rfl
   have h:=Nat.mod_le m (n+1)
   rw[this]; omega
 constructor
 ·intro h
  obtain ⟨m,rfl⟩:=Int.eq_ofNat_of_zero_le h
  exact key m b
 ·intro h
  obtain ⟨m,hm⟩:=Int.eq_ofNat_of_zero_le (show 0 ≤ -a by omega)
  have e:a = -(m:Int):=by omega
  subst e
  rw[Int.neg_tmod]
  have:=key m b
  omega

theorem Xs {op:BinOp} {i j:IntKind} {a b:Int} (hb:j.has b) (t:TypeId) (x y:Operand) {k:V→Option R} {r:R} (hk:wW op (.int i a) (.int j b) k=some r) (ha:i.has a) :
  n9 P w h c (do eqGuard op t x y (.int i a) (.int j b); binOp op t (.int i a) (.int j b)) k r:=by
 have hg:∀op:BinOp,(eqGuard op t x y (.int i a) (.int j b)).run P w = .ok () w:=fun op=>by cases op <;> simp[eqGuard]
 unfold n9
 simp only[Sem.run_bind,hg,Result.andThen_ok]
 have hw:=fun n=>Lk i n
 by_cases hsh:op = .shl∨op = .shr
 ·rcases hsh with rfl|rfl
  ·simp only[wW]at hk
   obtain ⟨h0,hk⟩:=cf hk
   simp at h0
   exact ⟨_,_,by simp[binOp,Op.shift]; intro hn; omega, .int (hw _),hk⟩
  ·simp only[wW]at hk
   obtain ⟨h0,hk⟩:=cf hk
   simp at h0
   refine ⟨_,_,by simp[binOp,Op.shift]; intro hn; omega, .int ?_,hk⟩
   have hp:(0:Int)<2 ^ (min b.toNat i.bits):=Int.pow_pos (by decide)
   have h1:(1:Int)≤2 ^ (min b.toNat i.bits):=hp
   unfold IntKind.has at ha ⊢
   have Xt:i.min≤0:=by cases i <;> simp[IntKind.min,IntKind.signed,IntKind.bits]
   have hmax:0≤i.max:=by cases i <;> simp[IntKind.max,IntKind.signed,IntKind.bits]
   rw[Int.fdiv_eq_ediv_of_nonneg _ (Int.le_of_lt hp)]
   constructor
   ·rcases Int.lt_or_le a 0 with hn|hn
    ·have:a≤a / 2 ^ (min b.toNat i.bits):=by
      refine (Int.le_ediv_iff_mul_le hp).2 ?_
      have h2:=Int.mul_nonneg (show 0 ≤ -a by omega) (show 0≤(2:Int) ^ (min b.toNat i.bits) - 1 by omega)
      rw[Int.mul_sub,Int.neg_mul]at h2
      omega
     omega
    ·have:=Int.ediv_nonneg hn (Int.le_of_lt hp); omega
   ·rcases Int.lt_or_le a 0 with hn|hn
    ·have:=Int.ediv_neg_of_neg_of_pos hn hp; omega
    ·have:=Int.ediv_le_self (2 ^ (min b.toNat i.bits)) hn; omega
 ·have qA:(if i=j then (match op with
    | .add=>k (.int i (i.wrap (a+b)))
    | .sub=>k (.int i (i.wrap (a - b)))
    | .mul=>k (.int i (i.wrap (a*b)))
    | .quo=>cw (!decide (b=0)) (k (.int i (i.wrap (a.tdiv b))))
    | .rem=>cw (!decide (b=0)) (k (.int i (a.tmod b)))
    | .and=>k (.int i (i.wrap (BitVec.ofInt i.bits a &&& BitVec.ofInt i.bits b).toNat))
    | .or=>k (.int i (i.wrap (BitVec.ofInt i.bits a ||| BitVec.ofInt i.bits b).toNat))
    | .xor=>k (.int i (i.wrap (BitVec.ofInt i.bits a ^^^ BitVec.ofInt i.bits b).toNat))
    | .eql=>k (.bool (a==b))
    | .neq=>k (.bool (a != b))
    | .lss=>k (.bool (decide (a<b)))
    | .leq=>k (.bool (decide (a≤b)))
    | .gtr=>k (.bool (decide (a>b)))
    | .geq=>k (.bool (decide (a≥b)))
    | _=>none)else none)=some r:=by
   cases op <;> first|exact absurd (.inl rfl) hsh|exact absurd (.inr rfl) hsh|exact hk
  clear hk
  split at qA
  ·rename_i vm
   subst vm
   cases op <;> simp only at qA <;> try (first|exact absurd (.inl rfl) hsh|exact absurd (.inr rfl) hsh|cases qA)
   case add=>exact ⟨_,_,by simp[binOp,Op.intArith], .int (hw _),qA⟩
   case sub=>exact ⟨_,_,by simp[binOp,Op.intArith], .int (hw _),qA⟩
   case mul=>exact ⟨_,_,by simp[binOp,Op.intArith], .int (hw _),qA⟩
   case quo =>
    obtain ⟨h0,qA⟩:=cf qA
    simp at h0
    exact ⟨_,_,by simp[binOp,Op.intDiv,h0], .int (hw _),qA⟩
   case rem =>
    obtain ⟨h0,qA⟩:=cf qA
    simp at h0
    refine ⟨_,_,by simp[binOp,Op.intDiv,h0], .int ?_,qA⟩
    unfold IntKind.has at ha ⊢
    have Xt:i.min≤0:=by cases i <;> simp[IntKind.min,IntKind.signed,IntKind.bits]
    have hmax:0≤i.max:=by cases i <;> simp[IntKind.max,IntKind.signed,IntKind.bits]
    have hb:=Qr a b
    rcases Int.lt_or_le a 0 with hn|hn
    ·have:=hb.2 (by omega); omega
    ·have:=hb.1 hn; omega
   case and=>exact ⟨_,_,by simp[binOp,Op.intBits], .int (hw _),qA⟩
   case or=>exact ⟨_,_,by simp[binOp,Op.intBits], .int (hw _),qA⟩
   case xor=>exact ⟨_,_,by simp[binOp,Op.intBits], .int (hw _),qA⟩
   case eql=>exact ⟨_,_,by simp[binOp,Op.intCmp], .bool _,qA⟩
   case neq=>exact ⟨_,_,by simp[binOp,Op.intCmp], .bool _,qA⟩
   case lss=>exact ⟨_,_,by simp[binOp,Op.intCmp], .bool _,qA⟩
   case leq=>exact ⟨_,_,by simp[binOp,Op.intCmp], .bool _,qA⟩
   case gtr=>exact ⟨_,_,by simp[binOp,Op.intCmp], .bool _,qA⟩
   case geq=>exact ⟨_,_,by simp[binOp,Op.intCmp], .bool _,qA⟩
  ·cases qA
end

section
variable {P:Program} {tt:dA} {w:World} {h:aG} {c:js} {R:Type}

theorem Xu (a b:ByteArray):(a.toList==b.toList)=(a.data.toList==b.data.toList):=by rw[toList_data,toList_data]

theorem size_append (a b:ByteArray):(a++b).size=a.size+b.size:=ByteArray.size_append

theorem Xv {op:BinOp} {a b:ByteArray} (t:TypeId) (x y:Operand) {k:V→Option R} {r:R}
  (hk:wW op (.str a.data.toList) (.str b.data.toList) k=some r) :
  n9 P w h c (do eqGuard op t x y (.string a) (.string b); binOp op t (.string a) (.string b)) k r:=by
 have hg:∀op:BinOp,(eqGuard op t x y (.string a) (.string b)).run P w = .ok () w:=fun op=>by cases op <;> simp[eqGuard]
 have he:(a.toList==b.toList)=(a.data.toList==b.data.toList):=Xu a b
 have hl:Op.bytesLess a.toList b.toList=Bm a.data.toList b.data.toList:=by rw[toList_data,toList_data,Lm]
 unfold n9
 simp only[Sem.run_bind,hg,Result.andThen_ok]
 cases op <;> simp only[wW]at hk <;> try (first|cases hk)
 case add =>
  obtain ⟨h0,hk⟩:=cf hk
  simp at h0
  refine ⟨_, .string (a++b),?_,zP (a++b) (by simp) (by simp; exact h0),hk⟩
  have:¬(((a.size+b.size:Nat):Int)>IntKind.i64.max):=by
   have e:IntKind.i64.max=9223372036854775807:=by decide
   rw[e]; omega
  simp only[binOp,Op.stringOp]
  rw[if_neg this]; rfl
 case eql=>exact ⟨_, .bool _,by simp only[binOp,Op.stringOp,he]; rfl, .bool _,hk⟩
 case neq=>exact ⟨_, .bool _,by simp only[binOp,Op.stringOp,he]; rfl, .bool _,hk⟩
 case lss=>exact ⟨_, .bool _,by simp only[binOp,Op.stringOp,hl]; rfl, .bool _,hk⟩
 case leq=>exact ⟨_, .bool _,by simp only[binOp,Op.stringOp,hl,he]; rfl, .bool _,hk⟩
 case gtr=>exact ⟨_, .bool _,by simp only[binOp,Op.stringOp,hl,he]; rfl, .bool _,hk⟩
 case geq=>exact ⟨_, .bool _,by simp only[binOp,Op.stringOp,hl]; rfl, .bool _,hk⟩

theorem U9 (T:vS P tt) {op:BinOp} {a b:Bool} {t:TypeId} (ht:(tt.at t).d = .bool) (x y:Operand) {k:V→Option R} {r:R}
  (hk:wW op (.bool a) (.bool b) k=some r):n9 P w h c (do eqGuard op t x y (.bool a) (.bool b); binOp op t (.bool a) (.bool b)) k r:=by
 have hu:P.underlying t=some .bool:=er T ht
 have hg:∀op:BinOp,(eqGuard op t x y (.bool a) (.bool b)).run P w = .ok () w:=fun op=>by cases op <;> simp[eqGuard]
 have hq:=run_equalIn_bool w 9999 t a b hu
 unfold n9
 simp only[Sem.run_bind,hg,Result.andThen_ok]
 cases op <;> simp only[wW,eqV]at hk <;> try (first|cases hk)
 case eql=>exact ⟨_, .bool (a==b),by simp[binOp,Op.equal,Op.maxDepth,hq], .bool _,hk⟩
 case neq=>exact ⟨_, .bool (!(a==b)),by simp[binOp,Op.equal,Op.maxDepth,hq], .bool _,hk⟩

theorem Xw (T:vS P tt) {op:BinOp} {cs ds:List V} {xs ys:Array Value} {t:TypeId} (ht:O5 (tt.at t) cs ds=true) (rx:cy w h c cs xs.toList) (ry:cy w h c ds ys.toList)
  (x y:Operand) {k:V→Option R} {r:R} (hk:wW op (.agg cs) (.agg ds) k=some r) :
  n9 P w h c (do eqGuard op t x y (.agg xs) (.agg ys); binOp op t (.agg xs) (.agg ys)) k r:=by
 cases op <;> simp only[wW,eqV]at hk <;> try (first|cases hk)
 all_goals
  split at hk
  ·rename_i b hb
   obtain ⟨hg,hq⟩:=T.eqs t w h c cs ds xs ys b ht rx ry hb
   have hg':=fun op=>run_eqGuard_agg (P:=P) (w:=w) op t x y xs ys hg
   unfold n9
   simp only[Sem.run_bind,hg',Result.andThen_ok]
   first
    | exact ⟨_, .bool b,by simp only[binOp]; unfold Op.equal Op.maxDepth; simp[hq], .bool _,hk⟩
    | exact ⟨_, .bool (!b),by simp only[binOp]; unfold Op.equal Op.maxDepth; simp[hq], .bool _,hk⟩
  ·cases hk

theorem GI (d:Nat) (t e:TypeId) (q:Option Addr) (hu:P.underlying t=some (.pointer e)) :
  (Op.equalIn (d+1) t (.pointer q) (.pointer none)).run P w = .ok q.isNone w:=by
 cases q <;> simp[Op.equalIn,run_underlying hu]

theorem Cc (t e:TypeId) (q:Option Addr) (hu:P.underlying t=some (.pointer e)) :
  (Op.equal t (.pointer q) (.pointer none)).run P w = .ok q.isNone w:=GI 9999 t e q hu

theorem Sl (T:vS P tt) {op:BinOp} {a b:V} {u v:Value} {t e:TypeId} (ht:(tt.at t).d = .ptr e) (ra:dz w h c a u) (rb:dz w h c b v) (x y:Operand)
  {k:V→Option R} {r:R} (hk:O4 op a b k=some r):n9 P w h c (do eqGuard op t x y u v; binOp op t u v) k r:=by
 have hu:P.underlying t=some (.pointer e):=er T ht
 unfold O4 at hk
 split at hk
 ·cases rb
  have key:∀r,Sd a=some r→∃q:Option Addr,u = .pointer q∧r=q.isNone:=by
   intro r hr
   unfold Sd at hr
   split at hr <;> try cases hr
   ·cases ra; exact ⟨none,rfl,rfl⟩
   ·cases ra with|ptr _ hv=>obtain ⟨b,hv,_⟩:=hv; exact ⟨_,hv,rfl⟩
   ·cases ra; exact ⟨_,rfl,rfl⟩
   ·cases ra with|sD _ hv=>obtain ⟨b,hv,_⟩:=hv; exact ⟨_,hv,rfl⟩
  split at hk
  ·rename_i q hq
   obtain ⟨q,rfl,rfl⟩:=key _ hq
   refine ⟨_, .bool q.isNone,?_, .bool _,hk⟩
   have hq:=Cc (w:=w) t e q hu
   cases q <;> simp[eqGuard,binOp,hq]
  ·rename_i q hq
   obtain ⟨q,rfl,rfl⟩:=key _ hq
   refine ⟨_, .bool (!q.isNone),?_, .bool _,hk⟩
   have hq:=Cc (w:=w) t e q hu
   cases q <;> simp[eqGuard,binOp,hq]
  ·cases hk
 ·cases hk

theorem dz.O7 {t:Nat} {k:IntKind} {n:Int} {v:Value} (r:dz w h c (.GC t k n) v):v = .iface t (.int k n)∧k.has n:=by cases r; exact ⟨rfl, ‹_›⟩

theorem Va (T:vS P tt) {op:BinOp} {a b:V} {u v:Value} {t:TypeId} (ht:(tt.at t).d = .iface) (ra:dz w h c a u) (rb:dz w h c b v) (x y:Operand)
  {k:V→Option R} {r:R} (hk:ifK op y a b k=some r):n9 P w h c (do eqGuard op t x y u v; binOp op t u v) k r:=by
 obtain ⟨ms,hu⟩:=er T ht
 have hq:∀(d:Nat) (u:Value),(u = .nilIface∨∃t x,u = .iface t x)→(Op.equalIn (d+1) t u .nilIface).run P w = .ok (match u with | .nilIface=>true|_=>false) w:=by
  rintro d u (rfl|⟨t',x',rfl⟩) <;> simp[Op.equalIn,run_underlying hu]
 have hq1:=hq 9999 .nilIface (.inl rfl)
 unfold ifK at hk
 split at hk <;> try (first|cases hk)
 ·cases ra; cases rb
  refine ⟨_, .bool true,?_, .bool _,hk⟩
  simp[eqGuard,binOp,Op.equal,Op.maxDepth,hq1]
 ·cases ra; cases rb
  refine ⟨_, .bool false,?_, .bool _,hk⟩
  simp[eqGuard,binOp,Op.equal,Op.maxDepth,hq1]
 ·cases ra with
  | iface t' v' =>
   cases rb
   have Vb:=hq 9999 (.iface t' v') (.inr ⟨_,_,rfl⟩)
   refine ⟨_, .bool false,?_, .bool _,hk⟩
   simp[eqGuard,binOp,Op.equal,Op.maxDepth,Vb]
 ·cases ra with
  | iface t' v' =>
   cases rb
   have Vb:=hq 9999 (.iface t' v') (.inr ⟨_,_,rfl⟩)
   refine ⟨_, .bool true,?_, .bool _,hk⟩
   simp[eqGuard,binOp,Op.equal,Op.maxDepth,Vb]
 ·obtain ⟨rfl,_⟩:=ra.O7
  cases rb
  refine ⟨_, .bool false,?_, .bool _,hk⟩
  simp[eqGuard,binOp,Op.equal,Op.maxDepth,hq 9999 (.iface _ (.int _ _)) (.inr ⟨_,_,rfl⟩)]
 ·obtain ⟨rfl,_⟩:=ra.O7
  cases rb
  refine ⟨_, .bool true,?_, .bool _,hk⟩
  simp[eqGuard,binOp,Op.equal,Op.maxDepth,hq 9999 (.iface _ (.int _ _)) (.inr ⟨_,_,rfl⟩)]

theorem Ty.sz_pos' (T:Ty):0<T.sz:=by cases T <;> simp[Ty.sz]

theorem Bo (d:Nat) (t e:TypeId) (A:Option Addr) (n cap:Nat) (hu:P.underlying t=some (.slice e)) :
  (Op.equalIn (d+1) t (.slice A n cap) (.slice none 0 0)).run P w = .ok A.isNone w:=by
 cases A <;> simp[Op.equalIn,run_underlying hu]

theorem Vc (T:vS P tt) {op:BinOp} {a b:V} {u v:Value} {t e:TypeId} (ht:(tt.at t).d = .slice e) (ra:dz w h c a u) (rb:dz w h c b v) (x y:Operand)
  {k:V→Option R} {r:R} (hk:slK op a b k=some r):n9 P w h c (do eqGuard op t x y u v; binOp op t u v) k r:=by
 have hu:P.underlying t=some (.slice e):=er T ht
 unfold slK at hk
 split at hk
 ·cases rb
  have key:∀(neg:Bool) (k:V→Option R),DM a (fun r=>k (La neg r))=some r→∃A n cap,u = .slice A n cap∧∃z,dz w h c z (.bool (bif neg then !A.isNone else A.isNone))∧k z=some r:=by
   intro neg k hk
   unfold DM at hk
   split at hk <;> try cases hk
   ·cases ra; exact ⟨none,0,0,rfl, .bool (bif neg then false else true),by cases neg <;> exact .bool _,by cases neg <;> exact hk⟩
   ·rename_i T l tk _
    cases ra with
    | @sl _ _ _ A cap f kM r5 hc hr xj lC =>
     refine ⟨A,_,cap,rfl,?_⟩
     cases hl:l.isEmpty with
     | true=>rw[hl]at hk; exact ⟨.FN, .FN _,hk⟩
     | false =>
      rw[hl]at hk
      have Hq:0<l.length:=List.length_pos_iff.2 (by intro e; rw[e]at hl; cases hl)
      obtain ⟨b,o,rfl,_⟩:=hc 0 0 Hq (Ty.sz_pos' T)
      exact ⟨_, .bool _,hk⟩
   ·rename_i i n _
    cases ra with
    | row hi hn hv =>
     obtain ⟨A,cap,rfl,hA,_⟩:=hv
     refine ⟨A,n,cap,rfl,?_⟩
     cases hl:decide (n=0)with
     | true=>rw[hl]at hk; exact ⟨.FN, .FN _,hk⟩
     | false =>
      rw[hl]at hk
      obtain ⟨q,rfl⟩:=hA (Nat.pos_of_ne_zero (by simpa using hl))
      exact ⟨_, .bool _,hk⟩
  split at hk
  ·obtain ⟨A,n,cap,rfl,z,rz,hk⟩:=key false k hk
   refine ⟨_, .bool A.isNone,?_,rz,hk⟩
   have hq:=Bo (w:=w) 9999 t e A n cap hu
   simp[eqGuard,binOp,Op.equal,Op.maxDepth,hq]
  ·obtain ⟨A,n,cap,rfl,z,rz,hk⟩:=key true k hk
   refine ⟨_, .bool (!A.isNone),?_,rz,hk⟩
   have hq:=Bo (w:=w) 9999 t e A n cap hu
   simp[eqGuard,binOp,Op.equal,Op.maxDepth,hq]
  ·cases hk
 ·cases hk
end

section
variable {P:Program} {tt:dA} {w:World} {h:aG} {c:js} {R:Type}

theorem Qs {v:V} {d:Value} (r:dz w h c v d) (h1:v.one=true):d.oneCell'=true∧d.cells = #[d]:=by
 cases r <;> simp_all [V.one,Value.oneCell',Value.cells]
 case ptr hi hv=>obtain ⟨b,rfl,_⟩:=hv; simp
 case sD hi hv=>obtain ⟨b,rfl,_⟩:=hv; simp
 case row hi _ hv=>obtain ⟨A,cap,rfl,_,_⟩:=hv; simp
 case B5 hi _ hv=>obtain ⟨A,cap,rfl,_,_⟩:=hv; simp
 case map hi hv=>obtain ⟨b,rfl,_⟩:=hv; simp

def Sm (ds:List Value):Prop:=∀d∈ds,d.oneCell'=true

theorem T2 {cs:List V} {ds:List Value} (r:cy w h c cs ds) (h1:cs.all V.one=true):Sm ds:=by
 intro d hd
 obtain ⟨j,hj,rfl⟩:=List.mem_iff_getElem.1 hd
 have NV:j<cs.length:=by have:=r.1; omega
 have:=r.2 j cs[j] ds[j] (List.getElem?_eq_getElem NV) (List.getElem?_eq_getElem hj)
 exact (Qs this (by simpa using List.all_eq_true.1 h1 _ (List.getElem_mem NV))).1

theorem Eu {v:V} {d:Value} (r:dz w h c v d) {cs:List V} (hf:NR v=some cs):cy w h c cs d.cells.toList∧Sm d.cells.toList∧cs.all V.one=true:=by
 unfold NR at hf
 split at hf
 ·split at hf
  ·rename_i wY
   cases hf
   cases r with
   | @agg _ x hl hr =>
    have hr':cy w h c cs x.toList:=⟨by rw[hl,Array.length_toList],fun j v d hv hd=>hr j v d hv (by simpa using hd)⟩
    exact ⟨hr',T2 hr' wY,wY⟩
  ·cases hf
 ·split at hf
  ·rename_i h1
   cases hf
   obtain ⟨ho,hc⟩:=Qs r h1
   rw[hc]
   refine ⟨.cons r .nil,fun d' hd => ?_,by simp[h1]⟩
   simp at hd; subst hd; exact ho
  ·cases hf

theorem Xx (xs:List Value):∀(k off:Nat) (a:Array Value),off+k+xs.length≤a.size →
  ((xs.zipIdx k).foldl (fun cs (p:Value × Nat)=>cs.setIfInBounds (off+p.2) p.1) a).toList=a.toList.take (off+k)++xs++a.toList.drop (off+k+xs.length):=by
 induction xs with
 | nil=>intro k off a hs; simp
 | cons x xs ih =>
  intro k off a hs
  simp only[List.length_cons]at hs
  simp only[List.zipIdx_cons,List.foldl_cons]
  rw[ih (k+1) off _ (by simp; omega)]
  simp only[Array.toList_setIfInBounds]
  have jb:off+k<a.toList.length:=by simp; omega
  apply List.ext_getElem?
  intro i
  simp only[List.getElem?_append,List.length_take,List.length_set,List.getElem?_take,List.getElem?_drop,List.getElem?_set,List.length_cons,List.length_append,List.getElem?_cons]
  simp only[Array.length_toList]at jb ⊢
  by_cases h1:i<off+k
  ·have e1:off+k≠i:=by omega
   have e2:i<off+(k+1):=by omega
   have e3:i<min (off+(k+1)) a.size:=by omega
   have e4:i<min (off+k) a.size:=by omega
   have e5:i<min (off+(k+1)) a.size+xs.length:=by omega
   have e6:i<min (off+k) a.size+(xs.length+1):=by omega
   simp[h1,e1,e2,e3,e4,e5,e6]
  ·by_cases h2:i=off+k
   ·subst h2
    have m1:min (off+(k+1)) a.size=off+k+1:=by omega
    have m2:min (off+k) a.size=off+k:=by omega
    have e2:off+k<off+(k+1):=by omega
    have e3:off+k<a.size:=by omega
    rw[m1,m2]
    simp[e2,e3]
    intro h7; omega
   ·have m1:min (off+(k+1)) a.size=off+k+1:=by omega
    have m2:min (off+k) a.size=off+k:=by omega
    rw[m1,m2]
    by_cases h3:i<off+k+1+xs.length
    ·have e1:¬i<off+k+1:=by omega
     have e2:¬i<off+k:=by omega
     have e4:i<off+k+(xs.length+1):=by omega
     have e5:¬(i - (off+k)=0):=by omega
     have e6:i - (off+k) - 1=i - (off+k+1):=by omega
     simp[h3,e1,e2,e4,e5,e6]
    ·have e1:¬i<off+k+1:=by omega
     have e4:¬i<off+k+(xs.length+1):=by omega
     have e8:off+(k+1)+xs.length+(i - (off+k+1+xs.length))=off+k+(xs.length+1)+(i - (off+k+(xs.length+1))):=by omega
     simp[h3,e4,e8]
     intro hh; omega

theorem putCells (cells:Array Value) (d:Value) (off:Nat) (hs:off+d.cells.size≤cells.size) :
  (d.cells.zipIdx.foldl (fun cs (p:Value × Nat)=>cs.setIfInBounds (off+p.2) p.1) cells).toList=cells.toList.take off++d.cells.toList++cells.toList.drop (off+d.cells.size):=by
 have h:=Xx d.cells.toList 0 off cells (by simpa using hs)
 simp only[Nat.add_zero,Array.length_toList]at h
 rw[←h,←Array.foldl_toList,Array.toList_zipIdx]

theorem cy.len {cs:List V} {ds:List Value} (r:cy w h c cs ds):cs.length=ds.length:=r.1

theorem CM (place:Nat→Option (Nat × Nat)):∀(parts:List (Nat × V)) (GJ:List (Nat × Value)) (cs:List V) (cells:Array Value) (out:List V),
  (parts.map Prod.fst=GJ.map Prod.fst)→cy w h c (parts.map Prod.snd) (GJ.map Prod.snd)→cy w h c cs cells.toList →
  Gb cs (parts.map fun p=>(((place p.1).getD (0,1000000)).1,((place p.1).getD (0,1000000)).2,p.2))=some out→cells.size<1000000 →
  ∃IZ,Instr.fill place cells GJ=some IZ∧cy w h c out IZ.toList∧IZ.size=cells.size
 | [],GJ,cs,cells,out,he,_,rc,hf,_=>by
  cases GJ with
  | nil=>simp[Gb]at hf; subst hf; exact ⟨cells,rfl,rc,rfl⟩
  | cons p ps=>simp at he
 | (i,v)::parts,GJ,cs,cells,out,he,rp,rc,hf,hno=>by
  cases GJ with
  | nil=>simp at he
  | cons p ps =>
   obtain ⟨i',d⟩:=p
   simp only[List.map_cons,List.cons.injEq]at he
   obtain ⟨rfl,he⟩:=he
   simp only[List.map_cons]at rp hf
   simp only[Gb]at hf
   split at hf
   ·rename_i vs hvs
    split at hf
    ·rename_i sV
     simp only[Bool.and_eq_true,decide_eq_true_eq]at sV
     obtain ⟨hlen,oJ⟩:=sV
     obtain ⟨rv,_,_⟩:=Eu rp.head hvs
     have hl1:=rv.len
     have O8:=rc.len
     simp only[Array.length_toList]at hl1 O8
     cases W8:place i with
     | none =>
      rw[W8]at oJ
      simp at oJ; omega
     | some q =>
      obtain ⟨off,size⟩:=q
      simp only[W8,Option.getD_some]at hlen oJ hf
      have BH:=putCells cells d off (by omega)
      have Ho:cy w h c (cs.take off++vs++cs.drop (off+size)) (d.cells.zipIdx.foldl (fun cs (p:Value × Nat)=>cs.setIfInBounds (off+p.2) p.1) cells).toList:=by
       rw[BH]
       have hd:d.cells.size=size:=by omega
       rw[hd]
       exact ((rc.take off).append rv).append (rc.drop _)
      obtain ⟨IZ,h1,h2,h3⟩:=CM place parts ps _ _ out he rp.tail Ho hf (by rw[←Array.length_toList,BH]; simp; omega)
      refine ⟨IZ,?_,h2,?_⟩
      ·simp only[Instr.fill,W8]
       rw[if_neg]
       ·exact h1
       ·simp; omega
      ·rw[h3,←Array.length_toList,BH]; simp; omega
    ·cases hf
   ·cases hf
end

section
variable {P:Program} {tt:dA} {w:World} {h:aG} {c:js} {R:Type}

theorem qd (b o n:Nat):(⟨b,o,none⟩:Addr).add n=⟨b,o+n,none⟩:=by unfold Addr.add; split <;> simp_all

theorem T3 {T:Ty} {l:List T.den} {t:Tok} {A:Option Addr} {n cap:Nat} (r:dz w h c (.sl T l t) (.slice A n cap)) (lo hi:Nat) (h1:lo≤hi) (h2:hi≤l.length) :
  dz w h c (.sl T ((l.drop lo).take (hi - lo)) .no) (.slice (if cap=lo then A else A.map (·.add (lo*T.sz))) (hi - lo) (cap - lo)):=by
 cases r with
 | sl f kM r5 hc hr xj lC =>
  have hlen:((l.drop lo).take (hi - lo)).length=hi - lo:=by simp; omega
  have key:=dz.sl (w:=w) (h:=h) (c:=c) (T:=T) (l:=(l.drop lo).take (hi - lo)) (t := .no) (A:=if cap=lo then A else A.map (·.add (lo*T.sz))) (cap:=cap - lo)
   (fun i j=>f (lo+i) j) (by omega) (by omega) ?_ ?_ (by simp) (by simp)
  ·rw[hlen]at key; exact key
  ·intro i j hi' hj
   rw[hlen]at hi'
   obtain ⟨b,o,hA,xf,Xy⟩:=hc (lo+i) j (by omega) hj
   rw[if_neg (by omega)]
   refine ⟨b,o+lo*T.sz,by rw[hA]; simp[qd],?_⟩
   have e:o+lo*T.sz+i*T.sz+j=o+(lo+i)*T.sz+j:=by rw[Nat.add_mul]; omega
   rw[e]
   exact ⟨xf,Xy⟩
  ·intro i j x v hx hv
   rw[List.getElem?_take,List.getElem?_drop]at hx
   split at hx
   ·exact hr _ j x v hx hv
   ·cases hx

theorem I0 {T:Ty} {l:List T.den} {t:Tok} {v:Value} (r:dz w h c (.sl T l t) v):∃A cap,v = .slice A l.length cap∧l.length≤cap∧cap≤mx:=by
 cases r with
 | sl f kM r5 hc hr xj lC=>exact ⟨_,_,rfl,kM,r5⟩

theorem Ty.CN (T:Ty):0<T.sz:=by cases T <;> simp[Ty.sz]
theorem Ty.kD (T:Ty) (x:T.den):(T.cells x).length=T.sz:=by cases T <;> rfl

theorem Aq {v:Option V} {v':Option Value} (hv:match v,v' with|none,none=>True|some a,some b=>dz w h c a b|_,_=>False) {d:Int} {k:Int→Option R} {r:R}
  (hk:Ep v d k=some r):∃n,k n=some r∧((v'=none∧n=d)∨∃i,v'=some (.int i n)):=by
 unfold Ep at hk
 split at hk
 ·split at hv <;> simp_all
 ·rename_i i n
  cases v' with
  | none=>exact hv.elim
  | some b=>exact ⟨n,hk, .inr ⟨_,by rw[(show dz w h c (.int i n) b from hv).hZ.1]⟩⟩
 ·cases hk

theorem Hr {ρ:Operand→V} {ρ':Operand→Value} (hρ:∀x,dz w h c (ρ x) (ρ' x)) (o:Option Operand) :
  match o.map ρ,o.map ρ' with|none,none=>True|some a,some b=>dz w h c a b|_,_=>False:=by
 cases o <;> simp[hρ]

theorem uF (isSlice:Bool) (len cap:Nat) (lo hi:Option Value) (l hh:Int) (hlo:(lo=none∧l=0)∨∃k,lo=some (.int k l))
  (hhi:(hi=none∧hh=len)∨∃k,hi=some (.int k hh)) (h0:0≤l) (h1:l≤hh) (h2:hh≤cap) :
  (Instr.sliceBounds isSlice len cap lo hi none).run P w = .ok (l.toNat,hh.toNat,cap) w:=by
 have hb:∀(k:IntKind) (n:Int) (y:Nat) (code:BoundsCode),0≤n→n≤y→(Instr.sliceBound (.int k n) y code).run P w = .ok n.toNat w:=by
  intro k n y code h0 h1
  simp[Instr.sliceBound,asIntOf,h0,h1]
 rcases hlo with ⟨rfl,rfl⟩|⟨k,rfl⟩ <;> rcases hhi with ⟨rfl,rfl⟩|⟨k',rfl⟩
 ·simp[Instr.sliceBounds]
 ·simp[Instr.sliceBounds,hb _ _ _ _ (show 0≤hh by omega) h2]
 ·simp[Instr.sliceBounds,hb _ _ _ _ h0 h1]
 ·simp only[Instr.sliceBounds]
  have e:((hh.toNat:Nat):Int)=hh:=by omega
  simp[hb _ _ _ _ (show 0≤hh by omega) h2,hb k l hh.toNat .sliceB h0 (by omega)]

theorem Ln {v:V} {d:Value} (r0:dz w h c v d) {k:Int→Option R} {r:R} (hk:idxOf v k=some r):∃i n,d = .int i n∧k n=some r:=by
 unfold idxOf at hk
 split at hk
 ·exact ⟨_,_,r0.hZ.1,hk⟩
 ·cases hk

theorem J8 (T:vS P tt) {t:Nat} {a i:V} {a' i':Value} (ra:dz w h c a a') (ri:dz w h c i i') {k:V→Option R} {r:R}
  (hk:(idxOf i fun n =>
   match (generalizing:=false) (tt.at t).d,a with
   | .slice e, .sl T l _=>if T.sz=(tt.at e).size&&tt.ok e then cw (decide (0≤n)&&decide (n<l.length)) (k (.uN (T.cells (l.getD n.toNat T.bY))))else none
   | .slice e, .row id m=>if tt.ok e then cw (decide (0≤n)&&decide (n<m)) (k (.sD id (tt.at e).size n.toNat 0))else none
   | .arr m e, .ptr id o=>if tt.ok e then cw (decide (0≤n)&&decide (n<m)) (k (.ptr id (o+n.toNat*(tt.at e).size)))else none
   | .slice e, .J6 m cs=>if tt.ok e&&decide ((tt.at e).size≠0)&&decide (cs.length=m*(tt.at e).size)then cw (decide (0≤n)&&decide (n<m)) (k (.uN (cs.drop (n.toNat*(tt.at e).size))))else none
   | _,_=>none)=some r):n9 P w h c (Instr.indexAt t a' i') k r:=by
 obtain ⟨ik,n,rfl,Fw⟩:=Ln ri hk
 clear hk
 split at Fw
 ·rename_i e T' l tk hd
  split at Fw
  ·rename_i sV
   simp only[Bool.and_eq_true,decide_eq_true_eq]at sV
   obtain ⟨oJ,qy⟩:=sV
   obtain ⟨hb,hk⟩:=cf Fw
   simp only[Bool.and_eq_true,decide_eq_true_eq]at hb
   have hu:P.underlying t=some (.slice e):=er T hd
   have CO:=T.sizeOf (w:=w) qy
   cases ra with
   | @sl _ _ _ A cap f kM r5 hc hr xj lC =>
    have Nn:n.toNat<l.length:=by omega
    have hxd:l.getD n.toNat T'.bY=l[n.toNat]:=by simp[List.getD,List.getElem?_eq_getElem Nn]
    have hx:l[n.toNat]? = some l[n.toNat]:=List.getElem?_eq_getElem Nn
    obtain ⟨b,o,rfl,_,_⟩:=hc n.toNat 0 Nn T'.CN
    refine ⟨_, .pointer (some ⟨b,o+n.toNat*T'.sz,none⟩),?_,?_,hk⟩
    ·simp[Instr.indexAt,asIntOf,run_underlying hu,hb.1,hb.2,CO,←oJ,qd]
    ·refine .uN (fun j=>f n.toNat j) (fun j hj => ?_) (fun j v hv=>hr n.toNat j _ v hx (by rw[hxd]at hv; exact hv))
     rw[Ty.kD]at hj
     obtain ⟨b',o',e',h1,h2⟩:=hc n.toNat j Nn hj
     cases e'
     exact ⟨h1,h2⟩
  ·cases Fw
 ·rename_i e id m hd
  split at Fw
  ·rename_i qy
   obtain ⟨hb,hk⟩:=cf Fw
   simp only[Bool.and_eq_true,decide_eq_true_eq]at hb
   have hu:P.underlying t=some (.slice e):=er T hd
   have CO:=T.sizeOf (w:=w) qy
   cases ra with
   | row hi _ hv =>
    obtain ⟨A,cap,rfl,hA,hv⟩:=hv
    obtain ⟨a,rfl⟩:=hA (by omega)
    refine ⟨_, .pointer (some (a.add (n.toNat*(tt.at e).size))),?_,?_,hk⟩
    ·simp[Instr.indexAt,asIntOf,run_underlying hu,hb.1,hb.2,CO]
    ·refine .sD hi ⟨_,rfl,fun T' l' he oJ hj => ?_⟩
     obtain ⟨_,_,_,h3⟩:=hv T' l' he
     rcases h3 with ⟨_,h3,_⟩|⟨b,arr,el,fz,g1,g2,_,_⟩
     ·cases h3
     ·cases g2
      exact ⟨b,g1,by rw[oJ,qd]; rfl⟩
  ·cases Fw
 ·rename_i m e id o hd
  split at Fw
  ·rename_i qy
   obtain ⟨hb,hk⟩:=cf Fw
   simp only[Bool.and_eq_true,decide_eq_true_eq]at hb
   have hu:P.underlying t=some (.array m e):=er T hd
   have CO:=T.sizeOf (w:=w) qy
   cases ra with
   | ptr hi hv =>
    obtain ⟨b,rfl,hv⟩:=hv
    refine ⟨_, .pointer (some (Addr.add ⟨b,o,none⟩ (n.toNat*(tt.at e).size))),?_,?_,hk⟩
    ·simp[Instr.indexAt,asIntOf,run_underlying hu,hb.1,hb.2,CO,Instr.sureAddr]
    ·exact .ptr hi ⟨b,by rw[qd],hv⟩
  ·cases Fw
 ·rename_i e m cs hd
  split at Fw
  ·rename_i sV
   simp only[Bool.and_eq_true,decide_eq_true_eq]at sV
   obtain ⟨⟨qy,h0⟩,hlen⟩:=sV
   obtain ⟨hb,hk⟩:=cf Fw
   simp only[Bool.and_eq_true,decide_eq_true_eq]at hb
   have hu:P.underlying t=some (.slice e):=er T hd
   have CO:=T.sizeOf (w:=w) qy
   have jb:n.toNat*(tt.at e).size+(tt.at e).size≤cs.length:=by
    rw[hlen,←Nat.succ_mul]
    exact Nat.mul_le_mul_right _ (by omega)
   cases ra with
   | @J6 _ sz _ A hn r5 f hc hr =>
    obtain ⟨b,o,rfl,_,_⟩:=hc (n.toNat*(tt.at e).size) (by omega)
    refine ⟨_, .pointer (some ⟨b,o+n.toNat*(tt.at e).size,none⟩),?_,?_,hk⟩
    ·simp[Instr.indexAt,asIntOf,run_underlying hu,hb.1,hb.2,CO,qd]
    ·refine .uN (fun j=>f (n.toNat*(tt.at e).size+j)) (fun j hj => ?_) (fun j v hv=>hr _ v (by rw[List.getElem?_drop]at hv; exact hv))
     rw[List.length_drop]at hj
     obtain ⟨b',o',e',h1,h2⟩:=hc (n.toNat*(tt.at e).size+j) (by omega)
     cases e'
     rw[Nat.add_assoc]
     exact ⟨h1,h2⟩
  ·cases Fw
 ·cases Fw
end

section
variable {P:Program} {tt:dA} {w:World} {h:aG} {c:js} {R:Type}

theorem Qt {t off:Nat} {cs:List V} {k:V→Option R} {r:R} (hk:rh tt t cs off k=some r):tt.ok t=true:=by
  unfold rh at hk
  split at hk
  · assumption
  · cases hk

theorem J9 (T:vS P tt) {s f:Nat} {a:V} {a':Value} (ra:dz w h c a a') {k:V→Option R} {r:R}
    (hk:(match (generalizing:=false) (tt.at s).d with
    | .struct fs =>
      (match (generalizing:=false) fs[f]? with
       | some (off,t) =>
         if (tt.at t).size=0 || !tt.ok t then none else
         (match (generalizing:=false) a with
          | .ptr i o=>k (.ptr i (o+off))
          | .uN cs=>k (.uN (cs.drop off))
          | .sD i n j o=>k (.sD i n j (o+off))
          | _=>none)
       | none=>none)
    | _=>none)=some r):n9 P w h c (Instr.fieldAt s a' f) k r:=by
  split at hk
  · rename_i fs hd
    split at hk
    · rename_i off t hf
      split at hk
      · cases hk
      · rename_i Hh
        simp only[Bool.or_eq_true,decide_eq_true_eq,Bool.not_eq_true',not_or,Bool.not_eq_false]at Hh
        obtain ⟨oJ,qy⟩:=Hh
        obtain ⟨F,fd,hu,hfd,rfl,rfl⟩:=Hn T hd hf
        have hs:=T.sizeOf (w:=w) qy
        have run:∀b o,(Instr.fieldAt s (.pointer (some ⟨b,o,none⟩)) f).run P w = .ok (.pointer (some ⟨b,o+fd.offset,none⟩)) w:=by
          intro b o
          simp[Instr.fieldAt,run_underlying hu,hfd,Instr.sureAddr,fieldPlace,hs,oJ,qd]
        have run':∀a:Addr,(Instr.fieldAt s (.pointer (some a)) f).run P w = .ok (.pointer (some (a.add fd.offset))) w:=by
          intro a
          simp[Instr.fieldAt,run_underlying hu,hfd,Instr.sureAddr,fieldPlace,hs,oJ]
        split at hk
        · rename_i ra
          cases ra with
          | ptr hi hv =>
            obtain ⟨b,rfl,hb⟩:=hv
            exact ⟨_,_,run _ _, .ptr hi ⟨b,rfl,hb⟩,hk⟩
        · rename_i ra
          cases ra with
          | uN g hc hr =>
            refine ⟨_,_,run _ _, .uN (fun j=>g (fd.offset+j)) (fun j hj => ?_) (fun j v hv => ?_),hk⟩
            · simp at hj
              have:=hc (fd.offset+j) (by omega)
              rw[Nat.add_assoc]; exact this
            · rw[List.getElem?_drop]at hv
              exact hr _ v hv
        · rename_i ra
          cases ra with
          | sD hi hv =>
            obtain ⟨a,rfl,hv⟩:=hv
            refine ⟨_,_,run' a, .sD hi ⟨_,rfl,fun T' l he hn hj => ?_⟩,hk⟩
            obtain ⟨b,hb,rfl⟩:=hv T' l he hn hj
            exact ⟨b,hb,by rw[qd,Nat.add_assoc]⟩
        · cases hk
    · cases hk
  · cases hk

theorem Qu (T:vS P tt) {s f:Nat} {a:V} {a':Value} (ra:dz w h c a a') {k:V→Option R} {r:R}
    (hk:(match (generalizing:=false) (tt.at s).d,a with
    | .struct fs, .agg cs=>(match (generalizing:=false) fs[f]? with|some (off,t)=>rh tt t cs off k|none=>none)
    | _,_=>none)=some r):n9 P w h c (Instr.field s a' f) k r:=by
  split at hk
  · have hd := ‹(tt.at s).d = .struct _›
    have ra := ‹dz w h c (.agg _) a'›
    split at hk
    · rename_i off t hf
      obtain ⟨F,fd,hu,hfd,rfl,rfl⟩:=Hn T hd hf
      cases ra with
      | @agg _ x hl hr =>
        obtain ⟨v,v',h1,h2,h3⟩:=JE (x:=x) T ⟨by rw[hl,Array.length_toList],fun j v d hv hd=>hr j v d hv (by simpa using hd)⟩ hk
        exact ⟨v,v',by simp[Instr.field,run_underlying hu,hfd,asAgg,h1],h2,h3⟩
    · cases hk
  · cases hk

theorem Vd {s:ByteArray} {n:Int} (h0:0≤n) (h1:n<s.data.toList.length):(if 0≤n then s[n.toNat]? else none)=some (s.data.toList.getD n.toNat 0):=by
  have jb:n.toNat<s.size:=by rw[←size_data]; omega
  have e:s[n.toNat]? = some (s[n.toNat]'jb):=getElem?_pos s n.toNat jb
  rw[if_pos h0,e]
  have:s[n.toNat]'jb=s.data.toList.getD n.toNat 0:=by
    have hl:n.toNat<s.data.toList.length:=by omega
    simp only[List.getD,List.getElem?_eq_getElem hl,Option.getD_some]
    rfl
  rw[this]

theorem Qv (T:vS P tt) {t:Nat} {a i:V} {a' i':Value} (ra:dz w h c a a') (ri:dz w h c i i') {k:V→Option R} {r:R}
    (hk:(idxOf i fun n =>
    match (generalizing:=false) (tt.at t).d,a with
    | .string, .str s=>cw (decide (0≤n)&&decide (n<s.length)) (k (.int .u8 (s.getD n.toNat 0).toNat))
    | .arr m e, .agg cs=>cw (decide (0≤n)&&decide (n<m)) (rh tt e cs (n.toNat*(tt.at e).size) k)
    | _,_=>none)=some r):n9 P w h c (Instr.index t a' i') k r:=by
  obtain ⟨ik,n,rfl,Fw⟩:=Ln ri hk
  clear hk
  split at Fw
  · have hd := ‹(tt.at t).d = .string›
    have ra := ‹dz w h c (.str _) a'›
    obtain ⟨hb,hk⟩:=cf Fw
    simp only[Bool.and_eq_true,decide_eq_true_eq]at hb
    have hu:P.underlying t=some .string:=er T hd
    obtain ⟨t',rfl,rfl,_⟩:=ra.iK
    refine ⟨_,_,?_, .int (Ll _ (UInt8.toNat_lt _)),hk⟩
    have:=Vd hb.1 hb.2
    simp only[Instr.index,Sem.run_bind,asIntOf,Sem.run_pure,Result.andThen_ok,run_underlying hu,this]
  · have hd := ‹(tt.at t).d = .arr _ _›
    have ra := ‹dz w h c (.agg _) a'›
    obtain ⟨hb,hk⟩:=cf Fw
    simp only[Bool.and_eq_true,decide_eq_true_eq]at hb
    have hu:=er T hd
    simp only[TD.Is]at hu
    have qy:=Qt hk
    have hs:=T.sizeOf (w:=w) qy
    cases ra with
    | @agg _ x hl hr =>
      obtain ⟨v,v',h1,h2,h3⟩:=JE (x:=x) T ⟨by rw[hl,Array.length_toList],fun j v d hv hd=>hr j v d hv (by simpa using hd)⟩ hk
      exact ⟨v,v',by simp[Instr.index,asIntOf,run_underlying hu,hb.1,hb.2,hs,h1],h2,h3⟩
  · cases Fw

theorem Ve {s:ByteArray} {l hh:Nat}:(s.extract l hh).data.toList=(s.data.toList.drop l).take (hh - l):=by
  simp[ByteArray.data_extract,List.extract]

theorem Qw (T:vS P tt) {t:Nat} {a:V} {a':Value} (ra:dz w h c a a') {ρ:Operand→V} {ρ':Operand→Value} (hρ:∀x,dz w h c (ρ x) (ρ' x)) (lo hi:Option Operand)
    {k:V→Option R} {r:R}
    (hk:(match (generalizing:=false) (tt.at t).d,a with
       | .string, .str s =>
         Ep (hi.map ρ) s.length fun h=>Ep (lo.map ρ) 0 fun l =>
         cw (decide (0≤h)&&decide (h≤s.length)) (cw (decide (0≤l)&&decide (l≤h)) (k (.str ((s.drop l.toNat).take (h.toNat - l.toNat)))))
       | .slice e, .sl T s _ =>
         if T.sz=(tt.at e).size&&tt.ok e then
         Ep (lo.map ρ) 0 fun l =>
         (match (generalizing:=false) hi with
          | none=>cw (decide (0≤l)&&decide (l≤s.length)) (k (.sl T (s.drop l.toNat) .no))
          | some hi =>
            Ep (some (ρ hi)) 0 fun h =>
            cw (decide (0≤h)&&decide (h≤s.length)) (cw (decide (0≤l)&&decide (l≤h)) (k (.sl T ((s.drop l.toNat).take (h.toNat - l.toNat)) .no))))
         else none
       | .slice e, .cM =>
         if !tt.ok e then none else
         Ep (hi.map ρ) 0 fun h=>Ep (lo.map ρ) 0 fun l=>cw (decide (h=0)&&decide (l=0)) (k .cM)
       | _,_=>none)=some r):n9 P w h c (Instr.sliceAt t a' (lo.map ρ') (hi.map ρ') none) k r:=by
  split at hk
  · have hd := ‹(tt.at t).d = .string›
    have ra := ‹dz w h c (.str _) a'›
    have hu:P.underlying t=some .string:=er T hd
    obtain ⟨hh,hk,hhi⟩:=Aq (Hr hρ hi) hk
    obtain ⟨l,hk,hlo⟩:=Aq (Hr hρ lo) hk
    obtain ⟨hb,hk⟩:=cf hk
    obtain ⟨oH,hk⟩:=cf hk
    simp only[Bool.and_eq_true,decide_eq_true_eq]at hb oH
    obtain ⟨t',rfl,rfl,r5⟩:=ra.iK
    rw[size_data]at hb hhi
    have kY:=uF (P:=P) (w:=w) false t'.size t'.size (lo.map ρ') (hi.map ρ') l hh hlo hhi oH.1 oH.2 hb.2
    refine ⟨_, .string (t'.extract l.toNat hh.toNat),?_,zP _ Ve ?_,hk⟩
    · simp[Instr.sliceAt,Instr.slice,run_underlying hu,kY]
    · simp; omega
  · have hd := ‹(tt.at t).d = .slice _›
    have ra := ‹dz w h c (.sl _ _ _) a'›
    rename_i s _ _ _
    split at hk
    · rename_i sV
      simp only[Bool.and_eq_true,decide_eq_true_eq]at sV
      obtain ⟨oJ,qy⟩:=sV
      have hu:=er T hd
      simp only[TD.Is]at hu
      have hs:=T.sizeOf (w:=w) qy
      obtain ⟨A,cap,rfl,kM,r5⟩:=I0 ra
      obtain ⟨l,hk,hlo⟩:=Aq (Hr hρ lo) hk
      cases hi with
      | none =>
        obtain ⟨hb,hk⟩:=cf hk
        simp only[Bool.and_eq_true,decide_eq_true_eq]at hb
        have kY:=uF (P:=P) (w:=w) true s.length cap (lo.map ρ') none l s.length hlo (.inl ⟨rfl,rfl⟩) hb.1 hb.2 (by omega)
        have hc:=T3 ra l.toNat s.length (by omega) (Nat.le_refl _)
        rw[List.take_of_length_le (by simp)]at hc
        refine ⟨_,_,?_,hc,hk⟩
        simp[Instr.sliceAt,Instr.slice,run_underlying hu,kY,hs,←oJ]
      | some hi =>
        obtain ⟨hh,hk,hhi⟩:=Aq (v':=some (ρ' hi)) (hρ hi) hk
        obtain ⟨hb,hk⟩:=cf hk
        obtain ⟨oH,hk⟩:=cf hk
        simp only[Bool.and_eq_true,decide_eq_true_eq]at hb oH
        have kY:=uF (P:=P) (w:=w) true s.length cap (lo.map ρ') (some (ρ' hi)) l hh hlo (hhi.imp (fun x=>by cases x.1) id) oH.1 oH.2 (by omega)
        have hc:=T3 ra l.toNat hh.toNat (by omega) (by omega)
        refine ⟨_,_,?_,hc,hk⟩
        simp[Instr.sliceAt,Instr.slice,run_underlying hu,kY,hs,←oJ]
    · cases hk
  · have hd := ‹(tt.at t).d = .slice _›
    have ra := ‹dz w h c .cM a'›
    split at hk
    · cases hk
    · rename_i qy
      simp at qy
      have hu:=er T hd
      simp only[TD.Is]at hu
      have hs:=T.sizeOf (w:=w) qy
      obtain ⟨hh,hk,hhi⟩:=Aq (Hr hρ hi) hk
      obtain ⟨l,hk,hlo⟩:=Aq (Hr hρ lo) hk
      obtain ⟨hb,hk⟩:=cf hk
      simp only[Bool.and_eq_true,decide_eq_true_eq]at hb
      obtain ⟨rfl,rfl⟩:=hb
      have kY:=uF (P:=P) (w:=w) true 0 0 (lo.map ρ') (hi.map ρ') 0 0 hlo hhi (by omega) (by omega) (by omega)
      cases ra
      refine ⟨_, .slice none 0 0,?_, .cM,hk⟩
      simp[Instr.sliceAt,Instr.slice,run_underlying hu,kY,hs]
  · cases hk
end

section
variable {P:Program} {tt:dA} {w:World} {h:aG} {c:js} {R:Type}

theorem nW {s:Sem Value} {k:V→Option R} {r:R} (hm:n9 P w h c s k r) :
    ∃v v',((do pure (Next.value (←s))):Sem Next).run P w = .ok (.value v') w∧dz w h c v v'∧k v=some r:=by
  obtain ⟨v,v',h1,h2,h3⟩:=hm
  exact ⟨v,v',by simp[h1],h2,h3⟩

theorem Qx (T:vS P tt) {op:BinOp} {t:Nat} (x y:Operand) {a b:V} {a' b':Value} (ra:dz w h c a a') (rb:dz w h c b b') {k:V→Option R} {r:R}
    (hk:(match (generalizing:=false) a,b with
    | .agg a, .agg b=>if O5 (tt.at t) a b then wW op (.agg a) (.agg b) k else none
    | .bool a, .bool b=>(match (generalizing:=false) (tt.at t).d with | .bool=>wW op (.bool a) (.bool b) k|_=>none)
    | .int i a, .int j b=>wW op (.int i a) (.int j b) k
    | .str a, .str b=>wW op (.str a) (.str b) k
    | a,b=>(match (generalizing:=false) (tt.at t).d with | .ptr _=>O4 op a b k | .slice _=>slK op a b k | .iface=>ifK op y a b k|_=>none))=some r) :
    n9 P w h c (do eqGuard op t x y a' b'; binOp op t a' b') k r:=by
  split at hk
  · have ra := ‹dz w h c (.agg _) a'›
    have rb := ‹dz w h c (.agg _) b'›
    split at hk
    · rename_i heq
      cases ra with
      | @agg _ u hl hr =>
        cases rb with
        | @agg _ v W9 hr' =>
          exact Xw T heq ⟨by rw[hl,Array.length_toList],fun j v d hv hd=>hr j v d hv (by simpa using hd)⟩
            ⟨by rw[W9,Array.length_toList],fun j v d hv hd=>hr' j v d hv (by simpa using hd)⟩ x y hk
    · cases hk
  · have ra := ‹dz w h c (.bool _) a'›
    have rb := ‹dz w h c (.bool _) b'›
    split at hk
    · rename_i hd
      rw[ra.Cb,rb.Cb]
      exact U9 T hd x y hk
    · cases hk
  · have ra := ‹dz w h c (.int _ _) a'›
    have rb := ‹dz w h c (.int _ _) b'›
    rename_i i m j n _ _
    have e1:=ra.hZ
    have e2:=rb.hZ
    rw[e1.1,e2.1]
    exact Xs e2.2 t x y hk e1.2
  · have ra := ‹dz w h c (.str _) a'›
    have rb := ‹dz w h c (.str _) b'›
    obtain ⟨s,rfl,rfl,_⟩:=ra.iK
    obtain ⟨u,rfl,rfl,_⟩:=rb.iK
    exact Xv t x y hk
  · split at hk
    · rename_i hd
      exact Sl T hd ra rb x y hk
    · rename_i hd
      exact Vc T hd ra rb x y hk
    · rename_i hd
      exact Va T hd ra rb x y hk
    · cases hk

theorem Np (T:vS P tt) {s d:Nat} {a:V} {a':Value} (ra:dz w h c a a') {k:V→Option R} {r:R}
    (hk:(match (generalizing:=false) (tt.at d).d,a with
    | .int i, .int _ n=>k (.int i (i.wrap n))
    | .string, .str t=>(match (generalizing:=false) (tt.at s).d with | .string=>k (.str t)|_=>none)
    | _,_=>none)=some r)
    (hs:tt.ok s=true):n9 P w h c (convert s d a') k r:=by
  split at hk
  · have hd := ‹(tt.at d).d = .int _›
    have ra := ‹dz w h c (.int _ _) a'›
    have hu:=er T hd
    simp only[TD.Is]at hu
    obtain ⟨rfl,_⟩:=ra.hZ
    have hsu:=T.und s
    refine ⟨_,_,?_, .int (Lk _ _),hk⟩
    unfold dA.ok at hs
    cases Vf:(tt.at s).d <;> rw[Vf]at hsu hs <;> simp only[TD.Is]at hsu
    case struct fs=>obtain ⟨F,hF,_⟩:=hsu; simp[convert,run_underlying hu,run_underlying hF,Conv.intToInt]
    case func=>obtain ⟨x,y,z,hF⟩:=hsu; simp[convert,run_underlying hu,run_underlying hF,Conv.intToInt]
    case iface=>obtain ⟨x,hF⟩:=hsu; simp[convert,run_underlying hu,run_underlying hF,Conv.intToInt]
    case other=>cases hs
    all_goals simp[convert,run_underlying hu,run_underlying hsu,Conv.intToInt]
  · have hd := ‹(tt.at d).d = .string›
    have ra := ‹dz w h c (.str _) a'›
    have hu:=er T hd
    simp only[TD.Is]at hu
    split at hk
    · have Xz := ‹(tt.at s).d = .string›
      have R3:=er T Xz
      simp only[TD.Is]at R3
      have ra':=ra
      obtain ⟨t,rfl,rfl,hl⟩:=ra.iK
      exact ⟨_,_,by simp[convert,run_underlying hu,run_underlying R3],ra',hk⟩
    · cases hk
  · cases hk

theorem Vg (T:vS P tt) {t:Nat} {o:Nat} {a:V} {a':Value} (ra:dz w h c a a') {k:V→Option R} {r:R}
    (hk:(match (generalizing:=false) (tt.at t).d,a with
          | .string, .str s=>k (.int .i64 s.length)
          | .slice _, .sl _ l _=>k (.int .i64 l.length)
          | .slice _, .J6 n _=>k (.int .i64 n)
          | .slice _, .row _ n=>k (.int .i64 n)
          | .slice _, .cM=>k (.int .i64 0)
          | _,_=>none)=some r):n9 P w h c (Builtin.len_ #[t] o #[a']) k r:=by
  have key:∀(e:TypeId) (A:Option Addr) (n m:Nat),P.underlying t=some (.slice e)→(Builtin.len_ #[t] o #[.slice A n m]).run P w = .ok (.int .i64 n) w:=by
    intro e A n m hu; simp[Builtin.len_,run_underlying hu,goInt]
  split at hk
  · have hu:P.underlying t=some .string:=er T ‹(tt.at t).d = .string›
    have ra := ‹dz w h c (.str _) a'›
    obtain ⟨s,rfl,rfl,hl⟩:=ra.iK
    refine ⟨_, .int .i64 s.size,by simp[Builtin.len_,run_underlying hu,goInt],?_,hk⟩
    rw[size_data]; exact .int (CL _ hl)
  · have hu:=er T ‹(tt.at t).d = .slice _›
    simp only[TD.Is]at hu
    have ra := ‹dz w h c (.sl _ _ _) a'›
    obtain ⟨A,cap,rfl,h1,h2⟩:=I0 ra
    exact ⟨_,_,key _ _ _ _ hu, .int (CL _ (by omega)),hk⟩
  · have hu:=er T ‹(tt.at t).d = .slice _›
    simp only[TD.Is]at hu
    have ra := ‹dz w h c (.J6 _ _) a'›
    cases ra with
    | J6 hn r5 f hc hr=>exact ⟨_,_,key _ _ _ _ hu, .int (CL _ r5),hk⟩
  · have hu:=er T ‹(tt.at t).d = .slice _›
    simp only[TD.Is]at hu
    have ra := ‹dz w h c (.row _ _) a'›
    cases ra with
    | row hi hn hv =>
      obtain ⟨A,cap,rfl,_,_⟩:=hv
      exact ⟨_,_,key _ _ _ _ hu, .int (CL _ hn),hk⟩
  · have hu:=er T ‹(tt.at t).d = .slice _›
    simp only[TD.Is]at hu
    have ra := ‹dz w h c .cM a'›
    cases ra
    exact ⟨_,_,key _ _ 0 0 hu, .int (CL 0 (by unfold mx; omega)),hk⟩
  · cases hk

theorem Qy (T:vS P tt) (F:Array Field) (qy:∀f∈F.toList,tt.ok f.type=true) :
    (F.mapM (m:=Sem) fun f=>do pure (f.offset,←Go.sizeOf f.type)).run P w = .ok (F.map fun f=>(f.offset,(tt.at f.type).size)) w:=by
  rw[Array.mapM_eq_mapM_toList]
  have key:∀l:List Field,(∀f∈l,tt.ok f.type=true)→(l.mapM (m:=Sem) fun f=>do pure (f.offset,←Go.sizeOf f.type)).run P w = .ok (l.map fun f=>(f.offset,(tt.at f.type).size)) w:=by
    intro l
    induction l with
    | nil=>intro _; simp
    | cons f l ih =>
      intro h
      have hs:=T.sizeOf (w:=w) (h f (by simp))
      have:=ih fun g hg=>h g (by simp[hg])
      simp only[List.mapM_cons,Sem.run_bind,hs,Result.andThen_ok,Sem.run_pure,this,List.map_cons]
  simp only[Sem.run_map,key _ qy,Result.andThen_ok]
  congr 1
  apply Array.ext'
  simp

theorem mem_fs {fs:List (Nat × Nat)} {F:Array Field} (e:F.toList.map (fun f=>(f.offset,f.type))=fs) (wY:fs.all (fun f=>tt.ok f.2)=true):∀f∈F.toList,tt.ok f.type=true:=by
  intro f hf
  have:(f.offset,f.type)∈fs:=by rw[←e]; exact List.mem_map.2 ⟨f,hf,rfl⟩
  exact List.all_eq_true.1 wY _ this

theorem T4 (T:vS P tt) {t:Nat} (h:tt.ok t=true):(tt.at t).zero.length=(tt.at t).size:=by
  obtain ⟨z,_,h2,h3⟩:=T.zero (w:=default) h
  have:=(h3 default [] ⟨fun _=>none,fun _=>0,⟨fun _ _=>False⟩⟩).1
  simp at this; omega

theorem NW {ρ:Operand→V} {ρ':Operand→Value} (hρ:∀x,dz w h c (ρ x) (ρ' x)) (parts:List (Nat × Operand)) :
    (parts.map fun p=>(p.1,ρ p.2)).map Prod.fst=(parts.map fun p=>(p.1,ρ' p.2)).map Prod.fst ∧
    cy w h c ((parts.map fun p=>(p.1,ρ p.2)).map Prod.snd) ((parts.map fun p=>(p.1,ρ' p.2)).map Prod.snd):=by
  refine ⟨by simp[Function.comp_def],?_⟩
  simp only[List.map_map]
  exact cy.map parts fun p _=>hρ p.2

theorem Qz (T:vS P tt) {t:Nat} {parts:Array (Nat × Operand)} {ρ:Operand→V} {ρ':Operand→Value} (hρ:∀x,dz w h c (ρ x) (ρ' x)) {k:V→Option R} {r:R}
    (hk:(match (generalizing:=false) (tt.at t).d with
    | .struct fs =>
      if !fs.all (fun f=>tt.ok f.2) || !tt.ok t||decide (1000000≤(tt.at t).zero.length)then none else
      (match (generalizing:=false) Gb (tt.at t).zero (parts.toList.map fun (i,x)=>((fs.getD i (0,0)).1,if i<fs.length then (tt.at (fs.getD i (0,0)).2).size else 1000000,ρ x))with
       | some cs=>k (.agg cs)|none=>none)
    | .arr _ e =>
      if !tt.ok e || !tt.ok t||decide (1000000≤(tt.at t).zero.length)then none else
      (match (generalizing:=false) Gb (tt.at t).zero (parts.toList.map fun (i,x)=>(i*(tt.at e).size,(tt.at e).size,ρ x))with
       | some cs=>k (.agg cs)|none=>none)
    | _=>none)=some r):n9 P w h c (Instr.build t (parts.map fun (i,x)=>(i,ρ' x))) k r:=by
  have CP:=NW hρ parts.toList
  split at hk
  · rename_i fs hd
    split at hk
    · cases hk
    · rename_i Hh
      simp only[Bool.or_eq_true,Bool.not_eq_true',decide_eq_true_eq,not_or,Bool.not_eq_false,Nat.not_le]at Hh
      obtain ⟨⟨wY,qy⟩,hsm⟩:=Hh
      obtain ⟨F,hu,he⟩:=er T hd
      obtain ⟨z,hz,hzs,Lo⟩:=T.zero (w:=w) qy
      split at hk
      · rename_i cs hf
        have hplaces:=Qy (w:=w) T F (mem_fs he wY)
        have hl:=T4 T qy
        obtain ⟨IZ,h1,h2,h3⟩:=CM (w:=w) (h:=h) (c:=c) (fun i=>(F.map fun f=>(f.offset,(tt.at f.type).size))[i]?) (parts.toList.map fun p=>(p.1,ρ p.2)) (parts.toList.map fun p=>(p.1,ρ' p.2))
          (tt.at t).zero z.cells cs CP.1 CP.2 (Lo w h c) (by
            rw[←hf,List.map_map]
            congr 1
            apply List.map_congr_left
            intro p _
            obtain ⟨i,x⟩:=p
            subst he
            simp only[Function.comp,List.length_map,Array.length_toList,Array.getElem?_map]
            by_cases hi:i<F.size
            · simp[hi,List.getD]
            · simp[hi,List.getD]) (by omega)
        have XA:dz w h c (.agg cs) (.agg IZ) := .agg (by have:=h2.1; simpa using this) (fun j v d hv hd=>h2.2 j v d hv (by simpa using hd))
        refine ⟨.agg cs, .agg IZ,?_,XA,hk⟩
        simp only[Instr.build,Sem.run_bind,hz,Result.andThen_ok,run_underlying hu,hplaces,Array.toList_map]
        rw[h1]
        rfl
      · cases hk
  · rename_i n e hd
    split at hk
    · cases hk
    · rename_i Hh
      simp only[Bool.or_eq_true,Bool.not_eq_true',decide_eq_true_eq,not_or,Bool.not_eq_false,Nat.not_le]at Hh
      obtain ⟨⟨hoke,qy⟩,hsm⟩:=Hh
      have hu:=er T hd
      simp only[TD.Is]at hu
      obtain ⟨z,hz,hzs,Lo⟩:=T.zero (w:=w) qy
      have hse:=T.sizeOf (w:=w) hoke
      split at hk
      · rename_i cs hf
        have hl:=T4 T qy
        obtain ⟨IZ,h1,h2,h3⟩:=CM (w:=w) (h:=h) (c:=c) (fun i=>some (i*(tt.at e).size,(tt.at e).size)) (parts.toList.map fun p=>(p.1,ρ p.2)) (parts.toList.map fun p=>(p.1,ρ' p.2))
          (tt.at t).zero z.cells cs CP.1 CP.2 (Lo w h c) (by
            rw[←hf,List.map_map]
            congr 1) (by omega)
        have XA:dz w h c (.agg cs) (.agg IZ) := .agg (by have:=h2.1; simpa using this) (fun j v d hv hd=>h2.2 j v d hv (by simpa using hd))
        refine ⟨.agg cs, .agg IZ,?_,XA,hk⟩
        simp[Instr.build,hz,run_underlying hu,hse,h1]
      · cases hk
  · cases hk
end

section
variable {P:Program} {tt:dA} {w:World} {h:aG} {c:js} {R:Type}

theorem XB {ρ:Operand→V} {ρ':Operand→Value} (hρ:∀x,dz w h c (ρ x) (ρ' x)) (l:List Operand):cy w h c (l.map ρ) (l.map ρ'):=cy.map l fun x _=>hρ x

theorem QA {ρ:Operand→V} {ρ':Operand→Value} (hρ:∀x,dz w h c (ρ x) (ρ' x)) (l:Array Operand) :
  (l.toList.map ρ).length=(l.map ρ').size∧∀(j:Nat) (v:V) (d:Value),(l.toList.map ρ)[j]? = some v→(l.map ρ')[j]? = some d→dz w h c v d:=by
 have:=XB hρ l.toList
 exact ⟨by simp,fun j v d hv hd=>this.2 j v d hv (by simpa using hd)⟩

theorem Vh {ts:Array TypeId} {o:Nat} {x y:V} {x' y':Value} (rx:dz w h c x x') (ry:dz w h c y y') {k:V→Option R} {r:R}
  (hk:(match (generalizing:=false) x,y with | .int i a, .int j b=>if i=j then k (.int i (min a b))else none|_,_=>none)=some r):n9 P w h c (Builtin.min_ ts o #[x',y']) k r:=by
 split at hk
 ·rename_i i a j b'
  split at hk
  ·rename_i vm
   subst vm
   obtain ⟨rfl,ha⟩:=rx.hZ
   obtain ⟨rfl,hb⟩:=ry.hZ
   refine ⟨_, .int i (min a b'),?_, .int (by unfold IntKind.has at *; omega),hk⟩
   rw[run_min_int2]
   congr 2
   split <;> omega
  ·cases hk
 ·cases hk

theorem Vi {ts:Array TypeId} {o:Nat} {x y:V} {x' y':Value} (rx:dz w h c x x') (ry:dz w h c y y') {k:V→Option R} {r:R}
  (hk:(match (generalizing:=false) x,y with | .int i a, .int j b=>if i=j then k (.int i (max a b))else none|_,_=>none)=some r):n9 P w h c (Builtin.max_ ts o #[x',y']) k r:=by
 split at hk
 ·rename_i i a j b'
  split at hk
  ·rename_i vm
   subst vm
   obtain ⟨rfl,ha⟩:=rx.hZ
   obtain ⟨rfl,hb⟩:=ry.hZ
   refine ⟨_, .int i (max a b'),?_, .int (by unfold IntKind.has at *; omega),hk⟩
   rw[run_max_int2]
   congr 2
   split <;> omega
  ·cases hk
 ·cases hk

theorem Vj (T:vS P tt) {o:Oper} {ρ:Operand→V} {ρ':Operand→Value} (hρ:∀x,dz w h c (ρ x) (ρ' x)) {k:V→Option R} {r:R}
  (hk:opP tt o.op ρ k=some r):∃v v',(execOp ρ' o).run P w = .ok (.value v') w∧dz w h c v v'∧k v=some r:=by
 obtain ⟨dst,op,type,pos,after,guard⟩:=o
 cases op <;> simp only[opP]at hk <;> try (first|cases hk)
 case move x=>exact ⟨_,_,by simp[execOp],hρ x,hk⟩
 case assign x=>exact ⟨_,_,by simp[execOp],hρ x,hk⟩
 case pick cc a b =>
  have rc:=hρ cc
  have ra:=hρ a
  have rb:=hρ b
  split at hk
  ·rename_i t ht
   rw[ht]at rc
   have ec:=rc.Cb
   have run:(execOp ρ' ⟨dst, .pick cc a b,type,pos,after,guard⟩).run P w = .ok (.value (if t then ρ' a else ρ' b)) w:=by
    simp[execOp,ec,asBool]
   split at hk
   ·rename_i u v hu hv
    rw[hu]at ra; rw[hv]at rb
    refine ⟨_,_,run,?_,hk⟩
    rw[ra.Cb,rb.Cb]
    cases t <;> exact .bool _
   ·cases t
    ·exact ⟨_,_,run,rb,hk⟩
    ·exact ⟨_,_,run,ra,hk⟩
  ·cases hk
 case nilCheck x =>
  have rx:=hρ x
  split at hk <;> try (first|cases hk)
  ·rename_i i o hx
   rw[hx]at rx
   have rx':=rx
   cases rx with
   | ptr hi hv=>obtain ⟨b,hv,_⟩:=hv; exact ⟨_,ρ' x,by simp[execOp,hv],rx',hk⟩
  ·rename_i cs hx
   rw[hx]at rx
   have rx':=rx
   generalize hy:ρ' x=y at rx
   cases rx with
   | uN f hc hr=>exact ⟨_,ρ' x,by simp[execOp,hy],rx',hk⟩
  ·rename_i i n j o hx
   rw[hx]at rx
   have rx':=rx
   cases rx with
   | sD hi hv=>obtain ⟨b,hv,_⟩:=hv; exact ⟨_,ρ' x,by simp[execOp,hv],rx',hk⟩
  ·rename_i f a b hx
   rw[hx]at rx
   have rx':=rx
   generalize hy:ρ' x=y at rx
   cases rx with
   | func ha hb hra hrb=>exact ⟨_,ρ' x,by simp[execOp,hy],rx',hk⟩
 case binOp op t x y ty =>
  exact nW (Qx T x y (hρ x) (hρ y) hk)
 case unOp op t x =>
  have rx:=hρ x
  split at hk <;> try (first|cases hk)
  ·rename_i i n hx
   rw[hx]at rx
   exact ⟨_, .int i (i.wrap (0 - n)),by simp[execOp,Op.unary,rx.hZ.1,Op.intArith], .int (Lk _ _),hk⟩
  ·rename_i b hx
   rw[hx]at rx
   exact ⟨_,_,by simp[execOp,Op.unary,rx.Cb], .bool _,hk⟩
 case convert s d x =>
  split at hk
  ·cases hk
  ·rename_i hs
   exact nW (Np T (hρ x) hk (by simpa using hs))
 case makeInterface t x =>
  have rx:=hρ x
  split at hk <;> try (first|cases hk)
  rename_i k0 i n hd hx
  rw[hx]at rx
  have hu:=er T hd
  simp only[TD.Is]at hu
  exact ⟨_, .iface t (.int i n),by simp[execOp,Instr.makeInterface,run_underlying hu,rx.hZ.1], .GC rx.hZ.2,hk⟩
 case fieldAddr s x f=>exact nW (J9 T (hρ x) hk)
 case field s x f=>exact nW (Qu T (hρ x) hk)
 case indexAddr t x i=>exact nW (J8 T (hρ x) (hρ i) hk)
 case index t x i=>exact nW (Qv T (hρ x) (hρ i) hk)
 case slice t x lo hi mx =>
  split at hk
  ·cases hk
  ·exact nW (Qw T (hρ x) hρ lo hi hk)
 case makeFunc fn first cap =>
  cases fn <;> simp only at hk <;> try (first|cases hk)
  rename_i f
  obtain ⟨l1,r1⟩:=QA hρ first
  obtain ⟨l2,r2⟩:=QA hρ cap
  exact ⟨_, .func (.func f) (first.map ρ') (cap.map ρ'),by simp[execOp,Instr.makeFunc], .func l1 l2 r1 r2,hk⟩
 case extract t i =>
  have rt:=hρ t
  split at hk <;> try (first|cases hk)
  rename_i vs ht
  rw[ht]at rt
  split at hk
  ·rename_i v hv
   generalize hy:ρ' t=y at rt
   cases rt with
   | @tuple _ x hl hr =>
    have jb:i<vs.length:=(List.getElem?_eq_some_iff.1 hv).1
    have hx:x[i]? = some (x[i]'(by omega)):=Array.getElem?_eq_getElem (by omega)
    exact ⟨v,_,by simp[execOp,hy,Instr.extract,hx],hr i v _ hv hx,hk⟩
  ·cases hk
 case build t parts=>exact nW (Qz T hρ hk)
 case call cl =>
  obtain ⟨callee,args,argTypes⟩:=cl
  simp only at hk
  split at hk <;> try (first|cases hk)
  ·rename_i x ha
   obtain rfl:args = #[x]:=by cases args; simp_all
   split at hk <;> try (first|cases hk)
   rename_i t ht
   obtain rfl:argTypes = #[t]:=by cases argTypes; simp_all
   have:=nW (Vg (P:=P) (o:=type) T (hρ x) hk)
   simpa [execOp,resolve,invoke,builtin]using this
  ·rename_i x y ha
   obtain rfl:args = #[x,y]:=by cases args; simp_all
   have:=nW (Vh (P:=P) (ts:=argTypes) (o:=type) (hρ x) (hρ y) hk)
   simpa [execOp,resolve,invoke,builtin]using this
  ·rename_i x y ha
   obtain rfl:args = #[x,y]:=by cases args; simp_all
   have:=nW (Vi (P:=P) (ts:=argTypes) (o:=type) (hρ x) (hρ y) hk)
   simpa [execOp,resolve,invoke,builtin]using this
end
end Go.aF

namespace Go.aF
open Go.RowKit Go.MapKept

section
variable {P:Program} {tt:dA} {w w':World} {h:aG} {c:js} {R:Type}

def Hs (K T:Ty) (k:K.den):List (K.den × T.den)→List MapEntry→Nat→Option (Nat × Value)
 | x::l,e::es,i=>if xc K k x.1 then some (i,e.val)else Hs K T k l es (i+1)
 | _,_,_=>none

theorem I1 {K T:Ty} {k:K.den}:∀(l:List (K.den × T.den)) (es:List MapEntry) (i:Nat),es.length=l.length →
  (Hs K T k l es i=none∧CG K T k l=false∧mw K T k l=T.bY∧∀v,vT K T k v l=l ++ [(k,v)]) ∨
  ∃j x e,Hs K T k l es i=some (i+j,e.val)∧l[j]? = some x∧es[j]? = some e∧xc K k x.1=true∧CG K T k l=true∧mw K T k l=x.2∧∀v,vT K T k v l=l.set j (k,v)
 | [], [],_,_ => .inl ⟨rfl,rfl,rfl,fun _=>rfl⟩
 | [],_::_,_,hl=>by cases hl
 | _::_, [],_,hl=>by cases hl
 | x::l,e::es,i,hl=>by
  cases hk:xc K k x.1 with
  | true=>exact .inr ⟨0,x,e,by simp[Hs,hk],rfl,rfl,hk,by simp[CG,hk],by simp[mw,hk],fun v=>by simp[vT,hk]⟩
  | false =>
   rcases I1 (T:=T) (k:=k) l es (i+1) (by simpa using hl)with ⟨h1,h2,h3,h4⟩|⟨j,y,f,h1,h2,h3,h4,h5,h6,h7⟩
   ·exact .inl ⟨by simp[Hs,hk,h1],by simp[CG,hk,h2],by simp[mw,hk,h3],fun v=>by simp[vT,hk,h4 v]⟩
   ·exact .inr ⟨j+1,y,f,by simp[Hs,hk,h1]; omega,by simpa using h2,by simpa using h3,h4,by simp[CG,hk,h5],by simp[mw,hk,h6],fun v=>by simp[vT,hk,h7 v]⟩

theorem T5 {kx:aj} {d:Value} (r:dz w h c (M6 .str kx) d):∃s,d = .string s∧s.data.toList=kx:=by
 obtain ⟨s,h1,h2,_⟩:=dz.iK (s:=kx) r
 exact ⟨s,h1,h2⟩
theorem T6 {k:IntKind} {n:Int} {d:Value} (r:dz w h c (M6 (.int k) n) d):d = .int k n:=(dz.hZ (n:=n) r).1

theorem Vk {a b:ByteArray}:(a==b)=(a.data.toList==b.data.toList):=by
 rw[Bool.eq_iff_iff]
 rw[bytes_beq]
 simp only[beq_iff_eq]
 exact ⟨fun e=>by rw[e],fun e=>qa e⟩

theorem Ht {kt:Nat} (T:vS P tt) {K:Ty} (hk:vU tt kt K=true) {kx ky:K.den} {d e:Value} (rk:dz w h c (M6 K kx) d) (re:dz w h c (M6 K ky) e) :
  ∃u,P.underlying kt=some u∧IsKey u d∧IsKey u e∧Instr.sameNow u d e=some (xc K kx ky)∧(xc K kx ky=true→e=d):=by
 unfold vU at hk
 split at hk
 ·split at hk
  ·rename_i hd
   have hu:P.underlying kt=some .string:=er T hd
   obtain ⟨s,rfl,hs⟩:=T5 rk
   obtain ⟨t,rfl,ht⟩:=T5 re
   subst hs; subst ht
   refine ⟨_,hu,by simp[IsKey],by simp[IsKey],?_,fun he => ?_⟩
   ·simp only[Instr.sameNow,xc,Vk]
   ·have:s.data.toList=t.data.toList:=by simpa [xc]using he
    rw[qa this]
  ·cases hk
 ·rename_i k
  split at hk
  ·rename_i k' hd
   have e:k'=k:=by simpa using hk
   subst e
   have hu:P.underlying kt=some (.int k'):=er T hd
   have e1:=T6 rk
   have e2:=T6 re
   subst e1; subst e2
   refine ⟨_,hu,by simp[IsKey],by simp[IsKey],?_,fun he => ?_⟩
   ·simp[Instr.sameNow,xc]
   ·have h' : @BEq.beq Int _ kx ky=true:=he
    have:kx=ky := @eq_of_beq Int _ _ kx ky h'
    rw[this]
  ·cases hk
 ·cases hk

theorem Lp {kt:Nat} (T:vS P tt) {K V':Ty} (hk:vU tt kt K=true) {kx:K.den} {d:Value} (rk:dz w h c (M6 K kx) d) {u:TypeDesc} (hu:P.underlying kt=some u) :
  ∀(l:List (K.den × V'.den)) (es:List MapEntry) (i:Nat),es.length=l.length→(∀(j:Nat) (x:K.den × V'.den) (e:MapEntry),l[j]? = some x→es[j]? = some e→dz w h c (M6 K x.1) e.key) →
   Instr.findNow u d es i=some (Hs K V' kx l es i)
 | [], [],_,_,_=>rfl
 | [],_::_,_,hl,_=>by cases hl
 | _::_, [],_,hl,_=>by cases hl
 | x::l,e::es,i,hl,hr=>by
  obtain ⟨u',hu',_,_,hs,_⟩:=Ht T hk rk (hr 0 x e rfl rfl)
  rw[hu]at hu'; cases hu'
  have ih:=Lp T hk rk hu l es (i+1) (by simpa using hl) fun j y f hy hf=>hr (j+1) y f (by simpa using hy) (by simpa using hf)
  simp only[Instr.findNow,hs]
  cases hb:xc K kx x.1 with
  | true=>simp[Hs,hb]
  | false=>simp[Hs,hb,ih]

theorem Lq {kt:Nat} {K:Ty} (hk:vU tt kt K=true):K.one=true∧KG K=true:=by
 cases K <;> first|exact ⟨rfl,rfl⟩|(simp[vU]at hk)
theorem Lr {kt:Nat} {K:Ty} (hk:yP tt kt K=true):K.one=true:=by
 cases K <;> first|rfl|(simp[yP]at hk)

theorem Vl {k:IntKind} {v:V} {x:Int} (h:K3 k [v]=some x):v = .int k x:=by
 unfold K3 at h
 split at h
 ·rename_i e
  simp only[List.cons.injEq,and_true]at e
  split at h
  ·rename_i e2; cases h; subst e2; exact e
  ·cases h
 ·cases h
theorem Sn {v:V} {x:Bool} (h:Hl [v]=some x):v = .bool x:=by
 unfold Hl at h
 split at h
 ·rename_i e
  simp only[List.cons.injEq,and_true]at e
  cases h; exact e
 ·cases h
theorem Vm {v:V} {x:aj} (h:K4 [v]=some x):v = .str x:=by
 unfold K4 at h
 split at h
 ·rename_i e
  simp only[List.cons.injEq,and_true]at e
  cases h; exact e
 ·cases h

theorem So {K:Ty} {v:V} {x:K.den} (hx:elD K v=some x) (ho:K.one=true):v=M6 K x:=by
 have hd:K.dec [v]=some x:=by
  unfold elD at hx
  split at hx <;> simp only[ho,cond_true]at hx
  ·cases hx
  ·exact hx
 cases K <;> simp only[Ty.one]at ho <;> try (first|cases ho)
 ·exact Vl hd
 ·exact Sn hd
 ·exact Vm hd

theorem ok_fits {vt:Nat} {V':Ty} (hv:yP tt vt V'=true):tt.ok vt=true∧tt.isAgg vt=false:=by
 unfold yP at hv
 unfold dA.ok dA.isAgg
 split at hv
 ·split at hv
  ·rename_i hd _; rw[hd]; exact ⟨rfl,rfl⟩
  ·cases hv
 ·split at hv
  ·rename_i hd _; rw[hd]; exact ⟨rfl,rfl⟩
  ·cases hv
 ·cases hv

theorem Vn {z:Value} (h:z.oneCell'=true):z.cells.toList = [z]:=by
 cases z <;> simp_all [Value.oneCell',Value.cells]

theorem QB (T:vS P tt) {vt:Nat} {V':Ty} (hv:yP tt vt V'=true):∃z,(zeroValue vt).run P w = .ok z w∧dz w h c (M6 V' V'.bY) z:=by
 obtain ⟨qy,hag⟩:=ok_fits hv
 obtain ⟨i,z,hi,hs,hby,hz,hzs,hr⟩:=T.info vt qy
 have h1:=T.ones vt qy i z hi hz
 rw[hag]at h1
 have h3:=hr w h c
 rw[Vn h1]at h3
 refine ⟨z,by simp[Go.zeroValue,typeInfo,hi,hz],?_⟩
 unfold yP at hv
 split at hv
 ·split at hv
  ·rename_i hd hz'
   rw[hz']at h3
   exact h3.head
  ·cases hv
 ·split at hv
  ·rename_i hd hz'
   have e:_=_:=of_decide_eq_true hv
   subst e
   rw[hz']at h3
   exact h3.head
  ·cases hv
 ·cases hv

theorem O9 (T:vS P tt) (wf:WF w h c) {t kt vt i:Nat} {K V':Ty} {l:List (K.den × V'.den)} (ht:(tt.at t).d = .map kt vt) {m d:Value} (rm:dz w h c (.map i) m) (hm:h.at i = .uO K V' l)
  (hf:(vU tt kt K&&yP tt vt V')=true) {v:V} (rk:dz w h c v d) {kx:K.den} (hx:elD K v=some kx) (ok:Bool) :
  ∃r,(Instr.lookup t m d ok).run P w = .ok r w∧dz w h c (bif ok then .tuple [M6 V' (mw K V' kx l), .bool (CG K V' kx l)]else M6 V' (mw K V' kx l)) r:=by
 simp only[Bool.and_eq_true]at hf
 obtain ⟨QC,hf2⟩:=hf
 have hi:i<h.length:=by
  unfold aG.at at hm
  rcases Nat.lt_or_ge i (List.length h)with hi|hi
  ·exact hi
  ·simp[List.getD,List.getElem?_eq_none hi]at hm
 have ho:=wf.obj i hi
 rw[hm]at ho
 obtain ⟨b,es,clock,g1,g2,g3,g4,g5,g6⟩:=ho
 cases rm with
 | map hu hv =>
  obtain ⟨b',rfl,oH⟩:=hv
  have:=oH (by rw[hm]; simp)
  rw[g1]at this; cases this
  have hut:P.underlying t=some (.map kt vt):=er T ht
  have e:=So hx (Lq QC).1
  subst e
  have hl:es.toList.length=l.length:=by simpa using g5
  have hr:∀(j:Nat) (x:K.den × V'.den) (e:MapEntry),l[j]? = some x→es.toList[j]? = some e→dz w h c (M6 K x.1) e.key:=fun j x e hx he=>(g6 j x e hx (by simpa using he)).1
  obtain ⟨z,hz,rz⟩:=QB (w:=w) (h:=h) (c:=c) T hf2
  have hkey:∃u,P.underlying kt=some u∧IsKey u d:=by
   obtain ⟨u,q1,q2,_⟩:=Ht T QC rk rk
   exact ⟨u,q1,q2⟩
  obtain ⟨u,hu',hik⟩:=hkey
  have Hu:=run_findKey (w:=w) hu' (Lp T QC rk hu' l es.toList 0 hl hr)
  have XC:=run_checkKey (w:=w) hu' hik es.isEmpty 9999
  have yR:=Go.MapKept.run_getObj_map (P:=P) g2
  rcases I1 (K:=K) (T:=V') (k:=kx) l es.toList 0 hl with ⟨h1,h2,h3,_⟩|⟨j,x,e,h1,h2,h3,h4,h5,h6,_⟩
  ·rw[h1]at Hu
   rw[h2,h3]
   refine ⟨if ok then .tuple #[z, .bool false]else z,?_,?_⟩
   ·simp[Instr.lookup,run_underlying hut,yR,XC,Hu,hz]
   ·cases ok with
    | true =>
     refine .tuple rfl fun j v d hv hd => ?_
     match j,hv,hd with
     | 0,hv,hd=>simp at hv hd; subst hv; subst hd; exact rz
     | 1,hv,hd=>simp at hv hd; subst hv; subst hd; exact .bool _
     | j+2,hv,_=>simp at hv
    | false=>exact rz
  ·rw[h1]at Hu
   rw[h5,h6]
   have re:=(g6 j x e h2 (by simpa using h3)).2
   refine ⟨if ok then .tuple #[e.val, .bool true]else e.val,?_,?_⟩
   ·simp[Instr.lookup,run_underlying hut,yR,XC,Hu]
   ·cases ok with
    | true =>
     refine .tuple rfl fun j v d hv hd => ?_
     match j,hv,hd with
     | 0,hv,hd=>simp at hv hd; subst hv; subst hd; exact re
     | 1,hv,hd=>simp at hv hd; subst hv; subst hd; exact .bool _
     | j+2,hv,_=>simp at hv
    | false=>exact re
end
end Go.aF

namespace Go.aF
open Go.RowKit

section
variable {P:Program} {tt:dA} {w:World} {h:aG} {c:js} {R:Type}

def rj (w:World) (b o:Nat) (ds:List Value):Prop:=∀(j:Nat) (d:Value),ds[j]? = some d→w.cell? ⟨b,o+j,none⟩=some d

theorem yc (T:vS P tt) {t b o off:Nat} {cs:List V} {ds:List Value} (hr:cy w h c cs ds) (hc:rj w b o ds) {k:V→Option R} {r:R} (hk:rh tt t cs off k=some r) :
  n9 P w h c (loadVar t ⟨b,o+off,none⟩) k r:=by
 have qy:=Qt hk
 unfold rh at hk
 rw[if_pos qy]at hk
 split at hk
 ·rename_i Lj
  split at hk
  ·rename_i oJ
   have hlen:((ds.drop off).take (tt.at t).size).length=(tt.at t).size:=by have:=hr.1; simp; omega
   have Ho:=(hr.drop off).take (tt.at t).size
   have BH:=run_loadCells_list (P:=P) w ⟨b,o+off,none⟩ ((ds.drop off).take (tt.at t).size) (fun j v hv=>by
    rw[List.getElem?_take]at hv
    split at hv
    ·rw[List.getElem?_drop]at hv
     rw[qd,Nat.add_assoc]
     exact hc _ v hv
    ·cases hv)
   rw[hlen]at BH
   refine ⟨_, .agg ((ds.drop off).take (tt.at t).size).toArray,?_, .agg (by have:=Ho.1; simpa using this) (fun j v d hv hd=>Ho.2 j v d hv (by simpa using hd)),hk⟩
   simp[loadVar,T.isAgg qy,Lj,T.sizeOf qy,BH]
  ·cases hk
 ·rename_i Lj
  split at hk
  ·rename_i v hv
   have jb:off<cs.length:=(List.getElem?_eq_some_iff.1 hv).1
   have hd:ds[off]? = some (ds[off]'(by have:=hr.1; omega)):=List.getElem?_eq_getElem _
   refine ⟨v,_,?_,hr.2 off v _ hv hd,hk⟩
   simp[loadVar,T.isAgg qy,Lj,hc off _ hd]
  ·cases hk

theorem aG.fW {i:Nat} {o:bO} (e:h.at i=o) (hl:o ≠ .dead):i<h.length:=by
 unfold aG.at at e
 rcases Nat.lt_or_ge i (List.length h)with hi|hi
 ·exact hi
 ·simp[List.getD,List.getElem?_eq_none hi]at e
  exact absurd e.symm hl

theorem foldl_push (ns:List Int):∀s:ByteArray,(ns.foldl (fun (r:ByteArray) n=>r.push (UInt8.ofNat n.toNat)) s).data.toList=s.data.toList++ns.map fun n=>UInt8.ofNat n.toNat:=by
 induction ns with
 | nil=>intro s; simp
 | cons n ns ih=>intro s; simp only[List.foldl_cons]; rw[ih]; simp[ByteArray.push]

theorem Vo (wf:WF w h c) {i:Nat} {T':Ty} {l:List T'.den} (he:h.at i = .row T' l) {j:Nat} (hj:j<l.length) :
  ∃b ds,c.rZ i=some b∧rj w b (c.off i+j*T'.sz) ds∧cy w h c (T'.cells l[j]) ds:=by
 have hi:=aG.fW he (by simp)
 have ho:=wf.obj i hi
 rw[he]at ho
 rcases ho with ⟨_,rfl⟩|⟨b,arr,e,fz,h1,h2,h3,h4,h5⟩
 ·simp at hj
 ·have hlen:=T'.kD l[j]
  have hm:(j+1)*T'.sz≤l.length*T'.sz:=Nat.mul_le_mul_right _ hj
  rw[Nat.add_mul]at hm
  refine ⟨b,(arr.toList.drop (c.off i+j*T'.sz)).take T'.sz,h1,fun x d hd => ?_,?_,fun x v d hv hd => ?_⟩
  ·rw[List.getElem?_take]at hd
   split at hd
   ·rw[List.getElem?_drop]at hd
    rw[cell_of_row w b _ arr e fz h2]
    simpa using hd
   ·cases hd
  ·rw[hlen]; simp; omega
  ·obtain ⟨d',g1,g2⟩:=h5 j x l[j] v (List.getElem?_eq_getElem hj) hv
   rw[List.getElem?_take]at hd
   split at hd
   ·rw[List.getElem?_drop]at hd
    have:d'=d:=by
     have e1:arr[c.off i+j*T'.sz+x]? = some d:=by simpa using hd
     rw[g1]at e1; exact Option.some.inj e1
    subst this
    exact g2
   ·cases hd

theorem getD_eq {T':Ty} {l:List T'.den} {j:Nat} (hj:j<l.length):l.getD j T'.bY=l[j]:=by simp[List.getD,List.getElem?_eq_getElem hj]

theorem Ls (T:vS P tt) (wf:WF w h c) {t:Nat} {a:V} {a':Value} (ra:dz w h c a a') {lim:Option Nat} {k:V→Option R} {r:R}
  (hk:(match (generalizing:=false) a with
  | .ptr i o =>
   if DN lim i then
    match (generalizing:=false) h.at i with
    | .cells cs=>rh tt t cs o k
    | .lW v=>rh tt t [.undef,v] o k
    | _=>none
   else none
  | .uN cs=>rh tt t cs 0 k
  | .sD i sz j o =>
   if DN lim i then
    match (generalizing:=false) h.at i with
    | .row T l=>if sz=T.sz then cw (decide (j<l.length)) (rh tt t (T.cells (l.getD j T.bY)) o k)else none
    | _=>none
   else none
  | _=>none)=some r):n9 P w h c (Instr.loadAt t a') k r:=by
 split at hk
 ·rename_i i o
  split at hk
  ·split at hk
   ·rename_i cs he
    have hi:=aG.fW he (by simp)
    have ho:=wf.obj i hi
    rw[he]at ho
    obtain ⟨b,arr,e,h1,h2,h3⟩:=ho
    cases ra with
    | ptr hu hv =>
     obtain ⟨b',rfl,hb⟩:=hv
     have oH:=hb (by rw[he]; simp)
     rw[h1]at oH
     cases oH
     have:=yc (w:=w) (b:=b) (o:=0) T h3 (fun j d hd=>by
      rw[cell_of_row w b _ arr e _ h2]; simpa using hd) hk
     simpa [n9,Instr.loadAt,Instr.sureAddr]using this
   ·rename_i v he
    have hi:=aG.fW he (by simp)
    have ho:=wf.obj i hi
    rw[he]at ho
    obtain ⟨b,p,d,h1,h2,_,h3⟩:=ho
    cases ra with
    | ptr hu hv =>
     obtain ⟨b',rfl,hb⟩:=hv
     have oH:=hb (by rw[he]; simp)
     rw[h1]at oH
     cases oH
     have:=yc (w:=w) (b:=b) (o:=0) T (cy.cons (.undef p) (cy.cons h3 .nil)) (fun j d hd=>by
      rw[cell_of_row w b _ _ _ _ h2]
      match j,hd with
      | 0,hd=>simpa using hd
      | 1,hd=>simpa using hd
      | j+2,hd=>simp at hd) hk
     simpa [n9,Instr.loadAt,Instr.sureAddr]using this
   ·cases hk
  ·cases hk
 ·rename_i cs
  cases ra with
  | @uN _ b o f hc hr =>
   have hr':cy w h c cs ((List.range cs.length).map f):=by
    refine ⟨by simp,fun j v d hv hd => ?_⟩
    simp only[List.getElem?_map]at hd
    have jb:j<cs.length:=(List.getElem?_eq_some_iff.1 hv).1
    rw[List.getElem?_range jb]at hd
    simp at hd; subst hd
    exact hr j v hv
   have:=yc (w:=w) (b:=b) (o:=o) (off:=0) T hr' (fun j d hd=>by
    simp only[List.getElem?_map]at hd
    by_cases jb:j<cs.length
    ·rw[List.getElem?_range jb]at hd
     simp at hd; subst hd
     exact (hc j jb).1
    ·rw[List.getElem?_eq_none (by simp; omega)]at hd; cases hd) hk
   simpa [n9,Instr.loadAt,Instr.sureAddr]using this
 ·rename_i i sz j o
  split at hk
  ·split at hk
   ·rename_i T' l he
    split at hk
    ·rename_i oJ
     obtain ⟨hj,hk⟩:=cf hk
     simp at hj
     rw[getD_eq hj]at hk
     obtain ⟨b,ds,h1,h2,h3⟩:=Vo wf he hj
     cases ra with
     | sD hu hv =>
      obtain ⟨a,rfl,hv⟩:=hv
      obtain ⟨b',oH,rfl⟩:=hv T' l he oJ hj
      rw[h1]at oH
      cases oH
      have:=yc T h3 h2 hk
      simpa [n9,Instr.loadAt,Instr.sureAddr]using this
    ·cases hk
   ·cases hk
  ·cases hk
 ·cases hk

theorem Vp (wf:WF w h c) {i:Nat} {ik:IntKind} {l:List Int} (hl:h.at i = .row (.int ik) l) (jc:l ≠ []) :
  ∃b,c.rZ i=some b∧rj w b (c.off i) (l.map (Value.int ik)):=by
 have hi:=aG.fW hl (by simp)
 have ho:=wf.obj i hi
 rw[hl]at ho
 rcases ho with ⟨_,rfl⟩|⟨b,arr,el,fz,p1,p2,p3,p4,p5⟩
 ·exact absurd rfl jc
 ·have p5':∀(n:Nat) (z:Int),l[n]? = some z→arr[c.off i+n]? = some (.int ik z):=fun n z hz=>by
   obtain ⟨d,t1,t2⟩:=p5 n 0 z (.int ik z) hz rfl
   rw[t2.hZ.1]at t1
   simpa [Ty.sz]using t1
  refine ⟨b,p1,fun j d hd => ?_⟩
  simp only[List.getElem?_map]at hd
  cases hlj:l[j]? with
  | none=>rw[hlj]at hd; cases hd
  | some z =>
   rw[hlj]at hd; simp at hd; subst hd
   rw[cell_of_row w b _ arr el fz p2]
   exact p5' j z hlj

theorem QD {ik:IntKind} {l:List Int} {t:Tok} {A:Option Addr} {n cap:Nat} (r:dz w h c (.sl (.int ik) l t) (.slice A n cap)) (jc:l ≠ []) :
  ∃b o,A=some ⟨b,o,none⟩∧n=l.length∧rj w b o (l.map (Value.int ik)):=by
 cases r with
 | sl f kM r5 hc hr xj lC =>
  have Hq:0<l.length:=List.length_pos_iff.2 jc
  obtain ⟨b,o,rfl,_⟩:=hc 0 0 Hq (by simp[Ty.sz])
  refine ⟨b,o,rfl,rfl,fun j d hd => ?_⟩
  simp only[List.getElem?_map]at hd
  cases hlj:l[j]? with
  | none=>rw[hlj]at hd; cases hd
  | some z =>
   rw[hlj]at hd; simp at hd; subst hd
   have jb:j<l.length:=(List.getElem?_eq_some_iff.1 hlj).1
   obtain ⟨b',o',e',g1,_⟩:=hc j 0 jb (by simp[Ty.sz])
   cases e'
   have:=hr j 0 z (.int ik z) hlj rfl
   rw[this.hZ.1]at g1
   simpa [Ty.sz]using g1

theorem GK {s d e:TypeId} (us:P.underlying s=some (.slice e)) (ue:P.underlying e=some (.int .u8)) (ud:P.underlying d=some .string) {l:List Int} {A:Option Addr} {n cap:Nat}
  (hn:n=l.length) (xf:l ≠ []→∃b o,A=some ⟨b,o,none⟩∧rj w b o (l.map (Value.int .u8))) :
  ∃t,(convert s d (.slice A n cap)).run P w = .ok (.string t) w∧t.data.toList=l.map fun n=>UInt8.ofNat n.toNat:=by
 rw[run_convert_bytes_string w s d e A n cap us ue ud]
 by_cases JG:l = []
 ·subst JG
  subst hn
  refine ⟨.empty,?_,rfl⟩
  cases A with
  | none=>simp[Conv.bytesToString]
  | some a =>
   have hlc:=run_loadCells_list (P:=P) w a [] (fun j v hv=>by simp at hv)
   exact run_bytesToString (P:=P) w a 0 cap [] (by simpa using hlc)
 ·obtain ⟨b,o,rfl,hc⟩:=xf JG
  have hlc:=run_loadCells_list (P:=P) w ⟨b,o,none⟩ (l.map (Value.int .u8)) (fun j v hv=>by rw[qd]; exact hc j v hv)
  rw[List.length_map,←hn]at hlc
  exact ⟨_,run_bytesToString (P:=P) w ⟨b,o,none⟩ n cap l hlc,by rw[foldl_push]; rfl⟩

theorem QE (l:List Int):∀s:ByteArray,(l.foldl (fun r n=>r++Utf8.encode n) s).data.toList=s.data.toList++nT l:=by
 induction l with
 | nil=>intro s; simp[nT]
 | cons n l ih=>intro s; simp only[List.foldl_cons]; rw[ih]; simp[nT]

theorem Ka (l:List Int):(Go.runesBytes l).data.toList=nT l:=by
 unfold Go.runesBytes
 rw[QE]
 simp

theorem Sp {s d e:TypeId} (us:P.underlying s=some (.slice e)) (ue:P.underlying e=some (.int .i32)) (ud:P.underlying d=some .string) {l:List Int} {A:Option Addr} {n cap:Nat}
  (hn:n=l.length) (xf:l ≠ []→∃b o,A=some ⟨b,o,none⟩∧rj w b o (l.map (Value.int .i32))) :
  ∃t,(convert s d (.slice A n cap)).run P w = .ok (.string t) w∧t.data.toList=nT l∧t.size≤4*l.length:=by
 have hcv:(convert s d (.slice A n cap)).run P w=(Conv.runesToString (.slice A n cap)).run P w:=by
  unfold convert
  simp[run_underlying us,run_underlying ue,run_underlying ud]
 rw[hcv]
 by_cases JG:l = []
 ·subst JG
  subst hn
  refine ⟨.empty,?_,rfl,by simp⟩
  cases A with
  | none=>simp[Conv.runesToString]
  | some a =>
   have hlc:=run_loadCells_list (P:=P) w a [] (fun j v hv=>by simp at hv)
   exact Go.run_runesToString (P:=P) w a 0 cap [] (by simpa using hlc)
 ·obtain ⟨b,o,rfl,hc⟩:=xf JG
  have hlc:=run_loadCells_list (P:=P) w ⟨b,o,none⟩ (l.map (Value.int .i32)) (fun j v hv=>by rw[qd]; exact hc j v hv)
  rw[List.length_map,←hn]at hlc
  exact ⟨_,Go.run_runesToString (P:=P) w ⟨b,o,none⟩ n cap l hlc,Ka l,Go.runesBytes_size_le l⟩

theorem Vq (T:vS P tt) (wf:WF w h c) {o:Oper} {ρ:Operand→V} {ρ':Operand→Value} (hρ:∀x,dz w h c (ρ x) (ρ' x)) {lim:Option Nat} {k:V→Option R} {r:R}
  (hk:U4 tt o.op ρ h lim k=some r):∃v v',(execOp ρ' o).run P w = .ok (.value v') w∧dz w h c v v'∧k v=some r:=by
 obtain ⟨dst,op,type,pos,after,guard⟩:=o
 cases op <;> simp only[U4]at hk <;> try (first|cases hk)
 case load t x=>exact nW (Ls T wf (hρ x) hk)
 case lookup t x ix ok =>
  have rx:=hρ x
  split at hk <;> try (first|cases hk)
  rename_i kt vt i ht hx
  rw[hx]at rx
  split at hk <;> try (first|cases hk)
  split at hk <;> try (first|cases hk)
  rename_i K V' l hm
  split at hk <;> try (first|cases hk)
  rename_i hf
  split at hk <;> try (first|cases hk)
  rename_i kx hkx
  obtain ⟨v',g1,g2⟩:=O9 T wf ht rx hm hf (hρ ix) hkx ok
  refine ⟨_,v',by simp[execOp,g1],g2,?_⟩
  cases ok <;> exact hk
 case convert s d x =>
  have rx:=hρ x
  split at hk <;> try (first|cases hk)
  ·rename_i e i n hd hs hx
   rw[hx]at rx
   split at hk
   ·split at hk <;> try (first|cases hk)
    rename_i l he hl
    have ud:=er T hd
    have us:=er T hs
    have ue:=er T he
    simp only[TD.Is]at ud us ue
    cases rx with
    | row hu hn hv =>
     obtain ⟨A,cap,hv',hA,hv⟩:=hv
     obtain ⟨g1,g2,g3,g4⟩:=hv _ _ hl
     obtain ⟨t,h1,h2⟩:=GK (w:=w) (A:=A) (cap:=cap) (l:=l) us ue ud g1 (fun jc=>by
      obtain ⟨b,hb,hc⟩:=Vp wf hl jc
      rcases g4 with ⟨q0,_⟩|⟨b',arr,el,fz,q1,rfl,q2,q3⟩
      ·rw[hb]at q0; cases q0
      ·rw[hb]at q1; cases q1
       exact ⟨b,_,rfl,hc⟩)
     refine ⟨_, .string t,?_,zP t h2 ?_,hk⟩
     ·simp only[execOp,Sem.run_bind,hv',h1,Result.andThen_ok,Sem.run_pure]
     ·refine Nat.le_trans (Nat.le_of_eq (@List.length_map Int UInt8 (l:List Int) _)) ?_
      exact (show l.length≤mx from g1▸hn)
   ·cases hk
  ·rename_i e T' l tk hd hs hx
   rw[hx]at rx
   split at hk <;> try (first|cases hk)
   ·rename_i l he
    have ud:=er T hd
    have us:=er T hs
    have ue:=er T he
    simp only[TD.Is]at ud us ue
    obtain ⟨A,cap,hv,kM,r5⟩:=I0 rx
    rw[hv]at rx
    obtain ⟨t,h1,h2⟩:=GK (w:=w) (A:=A) (cap:=cap) (l:=l) (n:=List.length l) us ue ud rfl (fun jc=>by
     obtain ⟨b,o,e1,_,e3⟩:=QD rx jc
     exact ⟨b,o,e1,e3⟩)
    refine ⟨_, .string t,?_,zP t h2 ?_,hk⟩
    ·simp only[execOp,Sem.run_bind,hv,h1,Result.andThen_ok,Sem.run_pure]
    ·refine Nat.le_trans (Nat.le_of_eq (@List.length_map Int UInt8 (l:List Int) _)) ?_
     exact Nat.le_trans kM r5
   ·rename_i l he
    obtain ⟨hb,hk⟩:=cf hk
    have ud:=er T hd
    have us:=er T hs
    have ue:=er T he
    simp only[TD.Is]at ud us ue
    obtain ⟨A,cap,hv,kM,r5⟩:=I0 rx
    rw[hv]at rx
    obtain ⟨t,h1,h2,h3⟩:=Sp (w:=w) (A:=A) (cap:=cap) (l:=l) (n:=List.length l) us ue ud rfl (fun jc=>by
     obtain ⟨b,o,e1,_,e3⟩:=QD rx jc
     exact ⟨b,o,e1,e3⟩)
    refine ⟨_, .string t,?_,zP t h2 ?_,hk⟩
    ·simp only[execOp,Sem.run_bind,hv,h1,Result.andThen_ok,Sem.run_pure]
    ·rw[←h2]
     have oH:4*List.length (l:List Int)≤9223372036854775807:=of_decide_eq_true hb
     refine Nat.le_trans ?_ oH
     exact h3
  ·rename_i e hd hs hx
   rw[hx]at rx
   split at hk <;> try (first|cases hk)
   rename_i he
   have ud:=er T hd
   have us:=er T hs
   have ue:=er T he
   simp only[TD.Is]at ud us ue
   generalize hv:ρ' x=xv at rx
   cases rx
   obtain ⟨t,h1,h2⟩:=GK (w:=w) (A:=none) (cap:=0) (l := []) (n:=0) us ue ud rfl (fun jc=>(jc rfl).elim)
   refine ⟨_, .string t,?_,zP t h2 (Nat.zero_le _),hk⟩
   simp only[execOp,Sem.run_bind,hv,h1,Result.andThen_ok,Sem.run_pure]
end
end Go.aF

namespace Go.aF

def Wk (u v:V):Prop:=u=v∨∃(T:Ty) (l:List T.den),v = .sl T l .no∧B6 T u=some l

inductive Fx:List V→List V→Prop where
 | nil:Fx [] []
 | cons {u v:V} {us vs:List V} (h:Wk u v) (t:Fx us vs):Fx (u::us) (v::vs)

theorem Wk.rfl {u:V}:Wk u u := .inl _root_.rfl
theorem Wk.sl {T:Ty} {u:V} {l:List T.den} (h:B6 T u=some l):Wk u (.sl T l .no) := .inr ⟨T,l,_root_.rfl,h⟩

theorem Vr (k:IntKind) {cs:List V} {x:Int} (h:K3 k cs=some x):Fx cs (Ty.cells (.int k) x):=by
 unfold K3 at h
 split at h
 ·split at h
  ·rename_i e; subst e; cases h; exact .cons .rfl .nil
  ·cases h
 ·cases h
theorem Sq  {cs:List V} {x:Bool} (h:Hl cs=some x):Fx cs (Ty.cells (.bool) x):=by
 unfold Hl at h
 split at h
 ·cases h; exact .cons .rfl .nil
 ·cases h
theorem Vs  {cs:List V} {x:aj} (h:K4 cs=some x):Fx cs (Ty.cells (.str) x):=by
 unfold K4 at h
 split at h
 ·cases h; exact .cons .rfl .nil
 ·cases h
theorem Vt  {cs:List V} {x:iC} (h:R7 cs=some x):Fx cs (Ty.cells (.dcm) x):=by
 unfold R7 at h
 split at h
 ·cases h; exact .cons .rfl (.cons .rfl .nil)
 ·cases h
theorem Sr  {cs:List V} {x:Json} (h:OS cs=some x):Fx cs (Ty.cells (.json) x):=by
 unfold OS at h
 split at h
 ·split at h
  ·cases h; exact .cons .rfl (.cons .rfl (.cons .rfl (.cons .rfl (.cons (.sl ‹_›) (.cons (.sl ‹_›) .nil)))))
  ·cases h
 ·cases h
theorem Vu  {cs:List V} {x:Raw} (h:R8 cs=some x):Fx cs (Ty.cells (.raw) x):=by
 unfold R8 at h
 split at h
 ·split at h
  ·cases h; exact .cons .rfl (.cons .rfl (.cons .rfl (.cons (.sl ‹_›) (.cons (.sl ‹_›) .nil))))
  ·cases h
 ·cases h
theorem Ss  {cs:List V} {x:Hk} (h:OT cs=some x):Fx cs (Ty.cells (.OR) x):=by
 unfold OT at h
 split at h
 ·split at h
  ·cases h; exact .cons .rfl (.cons .rfl (.cons .rfl (.cons (.sl ‹_›) .nil)))
  ·cases h
 ·cases h
theorem Vv  {cs:List V} {x:Fld} (h:R9 cs=some x):Fx cs (Ty.cells (.fld) x):=by
 unfold R9 at h
 split at h
 ·cases h; exact .cons .rfl (.cons .rfl (.cons .rfl (.cons .rfl (.cons .rfl .nil))))
 ·cases h
theorem Su  {cs:List V} {x:Nd} (h:OU cs=some x):Fx cs (Ty.cells (.Qh) x):=by
 unfold OU at h
 split at h
 ·cases h; exact .cons .rfl (.cons .rfl (.cons .rfl .nil))
 ·cases h
theorem QF  {cs:List V} {x:Token} (h:K5 cs=some x):Fx cs (Ty.cells (.token) x):=by
 unfold K5 at h
 split at h
 ·cases h; exact .cons .rfl (.cons .rfl (.cons .rfl (.cons .rfl (.cons .rfl .nil))))
 ·cases h
theorem Sv  {cs:List V} {x:Stop} (h:OV cs=some x):Fx cs (Ty.cells (.stop) x):=by
 unfold OV at h
 split at h
 ·cases h; exact .cons .rfl (.cons .rfl (.cons .rfl .nil))
 ·cases h
theorem Vw  {cs:List V} {x:Way} (h:Sa cs=some x):Fx cs (Ty.cells (.TZ) x):=by
 unfold Sa at h
 split at h
 ·cases h; exact .cons .rfl (.cons .rfl (.cons .rfl .nil))
 ·cases h
theorem QG  {cs:List V} {x:Order} (h:K6 cs=some x):Fx cs (Ty.cells (.order) x):=by
 unfold K6 at h
 split at h
 ·split at h
  ·cases h; exact .cons .rfl (.cons .rfl (.cons .rfl (.cons .rfl (.cons (.sl ‹_›) (.cons (.sl ‹_›) .nil)))))
  ·cases h
 ·cases h
theorem Sw  {cs:List V} {x:Edge} (h:OW cs=some x):Fx cs (Ty.cells (.IV) x):=by
 unfold OW at h
 split at h
 ·cases h; exact .cons .rfl (.cons .rfl (.cons .rfl .nil))
 ·cases h
theorem Pa  {cs:List V} {x:BF} (h:IW cs=some x):Fx cs (Ty.cells (.layout) x):=by
 unfold IW at h
 split at h
 ·split at h
  ·cases h; exact .cons .rfl (.cons (.sl ‹_›) .nil)
  ·cases h
 ·cases h
theorem QH  {cs:List V} {x:Ga} (h:K7 cs=some x):Fx cs (Ty.cells (.topic) x):=by
 unfold K7 at h
 split at h
 ·cases h; exact .cons .rfl (.cons .rfl (.cons .rfl .nil))
 ·cases h
theorem QI  {cs:List V} {x:State} (h:K8 cs=some x):Fx cs (Ty.cells (.state) x):=by
 unfold K8 at h
 split at h
 ·cases h; exact .cons .rfl (.cons .rfl (.cons .rfl (.cons .rfl (.cons .rfl (.cons .rfl (.cons .rfl (.cons .rfl (.cons .rfl (.cons .rfl .nil)))))))))
 ·cases h
theorem Vx  {cs:List V} {x:Ctl} (h:Sb cs=some x):Fx cs (Ty.cells (.ctl) x):=by
 unfold Sb at h
 split at h
 ·split at h
  ·cases h; exact .cons .rfl (.cons .rfl (.cons .rfl (.cons .rfl (.cons .rfl (.cons .rfl (.cons (.sl ‹_›) (.cons .rfl (.cons .rfl (.cons .rfl (.cons .rfl (.cons .rfl (.cons .rfl (.cons .rfl (.cons .rfl (.cons (.sl ‹_›) (.cons (.sl ‹_›) .nil))))))))))))))))
  ·cases h
 ·cases h
theorem Sx  {cs:List V} {x:Nf} (h:OX cs=some x):Fx cs (Ty.cells (.Qi) x):=by
 unfold OX at h
 split at h
 ·cases h; exact .cons .rfl (.cons .rfl (.cons .rfl (.cons .rfl (.cons .rfl .nil))))
 ·cases h
theorem QJ  {cs:List V} {x:DL} (h:K9 cs=some x):Fx cs (Ty.cells (.JB) x):=by
 unfold K9 at h
 split at h
 ·split at h
  ·cases h; exact .cons .rfl (.cons .rfl (.cons .rfl (.cons .rfl (.cons .rfl (.cons .rfl (.cons (.sl ‹_›) .nil))))))
  ·cases h
 ·cases h
theorem Sy  {cs:List V} {x:Ng} (h:OY cs=some x):Fx cs (Ty.cells (.Qj) x):=by
 unfold OY at h
 split at h
 ·split at h
  ·cases h; exact .cons .rfl (.cons .rfl (.cons .rfl (.cons .rfl (.cons .rfl (.cons .rfl (.cons .rfl (.cons (.sl ‹_›) (.cons .rfl .nil))))))))
  ·cases h
 ·cases h
theorem Sz  {cs:List V} {x:Nh} (h:OZ cs=some x):Fx cs (Ty.cells (.Qk) x):=by
 unfold OZ at h
 split at h
 ·split at h
  ·cases h; exact .cons .rfl (.cons .rfl (.cons (.sl ‹_›) .nil))
  ·cases h
 ·cases h
theorem SA  {cs:List V} {x:Ni} (h:O0 cs=some x):Fx cs (Ty.cells (.Ql) x):=by
 unfold O0 at h
 split at h
 ·cases h; exact .cons .rfl (.cons .rfl (.cons .rfl .nil))
 ·cases h
theorem SB  {cs:List V} {x:J5} (h:O1 cs=some x):Fx cs (Ty.cells (.Nl) x):=by
 unfold O1 at h
 split at h
 ·cases h; exact .cons .rfl (.cons .rfl .nil)
 ·cases h
theorem SC  {cs:List V} {x:Nj} (h:O2 cs=some x):Fx cs (Ty.cells (.Qm) x):=by
 unfold O2 at h
 split at h
 ·cases h; exact .cons .rfl (.cons .rfl (.cons .rfl (.cons .rfl .nil)))
 ·cases h
theorem SD  {cs:List V} {x:Nk} (h:O3 cs=some x):Fx cs (Ty.cells (.post) x):=by
 unfold O3 at h
 split at h
 ·cases h; exact .cons .rfl (.cons .rfl .nil)
 ·cases h
theorem Vy  {cs:List V} {x:Job} (h:Sc cs=some x):Fx cs (Ty.cells (.job) x):=by
 unfold Sc at h
 split at h
 ·cases h; exact .cons .rfl (.cons .rfl (.cons .rfl (.cons .rfl .nil)))
 ·cases h
theorem Pb  {cs:List V} {x:BG} (h:IX cs=some x):Fx cs (Ty.cells (.record) x):=by
 unfold IX at h
 split at h
 ·split at h
  ·cases h; exact .cons .rfl (.cons (.sl ‹_›) (.cons .rfl .nil))
  ·cases h
 ·cases h

theorem dec_wk:∀(T:Ty) {cs:List V} {x:T.den},T.dec cs=some x→Fx cs (T.cells x)
 | .int k,_,_,h=>Vr k h
 | .bool,_,_,h=>Sq h
 | .str,_,_,h=>Vs h
 | .dcm,_,_,h=>Vt h
 | .json,_,_,h=>Sr h
 | .raw,_,_,h=>Vu h
 | .OR,_,_,h=>Ss h
 | .fld,_,_,h=>Vv h
 | .Qh,_,_,h=>Su h
 | .token,_,_,h=>QF h
 | .stop,_,_,h=>Sv h
 | .TZ,_,_,h=>Vw h
 | .order,_,_,h=>QG h
 | .IV,_,_,h=>Sw h
 | .layout,_,_,h=>Pa h
 | .topic,_,_,h=>QH h
 | .state,_,_,h=>QI h
 | .ctl,_,_,h=>Vx h
 | .Qi,_,_,h=>Sx h
 | .JB,_,_,h=>QJ h
 | .Qj,_,_,h=>Sy h
 | .Qk,_,_,h=>Sz h
 | .Ql,_,_,h=>SA h
 | .Nl,_,_,h=>SB h
 | .Qm,_,_,h=>SC h
 | .post,_,_,h=>SD h
 | .job,_,_,h=>Vy h
 | .record,_,_,h=>Pb h

end Go.aF

namespace Go.aF
open Go.RowKit

section
variable {P:Program} {tt:dA} {w w':World} {h h':aG} {c c':js}

theorem lL (h:aG) (i j:Nat) (o:bO):aG.at (h.set i o) j=if i=j∧i<h.length then o else h.at j:=by
 unfold aG.at
 simp only[List.getD,List.getElem?_set]
 by_cases vm:i=j
 ·subst vm
  by_cases hl:i<h.length
  ·simp[hl]
  ·simp[hl]
 ·simp[vm]

theorem cS {i j:Nat} (o:bO) (vm:i≠j):aG.at (h.set i o) j=h.at j:=by rw[lL]; simp[vm]
theorem lZ {i:Nat} (o:bO) (hi:i<h.length):aG.at (h.set i o) i=o:=by rw[lL]; simp[hi]

def js.put (c:js) (i:Nat) (b:Option Nat) (o:Nat):js:=⟨fun j=>if j=i then b else c.rZ j,fun j=>if j=i then o else c.off j,c.ext⟩
theorem qe {i j:Nat} (b:Option Nat) (o:Nat) (h:j≠i):(c.put i b o).rZ j=c.rZ j:=by simp[js.put,h]
theorem xk {i j:Nat} (b:Option Nat) (o:Nat) (h:j≠i):(c.put i b o).off j=c.off j:=by simp[js.put,h]
theorem db (i:Nat) (b:Option Nat) (o:Nat):(c.put i b o).rZ i=b:=by simp[js.put]
theorem fb (i:Nat) (b:Option Nat) (o:Nat):(c.put i b o).off i=o:=by simp[js.put]

theorem Fy {o:bO} (h1:o ≠ .free) (h2:o ≠ .dead):o.live:=by cases o <;> simp_all [bO.live]
theorem vX {o:bO} (h:o.live):o ≠ .dead:=by rintro rfl; exact h
theorem yd {b:Nat} {o:Obj} (h:w.heap[b]? = some o):b<w.heap.size:=(Array.getElem?_eq_some_iff.1 h).1

theorem nK.lt {i b:Nat} {o:bO} (ho:nK w h c i o) (hl:o.live) (hb:c.rZ i=some b):b<w.heap.size:=by
 cases o <;> simp only[bO.live]at hl <;> simp only[nK]at ho
 ·obtain ⟨b',arr,e,h1,h2,_⟩:=ho
  rw[h1]at hb; cases hb; exact yd h2
 ·rcases ho with ⟨h1,_⟩|⟨b',arr,e,fz,h1,h2,_⟩
  ·rw[h1]at hb; cases hb
  ·rw[h1]at hb; cases hb; exact yd h2
 ·rcases ho with h1|⟨b',arr,e,fz,h1,h2,_⟩
  ·rw[h1]at hb; cases hb
  ·rw[h1]at hb; cases hb; exact yd h2
 ·obtain ⟨b',bs,h1,h2,_⟩:=ho
  rw[h1]at hb; cases hb; exact yd h2
 ·obtain ⟨b',p,d,h1,h2,_⟩:=ho
  rw[h1]at hb; cases hb; exact yd h2
 ·obtain ⟨b',es,cl,h1,h2,_⟩:=ho
  rw[h1]at hb; cases hb; exact yd h2

theorem nK.uM (x:Ext w h c w' h' c') {i:Nat} {o:bO} (ho:nK w h c i o) (hb:∀b,c.rZ i=some b→w'.heap[b]? = w.heap[b]?) (e1:c'.rZ i=c.rZ i) (e2:c'.off i=c.off i) :
  nK w' h' c' i o:=by
 have T7:∀b x,c.rZ i=some b→w'.frozen? ⟨b,x,none⟩=w.frozen? ⟨b,x,none⟩:=fun b x h=>by simp only[World.frozen?,hb b h]
 cases o <;> simp only[nK]at ho ⊢
 ·obtain ⟨b,arr,e,h1,h2,h3⟩:=ho
  exact ⟨b,arr,e,e1▸h1,(hb b h1).trans h2,h3.mono x⟩
 ·rcases ho with ⟨h1,h2⟩|⟨b,arr,e,fz,h1,h2,h3,h4,h5⟩
  ·exact .inl ⟨e1▸h1,h2⟩
  ·refine .inr ⟨b,arr,e,fz,e1▸h1,(hb b h1).trans h2,by rw[e2]; exact h3,fun x hx=>by rw[T7 b x h1]; exact h4 x hx,fun n j y v hy hv => ?_⟩
   obtain ⟨d,g1,g2⟩:=h5 n j y v hy hv
   exact ⟨d,by rw[e2]; exact g1,g2.mono x⟩
 ·rcases ho with h1|⟨b,arr,e,fz,h1,h2,h3,h4⟩
  ·exact .inl (e1▸h1)
  ·exact .inr ⟨b,arr,e,fz,e1▸h1,(hb b h1).trans h2,by rw[e2]; exact h3,by rw[e2]; exact h4⟩
 ·obtain ⟨b,bs,h1,h2,h3⟩:=ho
  exact ⟨b,bs,e1▸h1,(hb b h1).trans h2,h3⟩
 ·obtain ⟨b,p,d,h1,h2,h3,h4⟩:=ho
  exact ⟨b,p,d,e1▸h1,(hb b h1).trans h2,h3,h4.mono x⟩
 ·obtain ⟨b,es,cl,h1,h2,h3,h4,h5,h6⟩:=ho
  exact ⟨b,es,cl,e1▸h1,(hb b h1).trans h2,h3,h4,h5,fun j q e hq he=>⟨(h6 j q e hq he).1.mono x,(h6 j q e hq he).2.mono x⟩⟩

theorem r7 {b x:Nat} (h:w'.heap[b]? = w.heap[b]?):w'.cell? ⟨b,x,none⟩=w.cell? ⟨b,x,none⟩:=by simp only[World.cell?,h]

theorem uG (hb:Below w.heap.size w w') {id:Nat} (hf:h.at id = .free) (ob:bO) {nb:Option Nat} {no:Nat} (hn:∀b,nb=some b→w.heap.size≤b) :
  Ext w h c w' (h.set id ob) (c.put id nb no) where
 os:=hb.os
 tape:=hb.tape
 output:=hb.output
 size:=hb.size
 used:=fun i hi=>by
  have jc:id≠i:=by rintro rfl; exact hi.2 hf
  exact ⟨by simpa using hi.1,by rw[cS _ jc]; exact hi.2⟩
 same:=fun i hi hd=>by
  have jc:id≠i:=by rintro rfl; exact hi.2 hf
  rw[cS _ jc]at hd ⊢
  refine ⟨?_,qe _ _ (Ne.symm jc),xk _ _ (Ne.symm jc)⟩
  have h2:=hi.2
  revert hd h2
  cases h.at i <;> simp[bO.gZ]
 cell:=fun b x hx _=>r7 (hb.block b hx)
 block:=fun b hx _=>hb.block b hx
 vH:=fun b x hx ho=>by
  obtain ⟨i,f,h1,h2,h3⟩:=ho
  by_cases jc:id=i
  ·subst jc
   rw[db]at h1
   have:=hn b h1
   omega
  ·rw[qe _ _ (Ne.symm jc)]at h1
   rw[cS _ jc,xk _ _ (Ne.symm jc)]at h2
   exact ⟨i,f,h1,h2,h3⟩
 ext:=rfl
 arr:=fun b arr e fz hx=>⟨arr,fz,by rw[hb.block b (yd hx)]; exact hx,rfl⟩

theorem WF.rq (wf:WF w h c) {h':aG} {c':js} (x:Ext w h c w' h' c'):Laid w' h' c' :=
 ⟨nR.uM w w' (fun b hb=>x.block b (wf.lay.2 b hb).1 (wf.lay.2 b hb).2) wf.lay.1,
  fun b hb=>⟨Nat.lt_of_lt_of_le (wf.lay.2 b hb).1 x.size,fun y ho=>(wf.lay.2 b hb).2 y (x.vH b y (wf.lay.2 b hb).1 ho)⟩⟩

theorem Az (wf:WF w h c) (hb:Below w.heap.size w w') {id:Nat} (hid:id<h.length) (hf:h.at id = .free) {ob:bO} {nb:Option Nat} {no:Nat} (hn:∀b,nb=some b→w.heap.size≤b)
  (DZ:nK w' (h.set id ob) (c.put id nb no) id ob):WF w' (h.set id ob) (c.put id nb no):=by
 have x:=uG (h:=h) (c:=c) hb hf ob (no:=no) hn
 constructor
 ·intro b y ho he
  have jb:b<w.heap.size:=wf.o3 b y he
  exact wf.wX b y (x.vH b y jb ho) he
 ·intro b y he
  exact Nat.lt_of_lt_of_le (wf.o3 b y he) hb.size
 ·intro i hi
  by_cases jc:id=i
  ·subst jc; rw[lZ _ hid]; exact DZ
  ·rw[cS _ jc]
   by_cases hl:(h.at i).live
   ·have ho:=wf.obj i (by simpa using hi)
    exact ho.uM x (fun b T8=>hb.block b (ho.lt hl T8)) (qe _ _ (Ne.symm jc)) (xk _ _ (Ne.symm jc))
   ·revert hl; cases h.at i <;> simp[bO.live,nK]
 ·intro i j b hi hj h1 h2
  have jb:∀k,id≠k→(aG.at (h.set id ob) k).live→(c.put id nb no).rZ k=some b→b<w.heap.size:=by
   intro k jc hl T8
   rw[cS _ jc]at hl
   rw[qe _ _ (Ne.symm jc)]at T8
   exact (wf.obj k (aG.fW rfl (vX hl))).lt hl T8
  by_cases h3:id=i <;> by_cases h4:id=j
  ·exact h3.symm.trans h4
  ·subst h3
   rw[db]at h1
   have:=hn b h1
   have:=jb j h4 hj h2
   omega
  ·subst h4
   rw[db]at h2
   have:=hn b h2
   have:=jb i h3 hi h1
   omega
  ·rw[cS _ h3]at hi
   rw[cS _ h4]at hj
   rw[qe _ _ (Ne.symm h3)]at h1
   rw[qe _ _ (Ne.symm h4)]at h2
   exact wf.inj i j b hi hj h1 h2
 ·exact wf.rq x

theorem Lt {T:Ty} {v:V} {d:Value} (r:dz w h c v d) {l:List T.den} (hs:B6 T v=some l):dz w h c (.sl T l .no) d:=by
 unfold B6 at hs
 split at hs
 ·cases hs
  cases r
  exact .sl (fun _ _=>undef) (Nat.le_refl _) (by unfold mx; exact Nat.zero_le _) (fun i j hi=>by simp at hi) (fun i j x v hx=>by simp at hx) (by simp) (by simp)
 ·rename_i T' l' t
  split at hs
  ·rename_i e
   subst e
   cases hs
   cases r with
   | sl f kM r5 hc hr xj lC=>exact .sl f kM r5 hc hr (by simp) (by simp)
  ·cases hs
 ·cases hs

theorem Wk.rep {u v:V} {d:Value} (k:Wk u v) (r:dz w h c u d):dz w h c v d:=by
 rcases k with rfl|⟨T,l,rfl,e⟩
 ·exact r
 ·exact Lt r e

theorem Fx.rep {us vs:List V} (k:Fx us vs):∀ {ds:List Value},cy w h c us ds→cy w h c vs ds:=by
 induction k with
 | nil=>exact fun r=>r
 | cons a _ ih =>
  intro ds r
  cases ds with
  | nil=>have:=r.1; simp at this
  | cons d ds=>exact .cons (a.rep r.head) (ih r.tail)

theorem Fz {T:Ty} {cs:List V} {x:T.den} (hx:T.dec cs=some x) {ds:List Value} (r:cy w h c cs ds):cy w h c (T.cells x) ds:=(dec_wk T hx).rep r
end

section
variable {P:Program} {tt:dA} {w:World} {h:aG} {c:js} {R:Type}

def I2 (P:Program) (w:World) (h:aG) (c:js) (s:Sem Value) (ob:bO) (mk:Nat→V):Prop :=
 ∀id,id<h.length→h.at id = .free→∃v' w' c',s.run P w = .ok v' w'∧WF w' (h.set id ob) c'∧Ext w h c w' (h.set id ob) c'∧dz w' (h.set id ob) c' (mk id) v'

theorem pZ (w:World) (o:Obj):Below w.heap.size w (w.alloc o):=(Below.refl _ _).alloc (Nat.le_refl _) o

theorem tT {id:Nat} (hid:id<h.length) {ob:bO} (ho:ob ≠ .free):Used (h.set id ob) id:=⟨by simpa using hid,by rw[lZ _ hid]; exact ho⟩

theorem JH (wf:WF w h c) {cs:List V} {ds:Array Value} (r:cy w h c cs ds.toList) (e:TypeId) {s:Sem Value} (kY:s.run P w = .ok (.pointer (some ⟨w.heap.size,0,none⟩)) (w.alloc (.cells ds e))) :
  I2 P w h c s (.cells cs) fun i => .ptr i 0:=by
 intro id hid hf
 have hb:=pZ w (.cells ds e)
 have hn:∀b,some w.heap.size=some b→w.heap.size≤b:=by intro b hb; cases hb; exact Nat.le_refl _
 have x:=uG (h:=h) (c:=c) hb hf (.cells cs) (no:=0) hn
 have DZ:nK (w.alloc (.cells ds e)) (h.set id (.cells cs)) (c.put id (some w.heap.size) 0) id (.cells cs):=by
  refine ⟨w.heap.size,ds,e,db _ _ _,heap_alloc_new w _,r.mono x⟩
 exact ⟨_,_,_,kY,Az wf hb hid hf hn DZ,x, .ptr (tT hid (by simp)) ⟨w.heap.size,rfl,fun _=>db _ _ _⟩⟩

theorem Lu (n:Nat):∀(m:Nat) (l:List V) (i:Nat),i<m→(chunks n m l)[i]? = some ((l.drop (i*n)).take n)
 | m+1,l,0,_=>by simp[chunks]
 | m+1,l,i+1,h=>by
  simp only[chunks,List.getElem?_cons_succ]
  rw[Lu n m (l.drop n) i (by omega),List.drop_drop]
  congr 3
  rw[Nat.add_mul]; omega

theorem AA (n:Nat):∀(m:Nat) (l:List V),(chunks n m l).length=m
 | 0,_=>rfl
 | m+1,l=>by simp[chunks,AA n m]

theorem AB {T:Ty}:∀ {css:List (List V)} {l:List T.den},uP T css=some l→l.length=css.length
 | [],l,hd=>by simp[uP]at hd; subst hd; rfl
 | c::cs,l,hd=>by
  simp only[uP]at hd
  split at hd
  ·cases hd; rename_i h1 h2; simp[AB h2]
  ·cases hd

theorem Lv {T:Ty}:∀ {css:List (List V)} {l:List T.den},uP T css=some l→∀(i:Nat) (x:T.den),l[i]? = some x→∃cs,css[i]? = some cs∧T.dec cs=some x
 | [],l,hd,i,x,hx=>by simp[uP]at hd; subst hd; simp at hx
 | c::cs,l,hd,i,x,hx=>by
  simp only[uP]at hd
  split at hd
  ·cases hd
   rename_i y ys h1 h2
   cases i with
   | zero=>simp at hx; subst hx; exact ⟨c,rfl,h1⟩
   | succ i=>simp at hx; exact Lv h2 i x hx
  ·cases hd

theorem Vz {T:Ty} {n:Nat} {cs:List V} {ds:List Value} (r:cy w h c cs ds) {l:List T.den} (hd:uP T (chunks T.sz n cs)=some l) :
  ∀(i j:Nat) (x:T.den) (v:V),l[i]? = some x→(T.cells x)[j]? = some v→dz w h c v (ds.getD (i*T.sz+j) undef):=by
 intro i j x v hx hv
 have hl:=AB hd
 rw[AA]at hl
 have hi:i<l.length:=(List.getElem?_eq_some_iff.1 hx).1
 obtain ⟨cs',h1,h2⟩:=Lv hd i x hx
 rw[Lu _ _ _ _ (by omega)]at h1
 cases h1
 have rr:=Fz h2 ((r.drop (i*T.sz)).take T.sz)
 have hj:j<(T.cells x).length:=(List.getElem?_eq_some_iff.1 hv).1
 rw[T.kD]at hj
 have hlen:=rr.1
 rw[T.kD]at hlen
 have Vf:((ds.drop (i*T.sz)).take T.sz)[j]? = some (((ds.drop (i*T.sz)).take T.sz)[j]'(by omega)):=List.getElem?_eq_getElem _
 have:=rr.2 j v _ hv Vf
 have e:ds.getD (i*T.sz+j) undef=((ds.drop (i*T.sz)).take T.sz)[j]'(by omega):=by
  rw[List.getElem?_take,if_pos hj,List.getElem?_drop]at Vf
  simp[List.getD,Vf]
 rw[e]; exact this

theorem Nq (z:Array Value) (m:Nat):(madeCells z (z.size+m)).toList=z.toList++(madeCells z m).toList:=by
 simp only[madeCells,Array.toList_map,Array.toList_range,List.range_add,List.map_append,List.map_map]
 congr 1
 ·apply List.ext_getElem
  ·simp
  ·intro i h1 h2
   simp only[List.length_map,List.length_range]at h1
   simp[Nat.mod_eq_of_lt h1,getElem!_pos z i h1]
 ·apply List.map_congr_left
  intro k _
  simp

theorem QK {zs:List V} {z:Array Value} (r:cy w h c zs z.toList):∀n:Nat,cy w h c (List.replicate n zs).flatten (madeCells z (n*z.size)).toList
 | 0=>by simp[madeCells]; exact .nil
 | n+1=>by
  have e:(n+1)*z.size=z.size+n*z.size:=by rw[Nat.add_mul]; omega
  rw[e,Nq z _,List.replicate_succ,List.flatten_cons]
  exact r.append (QK r n)

theorem BI (wf:WF w h c) {id:Nat} (ob:bO) (no x:Nat) (hx:∀f,ob.from_ no=some f→¬f≤x) (hid:id<h.length):FO (h.set id ob) (c.put id (some w.heap.size) no) w.heap.size x:=by
 refine ⟨?_,fun he=>Nat.lt_irrefl _ (wf.o3 _ _ he)⟩
 rintro ⟨i,f,h1,h2,h3⟩
 by_cases jc:id=i
 ·subst jc
  rw[lZ _ hid,fb]at h2
  exact hx f h2 h3
 ·rw[cS _ jc,xk _ _ (Ne.symm jc)]at h2
  rw[qe _ _ (Ne.symm jc)]at h1
  have hl:(h.at i).live:=by revert h2; cases h.at i <;> simp[bO.from_,bO.live]
  have:=(wf.obj i (aG.fW rfl (vX hl))).lt hl h1
  omega

theorem QL (wf:WF w h c) {T:Ty} {n:Nat} {cs:List V} {ds:Array Value} (r:cy w h c cs ds.toList) {l:List T.den} (hd:uP T (chunks T.sz n cs)=some l) (oJ:ds.size=n*T.sz) (hn:n≤mx)
  (e:TypeId) (SE:Sk T 0 e) {s:Sem Value} (kY:s.run P w = .ok (.slice (some ⟨w.heap.size,0,none⟩) n n) (w.alloc (.cells ds e))) :
  I2 P w h c s .tok fun i => .sl T l (.own i):=by
 intro id hid hf
 have hb:=pZ w (.cells ds e)
 have IQ:∀b,some w.heap.size=some b→w.heap.size≤b:=by intro b hb; cases hb; exact Nat.le_refl _
 have x:=uG (h:=h) (c:=c) hb hf .tok (no:=n*T.sz) IQ
 have hl:l.length=n:=by rw[AB hd,AA]
 have A4:=heap_alloc_new w (.cells ds e)
 have DZ:nK (w.alloc (.cells ds e)) (h.set id .tok) (c.put id (some w.heap.size) (n*T.sz)) id .tok:=by
  refine .inr ⟨w.heap.size,ds,e,(0,0),db _ _ _,A4,by rw[fb]; omega, .inl rfl⟩
 have hel:=Vz (r.mono x) hd
 refine ⟨_,_,_,kY,Az wf hb hid hf IQ DZ,x,?_⟩
 subst hl
 refine .sl (fun i j=>ds.toList.getD (i*T.sz+j) undef) (Nat.le_refl _) hn (fun i j hi hj=>⟨w.heap.size,0,rfl,?_,?_⟩) hel (by simp) (fun i he => ?_)
 ·have jb:i*T.sz+j<ds.size:=by
   have:=Nat.mul_le_mul_right T.sz hi
   rw[Nat.succ_mul]at this; omega
  rw[Nat.zero_add,cell_of_row _ _ _ _ _ _ A4]
  simp[List.getD,jb]
 ·refine BI wf _ _ _ (fun f VA => ?_) hid
  simp[bO.from_]at VA
  have:=Nat.mul_le_mul_right T.sz hi
  rw[Nat.succ_mul]at this; omega
 ·cases he
  refine ⟨tT hid (by simp),fun _ => .inr ⟨w.heap.size,0,ds,e,(0,0),db _ _ _,rfl,by rw[fb,Nat.zero_add],A4,by omega,SE⟩⟩

theorem Hv (wf:WF w h c) {n sz:Nat} {cs:List V} {ds:Array Value} (r:cy w h c cs ds.toList) (oJ:cs.length=n*sz) (hn:n≤mx)
  (e:TypeId) {s:Sem Value} (kY:s.run P w = .ok (.slice (some ⟨w.heap.size,0,none⟩) n n) (w.alloc (.cells ds e))) :
  I2 P w h c s .dead fun _ => .J6 n cs:=by
 intro id hid hf
 have hb:=pZ w (.cells ds e)
 have IQ:∀b,some w.heap.size=some b→w.heap.size≤b:=by intro b hb; cases hb; exact Nat.le_refl _
 have x:=uG (h:=h) (c:=c) hb hf .dead (no:=0) IQ
 have A4:=heap_alloc_new w (.cells ds e)
 refine ⟨_,_,_,kY,Az wf hb hid hf IQ trivial,x,?_⟩
 have r':=r.mono x
 have hl:=r.1
 refine .J6 oJ hn (fun j=>ds.toList.getD j undef) (fun j hj=>⟨w.heap.size,0,rfl,?_,?_⟩) (fun j v hv => ?_)
 ·rw[Nat.zero_add,cell_of_row _ _ _ _ _ _ A4]
  have jb:j<ds.size:=by simp at hl; omega
  simp[List.getD,jb]
 ·exact BI wf _ _ _ (fun f VA=>by simp[bO.from_]at VA) hid
 ·have hj:j<cs.length:=(List.getElem?_eq_some_iff.1 hv).1
  have jb:j<ds.toList.length:=by omega
  refine r'.2 j v _ hv ?_
  simp only[List.getD,List.getElem?_eq_getElem jb,Option.getD_some]

end

section
variable {P:Program} {tt:dA} {w:World} {h:aG} {c:js} {R:Type}

theorem vn {w:World} {b:Nat} {arr:Array Value} {e:TypeId} (hb:w.heap[b]? = some (.cells arr e (0,0))) (x:Nat):w.frozen? ⟨b,x,none⟩=false:=by
 simp[World.frozen?,hb]

theorem I3 (wf:WF w h c) {T:Ty} {l:List T.den} {ds:Array Value} {w':World} (hb:Below w.heap.size w w') {e:TypeId} {fz:Nat × Nat} (A4:w'.heap[w.heap.size]? = some (.cells ds e fz))
  (T7:∀x,x<ds.size→w'.frozen? ⟨w.heap.size,x,none⟩=false) {cap:Nat} (kM:l.length≤cap) (r5:cap≤mx) (oJ:cap*T.sz≤ds.size)
  (hr:∀(n j:Nat) (x:T.den) (v:V),l[n]? = some x→(T.cells x)[j]? = some v→∃d,ds[n*T.sz+j]? = some d∧∀(w:World) (h:aG) (c:js),dz w h c v d)
  {s:Sem Value} (kY:s.run P w = .ok (.slice (some ⟨w.heap.size,0,none⟩) l.length cap) w') :
  I2 P w h c s (.row T l) fun i => .row i l.length:=by
 intro id hid hf
 have IQ:∀b,some w.heap.size=some b→w.heap.size≤b:=by intro b hb; cases hb; exact Nat.le_refl _
 have x:=uG (h:=h) (c:=c) hb hf (.row T l) (no:=0) IQ
 have hm:l.length*T.sz≤cap*T.sz:=Nat.mul_le_mul_right _ kM
 have DZ:nK w' (h.set id (.row T l)) (c.put id (some w.heap.size) 0) id (.row T l):=by
  refine .inr ⟨w.heap.size,ds,e,fz,db _ _ _,A4,by rw[fb]; omega,T7,fun n j y v hy hv => ?_⟩
  obtain ⟨d,h1,h2⟩:=hr n j y v hy hv
  exact ⟨d,by rw[fb,Nat.zero_add]; exact h1,h2 _ _ _⟩
 refine ⟨_,_,_,kY,Az wf hb hid hf IQ DZ,x,?_⟩
 refine .row (tT hid (by simp)) (by omega) ⟨_,_,rfl,fun _=>⟨_,rfl⟩,fun T' l' he => ?_⟩
 rw[lZ _ hid]at he
 cases he
 exact ⟨rfl,kM,r5, .inr ⟨w.heap.size,ds,e,fz,db _ _ _,by rw[fb],A4,by rw[fb]; omega⟩⟩

theorem I4 (T:vS P tt) (wf:WF w h c) {t len:Nat} {parts:Array (Nat × Operand)} {ρ:Operand→V} {ρ':Operand→Value} (hρ:∀x,dz w h c (ρ x) (ρ' x)) {k:bO→(Nat→V)→Option R} {r:R}
  (hk:W5 tt (.buildSlice t len parts) ρ k=some r):∃ob mk,k ob mk=some r∧ob ≠ .free∧I2 P w h c (Instr.buildSlice t len (parts.map fun (i,x)=>(i,ρ' x))) ob mk:=by
 simp only[W5]at hk
 split at hk
 ·rename_i e hd
  split at hk
  ·cases hk
  ·rename_i Hh
   simp only[Bool.or_eq_true,Bool.not_eq_true',decide_eq_true_eq,not_or,Bool.not_eq_false,Nat.not_lt]at Hh
   obtain ⟨⟨oJ,hsm⟩,qy⟩:=Hh
   have hu:=er T hd
   simp only[TD.Is]at hu
   have hse:=T.sizeOf (w:=w) qy
   obtain ⟨z,hz,hzs,Lo⟩:=T.zero (w:=w) qy
   have CP:=NW hρ parts.toList
   have hmade:=QK (w:=w) (h:=h) (c:=c) (Lo w h c) len
   rw[hzs]at hmade
   have key:∀cs,Gb ((List.replicate len (tt.at e).zero).flatten) (parts.toList.map fun (i,x)=>(i*(tt.at e).size,(tt.at e).size,ρ x))=some cs →
     ∃ds:Array Value,cy w h c cs ds.toList∧ds.size=len*(tt.at e).size ∧
      (Instr.buildSlice t len (parts.map fun (i,x)=>(i,ρ' x))).run P w = .ok (.slice (some ⟨w.heap.size,0,none⟩) len len) (w.alloc (.cells ds e)):=by
    intro cs hf
    obtain ⟨IZ,h1,h2,h3⟩:=CM (w:=w) (h:=h) (c:=c) (fun i=>some (i*(tt.at e).size,(tt.at e).size)) (parts.toList.map fun p=>(p.1,ρ p.2)) (parts.toList.map fun p=>(p.1,ρ' p.2))
     ((List.replicate len (tt.at e).zero).flatten) (madeCells z.cells (len*(tt.at e).size)) cs CP.1 CP.2 hmade (by
      rw[←hf,List.map_map]
      congr 1) (by rw[size_madeCells]; omega)
    rw[size_madeCells]at h3
    refine ⟨IZ,h2,h3,?_⟩
    have Pc:¬(len*(tt.at e).size>2 ^ 24):=by omega
    simp only[Instr.buildSlice,Sem.run_bind,run_underlying hu,Result.andThen_ok,hse,if_neg Pc]
    by_cases JG:len*(tt.at e).size=0
    ·simp only[JG,if_true,Array.toList_map]
     have e0:madeCells z.cells (len*(tt.at e).size) = #[]:=by rw[JG]; simp[madeCells]
     rw[e0]at h1
     simp only[Array.range_zero',Array.map_empty]
     rw[h1]
     simp[newRow]
    ·simp only[if_neg JG,Sem.run_bind,hz,Result.andThen_ok,Sem.run_pure,Array.toList_map]
     have e1:(Array.range (len*(tt.at e).size)).map (z.cells[· % z.cells.size]!)=madeCells z.cells (len*(tt.at e).size):=rfl
     rw[e1,h1]
     simp[newRow]
   split at hk
   ·rename_i cs T' hf hty
    split at hk
    ·rename_i hT
     obtain ⟨ds,g1,g2,g3⟩:=key cs hf
     split at hk
     ·rename_i A5
      simp only[Bool.and_eq_true,decide_eq_true_eq]at A5
      obtain ⟨_,rfl⟩:=A5
      have hds:ds.size=0:=by omega
      have A4:=heap_alloc_new w (.cells ds e)
      exact ⟨_,_,hk,by simp,I3 (T:=T') (l := []) (cap:=0) wf (pZ w _) A4 (fun x _=>vn A4 x) (Nat.le_refl _) (by unfold mx; omega) (by omega) (fun n j x v hx=>by simp at hx) g3⟩
     split at hk
     ·rename_i l hl
      rw[←hT]at hl g2
      exact ⟨_,_,hk,by simp,QL wf g1 hl g2 (by unfold mx; have:len≤len*(tt.at e).size:=Nat.le_mul_of_pos_right _ (by omega); omega) e (fun hT'=>⟨rfl,T.u8s e (by rw[hty,hT'])⟩) g3⟩
     ·exact ⟨_,_,hk,by simp,Hv wf (sz:=(tt.at e).size) g1 (by have:=g1.1; simp at this; omega) (by unfold mx; have:len≤len*(tt.at e).size:=Nat.le_mul_of_pos_right _ (by omega); omega) e g3⟩
    ·cases hk
   ·rename_i cs hf hty
    obtain ⟨ds,g1,g2,g3⟩:=key cs hf
    exact ⟨_,_,hk,by simp,Hv wf (sz:=(tt.at e).size) g1 (by have:=g1.1; simp at this; omega) (by unfold mx; have:len≤len*(tt.at e).size:=Nat.le_mul_of_pos_right _ (by omega); omega) e g3⟩
   ·cases hk
 ·cases hk

theorem xl {o:Oper} {ρ':Operand→Value} {s:Sem Value} {ob:bO} {mk:Nat→V} (he:execOp ρ' o=(do pure (.value (←s)))) (ha:I2 P w h c s ob mk) :
  ∀id,id<h.length→h.at id = .free→∃v' w' c',(execOp ρ' o).run P w = .ok (.value v') w'∧WF w' (h.set id ob) c'∧Ext w h c w' (h.set id ob) c'∧dz w' (h.set id ob) c' (mk id) v':=by
 intro id hid hf
 obtain ⟨v',w',c',h1,h2⟩:=ha id hid hf
 exact ⟨v',w',c',by rw[he]; simp[h1],h2⟩

theorem I5 (T:vS P tt) {t e:Nat} (hd:(tt.at t).d = .slice e) (qy:tt.ok e=true) {i j:IntKind} {a:Int} (h0:0≤a) (hb:a*(tt.at e).bytes≤140737488355328) (r5:a≤9223372036854775807) :
  ∃z:Value,z.cells.size=(tt.at e).size∧(∀(w:World) (h:aG) (c:js),cy w h c (tt.at e).zero z.cells.toList) ∧
   (Instr.makeSlice t (.int i a) (.int j a)).run P w = .ok (.slice (some ⟨w.heap.size,0,none⟩) a.toNat a.toNat) (w.alloc (.cells (madeCells z.cells (a.toNat*(tt.at e).size)) e)):=by
 have hu:=er T hd
 simp only[TD.Is]at hu
 obtain ⟨inf,z,hi,hs,hby,hz,hzs,hr⟩:=T.info e qy
 have kY:=run_make (P:=P) w t e inf z hu hi hz i j a a h0 (Int.le_refl _) (by rw[hby,Int.mul_comm]; omega) r5
 rw[hs]at kY
 exact ⟨z,by omega,hr,kY⟩

theorem VB {z:Array Value} (n:Nat) {i j:Nat} (hi:i<n) (hj:j<z.size):(madeCells z (n*z.size))[i*z.size+j]? = some (z[j]):=by
 have jb:i*z.size+j<n*z.size:=by
  have:=Nat.mul_le_mul_right z.size hi
  rw[Nat.succ_mul]at this; omega
 simp only[madeCells,Array.getElem?_map]
 rw[Array.getElem?_eq_getElem (by simpa using jb)]
 simp only[Array.getElem_range,Option.map_some]
 congr 1
 rw[Nat.mul_comm,Nat.mul_add_mod,Nat.mod_eq_of_lt hj,getElem!_pos z j hj]

theorem Hw (e:TypeId) (s:ByteArray):∃(cap:Nat) (w':World),(Conv.stringToBytes e s).run P w = .ok (.slice (some ⟨w.heap.size,0,none⟩) s.size cap) w'∧Below w.heap.size w w'∧s.size≤cap∧(s.size≤mx→cap≤mx) ∧
  ∃ds:Array Value,w'.heap[w.heap.size]? = some (.cells ds e (ds.size,ds.size+1))∧ds.size=cap∧∀(i:Nat) (b:UInt8),s.data.toList[i]? = some b→ds[i]? = some (.int .u8 b.toNat):=by
 let cap:=(Question.appendCap s.size 0 e).cut (w.tape w.drawn (.appendCap s.size 0 e))
 have kM:s.size≤cap:=by simp only[cap,Question.cut]; omega
 let ds:Array Value:=(s.data.map fun b=>Value.int .u8 b.toNat)++Array.replicate (cap - s.size) (.int .u8 0)
 have hds:ds.size=cap:=by
  simp only[ds,Array.size_append,Array.size_map,Array.size_replicate]
  have:s.data.size=s.size:=rfl
  omega
 refine ⟨cap,(w.drew.alloc (.cells ds e)).freeze ⟨w.heap.size,ds.size,none⟩ 1,?_,?_,kM,fun hs => ?_,ds,?_,hds,fun i b hb => ?_⟩
 ·have hf:(Question.appendCap s.size 0 e).forced=false:=rfl
  simp only[Conv.stringToBytes,Sem.run_bind,run_choose,hf]
  simp only[Bool.false_eq_true,if_false,Result.andThen_ok,newRow,Sem.run_bind,run_newObj,Sem.run_pure]
  have hsh:(w.drew.alloc (.cells ds e)).shape? w.heap.size=some (e,ds.size):=by
   have:=heap_alloc_new w.drew (.cells ds e)
   simp only[World.shape?]
   rw[show (w.drew.alloc (.cells ds e)).heap[w.heap.size]? = some (.cells ds e)from this]
  show ((markStringish ⟨w.heap.size,0,none⟩).run P (w.drew.alloc (.cells ds e))).andThen _=_
  simp only[markStringish,Sem.run_bind,run_shape,hsh,Result.andThen_ok,run_freeze]
  rfl
 ·refine ⟨rfl,rfl,rfl,?_,fun k hk => ?_⟩
  ·have:((w.drew.alloc (.cells ds e)).freeze ⟨w.heap.size,ds.size,none⟩ 1).heap.size=w.heap.size+1:=by simp[World.freeze]
   omega
  ·simp only[World.freeze]
   rw[if_neg (by decide)]
   simp only[Array.getElem?_modify]
   rw[if_neg (by show ¬w.heap.size=k; omega)]
   exact Below.heap_alloc w.drew _ k hk
 ·have jb:w.tape w.drawn (Question.appendCap s.size 0 e) % (2 ^ 63 - s.size)<2 ^ 63 - s.size:=Nat.mod_lt _ (by unfold mx at hs; omega)
  simp only[cap,Question.cut]
  unfold mx at hs ⊢
  omega
 ·simp only[World.freeze]
  rw[if_neg (by decide)]
  simp only[Array.getElem?_modify]
  have:=heap_alloc_new w.drew (.cells ds e)
  rw[show (w.drew.alloc (.cells ds e)).heap[w.heap.size]? = some (.cells ds e)from this]
  simp
 ·have jb:i<s.data.size:=by
   have:=(List.getElem?_eq_some_iff.1 hb).1
   simpa using this
  simp only[ds]
  rw[Array.getElem?_append_left (by simpa using jb)]
  simp only[Array.getElem?_map]
  have:s.data[i]? = some b:=by simpa using hb
  rw[this]; rfl

theorem VC (T:vS P tt) (wf:WF w h c) {o:Oper} {ρ:Operand→V} {ρ':Operand→Value} (hρ:∀x,dz w h c (ρ x) (ρ' x)) {k:bO→(Nat→V)→Option R} {r:R}
  (hk:W5 tt o.op ρ k=some r):∃ob mk,k ob mk=some r∧ob ≠ .free∧∀id,id<h.length→h.at id = .free →
   ∃v' w' c',(execOp ρ' o).run P w = .ok (.value v') w'∧WF w' (h.set id ob) c'∧Ext w h c w' (h.set id ob) c'∧dz w' (h.set id ob) c' (mk id) v':=by
 obtain ⟨dst,op,type,pos,after,guard⟩:=o
 cases op <;> (try simp only[W5]at hk) <;> try (first|cases hk)
 case alloc t =>
  split at hk
  ·rename_i hb
   obtain ⟨rfl,hz0,qy⟩:=T.blds t hb
   obtain ⟨z,hz,hzs,Lo⟩:=T.zero (w:=w) qy
   refine ⟨_,_,hk,by simp,xl (s:=Instr.alloc nR.lW true (.tuple #[])) rfl ?_⟩
   have Lo:=Lo w h c
   rw[hz0]at Lo
   have ye:z.cells = #[.pointer none, .slice none 0 0]:=by
    generalize z.cells=q at Lo
    obtain ⟨l⟩:=q
    match l,Lo with
    | [p,d],Lo =>
     have r0:=Lo.head
     have r1:=Lo.tail.head
     cases r0; cases r1; rfl
    | [],Lo=>have:=Lo.1; simp at this
    | [_],Lo=>have:=Lo.1; simp at this
    | _::_::_::_,Lo=>have:=Lo.1; simp at this
   intro id hid hf
   have hbel:=pZ w (.cells #[.pointer none, .slice none 0 0] nR.lW)
   have hn:∀b,some w.heap.size=some b→w.heap.size≤b:=by intro b hb; cases hb; exact Nat.le_refl _
   have x:=uG (h:=h) (c:=c) hbel hf (.lW .cM) (no:=0) hn
   have DZ:nK (w.alloc (.cells #[.pointer none, .slice none 0 0] nR.lW)) (h.set id (.lW .cM)) (c.put id (some w.heap.size) 0) id (.lW .cM) :=
    ⟨w.heap.size,_,_,db _ _ _,heap_alloc_new w _, .inl rfl, .cM⟩
   exact ⟨_,_,_,by simp[Instr.alloc,hz,newVar,newRow,ye],Az wf hbel hid hf hn DZ,x, .ptr (tT hid (by simp)) ⟨w.heap.size,rfl,fun _=>db _ _ _⟩⟩
  split at hk
  ·rename_i qy
   obtain ⟨z,hz,hzs,Lo⟩:=T.zero (w:=w) qy
   exact ⟨_,_,hk,by simp,xl (s:=Instr.alloc t true (.tuple #[])) rfl (JH wf (Lo w h c) t (by simp[Instr.alloc,hz,newVar,newRow]))⟩
  ·cases hk
 case box t x =>
  split at hk
  ·rename_i cs ye
   split at hk
   ·obtain ⟨rv,_,_⟩:=Eu (hρ x) ye
    exact ⟨_,_,hk,by simp,xl (s:=Instr.box t (ρ' x)) rfl (JH wf rv t (by simp[Instr.box,newVar,newRow]))⟩
   ·cases hk
  ·cases hk
 case buildSlice t len parts =>
  obtain ⟨ob,mk,h1,h0,h2⟩:=I4 T wf hρ hk
  exact ⟨ob,mk,h1,h0,xl rfl h2⟩
 case makeSlice t n cc =>
  split at hk
  ·rename_i e i a j b hd hn hc
   split at hk
   ·rename_i T' hty
    split at hk
    ·rename_i z hz
     split at hk
     ·rename_i sV
      simp only[Bool.and_eq_true,decide_eq_true_eq]at sV
      obtain ⟨oJ,qy⟩:=sV
      obtain ⟨hb,Fw⟩:=cf hk
      clear hk
      simp only[Bool.and_eq_true,decide_eq_true_eq]at hb
      obtain ⟨⟨⟨h0,rfl⟩,hby⟩,r5⟩:=hb
      have rn:=hρ n
      have rc:=hρ cc
      rw[hn]at rn; rw[hc]at rc
      obtain ⟨en,hn1,hn2⟩:=rn.hZ
      obtain ⟨ec,hc1,hc2⟩:=rc.hZ
      obtain ⟨zv,g1,g2,g3⟩:=I5 (w:=w) (i:=i) (j:=j) T hd qy h0 hby (by omega)
      have A4:=heap_alloc_new w (.cells (madeCells zv.cells (a.toNat*(tt.at e).size)) e)
      have hs:(Instr.makeSlice t (ρ' n) (ρ' cc)).run P w = .ok (.slice (some ⟨w.heap.size,0,none⟩) (List.replicate a.toNat z).length a.toNat) (w.alloc (.cells (madeCells zv.cells (a.toNat*(tt.at e).size)) e)):=by
       rw[en,ec,g3]; simp
      have:=I3 (T:=T') (l:=List.replicate a.toNat z) wf (pZ w _) A4 (fun x _=>vn A4 x) (by simp) (by unfold mx; omega) (by rw[size_madeCells,oJ]; exact Nat.le_refl _) (fun n' j' x v hx hv=>by
       simp only[List.getElem?_replicate]at hx
       split at hx
       ·rename_i jb
        cases hx
        have hj:j'<T'.sz:=by rw[←T'.kD z]; exact (List.getElem?_eq_some_iff.1 hv).1
        have NV:j'<zv.cells.size:=by omega
        have hm:=VB (z:=zv.cells) a.toNat jb NV
        rw[g1]at hm
        rw[oJ]
        refine ⟨_,hm,fun w h c => ?_⟩
        exact (Fz hz (g2 w h c)).2 j' v _ hv (by simp[NV])
       ·cases hx) hs
      have e2:(List.replicate a.toNat z).length=a.toNat:=List.length_replicate
      rw[e2]at this
      exact ⟨_,_,Fw,by simp,xl (o:=⟨dst, .makeSlice t n cc,type,pos,after,guard⟩) rfl this⟩
     ·cases hk
    ·cases hk
   ·cases hk
  ·cases hk
 case convert s d x =>
  split at hk
  ·rename_i e t hs hd hx
   split at hk
   ·rename_i he
    have rx:=hρ x
    rw[hx]at rx
    obtain ⟨bs,hv,rfl,hl⟩:=rx.iK
    have us:=er T hs
    have ud:=er T hd
    have ue:=er T he
    simp only[TD.Is]at us ud ue
    obtain ⟨cap,w',g1,g2,g3,g4,ds,g5,g6,g7⟩:=Hw (P:=P) (w:=w) e bs
    obtain ⟨l,W9⟩:∃l:List Int,l=bs.data.toList.map fun b=>(b.toNat:Int):=⟨_,rfl⟩
    have hlen:l.length=bs.size:=by rw[W9,List.length_map,size_data]
    have yR:∀(n:Nat) (z:Int),l[n]? = some z→∃b:UInt8,bs.data.toList[n]? = some b∧z=b.toNat:=fun n z hz=>by
     rw[W9,List.getElem?_map]at hz
     cases hb:bs.data.toList[n]? with
     | none=>rw[hb]at hz; cases hz
     | some b=>rw[hb]at hz; simp at hz; exact ⟨b,rfl,hz.symm⟩
    have kY:(convert s d (ρ' x)).run P w = .ok (.slice (some ⟨w.heap.size,0,none⟩) l.length cap) w':=by
     rw[hv,hlen]
     simp only[convert,Sem.run_bind,run_underlying us,run_underlying ud,run_underlying ue,Result.andThen_ok,g1]
    have:=I3 (T := .int .u8) (l:=l) wf g2 g5 (fun y hy=>by
      simp only[World.frozen?,g5]
      simp; omega) (cap:=cap) (by show l.length≤cap; omega) (g4 hl) (by simp[Ty.sz]; omega) (fun n j y v hy hv=>by
      obtain ⟨b,h1,rfl⟩:=yR n y hy
      have hj:j<1:=by
       have:=(List.getElem?_eq_some_iff.1 hv).1
       simpa [Ty.cells]using this
      obtain rfl:j=0:=by omega
      simp[Ty.cells]at hv
      subst hv
      exact ⟨_,by simpa [Ty.sz]using g7 n b h1,fun w h c => .int (Ll _ (UInt8.toNat_lt b))⟩) kY
    have e2:List.length (α:=Int) l=bs.data.toList.length:=by rw[hlen,size_data]
    refine ⟨.row (.int .u8) l,fun i => .row i (List.length (α:=Int) l),?_,by simp,xl (o:=⟨dst, .convert s d x,type,pos,after,guard⟩) rfl this⟩
    rw[e2,W9]; exact hk
   ·cases hk
  ·cases hk
 case makeMap t rsv =>
  split at hk <;> try (first|cases hk)
  rename_i XD
  split at hk <;> try (first|cases hk)
  rename_i kt vt hd
  split at hk <;> try (first|cases hk)
  rename_i K V' hK hV
  split at hk <;> try (first|cases hk)
  rename_i hf
  simp only[Bool.and_eq_true]at hf
  have hu:=er T hd
  simp only[TD.Is]at hu
  refine ⟨_,_,hk,by simp,fun id hid hfr => ?_⟩
  have hb:=pZ w (.map #[] 0)
  have IQ:∀b,some w.heap.size=some b→w.heap.size≤b:=by intro b hb; cases hb; exact Nat.le_refl _
  have x':=uG (h:=h) (c:=c) hb hfr (.uO K V' []) (no:=0) IQ
  have DZ:nK (w.alloc (.map #[] 0)) (h.set id (.uO K V' [])) (c.put id (some w.heap.size) 0) id (.uO K V' []) :=
   ⟨w.heap.size, #[],0,db _ _ _,heap_alloc_new w _,(Lq hf.1).2,Lr hf.2,rfl,fun j q e hq=>by simp at hq⟩
  refine ⟨.map (some w.heap.size),_,_,?_,Az wf hb hid hfr IQ DZ,x', .map (tT hid (by simp)) ⟨w.heap.size,rfl,fun _=>db _ _ _⟩⟩
  cases rsv with
  | none=>simp[execOp,Instr.makeMap]
  | some x =>
   have rx:=hρ x
   unfold B7 at XD
   simp only at XD
   split at XD
   ·rename_i i n hx
    rw[hx]at rx
    simp[execOp,Instr.makeMap,run_underlying hu,rx.hZ.1,asInt,asIntOf]
   ·cases XD
 case range t x =>
  split at hk
  ·rename_i s hd hx
   have rx:=hρ x
   rw[hx]at rx
   obtain ⟨bs,hv,rfl,hl⟩:=rx.iK
   have hu:=er T hd
   simp only[TD.Is]at hu
   refine ⟨_,_,hk,by simp,fun id hid hf => ?_⟩
   have hb:=pZ w (.stringIter bs 0)
   have IQ:∀b,some w.heap.size=some b→w.heap.size≤b:=by intro b hb; cases hb; exact Nat.le_refl _
   have x':=uG (h:=h) (c:=c) hb hf (.iter bs.data.toList 0) (no:=0) IQ
   have DZ:nK (w.alloc (.stringIter bs 0)) (h.set id (.iter bs.data.toList 0)) (c.put id (some w.heap.size) 0) id (.iter bs.data.toList 0) :=
    ⟨w.heap.size,bs,db _ _ _,heap_alloc_new w _,rfl,hl⟩
   refine ⟨.pointer (some ⟨w.heap.size,0,none⟩),_,_,?_,Az wf hb hid hf IQ DZ,x', .ptr (tT hid (by simp)) ⟨w.heap.size,rfl,fun _=>db _ _ _⟩⟩
   simp[execOp,hv,Instr.range,run_underlying hu]
  ·cases hk
end

section
variable {P:Program} {tt:dA} {w w':World} {h:aG} {c:js} {R:Type}

structure Lw (w w':World) (b:Nat) (cur:Array Value) (e:TypeId) (fz:Nat × Nat):Prop where
 os:w'.os=w.os
 tape:w'.tape=w.tape
 output:w'.output=w.output
 size:w'.heap.size=w.heap.size
 other:∀k,k≠b→w'.heap[k]? = w.heap[k]?
 here:w'.heap[b]? = some (.cells cur e fz)

theorem Cd {w:World} {b:Nat} {arr:Array Value} {e:TypeId} {lo hi:Nat} (hb:w.heap[b]? = some (.cells arr e (lo,hi))) (x:Nat):w.frozen? ⟨b,x,none⟩=(decide (lo≤x)&&decide (x<hi)):=by
 simp[World.frozen?,hb]

theorem SF {w:World} {b:Nat} {arr:Array Value} {e:TypeId} {fz:Nat × Nat} (hb:w.heap[b]? = some (.cells arr e fz)) {o x:Nat} (hf:fz.1=fz.2∨fz.2≤o) (hx:o≤x):w.frozen? ⟨b,x,none⟩=false:=by
 obtain ⟨lo,hi⟩:=fz
 rw[Cd hb]
 simp only at hf
 rcases hf with rfl|hf
 ·by_cases h:lo≤x
  ·simp[h]
  ·simp[h]
 ·have:¬x<hi:=by omega
  simp[this]

theorem ni (b o:Nat) (e:TypeId) (fz:Nat × Nat):∀(vs:List Value) (i:Nat) (cur:Array Value) (w:World),w.heap[b]? = some (.cells cur e fz)→o+i+vs.length≤cur.size →
  (∀x,o+i≤x→x<o+i+vs.length→w.frozen? ⟨b,x,none⟩=false)→Sm vs →
  ∃(w':World) (mW:Array Value),(storeCells ⟨b,o,none⟩ vs i).run P w = .ok () w'∧Lw w w' b mW e fz∧mW.toList=cur.toList.take (o+i)++vs++cur.toList.drop (o+i+vs.length)
 | [],i,cur,w,hb,_,_,_=>⟨w,cur,by simp[storeCells],⟨rfl,rfl,rfl,rfl,fun _ _=>rfl,hb⟩,by simp⟩
 | v::vs,i,cur,w,hb,hs,hf,h1=>by
  simp only[List.length_cons]at hs hf
  have hv:v.oneCell'=true:=h1 v (by simp)
  have jb:o+i<cur.size:=by omega
  have xf:w.cell? ⟨b,o+i,none⟩=some cur[o+i]:=by rw[cell_of_row w b _ cur e fz hb]; exact Array.getElem?_eq_getElem jb
  have T7:=hf (o+i) (Nat.le_refl _) (by omega)
  have hstore:(store ((⟨b,o,none⟩:Addr).add i) v).run P w = .ok () (w.setCell ⟨b,o+i,none⟩ v):=by
   rw[qd,run_store P w _ v _ hv,xf]
   simp[T7]
  have oH:(w.setCell ⟨b,o+i,none⟩ v).heap[b]? = some (.cells (cur.setIfInBounds (o+i) v) e fz):=by
   simp[World.setCell,Array.getElem?_modify,hb]
  obtain ⟨w',mW,g1,g2,g3⟩:=ni b o e fz vs (i+1) (cur.setIfInBounds (o+i) v) (w.setCell ⟨b,o+i,none⟩ v) oH (by simp; omega)
   (fun x hx1 hx2=>by rw[World.frozen?_setCell]; exact hf x (by omega) (by omega)) (fun d hd=>h1 d (by simp[hd]))
  refine ⟨w',mW,?_,⟨g2.os,g2.tape,g2.output,by rw[g2.size]; simp,fun k hk => ?_,g2.here⟩,?_⟩
  ·simp only[storeCells,Sem.run_bind,hstore,Result.andThen_ok,g1]
  ·rw[g2.other k hk]; exact heap_setCell_other w _ k v hk
  ·rw[g3]
   have:=Xx [v] 0 (o+i) cur (by simp; omega)
   simp only[List.zipIdx_cons,List.zipIdx_nil,List.foldl_cons,List.foldl_nil,Nat.add_zero,List.length_singleton]at this
   rw[this]
   have e1:o+(i+1)=o+i+1:=by omega
   have l1:(cur.toList.take (o+i) ++ [v]).length=o+i+1:=by simp; omega
   rw[e1,List.take_append_of_le_length (by omega),List.take_of_length_le (by omega)]
   have e2:o+i+1+vs.length=(cur.toList.take (o+i) ++ [v]).length+vs.length:=by omega
   rw[e2,List.drop_append]
   have e3:(cur.toList.take (o+i) ++ [v]).length+vs.length - (cur.toList.take (o+i) ++ [v]).length=vs.length:=by omega
   rw[e3,List.drop_eq_nil_of_le (by omega),List.nil_append,List.drop_drop]
   simp only[List.append_assoc,List.length_cons,List.cons_append]
   rw[List.nil_append,show o+i+1+vs.length=o+i+(vs.length+1)from by omega]

theorem Hx {i b:Nat} {o':bO} {cur mW:Array Value} {e:TypeId} {fz:Nat × Nat} (hb:c.rZ i=some b) (Hy:w.heap[b]? = some (.cells cur e fz)) (hw:Lw w w' b mW e fz) (oJ:mW.size=cur.size)
  (rA:(h.at i).from_ (c.off i)=some 0) (Lx:o'.from_ (c.off i)=some 0) (td:(h.at i).gZ o'):Ext w h c w' (h.set i o') c:=by
 have hi:i<h.length:=aG.fW rfl (bO.Ca td).1
 have lC:∀x,sF h c b x:=fun x=>⟨i,0,hb,rA,Nat.zero_le _⟩
 constructor
 ·exact hw.os
 ·exact hw.tape
 ·exact hw.output
 ·rw[hw.size]; exact Nat.le_refl _
 ·intro j hj
  by_cases vm:i=j
  ·subst vm
   refine ⟨by simpa using hj.1,?_⟩
   rw[lZ _ hi]
   intro he; subst he; simp[bO.from_]at Lx
  ·exact ⟨by simpa using hj.1,by rw[cS _ vm]; exact hj.2⟩
 ·intro j hj hd
  refine ⟨?_,rfl,rfl⟩
  by_cases vm:i=j
  ·subst vm; rw[lZ _ hi]; exact td
  ·rw[cS _ vm]at hd ⊢
   have h2:=hj.2
   revert hd h2
   cases h.at j <;> simp[bO.gZ]
 ·intro b' x hx ho
  have jc:b'≠b:=by rintro rfl; exact ho (lC x)
  exact r7 (hw.other b' jc)
 ·intro b' hx ho
  have jc:b'≠b:=by rintro rfl; exact ho 0 (lC 0)
  exact hw.other b' jc
 ·rintro b' x hx ⟨j,f,g1,g2,g3⟩
  by_cases vm:i=j
  ·subst vm
   rw[hb]at g1; cases g1
   exact lC x
  ·rw[cS _ vm]at g2
   exact ⟨j,f,g1,g2,g3⟩
 ·rfl
 ·intro b' arr el FP ha
  by_cases jc:b'=b
  ·subst jc
   rw[Hy]at ha; cases ha
   exact ⟨mW,fz,hw.here,oJ⟩
  ·exact ⟨arr,FP,by rw[hw.other b' jc]; exact ha,rfl⟩

theorem qP {o:bO} {f g:Nat} (hf:o.from_ f=some g):o.live:=by revert hf; cases o <;> simp[bO.from_,bO.live]

theorem Pd (wf:WF w h c) {i b:Nat} {o':bO} {cur mW:Array Value} {e:TypeId} {fz:Nat × Nat} (hb:c.rZ i=some b) (Hy:w.heap[b]? = some (.cells cur e fz)) (hw:Lw w w' b mW e fz) (oJ:mW.size=cur.size)
  (rA:(h.at i).from_ (c.off i)=some 0) (Lx:o'.from_ (c.off i)=some 0) (td:(h.at i).gZ o') (DZ:nK w' (h.set i o') c i o'):WF w' (h.set i o') c:=by
 have hi:i<h.length:=aG.fW rfl (bO.Ca td).1
 have x:=Hx hb Hy hw oJ rA Lx td
 have hli:=qP rA
 have QM:∀j,(aG.at (h.set i o') j).live→(h.at j).live:=fun j hj=>by
  by_cases vm:i=j
  ·subst vm; exact hli
  ·rw[cS _ vm]at hj; exact hj
 constructor
 ·intro b' y ho he
  exact wf.wX b' y (x.vH b' y (wf.o3 b' y he) ho) he
 ·intro b' y he
  rw[hw.size]; exact wf.o3 b' y he
 ·intro j hj
  by_cases vm:i=j
  ·subst vm; rw[lZ _ hi]; exact DZ
  ·rw[cS _ vm]
   by_cases hl:(h.at j).live
   ·refine (wf.obj j (by simpa using hj)).uM x (fun b' oH=>hw.other b' ?_) rfl rfl
    rintro rfl
    exact vm (wf.inj i j b' hli hl hb oH)
   ·revert hl; cases h.at j <;> simp[bO.live,nK]
 ·intro j k b' hj hk h1 h2
  exact wf.inj j k b' (QM j hj) (QM k hk) h1 h2
 ·exact wf.rq x

theorem SG {cs vs:List V} {o:Nat} (h:o+vs.length≤cs.length):(yQ cs o vs).length=cs.length:=by simp[yQ]; omega
theorem Ly {cs vs:List V} {ds us:List Value} (r:cy w h c cs ds) (s:cy w h c vs us) (o:Nat):cy w h c (yQ cs o vs) (ds.take o++us++ds.drop (o+us.length)):=by
 unfold yQ
 rw[s.1]
 exact ((r.take o).append s).append (r.drop _)

theorem QN (wf:WF w h c) {t:Nat} (T:vS P tt) {i o:Nat} {cs vs:List V} {a' y':Value} (ra:dz w h c (.ptr i o) a') (ye:h.at i = .cells cs) (rv:cy w h c vs y'.cells.toList) (h1:Sm y'.cells.toList)
  (qy:tt.ok t=true) (oJ:vs.length=(tt.at t).size) (jb:o+vs.length≤cs.length) :
  ∃w',(Instr.storeAt t a' y').run P w = .ok () w'∧WF w' (h.set i (.cells (yQ cs o vs))) c∧Ext w h c w' (h.set i (.cells (yQ cs o vs))) c:=by
 have hi:=aG.fW ye (by simp)
 have ho:=wf.obj i hi
 rw[ye]at ho
 obtain ⟨b,arr,e,g1,g2,g3⟩:=ho
 cases ra with
 | ptr hu hv =>
  obtain ⟨b',rfl,oH⟩:=hv
  have:=oH (by rw[ye]; simp)
  rw[g1]at this; cases this
  have hl:=g3.1
  simp only[Array.length_toList]at hl
  have hlv:=rv.1
  obtain ⟨w',mW,k1,k2,k3⟩:=ni (P:=P) b o e (0,0) y'.cells.toList 0 arr w g2 (by omega) (fun x _ _=>vn g2 x) h1
  have CO:mW.size=arr.size:=by
   rw[←Array.length_toList,k3]; simp only[Array.length_toList,List.length_append,List.length_take,List.length_drop]at *; omega
  have rA:(h.at i).from_ (c.off i)=some 0:=by rw[ye]; rfl
  have td:(h.at i).gZ (.cells (yQ cs o vs)):=by rw[ye]; exact (SG jb).symm
  have x:=Hx g1 g2 k2 CO rA rfl td
  refine ⟨w',?_,Pd wf g1 g2 k2 CO rA rfl td ⟨b,mW,e,g1,k2.here,?_⟩,x⟩
  ·simp only[Instr.storeAt,Instr.sureAddr,Sem.run_bind,Sem.run_pure,Result.andThen_ok,storeVar,T.sizeOf qy]
   rw[if_neg (by simp only[Array.length_toList]at hlv; omega)]
   simp only[k1]
  ·rw[k3]
   exact Ly (g3.mono x) (rv.mono x) _

theorem VD (wf:WF w h c) {t:Nat} (T:vS P tt) {i:Nat} {u v:V} {a' y':Value} (ra:dz w h c (.ptr i 1) a') (ye:h.at i = .lW u) (rv:cy w h c [v] y'.cells.toList) (h1:Sm y'.cells.toList)
  (qy:tt.ok t=true) (oJ:1=(tt.at t).size) :
  ∃w',(Instr.storeAt t a' y').run P w = .ok () w'∧WF w' (h.set i (.lW v)) c∧Ext w h c w' (h.set i (.lW v)) c:=by
 have hi:=aG.fW ye (by simp)
 have ho:=wf.obj i hi
 rw[ye]at ho
 obtain ⟨b,p,d,g1,g2,g3,g4⟩:=ho
 cases ra with
 | ptr hu hv =>
  obtain ⟨b',rfl,oH⟩:=hv
  have:=oH (by rw[ye]; simp)
  rw[g1]at this; cases this
  have hlv:=rv.1
  simp only[List.length_cons,List.length_nil]at hlv
  obtain ⟨w',mW,k1,k2,k3⟩:=ni (P:=P) b 1 nR.lW (0,0) y'.cells.toList 0 #[p,d] w g2 (by simp at hlv ⊢; omega) (fun x _ _=>vn g2 x) h1
  have CO:mW.size=(#[p,d]:Array Value).size:=by
   rw[←Array.length_toList,k3]; simp at hlv ⊢; omega
  have rA:(h.at i).from_ (c.off i)=some 0:=by rw[ye]; rfl
  have td:(h.at i).gZ (.lW v):=by rw[ye]; trivial
  have x:=Hx g1 g2 k2 CO rA rfl td
  refine ⟨w',?_,Pd wf g1 g2 k2 CO rA rfl td ?_,x⟩
  ·simp only[Instr.storeAt,Instr.sureAddr,Sem.run_bind,Sem.run_pure,Result.andThen_ok,storeVar,T.sizeOf qy]
   rw[if_neg (by simp at hlv; omega)]
   simp only[k1]
  ·match hy:y'.cells.toList,hlv with
   | [q],_ =>
    rw[hy]at k3 rv
    have KF:mW = #[p,q]:=by
     apply Array.ext'
     rw[k3]; rfl
    exact ⟨b,p,q,g1,by rw[←KF]; exact k2.here,g3,rv.head.mono x⟩

theorem QO {T':Ty} (l:List T'.den) (j:Nat) (y:T'.den):(bO.row T' l).gZ (.row T' (l.set j y)):=⟨rfl,by simp⟩

theorem VE (wf:WF w h c) {t:Nat} (T:vS P tt) {i n j o:Nat} {T':Ty} {l:List T'.den} {vs:List V} {a' y':Value} (ra:dz w h c (.sD i n j o) a') (A5:h.at i = .row T' l) (rv:cy w h c vs y'.cells.toList) (h1:Sm y'.cells.toList)
  (qy:tt.ok t=true) (hn:n=T'.sz) (oJ:vs.length=(tt.at t).size) (hj:j<l.length) (jb:o+vs.length≤(T'.cells (l.getD j T'.bY)).length) {y:T'.den} (hy:T'.dec (yQ (T'.cells (l.getD j T'.bY)) o vs)=some y) :
  ∃w',(Instr.storeAt t a' y').run P w = .ok () w'∧WF w' (h.set i (.row T' (l.set j y))) c∧Ext w h c w' (h.set i (.row T' (l.set j y))) c:=by
 have hi:=aG.fW A5 (by simp)
 have ho:=wf.obj i hi
 rw[A5]at ho
 rw[getD_eq hj]at jb hy
 have hclen:=T'.kD l[j]
 rcases ho with ⟨_,rfl⟩|⟨b,arr,e,fz,g1,g2,g3,g4,g5⟩
 ·simp at hj
 ·cases ra with
  | sD hu hv =>
   obtain ⟨a,rfl,hv⟩:=hv
   obtain ⟨b',oH,rfl⟩:=hv T' l A5 hn hj
   rw[g1]at oH; cases oH
   have hlv:=rv.1
   have hm:=Nat.mul_le_mul_right T'.sz hj
   rw[Nat.succ_mul]at hm
   obtain ⟨w',mW,k1,k2,k3⟩:=ni (P:=P) b (c.off i+j*T'.sz+o) e fz y'.cells.toList 0 arr w g2 (by omega) (fun x _ hx=>g4 x (by omega)) h1
   have CO:mW.size=arr.size:=by
    rw[←Array.length_toList,k3]; simp only[Array.length_toList,List.length_append,List.length_take,List.length_drop]at *; omega
   have rA:(h.at i).from_ (c.off i)=some 0:=by rw[A5]; rfl
   have td:(h.at i).gZ (.row T' (l.set j y)):=by rw[A5]; exact QO l j y
   have x:=Hx g1 g2 k2 CO rA rfl td
   obtain ⟨fl,fh⟩:=fz
   refine ⟨w',?_,Pd wf g1 g2 k2 CO rA rfl td (.inr ⟨b,mW,e,(fl,fh),g1,k2.here,by rw[CO]; simpa using g3,fun x hx => ?_,fun n' q z v hz hv' => ?_⟩),x⟩
   ·simp only[Instr.storeAt,Instr.sureAddr,Sem.run_bind,Sem.run_pure,Result.andThen_ok,storeVar,T.sizeOf qy]
    rw[if_neg (by simp only[Array.length_toList]at hlv; omega)]
    simp only[k1]
   ·have:=g4 x (by omega)
    rw[Cd g2]at this
    rw[Cd k2.here]; exact this
   ·have hq:q<T'.sz:=by rw[←T'.kD z]; exact (List.getElem?_eq_some_iff.1 hv').1
    rw[List.getElem?_set]at hz
    have yR:∀p:Nat,mW[p]? = mW.toList[p]? :=fun p=>Array.getElem?_toList.symm
    rw[yR,k3]
    by_cases hjn:j=n'
    ·subst hjn
     rw[if_pos rfl,if_pos hj]at hz
     cases hz
     -- the element that is written
     have base:cy w h c (T'.cells l[j]) ((arr.toList.drop (c.off i+j*T'.sz)).take T'.sz):=by
      refine ⟨by rw[hclen]; simp; omega,fun x v d hv hd => ?_⟩
      obtain ⟨d',p1,p2⟩:=g5 j x l[j] v (List.getElem?_eq_getElem hj) hv
      rw[List.getElem?_take]at hd
      split at hd
      ·rw[List.getElem?_drop]at hd
       have e1:arr[c.off i+j*T'.sz+x]? = some d:=by simpa using hd
       rw[p1]at e1; cases e1; exact p2
      ·cases hd
     have sp:=(Fz hy (Ly base rv o)).mono x
     have QP:=sp.1
     have Vb:q<(((arr.toList.drop (c.off i+j*T'.sz)).take T'.sz).take o++y'.cells.toList++((arr.toList.drop (c.off i+j*T'.sz)).take T'.sz).drop (o+y'.cells.toList.length)).length:=by
      rw[←QP,T'.kD]; exact hq
     refine ⟨_,?_,sp.2 q v _ hv' (List.getElem?_eq_getElem Vb)⟩
     rw[←List.getElem?_eq_getElem Vb]
     simp only[List.getElem?_append,List.length_append,List.length_take,List.length_drop,List.getElem?_take,List.getElem?_drop,Array.length_toList,Nat.add_zero]at *
     by_cases c1:q<o
     ·have e1:c.off i+j*T'.sz+q<c.off i+j*T'.sz+o:=by omega
      have e2:c.off i+j*T'.sz+q<min (c.off i+j*T'.sz+o) arr.size:=by omega
      have e3:c.off i+j*T'.sz+q<min (c.off i+j*T'.sz+o) arr.size+y'.cells.size:=by omega
      have e4:q<min o (min T'.sz (arr.size - (c.off i+j*T'.sz))):=by omega
      have e5:q<min o (min T'.sz (arr.size - (c.off i+j*T'.sz)))+y'.cells.size:=by omega
      simp only[e1,e2,e3,e4,e5,c1,hq,if_true]
     ·have m1:min (c.off i+j*T'.sz+o) arr.size=c.off i+j*T'.sz+o:=by omega
      have m2:min o (min T'.sz (arr.size - (c.off i+j*T'.sz)))=o:=by omega
      rw[m1,m2]
      by_cases c2:q<o+y'.cells.size
      ·have e1:c.off i+j*T'.sz+q<c.off i+j*T'.sz+o+y'.cells.size:=by omega
       have e2:¬c.off i+j*T'.sz+q<c.off i+j*T'.sz+o:=by omega
       have e3:c.off i+j*T'.sz+q - (c.off i+j*T'.sz+o)=q - o:=by omega
       simp only[e1,e2,e3,c1,c2,if_true,if_false]
      ·have e1:¬c.off i+j*T'.sz+q<c.off i+j*T'.sz+o+y'.cells.size:=by omega
       have e3:c.off i+j*T'.sz+o+y'.cells.size+(c.off i+j*T'.sz+q - (c.off i+j*T'.sz+o+y'.cells.size))=c.off i+j*T'.sz+(o+y'.cells.size+(q - (o+y'.cells.size))):=by omega
       have e4:o+y'.cells.size+(q - (o+y'.cells.size))<T'.sz:=by omega
       simp only[e1,e3,e4,c2,if_true,if_false]
    ·rw[if_neg hjn]at hz
     obtain ⟨d,p1,p2⟩:=g5 n' q z v hz hv'
     refine ⟨d,?_,p2.mono x⟩
     have Qb:n'<l.length:=(List.getElem?_eq_some_iff.1 hz).1
     have p1':arr.toList[c.off i+n'*T'.sz+q]? = some d:=by simpa using p1
     simp only[Array.length_toList]at hlv
     simp only[List.getElem?_append,List.length_append,List.length_take,List.getElem?_take,List.getElem?_drop,Array.length_toList,Nat.add_zero]
     rcases Nat.lt_or_ge n' j with hlt'|hge
     ·have hm2:=Nat.mul_le_mul_right T'.sz hlt'
      rw[Nat.succ_mul]at hm2
      have e1:c.off i+n'*T'.sz+q<c.off i+j*T'.sz+o:=by omega
      have e2:c.off i+n'*T'.sz+q<min (c.off i+j*T'.sz+o) arr.size:=by omega
      have e3:c.off i+n'*T'.sz+q<min (c.off i+j*T'.sz+o) arr.size+y'.cells.size:=by omega
      simp only[e1,e2,e3,if_true]; exact p1'
     ·have hm2:=Nat.mul_le_mul_right T'.sz (show j+1≤n' by omega)
      rw[Nat.succ_mul]at hm2
      have m1:min (c.off i+j*T'.sz+o) arr.size=c.off i+j*T'.sz+o:=by omega
      have e1:¬c.off i+n'*T'.sz+q<c.off i+j*T'.sz+o+y'.cells.size:=by omega
      have e3:c.off i+j*T'.sz+o+y'.cells.size+(c.off i+n'*T'.sz+q - (c.off i+j*T'.sz+o+y'.cells.size))=c.off i+n'*T'.sz+q:=by omega
      rw[m1]
      simp only[e1,e3,if_false]; exact p1'
end

section
variable {P:Program} {tt:dA} {w w':World} {h:aG} {c:js} {R:Type}

def jQ (T:Ty):List T.den→List V
 | [] => []
 | x::l=>T.cells x++jQ T l

theorem jW (T:Ty):∀l:List T.den,(jQ T l).length=l.length*T.sz
 | []=>by simp[jQ]
 | x::l=>by simp only[jQ,List.length_append,T.kD,jW T l,List.length_cons,Nat.succ_mul]; omega

theorem tU (T:Ty):∀l m:List T.den,jQ T (l++m)=jQ T l++jQ T m
 | [],m=>rfl
 | x::l,m=>by simp only[List.cons_append,jQ,tU T l m,List.append_assoc]

theorem xm (T:Ty):∀(l:List T.den) (i j:Nat) (x:T.den),l[i]? = some x→j<T.sz→(jQ T l)[i*T.sz+j]? = (T.cells x)[j]?
 | [],i,j,x,hx,_=>by simp at hx
 | y::l,0,j,x,hx,hj=>by
  simp at hx; subst hx
  simp only[jQ,Nat.zero_mul,Nat.zero_add]
  rw[List.getElem?_append_left (by rw[T.kD]; exact hj)]
 | y::l,i+1,j,x,hx,hj=>by
  simp at hx
  simp only[jQ]
  rw[List.getElem?_append_right (by rw[T.kD,Nat.succ_mul]; omega),T.kD]
  rw[show (i+1)*T.sz+j - T.sz=i*T.sz+j from by rw[Nat.succ_mul]; omega]
  exact xm T l i j x hx hj

theorem VF (T:Ty) (x:T.den):(T.cells x).all V.one=true:=by cases T <;> rfl
theorem Lz (T:Ty):∀l:List T.den,(jQ T l).all V.one=true
 | []=>rfl
 | x::l=>by simp only[jQ,List.all_append,VF,Lz T l,Bool.and_true]

theorem LA {T:Ty} {n:Nat}:∀ {cs:List V} {ds:List Value} {l:List T.den},cs.length=n*T.sz→cy w h c cs ds→uP T (chunks T.sz n cs)=some l→cy w h c (jQ T l) ds:=by
 induction n with
 | zero =>
  intro cs ds l hl r hd
  simp[chunks,uP]at hd
  subst hd
  have h0:cs = []:=List.eq_nil_of_length_eq_zero (by simpa using hl)
  subst h0
  exact r
 | succ n ih =>
  intro cs ds l hl r hd
  simp only[chunks,uP]at hd
  split at hd
  ·rename_i x xs h1 h2
   cases hd
   rw[Nat.succ_mul]at hl
   have r1:=Fz h1 (r.take T.sz)
   have r2:=ih (by simp; omega) (r.drop T.sz) h2
   have:=r1.append r2
   rw[List.take_append_drop]at this
   exact this
  ·cases hd

theorem QQ {T:Ty} {l:List T.den} {t:Tok} {A:Option Addr} {n cap:Nat} (r:dz w h c (.sl T l t) (.slice A n cap)) :
  ∃ds,cy w h c (jQ T l) ds∧(l ≠ []→∃b o,A=some ⟨b,o,none⟩∧rj w b o ds∧∀x,o≤x→x<o+l.length*T.sz→FO h c b x):=by
 cases r with
 | sl f kM r5 hc hr xj lC =>
  refine ⟨(List.range (l.length*T.sz)).map fun k=>f (k / T.sz) (k % T.sz),⟨by simp[jW],fun k v d hv hd => ?_⟩,fun jc => ?_⟩
  ·have hk:k<l.length*T.sz:=by rw[←jW]; exact (List.getElem?_eq_some_iff.1 hv).1
   have Hq:=T.CN
   have hi:k / T.sz<l.length:=(Nat.div_lt_iff_lt_mul Hq).2 hk
   have hj:=Nat.mod_lt k Hq
   have e:k / T.sz*T.sz+k % T.sz=k:=by rw[Nat.mul_comm]; exact Nat.div_add_mod _ _
   have:=xm T l (k / T.sz) (k % T.sz) _ (List.getElem?_eq_getElem hi) hj
   rw[e]at this
   rw[this]at hv
   simp only[List.getElem?_map,List.getElem?_range hk,Option.map_some,Option.some.injEq]at hd
   subst hd
   exact hr _ _ _ v (List.getElem?_eq_getElem hi) hv
  ·have Hq:0<l.length:=List.length_pos_iff.2 jc
   obtain ⟨b,o,rfl,_⟩:=hc 0 0 Hq T.CN
   have all:∀k,k<l.length*T.sz→w.cell? ⟨b,o+k,none⟩=some (f (k / T.sz) (k % T.sz))∧FO h c b (o+k):=by
    intro k hk
    have hi:k / T.sz<l.length:=(Nat.div_lt_iff_lt_mul T.CN).2 hk
    obtain ⟨b',o',e',g1,g2⟩:=hc _ _ hi (Nat.mod_lt k T.CN)
    cases e'
    have e:k / T.sz*T.sz+k % T.sz=k:=by rw[Nat.mul_comm]; exact Nat.div_add_mod _ _
    rw[Nat.add_assoc,e]at g1 g2
    exact ⟨g1,g2⟩
   refine ⟨b,o,rfl,fun k d hd => ?_,fun x h1 h2 => ?_⟩
   ·simp only[List.getElem?_map]at hd
    by_cases hk:k<l.length*T.sz
    ·rw[List.getElem?_range hk]at hd
     simp at hd; subst hd
     exact (all k hk).1
    ·rw[List.getElem?_eq_none (by simp; omega)]at hd; cases hd
   ·have:=(all (x - o) (by omega)).2
    rw[show o+(x - o)=x from by omega]at this
    exact this

theorem yp {T:Ty} {l:List T.den} {t:Tok} {A:Option Addr} {cap:Nat} {ds:List Value} (r:cy w h c (jQ T l) ds) (kM:l.length≤cap) (r5:cap≤mx)
  (hA:l ≠ []→∃b o,A=some ⟨b,o,none⟩∧rj w b o ds∧∀x,o≤x→x<o+l.length*T.sz→FO h c b x) (xj:t = .nil→A=none∧cap=0)
  (lC:∀i,t = .own i→Used h i∧(h.at i = .tok →
    (c.rZ i=none∧A=none∧cap=0)∨∃b o arr e fz,c.rZ i=some b∧A=some ⟨b,o,none⟩∧c.off i=o+l.length*T.sz ∧
     w.heap[b]? = some (.cells arr e fz)∧o+cap*T.sz≤arr.size∧Sk T o e)):dz w h c (.sl T l t) (.slice A l.length cap):=by
 have hlen:=r.1
 rw[jW]at hlen
 refine .sl (fun i j=>ds.getD (i*T.sz+j) undef) kM r5 (fun i j hi hj => ?_) (fun i j x v hx hv => ?_) xj lC
 ·have hk:i*T.sz+j<l.length*T.sz:=by
   have:=Nat.mul_le_mul_right T.sz hi
   rw[Nat.succ_mul]at this; omega
  obtain ⟨b,o,e,h1,h2⟩:=hA (by intro e; subst e; simp at hi)
  refine ⟨b,o,e,?_,h2 _ (by omega) (by omega)⟩
  rw[Nat.add_assoc]
  refine h1 _ _ ?_
  rw[List.getElem?_eq_getElem (by omega)]
  simp[List.getD,List.getElem?_eq_getElem (show i*T.sz+j<ds.length by omega)]
 ·have hj:j<T.sz:=by rw[←T.kD x]; exact (List.getElem?_eq_some_iff.1 hv).1
  have hi:i<l.length:=(List.getElem?_eq_some_iff.1 hx).1
  have hk:i*T.sz+j<ds.length:=by
   have:=Nat.mul_le_mul_right T.sz hi
   rw[Nat.succ_mul]at this; omega
  have:=xm T l i j x hx hj
  refine r.2 (i*T.sz+j) v _ (this.trans hv) ?_
  rw[List.getElem?_eq_getElem hk]
  simp[List.getD,List.getElem?_eq_getElem hk]

theorem Ev {b o n sz:Nat} {cap:Nat} {ds:List Value} (hl:ds.length=n*sz) (hc:rj w b o ds):(Builtin.firstCells sz n (.slice (some ⟨b,o,none⟩) n cap)).run P w = .ok ds.toArray w:=by
 have:=run_loadCells_list (P:=P) w ⟨b,o,none⟩ ds (fun j v hv=>by rw[qd]; exact hc j v hv)
 rw[hl]at this
 simpa [Builtin.firstCells]using this

theorem yS {A:Option Addr} {n sz cap:Nat} (hn:n*sz=0):(Builtin.firstCells sz n (.slice A n cap)).run P w = .ok #[] w:=by
 cases A with
 | none=>simp[Builtin.firstCells]
 | some a =>
  simp only[Builtin.firstCells,hn]
  exact run_loadCells_list (P:=P) w a [] (fun j v hv=>by simp at hv)

theorem vY (T:vS P tt) {t xt e:Nat} (ht:(tt.at t).d = .slice e) (qy:tt.ok e=true) (Pe:(∃e',P.underlying xt=some (.slice e'))∨P.underlying xt=some .string)
  {A:Option Addr} {n cap m:Nat} {x:Value} {olds news:List Value} (ty:Nat)
  (hlx:(Builtin.lenOf x).run P w = .ok m w) (XE:∀W:World,W.heap=w.heap→(Builtin.firstCells (tt.at e).size m x).run P W = .ok news.toArray W) (Nn:news.length=m*(tt.at e).size) (h1:Sm news)
  (holds:olds.length=n*(tt.at e).size) (hold:n≠0→∃b o,A=some ⟨b,o,none⟩∧rj w b o olds) (hncap:n≤cap) (hcapmx:cap≤mx)
  (hA:(A=none∧cap=0)∨∃b o arr el fz,A=some ⟨b,o,none⟩∧w.heap[b]? = some (.cells arr el fz)∧o+cap*(tt.at e).size≤arr.size∧∀y,o+n*(tt.at e).size≤y→y<arr.size→w.frozen? ⟨b,y,none⟩=false)
  (Bp:(n+m)*(tt.at e).bytes≤140737488355328) (r5:n+m≤mx) :
  (n+m≤cap∧A=none∧m=0∧(Builtin.append_ #[t,xt] ty #[.slice A n cap,x]).run P w = .ok (.slice A (n+m) cap) w) ∨
  (n+m≤cap∧∃b o arr el fz w' mW,A=some ⟨b,o,none⟩∧w.heap[b]? = some (.cells arr el fz)∧o+cap*(tt.at e).size≤arr.size ∧
   (Builtin.append_ #[t,xt] ty #[.slice A n cap,x]).run P w = .ok (.slice A (n+m) cap) w'∧Lw w w' b mW el fz ∧
   mW.toList=arr.toList.take (o+n*(tt.at e).size)++news++arr.toList.drop (o+n*(tt.at e).size+news.length)) ∨
  (∃tf ds,n+m≤tf∧tf≤mx∧ds.size=tf*(tt.at e).size∧ds.toList.take ((n+m)*(tt.at e).size)=olds++news ∧
   (Builtin.append_ #[t,xt] ty #[.slice A n cap,x]).run P w = .ok (.slice (some ⟨w.heap.size,0,none⟩) (n+m) tf) (w.drew.alloc (.cells ds e))):=by
 have hu:=er T ht
 simp only[TD.Is]at hu
 have hs:=T.sizeOf (w:=w) qy
 obtain ⟨inf,z,hi,hsi,hby,hzv,hzs,Lo⟩:=T.info e qy
 have hx:∃d,P.underlying xt=some d∧((∃e',d = .slice e')∨d = .string):=by
  rcases Pe with ⟨e',hx⟩|hx
  ·exact ⟨_,hx, .inl ⟨e',rfl⟩⟩
  ·exact ⟨_,hx, .inr rfl⟩
 by_cases QR:n+m≤cap
 ·rcases hA with ⟨rfl,rfl⟩|⟨b,o,arr,el,fz,rfl,hb,oJ,T7⟩
  ·have XF:m=0:=by omega
   subst XF
   refine .inl ⟨QR,rfl,rfl,?_⟩
   have hn0:news = []:=List.eq_nil_of_length_eq_zero (by simpa using Nn)
   have hf:=XE w rfl
   subst hn0
   rcases Pe with ⟨e',hx⟩|hx <;>
    simp[Builtin.append_,run_underlying hu,run_underlying hx,hs,hlx,hf,show n=0 from by omega]
  ·refine .inr (.inl ⟨QR,b,o,arr,el,fz,?_⟩)
   have hf:=XE w rfl
   obtain ⟨w',mW,k1,k2,k3⟩:=ni (P:=P) b (o+n*(tt.at e).size) el fz news 0 arr w hb (by
    have:(n+m)*(tt.at e).size≤cap*(tt.at e).size:=Nat.mul_le_mul_right _ QR
    rw[Nat.add_mul]at this; omega) (fun y h1 h2=>T7 y h1 (by
    have:(n+m)*(tt.at e).size≤cap*(tt.at e).size:=Nat.mul_le_mul_right _ QR
    rw[Nat.add_mul]at this; omega)) h1
   refine ⟨w',mW,rfl,hb,oJ,?_,k2,by simpa using k3⟩
   rcases Pe with ⟨e',hx⟩|hx <;>
    simp[Builtin.append_,run_underlying hu,run_underlying hx,hs,hlx,hf,QR,qd,k1]
 ·refine .inr (.inr ?_)
  let tf:=(Question.appendCap (n+m) cap e).cut (w.tape w.drawn (.appendCap (n+m) cap e))
  have hge:n+m≤tf:=by simp only[tf,Question.cut]; omega
  have jb:tf≤mx:=by
   have jb:w.tape w.drawn (Question.appendCap (n+m) cap e) % (2 ^ 63 - (n+m))<2 ^ 63 - (n+m):=Nat.mod_lt _ (by unfold mx at r5; omega)
   simp only[tf,Question.cut]
   unfold mx at r5 ⊢
   omega
  let ds:Array Value:=olds.toArray++news.toArray++Builtin.zeroCells z.cells (tf - (n+m))
  have hzl:(Builtin.zeroCells z.cells (tf - (n+m))).size=(tf - (n+m))*(tt.at e).size:=by
   simp[Builtin.zeroCells]; rw[hzs,hsi]
  have hds:ds.size=tf*(tt.at e).size:=by
   simp only[ds,Array.size_append,List.size_toArray,holds,Nn,hzl]
   rw[←Nat.add_mul,←Nat.add_mul]
   congr 1; omega
  refine ⟨tf,ds,hge,jb,hds,?_,?_⟩
  ·have:ds.toList=(olds++news)++(Builtin.zeroCells z.cells (tf - (n+m))).toList:=by simp[ds]
   rw[this,List.take_append_of_le_length (by simp[holds,Nn,Nat.add_mul]),List.take_of_length_le (by simp[holds,Nn,Nat.add_mul])]
  ·have hfo:(Builtin.firstCells (tt.at e).size n (.slice A n cap)).run P w.drew = .ok olds.toArray w.drew:=by
    by_cases hn0:n=0
    ·subst hn0
     have:olds = []:=List.eq_nil_of_length_eq_zero (by simpa using holds)
     subst this
     exact yS (by simp)
    ·obtain ⟨b,o,rfl,hc⟩:=hold hn0
     exact Ev holds hc
   have hf:=XE w.drew rfl
   have h48':¬(281474976710656<Builtin.nextslicecap (n+m) cap*(tt.at e).bytes):=by
    have:=growslice_fits (need:=n+m) (old:=cap) (by omega) Bp
    omega
   have h63':¬(9223372036854775807<((n:Int)+(m:Int))):=by unfold mx at r5; omega
   have hsd:(sizeOf e).run P w.drew = .ok (tt.at e).size w.drew:=T.sizeOf qy
   rcases Pe with ⟨e',hx⟩|hx <;>
    simp[Builtin.append_,run_underlying hu,run_underlying hx,hs,hlx,QR,h63',typeInfo,hi,hby,h48',Question.forced,hfo,hf,zeroValue,hzv,newRow,ds,tf]
end

section
variable {P:Program} {tt:dA} {w w':World} {h:aG} {c:js} {R:Type}

theorem NX {i b x:Nat} (ho:sF (h.set i .dead) c b x):sF h c b x:=by
 obtain ⟨j,f,g1,g2,g3⟩:=ho
 rw[lL]at g2
 split at g2
 ·simp[bO.from_]at g2
 ·exact ⟨j,f,g1,g2,g3⟩

theorem AD (i:Nat):Ext w h c w (h.set i .dead) c where
 os:=rfl
 tape:=rfl
 output:=rfl
 size:=Nat.le_refl _
 used:=fun j hj=>⟨by simpa using hj.1,by rw[lL]; split; simp; exact hj.2⟩
 same:=fun j hj hd=>by
  rw[lL]at hd ⊢
  split
  ·rename_i hc; rw[if_pos hc]at hd; exact absurd rfl hd
  ·rename_i hc
   rw[if_neg hc]at hd
   refine ⟨?_,rfl,rfl⟩
   have h2:=hj.2
   revert hd h2
   cases h.at j <;> simp[bO.gZ]
 cell:=fun _ _ _ _=>rfl
 block:=fun _ _ _=>rfl
 vH:=fun b x _ ho=>NX ho
 ext:=rfl
 arr:=fun b arr e fz hb=>⟨arr,fz,hb,rfl⟩

theorem KK (wf:WF w h c) (i:Nat):WF w (h.set i .dead) c where
 lay:=wf.rq (AD i)
 wX:=fun b x ho=>wf.wX b x (NX ho)
 o3:=wf.o3
 obj:=fun j hj=>by
  rw[lL]
  split
  ·trivial
  ·exact (wf.obj j (by simpa using hj)).uM (AD i) (fun _ _=>rfl) rfl rfl
 inj:=fun j k b hj hk h1 h2=>by
  have key:∀j,(aG.at (h.set i .dead) j).live→(h.at j).live:=fun j hj=>by
   rw[lL]at hj
   split at hj
   ·exact hj.elim
   ·exact hj
  exact wf.inj j k b (key j hj) (key k hk) h1 h2

theorem xn (w:World) (o:Obj):Below w.heap.size w (w.drew.alloc o):=((Below.refl _ _).drew).alloc (Nat.le_refl _) o

theorem NY (wf:WF w h c) {id:Nat} (hid:id<h.length) (hf:h.at id = .free) {T:Ty} {l:List T.den} {us:List Value} (r:cy w h c (jQ T l) us) {ds:Array Value} {e:TypeId} (SE:Sk T 0 e) {cap:Nat}
  (hds:ds.size=cap*T.sz) (XG:ds.toList.take (l.length*T.sz)=us) (kM:l.length≤cap) (r5:cap≤mx) :
  ∃c',WF (w.drew.alloc (.cells ds e)) (h.set id .tok) c'∧Ext w h c (w.drew.alloc (.cells ds e)) (h.set id .tok) c'∧dz (w.drew.alloc (.cells ds e)) (h.set id .tok) c' (.sl T l (.own id)) (.slice (some ⟨w.heap.size,0,none⟩) l.length cap):=by
 have hb:=xn w (.cells ds e)
 have IQ:∀b,some w.heap.size=some b→w.heap.size≤b:=by intro b hb; cases hb; exact Nat.le_refl _
 have A4:(w.drew.alloc (.cells ds e)).heap[w.heap.size]? = some (.cells ds e (0,0)):=heap_alloc_new w.drew (.cells ds e)
 have x:=uG (h:=h) (c:=c) hb hf .tok (no:=l.length*T.sz) IQ
 have hm:l.length*T.sz≤cap*T.sz:=Nat.mul_le_mul_right _ kM
 have DZ:nK (w.drew.alloc (.cells ds e)) (h.set id .tok) (c.put id (some w.heap.size) (l.length*T.sz)) id .tok :=
  .inr ⟨w.heap.size,ds,e,(0,0),db _ _ _,A4,by rw[fb]; omega, .inl rfl⟩
 refine ⟨_,Az wf hb hid hf IQ DZ,x,yp (r.mono x) kM r5 (fun _=>⟨w.heap.size,0,rfl,fun j d hd => ?_,fun y _ hy => ?_⟩) (by simp) (fun i hi => ?_)⟩
 ·rw[Nat.zero_add,cell_of_row _ _ _ _ _ _ A4]
  rw[←XG,List.getElem?_take]at hd
  split at hd
  ·simpa using hd
  ·cases hd
 ·refine BI wf _ _ _ (fun f VA => ?_) hid
  simp[bO.from_]at VA
  omega
 ·cases hi
  exact ⟨tT hid (by simp),fun _ => .inr ⟨w.heap.size,0,ds,e,(0,0),db _ _ _,rfl,by rw[fb,Nat.zero_add],A4,by omega,SE⟩⟩

theorem NZ (wf:WF w h c) {id:Nat} (hid:id<h.length) (hf:h.at id = .free) {T:Ty} {l:List T.den} {us:List Value} (r:cy w h c (jQ T l) us) {ds:Array Value} {e:TypeId} {cap:Nat}
  (hds:ds.size=cap*T.sz) (XG:ds.toList.take (l.length*T.sz)=us) (kM:l.length≤cap) (r5:cap≤mx) :
  ∃c',WF (w.drew.alloc (.cells ds e)) (h.set id (.row T l)) c'∧Ext w h c (w.drew.alloc (.cells ds e)) (h.set id (.row T l)) c' ∧
   dz (w.drew.alloc (.cells ds e)) (h.set id (.row T l)) c' (.row id l.length) (.slice (some ⟨w.heap.size,0,none⟩) l.length cap):=by
 have hb:=xn w (.cells ds e)
 have IQ:∀b,some w.heap.size=some b→w.heap.size≤b:=by intro b hb; cases hb; exact Nat.le_refl _
 have A4:(w.drew.alloc (.cells ds e)).heap[w.heap.size]? = some (.cells ds e (0,0)):=heap_alloc_new w.drew (.cells ds e)
 have x:=uG (h:=h) (c:=c) hb hf (.row T l) (no:=0) IQ
 have hm:l.length*T.sz≤cap*T.sz:=Nat.mul_le_mul_right _ kM
 have r':=r.mono x
 have DZ:nK (w.drew.alloc (.cells ds e)) (h.set id (.row T l)) (c.put id (some w.heap.size) 0) id (.row T l):=by
  refine .inr ⟨w.heap.size,ds,e,(0,0),db _ _ _,A4,by rw[fb]; omega,fun y _=>vn A4 y,fun n j z v hz hv => ?_⟩
  have hj:j<T.sz:=by rw[←T.kD z]; exact (List.getElem?_eq_some_iff.1 hv).1
  have hn:n<l.length:=(List.getElem?_eq_some_iff.1 hz).1
  have jb:n*T.sz+j<l.length*T.sz:=by
   have:=Nat.mul_le_mul_right T.sz hn
   rw[Nat.succ_mul]at this; omega
  have hl:=r.1
  rw[jW]at hl
  have hg:=List.getElem?_eq_getElem (show n*T.sz+j<us.length by omega)
  refine ⟨us[n*T.sz+j]'(by omega),?_,r'.2 _ v _ ((xm T l n j z hz hj).trans hv) hg⟩
  rw[fb,Nat.zero_add,←hg,←XG,List.getElem?_take,if_pos jb]
  simp
 refine ⟨_,Az wf hb hid hf IQ DZ,x, .row (tT hid (by simp)) (by omega) ⟨_,_,rfl,fun _=>⟨_,rfl⟩,fun T' l' he => ?_⟩⟩
 rw[lZ _ hid]at he
 cases he
 exact ⟨rfl,kM,r5, .inr ⟨w.heap.size,ds,e,(0,0),db _ _ _,by rw[fb],A4,by rw[fb]; omega⟩⟩

theorem Hz (wf:WF w h c) {id:Nat} (hid:id<h.length) (hf:h.at id = .free) {T:Ty} :
  ∃c',WF w (h.set id .tok) c'∧Ext w h c w (h.set id .tok) c'∧dz w (h.set id .tok) c' (.sl T [] (.own id)) (.slice none 0 0):=by
 have IQ:∀b,(none:Option Nat)=some b→w.heap.size≤b:=by intro b hb; cases hb
 have x:=uG (h:=h) (c:=c) (Below.refl w.heap.size w) hf .tok (no:=0) IQ
 refine ⟨_,Az wf (Below.refl _ _) hid hf IQ (.inl (db _ _ _)),x,?_⟩
 exact yp (l := []) (ds := []) cy.nil (Nat.le_refl _) (by unfold mx; omega) (fun h=>absurd rfl h) (by simp) (fun i hi=>by
  cases hi; exact ⟨tT hid (by simp),fun _ => .inl ⟨db _ _ _,rfl,rfl⟩⟩)

theorem LB (wf:WF w h c) {id:Nat} (hid:id<h.length) (hf:h.at id = .free) {T:Ty} :
  ∃c',WF w (h.set id (.row T [])) c'∧Ext w h c w (h.set id (.row T [])) c'∧dz w (h.set id (.row T [])) c' (.row id 0) (.slice none 0 0):=by
 have IQ:∀b,(none:Option Nat)=some b→w.heap.size≤b:=by intro b hb; cases hb
 have x:=uG (h:=h) (c:=c) (Below.refl w.heap.size w) hf (.row T []) (no:=0) IQ
 refine ⟨_,Az wf (Below.refl _ _) hid hf IQ (.inl ⟨db _ _ _,rfl⟩),x,?_⟩
 refine .row (tT hid (by simp)) (by unfold mx; omega) ⟨none,0,rfl,fun h=>by omega,fun T' l' he => ?_⟩
 rw[lZ _ hid]at he
 cases he
 exact ⟨rfl,Nat.le_refl _,by unfold mx; omega, .inl ⟨db _ _ _,rfl,rfl⟩⟩

theorem GL (s:aj):(GD s).length=s.length := @List.length_map UInt8 Int s _
theorem HA:∀s:aj,jQ (.int .u8) (GD s)=s.map fun b=>V.int .u8 b.toNat
 | []=>rfl
 | b::s=>by
  show V.int .u8 b.toNat::jQ (.int .u8) (GD s)=_
  rw[HA s]; rfl

theorem Pf (wf:WF w h c) {i:Nat} {T:Ty} {l:List T.den} (he:h.at i = .row T l) :
  ∃ds,cy w h c (jQ T l) ds∧(l ≠ []→∃b,c.rZ i=some b∧rj w b (c.off i) ds):=by
 have hi:=aG.fW he (by simp)
 have ho:=wf.obj i hi
 rw[he]at ho
 rcases ho with ⟨_,rfl⟩|⟨b,arr,e,fz,h1,h2,h3,h4,h5⟩
 ·exact ⟨[], .nil,fun h=>absurd rfl h⟩
 ·refine ⟨(arr.toList.drop (c.off i)).take (l.length*T.sz),⟨by rw[jW]; simp; omega,fun k v d hv hd => ?_⟩,fun _=>⟨b,h1,fun k d hd => ?_⟩⟩
  ·have hk:k<l.length*T.sz:=by rw[←jW]; exact (List.getElem?_eq_some_iff.1 hv).1
   have hq:k / T.sz<l.length:=(Nat.div_lt_iff_lt_mul T.CN).2 hk
   have hj:=Nat.mod_lt k T.CN
   have e:k / T.sz*T.sz+k % T.sz=k:=by rw[Nat.mul_comm]; exact Nat.div_add_mod _ _
   have hg:=xm T l (k / T.sz) (k % T.sz) _ (List.getElem?_eq_getElem hq) hj
   rw[e]at hg
   rw[hg]at hv
   obtain ⟨d',p1,p2⟩:=h5 _ _ _ v (List.getElem?_eq_getElem hq) hv
   rw[Nat.add_assoc,e]at p1
   rw[List.getElem?_take,if_pos hk,List.getElem?_drop]at hd
   have e1:arr[c.off i+k]? = some d:=by simpa using hd
   rw[p1]at e1; cases e1; exact p2
  ·rw[List.getElem?_take]at hd
   split at hd
   ·rw[List.getElem?_drop]at hd
    rw[cell_of_row w b _ arr e fz h2]; simpa using hd
   ·cases hd

theorem VG (wf:WF w h c) {T:Ty} {sz:Nat} (oJ:T.sz=sz) {v:V} {v':Value} (rv:dz w h c v v') {m:List T.den} (hs:JC T h v=some m) :
  ∃news,(Builtin.lenOf v').run P w = .ok m.length w∧(∀W:World,W.heap=w.heap→(Builtin.firstCells sz m.length v').run P W = .ok news.toArray W)∧cy w h c (jQ T m) news∧m.length≤mx:=by
 subst oJ
 have xf:∀(W:World) (b x:Nat),W.heap=w.heap→W.cell? ⟨b,x,none⟩=w.cell? ⟨b,x,none⟩:=fun W b x hW=>by simp only[World.cell?,hW]
 have key:∀(A:Option Addr) (cap:Nat) (news:List Value),cy w h c (jQ T m) news→(m ≠ []→∃b o,A=some ⟨b,o,none⟩∧rj w b o news) →
   ∀W:World,W.heap=w.heap→(Builtin.firstCells T.sz m.length (.slice A m.length cap)).run P W = .ok news.toArray W:=by
  intro A cap news hr hA W hW
  have hl:=hr.1
  rw[jW]at hl
  by_cases hm:m = []
  ·subst hm
   have:news = []:=List.eq_nil_of_length_eq_zero (by simpa using hl.symm)
   subst this
   exact yS (by simp)
  ·obtain ⟨b,o,rfl,hc⟩:=hA hm
   exact Ev hl.symm (fun j d hd=>by rw[xf W _ _ hW]; exact hc j d hd)
 unfold JC at hs
 split at hs
 ·cases hs
  cases rv
  exact ⟨[],by simp[Builtin.lenOf],fun W hW=>yS (by simp), .nil,by simp⟩
 ·rename_i T' l t
  split at hs
  ·rename_i e
   subst e
   obtain rfl:l=m:=by simpa using hs
   obtain ⟨A,cap,rfl,h1,h2⟩:=I0 rv
   obtain ⟨ds,g1,g2⟩:=QQ rv
   exact ⟨ds,by simp[Builtin.lenOf],key A cap ds g1 (fun jc=>by obtain ⟨b,o,q1,q2,_⟩:=g2 jc; exact ⟨b,o,q1,q2⟩),g1,by omega⟩
  ·cases hs
 ·rename_i i n
  split at hs
  ·rename_i T' l A5
   split at hs
   ·rename_i e
    subst e
    obtain rfl:l=m:=by simpa using hs
    cases rv with
    | row hu hn hv =>
     obtain ⟨A,cap,rfl,hA,hv⟩:=hv
     obtain ⟨g1,g2,g3,g4⟩:=hv _ _ A5
     obtain ⟨ds,k1,k2⟩:=Pf wf A5
     subst g1
     exact ⟨ds,by simp[Builtin.lenOf],key A cap ds k1 (fun jc=>by
      obtain ⟨b,q1,q2⟩:=k2 jc
      rcases g4 with ⟨p1,_⟩|⟨b',arr,el,fz,p1,p2,_⟩
      ·rw[q1]at p1; cases p1
      ·rw[q1]at p1; cases p1
       exact ⟨b,_,p2,q2⟩),k1,hn⟩
   ·cases hs
  ·cases hs
 ·rename_i n cs
  split at hs
  ·rename_i En
   cases rv with
   | @J6 _ sz' _ A hn r5 f hc hr =>
    have hr':cy w h c cs ((List.range cs.length).map f):=by
     refine ⟨by simp,fun j v d hv hd => ?_⟩
     have jb:j<cs.length:=(List.getElem?_eq_some_iff.1 hv).1
     simp only[List.getElem?_map,List.getElem?_range jb,Option.map_some,Option.some.injEq]at hd
     subst hd
     exact hr j v hv
    have Ho:=LA En hr' hs
    have hml:m.length=n:=by rw[AB hs,AA]
    rw[←hml]
    exact ⟨_,by simp[Builtin.lenOf],key A m.length _ Ho (fun jc=>by
     have Hq:0<cs.length:=by
      have:=List.length_pos_iff.2 jc
      rw[En,←hml]
      exact Nat.mul_pos this T.CN
     obtain ⟨b,o,rfl,_⟩:=hc 0 Hq
     refine ⟨b,o,rfl,fun j d hd => ?_⟩
     simp only[List.getElem?_map]at hd
     by_cases jb:j<cs.length
     ·rw[List.getElem?_range jb]at hd
      simp at hd; subst hd
      obtain ⟨b',o',e',q1,_⟩:=hc j jb
      cases e'
      exact q1
     ·rw[List.getElem?_eq_none (by simp; omega)]at hd; cases hd),Ho,by omega⟩
  ·cases hs
 ·rename_i s
  split at hs
  ·rename_i e
   subst e
   obtain ⟨t,rfl,rfl,hl⟩:=rv.iK
   obtain rfl:GD t.data.toList=m:=by simpa using hs
   refine ⟨t.data.toList.map fun b=>Value.int .u8 b.toNat,?_,fun W hW => ?_,?_,?_⟩
   ·rw[GL,size_data]; simp[Builtin.lenOf]
   ·rw[GL,size_data]
    simp only[Builtin.firstCells,Sem.run_pure]
    congr 1
    apply Array.ext'
    simp
   ·rw[HA]; exact cy.map _ fun b _ => .int (Ll _ (UInt8.toNat_lt b))
   ·rw[GL,size_data]; exact hl
  ·cases hs
 ·cases hs

theorem fit_tok (wf:WF w h c) {i id:Nat} (hi:h.at i = .tok) (hid:id<h.length) (hf:h.at id = .free) {b o:Nat} (hb:c.rZ i=some b) {T:Ty} {l m:List T.den} (hoff:c.off i=o+l.length*T.sz)
  {arr mW:Array Value} {el:TypeId} (SE:Sk T o el) {fz:Nat × Nat} (AE:w.heap[b]? = some (.cells arr el fz)) (hw:Lw w w' b mW el fz) {cap:Nat} (kM:(l++m).length≤cap) (r5:cap≤mx) (oJ:o+cap*T.sz≤arr.size)
  {olds news:List Value} (ro:cy w h c (jQ T l) olds) (rn:cy w h c (jQ T m) news) (hold:l ≠ []→rj w b o olds) (hun:∀x,o≤x→x<o+l.length*T.sz→FO h c b x)
  (Hy:mW.toList=arr.toList.take (o+l.length*T.sz)++news++arr.toList.drop (o+l.length*T.sz+news.length)) :
  ∃c',WF w' ((h.set i .dead).set id .tok) c'∧Ext w h c w' ((h.set i .dead).set id .tok) c'∧dz w' ((h.set i .dead).set id .tok) c' (.sl T (l++m) (.own id)) (.slice (some ⟨b,o,none⟩) (l++m).length cap):=by
 have jc:i≠id:=by rintro rfl; rw[hi]at hf; cases hf
 have VH:=aG.fW hi (by simp)
 have QS:=ro.1
 have QP:=rn.1
 rw[jW]at QS QP
 have hmul:(l++m).length*T.sz≤cap*T.sz:=Nat.mul_le_mul_right _ kM
 have hlm:(l++m).length*T.sz=l.length*T.sz+m.length*T.sz:=by rw[List.length_append,Nat.add_mul]
 have ye:mW.size=arr.size:=by
  rw[←Array.length_toList,Hy]; simp only[List.length_append,List.length_take,List.length_drop,Array.length_toList]; omega
 have VI:id<(h.set i .dead).length:=by simpa using hid
 have M7:∀j,aG.at ((h.set i .dead).set id .tok) j=if id=j then .tok else if i=j then .dead else h.at j:=by
  intro j
  rw[lL,lL]
  by_cases h1:id=j
  ·simp[h1]; intro h2; subst h1; omega
  ·simp only[h1,false_and,if_false]
   by_cases h2:i=j
   ·subst h2; simp[VH]
   ·simp[h2]
 have KF:∀j,j≠id→(c.put id (some b) (o+(l++m).length*T.sz)).rZ j=c.rZ j∧(c.put id (some b) (o+(l++m).length*T.sz)).off j=c.off j:=fun j hj=>⟨qe _ _ hj,xk _ _ hj⟩
 have I6:∀j,j≠i→(h.at j).live→c.rZ j≠some b:=fun j hj hl hbj=>hj (wf.inj j i b hl (by rw[hi]; trivial) hbj hb)
 have XH:∀x,x<o+l.length*T.sz→w'.cell? ⟨b,x,none⟩=w.cell? ⟨b,x,none⟩:=by
  intro x hx
  rw[cell_of_row w' b x mW el fz hw.here,cell_of_row w b x arr el fz AE,←Array.getElem?_toList,←Array.getElem?_toList,Hy,List.append_assoc,
   List.getElem?_append_left (by simp only[List.length_take,Array.length_toList]; omega),List.getElem?_take,if_pos hx]
 have HB:∀b' x,sF ((h.set i .dead).set id .tok) (c.put id (some b) (o+(l++m).length*T.sz)) b' x→sF h c b' x:=by
  rintro b' x ⟨j,f,g1,g2,g3⟩
  rw[M7]at g2
  by_cases h1:id=j
  ·subst h1
   rw[db]at g1
   cases g1
   rw[if_pos rfl,fb]at g2
   simp only[bO.from_,Option.some.injEq]at g2
   exact ⟨i,c.off i,hb,by rw[hi]; rfl,by omega⟩
  ·rw[if_neg h1]at g2
   split at g2
   ·simp[bO.from_]at g2
   ·obtain ⟨e1,e2⟩:=KF j (Ne.symm h1)
    rw[e1]at g1; rw[e2]at g2
    exact ⟨j,f,g1,g2,g3⟩
 have x:Ext w h c w' ((h.set i .dead).set id .tok) (c.put id (some b) (o+(l++m).length*T.sz)):=by
  constructor
  ·exact hw.os
  ·exact hw.tape
  ·exact hw.output
  ·rw[hw.size]; exact Nat.le_refl _
  ·intro j hj
   refine ⟨by simpa using hj.1,?_⟩
   rw[M7]
   split
   ·simp
   ·split
    ·simp
    ·exact hj.2
  ·intro j hj hd
   have SH:id≠j:=by rintro rfl; exact hj.2 hf
   rw[M7,if_neg SH]at hd ⊢
   split
   ·rename_i h2; rw[if_pos h2]at hd; exact absurd rfl hd
   ·rename_i h2
    rw[if_neg h2]at hd
    refine ⟨?_,(KF j (Ne.symm SH)).1,(KF j (Ne.symm SH)).2⟩
    have h3:=hj.2
    revert hd h3
    cases h.at j <;> simp[bO.gZ]
  ·intro b' y hy ho
   by_cases QT:b'=b
   ·subst QT
    refine XH y ?_
    rcases Nat.lt_or_ge y (o+l.length*T.sz)with h1|h1
    ·exact h1
    ·exact absurd ⟨i,c.off i,hb,by rw[hi]; rfl,by omega⟩ ho
   ·exact r7 (hw.other b' QT)
  ·intro b' oH ho
   have QT:b'≠b:=by
    rintro rfl
    exact ho (c.off i) ⟨i,c.off i,hb,by rw[hi]; rfl,Nat.le_refl _⟩
   exact hw.other b' QT
  ·intro b' y _ ho; exact HB b' y ho
  ·rfl
  ·intro b' Et e' FP ha
   by_cases QT:b'=b
   ·subst QT
    rw[AE]at ha; cases ha
    exact ⟨mW,fz,hw.here,ye⟩
   ·exact ⟨Et,FP,by rw[hw.other b' QT]; exact ha,rfl⟩
 obtain ⟨fl,fh⟩:=fz
 have hti:=wf.obj i VH
 rw[hi]at hti
 have T7:fl=fh∨fh≤o+l.length*T.sz:=by
  rcases hti with h0|⟨b',Et,e',FP,p1,p2,p3,p4⟩
  ·rw[hb]at h0; cases h0
  ·rw[hb]at p1; cases p1
   rw[AE]at p2; cases p2
   rw[hoff]at p4
   exact p4
 have T9:WF w' ((h.set i .dead).set id .tok) (c.put id (some b) (o+(l++m).length*T.sz)):=by
  constructor
  ·intro b' y ho; exact wf.wX b' y (HB b' y ho)
  ·intro b' y he; rw[hw.size]; exact wf.o3 b' y he
  ·intro j hj
   rw[M7]
   by_cases h1:id=j
   ·subst h1
    rw[if_pos rfl]
    refine .inr ⟨b,mW,el,(fl,fh),db _ _ _,hw.here,by rw[fb]; omega,?_⟩
    rw[fb]
    have:l.length*T.sz≤(l++m).length*T.sz:=Nat.mul_le_mul_right _ (by simp)
    exact T7.imp (fun e=>e) fun hh=>Nat.le_trans hh (by omega)
   ·rw[if_neg h1]
    split
    ·trivial
    ·rename_i h2
     by_cases hl:(h.at j).live
     ·refine (wf.obj j (by simpa using hj)).uM x (fun b' oH=>hw.other b' ?_) (KF j (Ne.symm h1)).1 (KF j (Ne.symm h1)).2
      rintro rfl
      exact I6 j (Ne.symm h2) hl oH
     ·revert hl; cases h.at j <;> simp[bO.live,nK]
  ·intro j k b' hj hk h1 h2
   rw[M7]at hj hk
   by_cases e1:id=j <;> by_cases e2:id=k
   ·exact e1.symm.trans e2
   ·subst e1
    rw[db]at h1; cases h1
    rw[if_neg e2]at hk
    rw[(KF k (Ne.symm e2)).1]at h2
    split at hk
    ·exact hk.elim
    ·rename_i h3; exact absurd h2 (I6 k (Ne.symm h3) hk)
   ·subst e2
    rw[db]at h2; cases h2
    rw[if_neg e1]at hj
    rw[(KF j (Ne.symm e1)).1]at h1
    split at hj
    ·exact hj.elim
    ·rename_i h3; exact absurd h1 (I6 j (Ne.symm h3) hj)
   ·rw[if_neg e1]at hj
    rw[if_neg e2]at hk
    rw[(KF j (Ne.symm e1)).1]at h1
    rw[(KF k (Ne.symm e2)).1]at h2
    split at hj
    ·exact hj.elim
    ·split at hk
     ·exact hk.elim
     ·exact wf.inj j k b' hj hk h1 h2
  ·exact wf.rq x
 refine ⟨_,T9,x,?_⟩
 have rr:cy w' ((h.set i .dead).set id .tok) (c.put id (some b) (o+(l++m).length*T.sz)) (jQ T (l++m)) (olds++news):=by
  rw[tU]; exact (ro.mono x).append (rn.mono x)
 refine yp rr kM r5 (fun _=>⟨b,o,rfl,fun j d hd => ?_,fun y h1 h2=>⟨fun ho => ?_,fun he => ?_⟩⟩) (by simp) (fun k hk => ?_)
 ·by_cases hj:j<olds.length
  ·rw[List.getElem?_append_left hj]at hd
   have hlne:l ≠ []:=by rintro rfl; simp at QS; omega
   rw[XH (o+j) (by omega)]
   exact hold hlne j d hd
  ·rw[List.getElem?_append_right (by omega)]at hd
   have hj2:j - olds.length<news.length:=(List.getElem?_eq_some_iff.1 hd).1
   have l1:(arr.toList.take (o+l.length*T.sz)).length=o+l.length*T.sz:=by simp only[List.length_take,Array.length_toList]; omega
   rw[cell_of_row w' b _ mW el (fl,fh) hw.here,←Array.getElem?_toList,Hy,List.append_assoc,List.getElem?_append_right (by omega),l1,List.getElem?_append_left (by omega)]
   rw[←hd]; congr 1; omega
 ·obtain ⟨j,f,g1,g2,g3⟩:=ho
  rw[M7]at g2
  by_cases e1:id=j
  ·subst e1
   rw[if_pos rfl,fb]at g2
   simp only[bO.from_,Option.some.injEq]at g2
   omega
  ·rw[if_neg e1]at g2
   rw[(KF j (Ne.symm e1)).1]at g1
   split at g2
   ·simp[bO.from_]at g2
   ·rename_i h3; exact I6 j (Ne.symm h3) (qP g2) g1
 ·rcases Nat.lt_or_ge y (o+l.length*T.sz)with q|q
  ·exact (hun y h1 q).2 he
  ·exact wf.wX b y ⟨i,c.off i,hb,by rw[hi]; rfl,by omega⟩ he
 ·cases hk
  refine ⟨⟨by simpa using hid,by rw[M7,if_pos rfl]; simp⟩,fun _ => .inr ⟨b,o,mW,el,(fl,fh),db _ _ _,rfl,fb _ _ _,hw.here,by rw[ye]; exact oJ,SE⟩⟩
end

section
variable {P:Program} {tt:dA} {w w':World} {h:aG} {c:js} {R:Type}

theorem Pg {T:Ty} {l:List T.den} {us:List Value} (r:cy w h c (jQ T l) us) {arr:Array Value} {off:Nat} (ha:∀(k:Nat) (d:Value),us[k]? = some d→arr[off+k]? = some d) :
  ∀(n j:Nat) (x:T.den) (v:V),l[n]? = some x→(T.cells x)[j]? = some v→∃d,arr[off+n*T.sz+j]? = some d∧dz w h c v d:=by
 intro n j z v hz hv
 have hj:j<T.sz:=by rw[←T.kD z]; exact (List.getElem?_eq_some_iff.1 hv).1
 have hn:n<l.length:=(List.getElem?_eq_some_iff.1 hz).1
 have jb:n*T.sz+j<l.length*T.sz:=by
  have:=Nat.mul_le_mul_right T.sz hn
  rw[Nat.succ_mul]at this; omega
 have hl:=r.1
 rw[jW]at hl
 have hg:=List.getElem?_eq_getElem (show n*T.sz+j<us.length by omega)
 exact ⟨_,by rw[Nat.add_assoc]; exact ha _ _ hg,r.2 _ v _ ((xm T l n j z hz hj).trans hv) hg⟩

theorem fit_row (wf:WF w h c) {i id:Nat} {T:Ty} {l m:List T.den} (hi:h.at i = .row T l) (hid:id<h.length) (hf:h.at id = .free) {b:Nat} (hb:c.rZ i=some b)
  {arr mW:Array Value} {el:TypeId} {fz:Nat × Nat} (AE:w.heap[b]? = some (.cells arr el fz)) (hw:Lw w w' b mW el fz) {cap:Nat} (kM:(l++m).length≤cap) (r5:cap≤mx) (oJ:c.off i+cap*T.sz≤arr.size)
  {olds news:List Value} (ro:cy w h c (jQ T l) olds) (rn:cy w h c (jQ T m) news) (hold:l ≠ []→rj w b (c.off i) olds)
  (Hy:mW.toList=arr.toList.take (c.off i+l.length*T.sz)++news++arr.toList.drop (c.off i+l.length*T.sz+news.length)) :
  ∃c',WF w' ((h.set i .dead).set id (.row T (l++m))) c'∧Ext w h c w' ((h.set i .dead).set id (.row T (l++m))) c' ∧
   dz w' ((h.set i .dead).set id (.row T (l++m))) c' (.row id (l++m).length) (.slice (some ⟨b,c.off i,none⟩) (l++m).length cap):=by
 have jc:i≠id:=by rintro rfl; rw[hi]at hf; cases hf
 have VH:=aG.fW hi (by simp)
 have QS:=ro.1
 have QP:=rn.1
 rw[jW]at QS QP
 have hmul:(l++m).length*T.sz≤cap*T.sz:=Nat.mul_le_mul_right _ kM
 have hlm:(l++m).length*T.sz=l.length*T.sz+m.length*T.sz:=by rw[List.length_append,Nat.add_mul]
 have ye:mW.size=arr.size:=by
  rw[←Array.length_toList,Hy]; simp only[List.length_append,List.length_take,List.length_drop,Array.length_toList]; omega
 have M7:∀j,aG.at ((h.set i .dead).set id (.row T (l++m))) j=if id=j then .row T (l++m)else if i=j then .dead else h.at j:=by
  intro j
  rw[lL,lL]
  by_cases h1:id=j
  ·simp[h1]; intro h2; subst h1; omega
  ·simp only[h1,false_and,if_false]
   by_cases h2:i=j
   ·subst h2; simp[VH]
   ·simp[h2]
 have KF:∀j,j≠id→(c.put id (some b) (c.off i)).rZ j=c.rZ j∧(c.put id (some b) (c.off i)).off j=c.off j:=fun j hj=>⟨qe _ _ hj,xk _ _ hj⟩
 have I6:∀j,j≠i→(h.at j).live→c.rZ j≠some b:=fun j hj hl hbj=>hj (wf.inj j i b hl (by rw[hi]; trivial) hbj hb)
 have lC:∀y,sF h c b y:=fun y=>⟨i,0,hb,by rw[hi]; rfl,Nat.zero_le _⟩
 have HB:∀b' x,sF ((h.set i .dead).set id (.row T (l++m))) (c.put id (some b) (c.off i)) b' x→sF h c b' x:=by
  rintro b' x ⟨j,f,g1,g2,g3⟩
  rw[M7]at g2
  by_cases h1:id=j
  ·subst h1
   rw[db]at g1
   cases g1
   exact lC x
  ·rw[if_neg h1]at g2
   split at g2
   ·simp[bO.from_]at g2
   ·obtain ⟨e1,e2⟩:=KF j (Ne.symm h1)
    rw[e1]at g1; rw[e2]at g2
    exact ⟨j,f,g1,g2,g3⟩
 have x:Ext w h c w' ((h.set i .dead).set id (.row T (l++m))) (c.put id (some b) (c.off i)):=by
  constructor
  ·exact hw.os
  ·exact hw.tape
  ·exact hw.output
  ·rw[hw.size]; exact Nat.le_refl _
  ·intro j hj
   refine ⟨by simpa using hj.1,?_⟩
   rw[M7]
   split
   ·simp
   ·split
    ·simp
    ·exact hj.2
  ·intro j hj hd
   have SH:id≠j:=by rintro rfl; exact hj.2 hf
   rw[M7,if_neg SH]at hd ⊢
   split
   ·rename_i h2; rw[if_pos h2]at hd; exact absurd rfl hd
   ·rename_i h2
    rw[if_neg h2]at hd
    refine ⟨?_,(KF j (Ne.symm SH)).1,(KF j (Ne.symm SH)).2⟩
    have h3:=hj.2
    revert hd h3
    cases h.at j <;> simp[bO.gZ]
  ·intro b' y hy ho
   have QT:b'≠b:=by rintro rfl; exact ho (lC y)
   exact r7 (hw.other b' QT)
  ·intro b' oH ho
   have QT:b'≠b:=by rintro rfl; exact ho 0 (lC 0)
   exact hw.other b' QT
  ·intro b' y _ ho; exact HB b' y ho
  ·rfl
  ·intro b' Et e' FP ha
   by_cases QT:b'=b
   ·subst QT
    rw[AE]at ha; cases ha
    exact ⟨mW,fz,hw.here,ye⟩
   ·exact ⟨Et,FP,by rw[hw.other b' QT]; exact ha,rfl⟩
 obtain ⟨fl,fh⟩:=fz
 have hti:=wf.obj i VH
 rw[hi]at hti
 have T7:∀y,y<arr.size→w.frozen? ⟨b,y,none⟩=false:=by
  rcases hti with ⟨h0,_⟩|⟨b',Et,e',FP,p1,p2,p3,p4,p5⟩
  ·rw[hb]at h0; cases h0
  ·rw[hb]at p1; cases p1
   rw[AE]at p2; cases p2
   exact p4
 have rr:cy w' ((h.set i .dead).set id (.row T (l++m))) (c.put id (some b) (c.off i)) (jQ T (l++m)) (olds++news):=by
  rw[tU]; exact (ro.mono x).append (rn.mono x)
 have BH:∀(k:Nat) (d:Value),(olds++news)[k]? = some d→mW[c.off i+k]? = some d:=by
  intro k d hd
  have l1:(arr.toList.take (c.off i+l.length*T.sz)).length=c.off i+l.length*T.sz:=by simp only[List.length_take,Array.length_toList]; omega
  rw[←Array.getElem?_toList,Hy,List.append_assoc]
  by_cases hk:k<olds.length
  ·rw[List.getElem?_append_left hk]at hd
   have hlne:l ≠ []:=by rintro rfl; simp at QS; omega
   have hc1:=hold hlne k d hd
   rw[cell_of_row w b _ arr el (fl,fh) AE]at hc1
   rw[List.getElem?_append_left (by omega),List.getElem?_take,if_pos (by omega),Array.getElem?_toList]
   exact hc1
  ·rw[List.getElem?_append_right (by omega)]at hd
   have hj2:k - olds.length<news.length:=(List.getElem?_eq_some_iff.1 hd).1
   rw[List.getElem?_append_right (by omega),l1,List.getElem?_append_left (by omega)]
   rw[←hd]; congr 1; omega
 have T9:WF w' ((h.set i .dead).set id (.row T (l++m))) (c.put id (some b) (c.off i)):=by
  constructor
  ·intro b' y ho; exact wf.wX b' y (HB b' y ho)
  ·intro b' y he; rw[hw.size]; exact wf.o3 b' y he
  ·intro j hj
   rw[M7]
   by_cases h1:id=j
   ·subst h1
    rw[if_pos rfl]
    refine .inr ⟨b,mW,el,(fl,fh),db _ _ _,hw.here,by rw[fb]; omega,fun y h1 => ?_,?_⟩
    ·have:=T7 y (by omega)
     rw[Cd AE]at this
     rw[Cd hw.here]; exact this
    ·rw[fb]; exact Pg rr BH
   ·rw[if_neg h1]
    split
    ·trivial
    ·rename_i h2
     by_cases hl:(h.at j).live
     ·refine (wf.obj j (by simpa using hj)).uM x (fun b' oH=>hw.other b' ?_) (KF j (Ne.symm h1)).1 (KF j (Ne.symm h1)).2
      rintro rfl
      exact I6 j (Ne.symm h2) hl oH
     ·revert hl; cases h.at j <;> simp[bO.live,nK]
  ·intro j k b' hj hk h1 h2
   rw[M7]at hj hk
   by_cases e1:id=j <;> by_cases e2:id=k
   ·exact e1.symm.trans e2
   ·subst e1
    rw[db]at h1; cases h1
    rw[if_neg e2]at hk
    rw[(KF k (Ne.symm e2)).1]at h2
    split at hk
    ·exact hk.elim
    ·rename_i h3; exact absurd h2 (I6 k (Ne.symm h3) hk)
   ·subst e2
    rw[db]at h2; cases h2
    rw[if_neg e1]at hj
    rw[(KF j (Ne.symm e1)).1]at h1
    split at hj
    ·exact hj.elim
    ·rename_i h3; exact absurd h1 (I6 j (Ne.symm h3) hj)
   ·rw[if_neg e1]at hj
    rw[if_neg e2]at hk
    rw[(KF j (Ne.symm e1)).1]at h1
    rw[(KF k (Ne.symm e2)).1]at h2
    split at hj
    ·exact hj.elim
    ·split at hk
     ·exact hk.elim
     ·exact wf.inj j k b' hj hk h1 h2
  ·exact wf.rq x
 refine ⟨_,T9,x, .row ⟨by simpa using hid,by rw[M7,if_pos rfl]; simp⟩ (by omega) ⟨_,_,rfl,fun _=>⟨_,rfl⟩,fun T' l' he => ?_⟩⟩
 rw[M7,if_pos rfl]at he
 cases he
 exact ⟨rfl,kM,r5, .inr ⟨b,mW,el,(fl,fh),db _ _ _,by rw[fb],hw.here,by rw[fb,ye]; exact oJ⟩⟩

def Ph (P:Program) (w:World) (h:aG) (c:js) (s:Sem Value) (k:V→aG→Option R) (r:R):Prop :=
 ∃v h' v' w' c',s.run P w = .ok v' w'∧WF w' h' c'∧Ext w h c w' h' c'∧dz w' h' c' v v'∧k v h'=some r

theorem HC (T:vS P tt) (wf:WF w h c) {t xt e id:Nat} (ht:(tt.at t).d = .slice e) (Pe:(∃e',P.underlying xt=some (.slice e'))∨P.underlying xt=some .string) {s x:V} {s' x':Value}
  (rs:dz w h c s s') (rx:dz w h c x x') (hid:id<h.length) (hf:h.at id = .free) (ty:Nat) {k:V→aG→Option R} {r:R} (hk:nE tt e s x h id k=some r) :
  Ph P w h c (Builtin.append_ #[t,xt] ty #[s',x']) k r:=by
 unfold nE at hk
 split at hk <;> try (first|cases hk)
 rename_i T' hty
 split at hk <;> try (first|cases hk)
 rename_i sV
 simp only[Bool.and_eq_true,decide_eq_true_eq,bne_iff_ne,ne_eq]at sV
 obtain ⟨⟨oJ,hnz⟩,qy⟩:=sV
 split at hk <;> try (first|cases hk)
 rename_i m hsrc
 obtain ⟨news,n1,n2,n3,n4⟩:=VG (P:=P) wf oJ rx hsrc
 have Nn:=n3.1
 rw[jW,oJ]at Nn
 have Ua:=T2 n3 (Lz T' m)
 have hbig:∀n:Nat,(n+m.length)*(tt.at e).bytes≤140737488355328→n+m.length≤mx:=fun n hb=>by
  have:n+m.length≤(n+m.length)*(tt.at e).bytes:=Nat.le_mul_of_pos_right _ (by omega)
  unfold mx; omega
 have SE:∀o:Nat,o=0→Sk T' o e:=fun o ho hT=>⟨ho,T.u8s e (by rw[hty,hT])⟩
 have Ub:((0+m.length)*(tt.at e).bytes≤140737488355328)→k (.sl T' m (.own id)) (h.set id .tok)=some r→Ph P w h c (Builtin.append_ #[t,xt] ty #[.slice none 0 0,x']) k r:=by
  intro Bp hk
  have:=vY (P:=P) (w:=w) (A:=none) (n:=0) (cap:=0) (m:=m.length) (x:=x') (olds := []) (news:=news) T ht qy Pe ty n1 n2 Nn.symm Ua (by simp) (fun h=>absurd rfl h) (Nat.le_refl _) (by unfold mx; omega) (.inl ⟨rfl,rfl⟩) Bp (by omega)
  rcases this with ⟨h1,_,XF,kY⟩|⟨_,b,o,arr,el,fz,w',mW,hA,_⟩|⟨cap,ds,h1,h2,h3,h4,kY⟩
  ·have hm:m = []:=List.eq_nil_of_length_eq_zero XF
   subst hm
   obtain ⟨c',g1,g2,g3⟩:=Hz wf hid hf (T:=T')
   exact ⟨_,_,_,w,c',kY,g1,g2,g3,hk⟩
  ·cases hA
  ·rw[Nat.zero_add]at h1 h4 kY
   rw[←oJ]at h3 h4
   obtain ⟨c',g1,g2,g3⟩:=NY wf hid hf n3 (SE 0 rfl) h3 (by simpa using h4) h1 h2 (e:=e)
   exact ⟨_,_,_,_,c',kY,g1,g2,g3,hk⟩
 have Es:((0+m.length)*(tt.at e).bytes≤140737488355328)→k (.row id m.length) (h.set id (.row T' m))=some r→Ph P w h c (Builtin.append_ #[t,xt] ty #[.slice none 0 0,x']) k r:=by
  intro Bp hk
  have:=vY (P:=P) (w:=w) (A:=none) (n:=0) (cap:=0) (m:=m.length) (x:=x') (olds := []) (news:=news) T ht qy Pe ty n1 n2 Nn.symm Ua (by simp) (fun h=>absurd rfl h) (Nat.le_refl _) (by unfold mx; omega) (.inl ⟨rfl,rfl⟩) Bp (by omega)
  rcases this with ⟨h1,_,XF,kY⟩|⟨_,b,o,arr,el,fz,w',mW,hA,_⟩|⟨cap,ds,h1,h2,h3,h4,kY⟩
  ·have hm:m = []:=List.eq_nil_of_length_eq_zero XF
   subst hm
   obtain ⟨c',g1,g2,g3⟩:=LB wf hid hf (T:=T')
   exact ⟨_,_,_,w,c',kY,g1,g2,g3,hk⟩
  ·cases hA
  ·rw[Nat.zero_add]at h1 h4 kY
   rw[←oJ]at h3 h4
   obtain ⟨c',g1,g2,g3⟩:=NZ wf hid hf n3 h3 (by simpa using h4) h1 h2 (e:=e)
   exact ⟨_,_,_,_,c',kY,g1,g2,g3,hk⟩
 split at hk <;> try (first|cases hk)
 ·obtain ⟨Bp,hk⟩:=cf hk
  cases rs
  split at hk
  ·exact Es (by simpa using Bp) hk
  ·exact Ub (by simpa using Bp) hk
 ·rename_i T'' l tk
  split at hk <;> try (first|cases hk)
  rename_i q
  subst q
  simp only at hk
  split at hk <;> try (first|cases hk)
  ·obtain ⟨Bp,hk⟩:=cf hk
   cases rs with
   | sl f kM r5 hc hr xj lC =>
    obtain ⟨rfl,rfl⟩:=xj rfl
    have JG:l = []:=List.eq_nil_of_length_eq_zero (by omega)
    subst JG
    exact Ub (by simpa using Bp) hk
  ·rename_i i
   split at hk <;> try (first|cases hk)
   rename_i Li
   obtain ⟨Bp,hk⟩:=cf hk
   have LC:(l.length+m.length)*(tt.at e).bytes≤140737488355328:=by simpa using Bp
   have jc:i≠id:=by rintro rfl; rw[Li]at hf; cases hf
   have VI:id<(h.set i .dead).length:=by simpa using hid
   have QC:aG.at (h.set i .dead) id = .free:=by rw[cS _ jc]; exact hf
   obtain ⟨A,cap,rfl,kM,r5⟩:=I0 rs
   obtain ⟨olds,ro,ho⟩:=QQ rs
   have hol:=ro.1
   rw[jW,oJ]at hol
   have lC:(c.rZ i=none∧A=none∧cap=0)∨∃b o arr e fz,c.rZ i=some b∧A=some ⟨b,o,none⟩∧c.off i=o+l.length*T''.sz∧w.heap[b]? = some (.cells arr e fz)∧o+cap*T''.sz≤arr.size∧Sk T'' o e:=by
    cases rs with
    | sl f kM r5 hc hr xj lC=>exact (lC i rfl).2 Li
   have QU:=wf.obj i (aG.fW Li (by simp))
   rw[Li]at QU
   have hA:(A=none∧cap=0)∨∃b o arr el fz,A=some ⟨b,o,none⟩∧w.heap[b]? = some (.cells arr el fz)∧o+cap*(tt.at e).size≤arr.size∧∀y,o+l.length*(tt.at e).size≤y→y<arr.size→w.frozen? ⟨b,y,none⟩=false:=by
    rcases lC with ⟨_,h1,h2⟩|⟨b,o,arr,el,fz,g1,g2,g3,g4,g5,_⟩
    ·exact .inl ⟨h1,h2⟩
    ·refine .inr ⟨b,o,arr,el,fz,g2,g4,by rw[←oJ]; exact g5,?_⟩
     rcases QU with h0|⟨b',Et,e',FP,p1,p2,p3,p4⟩
     ·rw[g1]at h0; cases h0
     ·rw[g1]at p1; cases p1
      rw[g4]at p2; cases p2
      intro y h1 h2
      exact SF g4 p4 (by rw[g3,oJ]; exact h1)
   have:=vY (P:=P) (w:=w) (n:=l.length) (olds:=olds) T ht qy Pe ty n1 n2 Nn.symm Ua hol.symm (fun hn=>by
    obtain ⟨b,o,q1,q2,_⟩:=ho (by rintro rfl; exact hn rfl)
    exact ⟨b,o,q1,q2⟩) kM r5 hA LC (hbig _ LC)
   have k1:=AD (w:=w) (h:=h) (c:=c) i
   have k2:=KK wf i
   rcases this with ⟨h1,hA0,XF,kY⟩|⟨QR,b,o,arr,el,fz,w',mW,hA1,AE,hsz1,kY,hw,Hy⟩|⟨cap',ds,h1,h2,h3,h4,kY⟩
   ·have hm:m = []:=List.eq_nil_of_length_eq_zero XF
    subst hm
    have JG:l = []:=by
     rcases lC with ⟨_,_,Hh⟩|⟨b,o,arr,el,fz,_,g2,_⟩
     ·exact List.eq_nil_of_length_eq_zero (by omega)
     ·rw[g2]at hA0; cases hA0
    subst JG
    have Hh:cap=0:=by
     rcases lC with ⟨_,_,Hh⟩|⟨b,o,arr,el,fz,_,g2,_⟩
     ·exact Hh
     ·rw[g2]at hA0; cases hA0
    subst Hh
    subst hA0
    obtain ⟨c',g1,g2,g3⟩:=Hz k2 VI QC (T:=T'')
    exact ⟨_,_,_,w,c',kY,g1,k1.trans g2,g3,hk⟩
   ·rcases lC with ⟨_,hA2,_⟩|⟨b',o',Et,el',FP,g1,g2,g3,g4,g5,g6⟩
    ·rw[hA2]at hA1; cases hA1
    ·rw[g2]at hA1; cases hA1
     rw[g4]at AE; cases AE
     subst g2
     have hlen:(l++m).length=l.length+m.length:=List.length_append
     obtain ⟨c',q1,q2,q3⟩:=fit_tok (l:=l) (m:=m) wf Li hid hf g1 g3 g6 g4 hw (by omega) r5 g5 ro n3 (fun jc=>by
      obtain ⟨b2,o2,p1,p2,_⟩:=ho jc
      cases p1; exact p2) (fun y y1 y2=>by
      by_cases jc:l = []
      ·subst jc; simp at y2; omega
      ·obtain ⟨b2,o2,p1,_,p3⟩:=ho jc
       cases p1; exact p3 y y1 y2) (by rw[oJ]; exact Hy)
     rw[hlen]at q3
     exact ⟨_,_,_,w',c',kY,q1,q2,q3,hk⟩
   ·have hlen:(l++m).length=l.length+m.length:=List.length_append
    obtain ⟨c',q1,q2,q3⟩:=NY (l:=l++m) k2 VI QC (by rw[tU]; exact (ro.mono k1).append (n3.mono k1)) (SE 0 rfl) (by rw[oJ]; exact h3) (by rw[hlen,oJ]; exact h4) (by omega) h2 (e:=e)
    rw[hlen]at q3
    exact ⟨_,_,_,_,c',kY,q1,k1.trans q2,q3,hk⟩
 ·rename_i i n
  split at hk <;> try (first|cases hk)
  rename_i T'' l A5
  split at hk <;> try (first|cases hk)
  rename_i q
  subst q
  obtain ⟨Bp,hk⟩:=cf hk
  simp only at hk
  have LC:(l.length+m.length)*(tt.at e).bytes≤140737488355328:=by simpa using Bp
  have jc:i≠id:=by rintro rfl; rw[A5]at hf; cases hf
  have VI:id<(h.set i .dead).length:=by simpa using hid
  have QC:aG.at (h.set i .dead) id = .free:=by rw[cS _ jc]; exact hf
  obtain ⟨olds,ro,ho⟩:=Pf wf A5
  have hol:=ro.1
  rw[jW,oJ]at hol
  have QU:=wf.obj i (aG.fW A5 (by simp))
  rw[A5]at QU
  cases rs with
  | row hu hn hv =>
   obtain ⟨A,cap,rfl,hA0,hv⟩:=hv
   obtain ⟨hnl',kM,r5,lC⟩:=hv _ _ A5
   subst hnl'
   have hA:(A=none∧cap=0)∨∃b o arr el fz,A=some ⟨b,o,none⟩∧w.heap[b]? = some (.cells arr el fz)∧o+cap*(tt.at e).size≤arr.size∧∀y,o+l.length*(tt.at e).size≤y→y<arr.size→w.frozen? ⟨b,y,none⟩=false:=by
    rcases lC with ⟨_,h1,h2⟩|⟨b,arr,el,fz,g1,g2,g4,g5⟩
    ·exact .inl ⟨h1,h2⟩
    ·refine .inr ⟨b,c.off i,arr,el,fz,g2,g4,by rw[←oJ]; exact g5,?_⟩
     rcases QU with ⟨h0,_⟩|⟨b',Et,e',FP,p1,p2,p3,p4,_⟩
     ·rw[g1]at h0; cases h0
     ·rw[g1]at p1; cases p1
      rw[g4]at p2; cases p2
      intro y _ h2
      exact p4 y h2
   have:=vY (P:=P) (w:=w) (n:=l.length) (olds:=olds) T ht qy Pe ty n1 n2 Nn.symm Ua hol.symm (fun hn=>by
    obtain ⟨b,q1,q2⟩:=ho (by rintro rfl; exact hn rfl)
    rcases lC with ⟨p1,_⟩|⟨b',arr,el,fz,p1,p2,_⟩
    ·rw[q1]at p1; cases p1
    ·rw[q1]at p1; cases p1
     exact ⟨b,_,p2,q2⟩) kM r5 hA LC (hbig _ LC)
   have k1:=AD (w:=w) (h:=h) (c:=c) i
   have k2:=KK wf i
   have hlen:(l++m).length=l.length+m.length:=List.length_append
   rcases this with ⟨h1,hAn,XF,kY⟩|⟨QR,b,o,arr,el,fz,w',mW,hA1,AE,hsz1,kY,hw,Hy⟩|⟨cap',ds,h1,h2,h3,h4,kY⟩
   ·have hm:m = []:=List.eq_nil_of_length_eq_zero XF
    subst hm
    have Hh:cap=0:=by
     rcases lC with ⟨_,_,Hh⟩|⟨b,arr,el,fz,_,g2,_⟩
     ·exact Hh
     ·rw[g2]at hAn; cases hAn
    have JG:l = []:=List.eq_nil_of_length_eq_zero (by omega)
    subst JG
    subst Hh
    subst hAn
    obtain ⟨c',g1,g2,g3⟩:=LB k2 VI QC (T:=T'')
    exact ⟨_,_,_,w,c',kY,g1,k1.trans g2,g3,hk⟩
   ·rcases lC with ⟨_,hA2,_⟩|⟨b',Et,el',FP,g1,g2,g4,g5⟩
    ·rw[hA2]at hA1; cases hA1
    ·rw[g2]at hA1; cases hA1
     rw[g4]at AE; cases AE
     subst g2
     obtain ⟨c',q1,q2,q3⟩:=fit_row (l:=l) (m:=m) wf A5 hid hf g1 g4 hw (by omega) r5 g5 ro n3 (fun jc=>by
      obtain ⟨b2,p1,p2⟩:=ho jc
      rw[g1]at p1; cases p1; exact p2) (by rw[oJ]; exact Hy)
     rw[hlen]at q3
     exact ⟨_,_,_,w',c',kY,q1,q2,q3,hk⟩
   ·obtain ⟨c',q1,q2,q3⟩:=NZ (l:=l++m) k2 VI QC (by rw[tU]; exact (ro.mono k1).append (n3.mono k1)) (by rw[oJ]; exact h3) (by rw[hlen,oJ]; exact h4) (by omega) h2 (e:=e)
    rw[hlen]at q3
    exact ⟨_,_,_,_,c',kY,q1,k1.trans q2,q3,hk⟩
end

section
variable {P:Program} {tt:dA} {w w':World} {h:aG} {c:js} {R:Type}

def Obj.Uc:Obj→Bool
 | .cells _ _ _=>true
 | _=>false

theorem Pj (wf:WF w h c) {i b:Nat} {o':bO} {o1 o2:Obj} (hb:c.rZ i=some b) (h1:w.heap[b]? = some o1) (hn1:Obj.Uc o1=false)
  (rA:(h.at i).from_ (c.off i)=some 0) (Lx:o'.from_ (c.off i)=some 0) (td:(h.at i).gZ o')
  (DZ:Ext w h c { w with heap:=w.heap.setIfInBounds b o2 } (h.set i o') c→nK { w with heap:=w.heap.setIfInBounds b o2 } (h.set i o') c i o') :
  WF { w with heap:=w.heap.setIfInBounds b o2 } (h.set i o') c∧Ext w h c { w with heap:=w.heap.setIfInBounds b o2 } (h.set i o') c:=by
 have hi:i<h.length:=aG.fW rfl (bO.Ca td).1
 have lC:∀x,sF h c b x:=fun x=>⟨i,0,hb,rA,Nat.zero_le _⟩
 have Pk:∀k,k≠b→(w.heap.setIfInBounds b o2)[k]? = w.heap[k]? :=fun k hk=>by
  rw[Array.getElem?_setIfInBounds]; simp[Ne.symm hk]
 have hli:=qP rA
 have x:Ext w h c { w with heap:=w.heap.setIfInBounds b o2 } (h.set i o') c:=by
  constructor
  ·rfl
  ·rfl
  ·rfl
  ·simp
  ·intro j hj
   by_cases vm:i=j
   ·subst vm
    refine ⟨by simpa using hj.1,?_⟩
    rw[lZ _ hi]
    intro he; subst he; simp[bO.from_]at Lx
   ·exact ⟨by simpa using hj.1,by rw[cS _ vm]; exact hj.2⟩
  ·intro j hj hd
   refine ⟨?_,rfl,rfl⟩
   by_cases vm:i=j
   ·subst vm; rw[lZ _ hi]; exact td
   ·rw[cS _ vm]at hd ⊢
    have h2:=hj.2
    revert hd h2
    cases h.at j <;> simp[bO.gZ]
  ·intro b' x hx ho
   have jc:b'≠b:=by rintro rfl; exact ho (lC x)
   exact r7 (Pk b' jc)
  ·intro b' hx ho
   have jc:b'≠b:=by rintro rfl; exact ho 0 (lC 0)
   exact Pk b' jc
  ·rintro b' x hx ⟨j,f,g1,g2,g3⟩
   by_cases vm:i=j
   ·subst vm
    rw[hb]at g1; cases g1
    exact lC x
   ·rw[cS _ vm]at g2
    exact ⟨j,f,g1,g2,g3⟩
  ·rfl
  ·intro b' arr el FP ha
   by_cases jc:b'=b
   ·subst jc
    rw[h1]at ha; cases ha
    simp[Obj.Uc]at hn1
   ·exact ⟨arr,FP,by rw[Pk b' jc]; exact ha,rfl⟩
 have QM:∀j,(aG.at (h.set i o') j).live→(h.at j).live:=fun j hj=>by
  by_cases vm:i=j
  ·subst vm; exact hli
  ·rw[cS _ vm]at hj; exact hj
 refine ⟨?_,x⟩
 constructor
 ·intro b' y ho he
  exact wf.wX b' y (x.vH b' y (wf.o3 b' y he) ho) he
 ·intro b' y he
  simpa using wf.o3 b' y he
 ·intro j hj
  by_cases vm:i=j
  ·subst vm; rw[lZ _ hi]; exact DZ x
  ·rw[cS _ vm]
   by_cases hl:(h.at j).live
   ·refine (wf.obj j (by simpa using hj)).uM x (fun b' oH=>Pk b' ?_) rfl rfl
    rintro rfl
    exact vm (wf.inj i j b' hli hl hb oH)
   ·revert hl; cases h.at j <;> simp[bO.live,nK]
 ·intro j k b' hj hk h1 h2
  exact wf.inj j k b' (QM j hj) (QM k hk) h1 h2
 ·exact wf.rq x

theorem I7 (s:ByteArray) (i:Nat):(Utf8.decode s i).1<2097152∧1≤(Utf8.decode s i).2∧(Utf8.decode s i).2≤4:=by
 have hb:∀k,(s.get! k).toNat<256:=fun k=>UInt8.toNat_lt _
 have h0:=hb (i+0)
 unfold Utf8.decode
 simp only
 split
 ·exact ⟨by omega,by simp,by simp⟩
 ·split
  ·split
   ·exact ⟨by simp only; omega,by simp,by simp⟩
   ·exact ⟨by simp[Utf8.runeError],by simp,by simp⟩
  ·split
   ·split
    ·exact ⟨by simp only; omega,by simp,by simp⟩
    ·exact ⟨by simp[Utf8.runeError],by simp,by simp⟩
   ·split
    ·split
     ·exact ⟨by simp only; omega,by simp,by simp⟩
     ·exact ⟨by simp[Utf8.runeError],by simp,by simp⟩
    ·exact ⟨by simp[Utf8.runeError],by simp,by simp⟩

theorem QV (n:Nat) (h:n<2097152):IntKind.i32.has (n:Int):=by
 unfold IntKind.has; simp[IntKind.min,IntKind.max,IntKind.signed,IntKind.bits]; omega

theorem SI (wf:WF w h c) {i:Nat} {s:aj} {pos:Nat} {a':Value} (ra:dz w h c (.ptr i 0) a') (hit:h.at i = .iter s pos) (ty:TypeId) {k:V→aG→Option R} {r:R}
  (hk:(bif decide (pos<s.length)then k (.tuple [.bool true, .int .i64 pos, .int .i32 (lI s pos).1]) (h.set i (.iter s (pos+(lI s pos).2)))else k (.tuple [.bool false]) h)=some r) :
  Ph P w h c (Instr.next a' true ty) k r:=by
 have hi:=aG.fW hit (by simp)
 have ho:=wf.obj i hi
 rw[hit]at ho
 obtain ⟨b,bs,g1,g2,g3,g4⟩:=ho
 cases ra with
 | ptr hu hv =>
  obtain ⟨b',rfl,oH⟩:=hv
  have:=oH (by rw[hit]; simp)
  rw[g1]at this; cases this
  have hlen:s.length=bs.size:=by rw[←g3,size_data]
  have hbs:bs=⟨s.toArray⟩:=qa (by rw[g3])
  have hdec:Utf8.decode bs pos=lI s pos:=by rw[hbs]; rfl
  have yR:(getObj b).run P w = .ok (.stringIter bs pos) w:=by simp[getObj,Sem.run,g2]
  by_cases hp:pos<s.length
  ·have hc:decide (pos<s.length)=true:=by simpa using hp
   rw[hc]at hk
   have LD:(setObj b (.stringIter bs (pos+(lI s pos).2))).run P w = .ok () { w with heap:=w.heap.setIfInBounds b (.stringIter bs (pos+(lI s pos).2)) }:=by
    simp[setObj,Sem.run,g2]
   have jb:b<w.heap.size:=yd g2
   have hrune:=(I7 bs pos).1
   rw[hdec]at hrune
   have rA:(h.at i).from_ (c.off i)=some 0:=by rw[hit]; rfl
   have td:(h.at i).gZ (.iter s (pos+(lI s pos).2)):=by rw[hit]; trivial
   obtain ⟨q1,q2⟩:=Pj wf (o' := .iter s (pos+(lI s pos).2)) (o2 := .stringIter bs (pos+(lI s pos).2)) g1 g2 rfl rA rfl td
    (fun _=>⟨b,bs,g1,by simp[Array.getElem?_setIfInBounds,jb],g3,g4⟩)
   refine ⟨_,_, .tuple #[.bool true,goInt pos, .int .i32 (lI s pos).1],_,c,?_,q1,q2,?_,hk⟩
   ·simp only[Instr.next,Sem.run_bind,yR,Result.andThen_ok]
    rw[if_pos (by omega),hdec]
    simp only[Sem.run_bind,LD,Result.andThen_ok,Sem.run_pure]
   ·refine .tuple rfl fun j v d hv hd => ?_
    match j,hv,hd with
    | 0,hv,hd=>simp at hv hd; subst hv; subst hd; exact .bool _
    | 1,hv,hd=>simp[goInt]at hv hd; subst hv; subst hd; exact .int (CL _ (by omega))
    | 2,hv,hd=>simp at hv hd; subst hv; subst hd; exact .int (QV _ hrune)
    | j+3,hv,_=>simp at hv
  ·have hc:decide (pos<s.length)=false:=by simpa using hp
   rw[hc]at hk
   refine ⟨_,_, .tuple #[.bool false],w,c,?_,wf, .refl _ _ _,?_,hk⟩
   ·simp only[Instr.next,Sem.run_bind,yR,Result.andThen_ok]
    rw[if_neg (by omega)]
    rfl
   ·refine .tuple rfl fun j v d hv hd => ?_
    match j,hv,hd with
    | 0,hv,hd=>simp at hv hd; subst hv; subst hd; exact .bool _
    | j+1,hv,_=>simp at hv
end
end Go.aF

namespace Go.aF
open Go.RowKit Go.MapKept

section
variable {P:Program} {tt:dA} {w w':World} {h:aG} {c:js} {R:Type}

theorem HD (T:vS P tt) (wf:WF w h c) {t kt vt i:Nat} {K V':Ty} {l:List (K.den × V'.den)} (ht:(tt.at t).d = .map kt vt) {m d y:Value} (rm:dz w h c (.map i) m) (hm:h.at i = .uO K V' l)
  (hf:(vU tt kt K&&yP tt vt V')=true) {v u:V} (rk:dz w h c v d) (ru:dz w h c u y) {kx:K.den} {vx:V'.den} (hx:elD K v=some kx) (hy:elD V' u=some vx) :
  ∃w',(Instr.mapUpdate t m d y).run P w = .ok () w'∧WF w' (h.set i (.uO K V' (vT K V' kx vx l))) c∧Ext w h c w' (h.set i (.uO K V' (vT K V' kx vx l))) c:=by
 simp only[Bool.and_eq_true]at hf
 obtain ⟨QC,hf2⟩:=hf
 have hi:=aG.fW hm (by simp)
 have ho:=wf.obj i hi
 rw[hm]at ho
 obtain ⟨b,es,clock,g1,g2,g3,g4,g5,g6⟩:=ho
 cases rm with
 | map hu hv =>
  obtain ⟨b',rfl,oH⟩:=hv
  have:=oH (by rw[hm]; simp)
  rw[g1]at this; cases this
  have hut:P.underlying t=some (.map kt vt):=er T ht
  have e:=So hx (Lq QC).1
  subst e
  have e:=So hy (Lr hf2)
  subst e
  have hl:es.toList.length=l.length:=by simpa using g5
  have hr:∀(j:Nat) (x:K.den × V'.den) (e:MapEntry),l[j]? = some x→es.toList[j]? = some e→dz w h c (M6 K x.1) e.key:=fun j x e hx he=>(g6 j x e hx (by simpa using he)).1
  obtain ⟨u,hu',hik,_⟩:=Ht T QC rk rk
  have Hu:=run_findKey (w:=w) hu' (Lp T QC rk hu' l es.toList 0 hl hr)
  have XC:=run_checkKey (w:=w) hu' hik false 9999
  have yR:=Go.MapKept.run_getObj_map (P:=P) g2
  have jb:b<w.heap.size:=yd g2
  have rA:(h.at i).from_ (c.off i)=some 0:=by rw[hm]; rfl
  have td:∀l':List (K.den × V'.den),(h.at i).gZ (.uO K V' l'):=fun l'=>by rw[hm]; exact ⟨rfl,rfl⟩
  rcases I1 (K:=K) (T:=V') (k:=kx) l es.toList 0 hl with ⟨h1,h2,h3,h4⟩|⟨j,x,e,h1,h2,h3,h4,h5,h6,h7⟩
  ·rw[h1]at Hu
   rw[h4 vx]
   have LD:=Go.MapKept.run_setObj_map (P:=P) (.map (es.push { key:=d,val:=y,born:=clock }) (clock+1)) g2
   obtain ⟨q1,q2⟩:=Pj wf (o' := .uO K V' (l ++ [(kx,vx)])) (o2 := .map (es.push { key:=d,val:=y,born:=clock }) (clock+1)) g1 g2 rfl rA rfl (td _) (fun x=>by
    refine ⟨b,es.push { key:=d,val:=y,born:=clock },clock+1,g1,by simp[Array.getElem?_setIfInBounds,jb],g3,g4,by simp[g5],fun j q e hq he => ?_⟩
    by_cases hj:j<l.length
    ·rw[List.getElem?_append_left hj]at hq
     rw[Array.getElem?_push,if_neg (by omega)]at he
     exact ⟨(g6 j q e hq he).1.mono x,(g6 j q e hq he).2.mono x⟩
    ·have hj2:j=l.length:=by
      have:=(List.getElem?_eq_some_iff.1 hq).1
      simp at this; omega
     subst hj2
     rw[List.getElem?_append_right (Nat.le_refl _)]at hq
     simp at hq; subst hq
     rw[Array.getElem?_push,if_pos g5.symm]at he
     cases he
     exact ⟨rk.mono x,ru.mono x⟩)
   refine ⟨_,?_,q1,q2⟩
   simp[Instr.mapUpdate,run_underlying hut,yR,XC,Hu,LD]
  ·rw[Nat.zero_add]at h1
   rw[h1]at Hu
   rw[h7 vx]
   have hej:es[j]? = some e:=by simpa using h3
   have XI:e.key=d:=by
    obtain ⟨u2,_,_,_,_,q⟩:=Ht T QC rk (g6 j x e h2 hej).1
    exact q h4
   have hget2:((es[j]?).map (·.key)).getD d=d:=by rw[hej]; simpa using XI
   have hstay:=run_keyThatStays (P:=P) (w:=w) hik
   have LD:=Go.MapKept.run_setObj_map (P:=P) (.map (es.modify j fun e => { e with key:=d,val:=y }) clock) g2
   obtain ⟨q1,q2⟩:=Pj wf (o' := .uO K V' (l.set j (kx,vx))) (o2 := .map (es.modify j fun e => { e with key:=d,val:=y }) clock) g1 g2 rfl rA rfl (td _) (fun x'=>by
    refine ⟨b,es.modify j fun e => { e with key:=d,val:=y },clock,g1,by simp[Array.getElem?_setIfInBounds,jb],g3,g4,by simp[g5],fun j' q e' hq he => ?_⟩
    rw[Array.getElem?_modify]at he
    rw[List.getElem?_set]at hq
    by_cases hj:j=j'
    ·subst hj
     rw[if_pos rfl]at hq he
     rw[hej]at he
     simp at he; subst he
     split at hq
     ·cases hq; exact ⟨rk.mono x',ru.mono x'⟩
     ·cases hq
    ·rw[if_neg hj]at hq he
     exact ⟨(g6 j' q e' hq he).1.mono x',(g6 j' q e' hq he).2.mono x'⟩)
   refine ⟨_,?_,q1,q2⟩
   simp only[Instr.mapUpdate,Sem.run_bind,run_underlying hut,Result.andThen_ok,yR,XC,Hu,hget2,hstay,LD]
end
end Go.aF

namespace Go.aF
open Go.RowKit

section
variable {P:Program} {tt:dA} {w w':World} {h:aG} {c:js} {R:Type}

theorem LF (T:vS P tt) (wf:WF w h c) {t:Nat} {v:V} {a':Value} (ra:dz w h c v a') {k:V→aG→Option R} {r:R} (hk:B8 tt t v h k=some r) :
  ∃u h' d,(Instr.sliceAt t a' none none none).run P w = .ok d w∧WF w h' c∧Ext w h c w h' c∧dz w h' c u d∧k u h'=some r:=by
 unfold B8 at hk
 split at hk <;> try (first|cases hk)
 rename_i m e i hd
 split at hk <;> try (first|cases hk)
 rename_i cs ye
 split at hk <;> try (first|cases hk)
 rename_i T' hT
 split at hk <;> try (first|cases hk)
 rename_i hc
 simp only[Bool.and_eq_true,decide_eq_true_eq]at hc
 obtain ⟨⟨⟨⟨oJ,qy⟩,hlen⟩,XF⟩,hm⟩:=hc
 split at hk <;> try (first|cases hk)
 rename_i l hl
 have hu:P.underlying t=some (.array m e):=er T hd
 have CO:=T.sizeOf (w:=w) qy
 have hi:i<h.length:=aG.fW ye (by simp)
 have ho:=wf.obj i hi
 rw[ye]at ho
 obtain ⟨b,arr,el,g1,g2,g3⟩:=ho
 cases ra with
 | ptr hi' hv =>
  obtain ⟨b',rfl,oH⟩:=hv
  have QT:=oH (by rw[ye]; simp)
  rw[g1]at QT
  cases QT
  have hll:l.length=m:=by
   rw[AB hl]
   exact AA _ _ _
  have hae:P.arrayLen t=m∧P.elem t=e:=by
   unfold Program.arrayLen Program.elem
   rw[hu]
   exact ⟨rfl,rfl⟩
  have rr:=LA hlen g3 hl
  have kY:=run_sliceAt_array_all (P:=P) w t ⟨b,0,none⟩ (by rw[hae.1,hae.2]; exact hu)
  rw[hae.1,hae.2,CO]at kY
  have jc:¬m=0:=XF
  refine ⟨.sl T' l .no,h.set i .dead, .slice (some ⟨b,0,none⟩) l.length m,?_,KK wf i,AD i,?_,hk⟩
  ·rw[kY,hll]
   simp[slicedAt,jc,qd]
  ·refine yp (rr.mono (AD i)) (by omega) (by unfold mx; omega) (fun _ => ?_) (fun h=>by cases h) (fun _ h=>by cases h)
   refine ⟨b,0,rfl,fun j d hj => ?_,fun x _ _ => ?_⟩
   ·rw[Nat.zero_add]
    have e:w.cell? ⟨b,j,none⟩=arr[j]? :=by simp[World.cell?,g2]
    rw[e]
    simpa using hj
   ·have lC:sF h c b x:=⟨i,0,g1,by rw[ye]; rfl,Nat.zero_le _⟩
    refine ⟨fun hq => ?_,wf.wX b x lC⟩
    obtain ⟨j,f,q1,q2,q3⟩:=hq
    rw[lL]at q2
    split at q2
    ·cases q2
    ·rename_i vm
     have:=wf.inj i j b (by rw[ye]; trivial) (qP q2) g1 q1
     exact vm ⟨this,hi⟩

theorem VJ (T:vS P tt) (wf:WF w h c) {o:Oper} {ρ:Operand→V} {ρ':Operand→Value} (hρ:∀x,dz w h c (ρ x) (ρ' x)) {id:Nat} (hid:id<h.length) (hf:h.at id = .free) {k:V→aG→Option R} {r:R}
  (hk:KH tt o.op ρ h id k=some r) :
  ∃v h' v' w' c' nx,(execOp ρ' o).run P w = .ok nx w'∧(nx = .value v'∨nx = .skip∧v'=undef)∧WF w' h' c'∧Ext w h c w' h' c'∧dz w' h' c' v v'∧k v h'=some r:=by
 obtain ⟨dst,op,type,pos,after,guard⟩:=o
 cases op <;> (try simp only[KH]at hk) <;> try (first|cases hk)
 case store t x y =>
  split at hk <;> try (first|cases hk)
  rename_i vs hvs
  obtain ⟨rv,h1,_⟩:=Eu (hρ y) hvs
  split at hk <;> try (first|cases hk)
  rename_i sV
  simp only[Bool.and_eq_true,decide_eq_true_eq]at sV
  obtain ⟨qy,oJ⟩:=sV
  have rx:=hρ x
  split at hk <;> try (first|cases hk)
  ·rename_i i o hx
   rw[hx]at rx
   split at hk <;> try (first|cases hk)
   ·rename_i cs ye
    split at hk <;> try (first|cases hk)
    rename_i jb
    obtain ⟨w',g1,g2,g3⟩:=QN (P:=P) wf T rx ye rv h1 qy oJ jb
    exact ⟨_,_,undef,w',c, .skip,by simp[execOp,g1], .inr ⟨rfl,rfl⟩,g2,g3, .undef _,hk⟩
   rename_i u ye
   split at hk <;> try (first|cases hk)
   rename_i v
   obtain ⟨w',g1,g2,g3⟩:=VD (P:=P) wf T rx ye rv h1 qy (by simpa using oJ)
   exact ⟨_,_,undef,w',c, .skip,by simp[execOp,g1], .inr ⟨rfl,rfl⟩,g2,g3, .undef _,hk⟩
  ·rename_i i sz j o hx
   rw[hx]at rx
   split at hk <;> try (first|cases hk)
   rename_i T' l A5
   split at hk <;> try (first|cases hk)
   rename_i hn
   split at hk <;> try (first|cases hk)
   rename_i jb
   split at hk <;> try (first|cases hk)
   rename_i z hz
   obtain ⟨hj,hk⟩:=cf hk
   simp only[decide_eq_true_eq]at hj
   obtain ⟨w',g1,g2,g3⟩:=VE (P:=P) wf T rx A5 rv h1 qy hn oJ hj jb hz
   exact ⟨_,_,undef,w',c, .skip,by simp[execOp,g1], .inr ⟨rfl,rfl⟩,g2,g3, .undef _,hk⟩
 case slice t x lo hi mx =>
  cases lo <;> cases hi <;> cases mx <;> simp only[Option.isNone,Bool.and_true,Bool.and_false,Bool.false_and,cond_true,cond_false]at hk <;> try (first|cases hk)
  obtain ⟨u,h',d,g1,g2,g3,g4,g5⟩:=LF T wf (hρ x) hk
  exact ⟨u,h',d,w,c, .value d,by simp[execOp,g1], .inl rfl,g2,g3,g4,g5⟩
 case mapUpdate t m x y =>
  have rm:=hρ m
  split at hk <;> try (first|cases hk)
  rename_i kt vt i ht hx
  rw[hx]at rm
  split at hk <;> try (first|cases hk)
  rename_i K V' l hm
  split at hk <;> try (first|cases hk)
  rename_i hf
  split at hk <;> try (first|cases hk)
  rename_i kx vx hkx hvx
  obtain ⟨w',g1,g2,g3⟩:=HD (P:=P) T wf ht rm hm hf (hρ x) (hρ y) hkx hvx
  exact ⟨_,_,undef,w',c, .skip,by simp[execOp,g1], .inr ⟨rfl,rfl⟩,g2,g3, .undef _,hk⟩
 case insert t m x y =>
  have rm:=hρ m
  split at hk <;> try (first|cases hk)
  rename_i kt vt i ht hx
  rw[hx]at rm
  split at hk <;> try (first|cases hk)
  rename_i K V' l hm
  split at hk <;> try (first|cases hk)
  rename_i hf
  split at hk <;> try (first|cases hk)
  rename_i kx vx hkx hvx
  obtain ⟨w',g1,g2,g3⟩:=HD (P:=P) T wf ht rm hm hf (hρ x) (hρ y) hkx hvx
  exact ⟨_,_,undef,w',c, .skip,by simp[execOp,g1], .inr ⟨rfl,rfl⟩,g2,g3, .undef _,hk⟩
 case next x str =>
  have rx:=hρ x
  split at hk <;> try (first|cases hk)
  rename_i i hx
  rw[hx]at rx
  split at hk <;> try (first|cases hk)
  rename_i s pos hit
  obtain ⟨v,h',v',w',c',g1,g2,g3,g4,g5⟩:=SI (P:=P) wf rx hit type hk
  exact ⟨v,h',v',w',c', .value v',by simp[execOp,g1], .inl rfl,g2,g3,g4,g5⟩
 case call cl =>
  obtain ⟨callee,args,argTypes⟩:=cl
  simp only at hk
  split at hk <;> try (first|cases hk)
  rename_i s x t xt ha M7
  obtain rfl:args = #[s,x]:=by cases args; simp_all
  obtain rfl:argTypes = #[t,xt]:=by cases argTypes; simp_all
  split at hk <;> try (first|cases hk)
  ·rename_i e e' ht Pe
   have hu:=er T Pe
   simp only[TD.Is]at hu
   obtain ⟨v,h',v',w',c',g1,g2,g3,g4,g5⟩:=HC T wf ht (.inl ⟨_,hu⟩) (hρ s) (hρ x) hid hf type hk
   exact ⟨v,h',v',w',c', .value v',by simp[execOp,resolve,invoke,builtin,g1], .inl rfl,g2,g3,g4,g5⟩
  ·rename_i e ht Pe
   have hu:=er T Pe
   simp only[TD.Is]at hu
   obtain ⟨v,h',v',w',c',g1,g2,g3,g4,g5⟩:=HC T wf ht (.inr hu) (hρ s) (hρ x) hid hf type hk
   exact ⟨v,h',v',w',c', .value v',by simp[execOp,resolve,invoke,builtin,g1], .inl rfl,g2,g3,g4,g5⟩
end

section
variable {w w':World} {h h2:aG} {c c2:js}

theorem KL (ρ:Nat→Option Nat):∀l:List V,V.xh ρ l=l.map (V.pg ρ)
 | []=>rfl
 | v::l=>by simp only[V.xh,List.map_cons,KL ρ l]

theorem tV (ρ:Nat→Option Nat) (l:List V):(V.xh ρ l).length=l.length:=by simp[KL]
theorem AF (ρ:Nat→Option Nat) (l:List V) (j:Nat):(V.xh ρ l)[j]? = (l[j]?).map (V.pg ρ):=by simp[KL]

structure N0 (ρ:Nat→Option Nat) (h:aG) (c:js) (h2:aG) (c2:js):Prop where
 used:∀i j,ρ i=some j→Used h i→Used h2 j
 obj:∀i j,ρ i=some j→h2.at j ≠ .dead→h.at i ≠ .dead∧c2.rZ j=c.rZ i∧c2.off j=c.off i
 tok:∀i j,ρ i=some j→h2.at j = .tok→h.at i = .tok
 row:∀i j,ρ i=some j→∀(T:Ty) (l:List T.den),h2.at j = .row T l→h.at i = .row T l
 free:∀b x,FO h c b x→FO h2 c2 b x

theorem dz.pg {ρ:Nat→Option Nat} (k:N0 ρ h c h2 c2) {v:V} {d:Value} (r:dz w h c v d):dz w h2 c2 (v.pg ρ) d:=by
 induction r with
 | undef v=>exact .undef v
 | int hn=>exact .int hn
 | bool b=>exact .bool b
 | str hl=>exact .str hl
 | eI=>exact .eI
 | cM=>exact .cM
 | aT=>exact .aT
 | nS=>exact .nS
 | dv=>exact .dv
 | iface t v=>exact .iface t v
 | GC hn=>exact .GC hn
 | FN b=>exact .FN b
 | @ptr i o v hi hv =>
  obtain ⟨b,hv,hb⟩:=hv
  simp only[V.pg]
  cases e:ρ i with
  | none=>exact .undef _
  | some j=>exact .ptr (k.used i j e hi) ⟨b,hv,fun hd=>by obtain ⟨h1,h2,_⟩:=k.obj i j e hd; rw[h2]; exact hb h1⟩
 | @map i v hi hv =>
  obtain ⟨b,hv,hb⟩:=hv
  simp only[V.pg]
  cases e:ρ i with
  | none=>exact .undef _
  | some j=>exact .map (k.used i j e hi) ⟨b,hv,fun hd=>by obtain ⟨h1,h2,_⟩:=k.obj i j e hd; rw[h2]; exact hb h1⟩
 | @uN cs b o f hc _ ih =>
  simp only[V.pg]
  refine .uN f (fun j hj => ?_) (fun j v hv => ?_)
  ·rw[tV]at hj
   exact ⟨(hc j hj).1,k.free _ _ (hc j hj).2⟩
  ·rw[AF]at hv
   cases e:cs[j]? with
   | none=>rw[e]at hv; cases hv
   | some u=>rw[e]at hv; simp at hv; subst hv; exact ih j u e
 | @sl T l t A cap f kM r5 hc hr xj lC ih =>
  simp only[V.pg]
  refine .sl f kM r5 (fun i j hi hj => ?_) (fun i j x v hx hv => ?_) (fun ht => ?_) (fun j ht => ?_)
  ·obtain ⟨b,o,hA,h1,h2⟩:=hc i j hi hj
   exact ⟨b,o,hA,h1,k.free _ _ h2⟩
  ·have:=ih i j x v hx hv
   have e:v.pg ρ=v:=by
    have En:∀(T:Ty) (x:T.den) (j:Nat) (v:V),(T.cells x)[j]? = some v→v.pg ρ=v:=by
     intro T x
     have:∀v∈T.cells x,v.pg ρ=v:=by
      cases T <;> simp[Ty.cells,V.pg,Tok.pg]
     intro j v hv
     exact this v (List.mem_of_getElem? hv)
    exact En T x j v hv
   rw[e]at this; exact this
  ·cases t with
   | no=>cases ht
   | nil=>exact xj rfl
   | own i=>simp only[Tok.pg]at ht; split at ht <;> cases ht
  ·cases t with
   | no=>cases ht
   | nil=>cases ht
   | own i =>
    simp only[Tok.pg]at ht
    split at ht
    ·rename_i j' e
     cases ht
     obtain ⟨hu,ho⟩:=lC i rfl
     refine ⟨k.used i j e hu,fun Li => ?_⟩
     obtain ⟨_,e1,e2⟩:=k.obj i j e (by rw[Li]; simp)
     rw[e1,e2]
     exact ho (k.tok i j e Li)
    ·cases ht
 | @J6 n sz cs A hn r5 f hc _ ih =>
  simp only[V.pg]
  refine .J6 (sz:=sz) (by rw[tV]; exact hn) r5 f (fun j hj => ?_) (fun j v hv => ?_)
  ·rw[tV]at hj
   obtain ⟨b,o,hA,h1,h2⟩:=hc j hj
   exact ⟨b,o,hA,h1,k.free _ _ h2⟩
  ·rw[AF]at hv
   cases e:cs[j]? with
   | none=>rw[e]at hv; cases hv
   | some u=>rw[e]at hv; simp at hv; subst hv; exact ih j u e
 | @row i n v hi hn hv =>
  simp only[V.pg]
  cases e:ρ i with
  | none=>exact .undef _
  | some j =>
   obtain ⟨A,cap,U8,hA,hv⟩:=hv
   refine .row (k.used i j e hi) hn ⟨A,cap,U8,hA,fun T l he => ?_⟩
   obtain ⟨_,e1,e2⟩:=k.obj i j e (by rw[he]; simp)
   rw[e1,e2]
   exact hv T l (k.row i j e T l he)
 | @B5 i q n v hi hn hv =>
  simp only[V.pg]
  cases e:ρ i with
  | none=>exact .undef _
  | some j =>
   obtain ⟨A,cap,U8,hA,hv⟩:=hv
   refine .B5 (k.used i j e hi) hn ⟨A,cap,U8,hA,fun T l he => ?_⟩
   obtain ⟨_,e1,e2⟩:=k.obj i j e (by rw[he]; simp)
   rw[e1,e2]
   exact hv T l (k.row i j e T l he)
 | @sD i n q o v hi hv =>
  simp only[V.pg]
  cases e:ρ i with
  | none=>exact .undef _
  | some j =>
   obtain ⟨a,ha,hv⟩:=hv
   refine .sD (k.used i j e hi) ⟨a,ha,fun T l he hn hj => ?_⟩
   obtain ⟨_,e1,e2⟩:=k.obj i j e (by rw[he]; simp)
   rw[e1,e2]
   exact hv T l (k.row i j e T l he) hn hj
 | @func f a b x y ha hb _ _ iha ihb =>
  simp only[V.pg]
  refine .func (by rw[tV]; exact ha) (by rw[tV]; exact hb) (fun j v d hv hd => ?_) (fun j v d hv hd => ?_)
  ·rw[AF]at hv
   cases e:a[j]? with
   | none=>rw[e]at hv; cases hv
   | some u=>rw[e]at hv; simp at hv; subst hv; exact iha j u d e hd
  ·rw[AF]at hv
   cases e:b[j]? with
   | none=>rw[e]at hv; cases hv
   | some u=>rw[e]at hv; simp at hv; subst hv; exact ihb j u d e hd
 | @agg cs x hl _ ih =>
  simp only[V.pg]
  refine .agg (by rw[tV]; exact hl) (fun j v d hv hd => ?_)
  rw[AF]at hv
  cases e:cs[j]? with
  | none=>rw[e]at hv; cases hv
  | some u=>rw[e]at hv; simp at hv; subst hv; exact ih j u d e hd
 | @tuple cs x hl _ ih =>
  simp only[V.pg]
  refine .tuple (by rw[tV]; exact hl) (fun j v d hv hd => ?_)
  rw[AF]at hv
  cases e:cs[j]? with
  | none=>rw[e]at hv; cases hv
  | some u=>rw[e]at hv; simp at hv; subst hv; exact ih j u d e hd

theorem cy.pg {ρ:Nat→Option Nat} (k:N0 ρ h c h2 c2) {cs:List V} {ds:List Value} (r:cy w h c cs ds):cy w h2 c2 (V.xh ρ cs) ds:=by
 refine ⟨by rw[tV]; exact r.1,fun j v d hv hd => ?_⟩
 rw[AF]at hv
 cases e:cs[j]? with
 | none=>rw[e]at hv; cases hv
 | some u=>rw[e]at hv; simp at hv; subst hv; exact (r.2 j u d e hd).pg k

theorem VK (ρ:Nat→Option Nat) (T:Ty) (x:T.den):∀v∈T.cells x,v.pg ρ=v:=by cases T <;> simp[Ty.cells,V.pg,Tok.pg]

theorem nK.pg {ρ:Nat→Option Nat} (k:N0 ρ h c h2 c2) {i j:Nat} {o:bO} (e1:c2.rZ j=c.rZ i) (e2:c2.off j=c.off i) (ho:nK w h c i o):nK w h2 c2 j (o.pg ρ):=by
 cases o <;> simp only[nK,bO.pg]at ho ⊢
 ·obtain ⟨b,arr,e,h1,XA,h3⟩:=ho
  exact ⟨b,arr,e,e1▸h1,XA,h3.pg k⟩
 ·rw[e1,e2]
  rcases ho with h1|⟨b,arr,e,fz,h1,XA,h3,h4,h5⟩
  ·exact .inl h1
  ·refine .inr ⟨b,arr,e,fz,h1,XA,h3,h4,fun n q x v hx hv => ?_⟩
   obtain ⟨d,g1,g2⟩:=h5 n q x v hx hv
   refine ⟨d,g1,?_⟩
   have:=g2.pg k
   rw[VK ρ _ x v (List.mem_of_getElem? hv)]at this
   exact this
 ·rw[e1,e2]; exact ho
 ·rw[e1]; exact ho
 ·rw[e1]
  obtain ⟨b,p,d,h1,XA,h3,h4⟩:=ho
  exact ⟨b,p,d,h1,XA,h3,h4.pg k⟩
 ·rw[e1]
  obtain ⟨b,es,cl,h1,XA,h3,h4,h5,h6⟩:=ho
  refine ⟨b,es,cl,h1,XA,h3,h4,h5,fun j q e hq he => ?_⟩
  obtain ⟨g1,g2⟩:=h6 j q e hq he
  have g1':=g1.pg k
  have g2':=g2.pg k
  have key:∀(T:Ty) (x:T.den),(KG T=true∨T.one=true)→(M6 T x).pg ρ=M6 T x:=by
   intro T x hT
   cases T <;> first|(simp[M6,Ty.one,Ty.cells,V.pg]; done)|(simp[M6,Ty.one,Ty.cells,V.pg,V.xh]; done)|(simp[KG,Ty.one]at hT)
  rw[key _ _ (.inl h3)]at g1'
  rw[key _ _ (.inr h4)]at g2'
  exact ⟨g1',g2'⟩

def js.pick (c:js) (ord:List Nat) (ext:Qq):js :=
 ⟨fun j=>(ord[j]?).bind c.rZ,fun j=>c.off (ord.getD j 0),ext⟩

theorem AG {ord:List Nat} {i j:Nat} (e:xd ord i=some j):ord[j]? = some i:=by
 unfold xd at e
 simp only at e
 split at e
 ·rename_i jb
  cases e
  rw[List.getElem?_eq_getElem jb,List.getElem_idxOf jb]
 ·cases e

theorem uH (h:aG) (ord:List Nat) (j:Nat):aG.at (h.pick ord) j=match ord[j]? with|some i=>(h.at i).pg (xd ord)|none => .dead:=by
 unfold aG.at aG.pick
 simp only[List.getD,List.getElem?_map]
 cases ord[j]? <;> rfl

theorem HE {ρ:Nat→Option Nat} {o:bO}:o.pg ρ = .dead↔o = .dead:=by cases o <;> simp[bO.pg]
theorem Ce {ρ:Nat→Option Nat} {o:bO}:o.pg ρ = .free↔o = .free:=by cases o <;> simp[bO.pg]
theorem Ud {ρ:Nat→Option Nat} {o:bO}:o.pg ρ = .tok↔o = .tok:=by cases o <;> simp[bO.pg]
theorem Ue {ρ:Nat→Option Nat} {o:bO} {T:Ty} {l:List T.den}:o.pg ρ = .row T l↔o = .row T l:=by cases o <;> simp[bO.pg]
theorem QW {ρ:Nat→Option Nat} {o:bO} {f:Nat}:(o.pg ρ).from_ f=o.from_ f:=by cases o <;> rfl
theorem Cf {ρ:Nat→Option Nat} {o:bO}:(o.pg ρ).live↔o.live:=by cases o <;> simp[bO.pg,bO.live]

theorem Cg {ord:List Nat} {ext:Qq} {b x:Nat} (ho:sF (h.pick ord) (c.pick ord ext) b x):∃i∈ord,∃f,c.rZ i=some b∧(h.at i).from_ (c.off i)=some f∧f≤x:=by
 obtain ⟨j,f,g1,g2,g3⟩:=ho
 rw[uH]at g2
 cases e:ord[j]? with
 | none=>rw[e]at g2; cases g2
 | some i =>
  rw[e]at g2
  simp only[js.pick,e,Option.bind_some]at g1
  simp only[QW,js.pick,List.getD,e,Option.getD_some]at g2
  exact ⟨i,List.mem_of_getElem? e,f,g1,g2,g3⟩

theorem LG {ord:List Nat} {ext:Qq} (XJ:∀b x,FO h c b x→¬ext b x):N0 (xd ord) h c (h.pick ord) (c.pick ord ext) where
 used:=fun i j e hu=>by
  have hj:=AG e
  refine ⟨?_,?_⟩
  ·have:=(List.getElem?_eq_some_iff.1 hj).1
   simpa [aG.pick]using this
  ·rw[uH,hj]
   simp only[ne_eq,Ce]
   exact hu.2
 obj:=fun i j e hd=>by
  have hj:=AG e
  rw[uH,hj]at hd
  simp only[ne_eq,HE]at hd
  exact ⟨hd,by simp[js.pick,hj],by simp[js.pick,List.getD,hj]⟩
 tok:=fun i j e ht=>by
  rw[uH,AG e]at ht
  exact Ud.1 ht
 row:=fun i j e T l ht=>by
  rw[uH,AG e]at ht
  exact Ue.1 ht
 free:=fun b x hf=>⟨fun ho=>by
  obtain ⟨i,_,f,g1,g2,g3⟩:=Cg ho
  exact hf.1 ⟨i,f,g1,g2,g3⟩,XJ b x hf⟩

theorem Uf (wf:WF w h c) {ord:List Nat} (D0:ord.Nodup) {ext:Qq} (XJ:∀b x,FO h c b x→¬ext b x) (jb:∀b x,ext b x→b<w.heap.size)
  (hdis:∀b x,(∃i∈ord,∃f,c.rZ i=some b∧(h.at i).from_ (c.off i)=some f∧f≤x)→¬ext b x):WF w (h.pick ord) (c.pick ord ext) where
 lay:=⟨wf.lay.1,fun b hb=>⟨(wf.lay.2 b hb).1,fun x ho=>by
  obtain ⟨i,_,f,g1,g2,g3⟩:=Cg ho
  exact (wf.lay.2 b hb).2 x ⟨i,f,g1,g2,g3⟩⟩⟩
 wX:=fun b x ho=>hdis b x (Cg ho)
 o3:=jb
 obj:=fun j hj=>by
  rw[uH]
  cases e:ord[j]? with
  | none=>trivial
  | some i =>
   by_cases hl:(h.at i).live
   ·exact (wf.obj i (aG.fW rfl (vX hl))).pg (LG XJ) (by simp[js.pick,e]) (by simp[js.pick,List.getD,e])
   ·have h0:h.at i = .free∨h.at i = .dead:=by revert hl; cases h.at i <;> simp[bO.live]
    rcases h0 with h0|h0 <;> simp only[h0,bO.pg] <;> trivial
 inj:=fun j k b hj hk h1 h2=>by
  rw[uH]at hj hk
  cases e1:ord[j]? with
  | none=>rw[e1]at hj; exact hj.elim
  | some i1 =>
   cases e2:ord[k]? with
   | none=>rw[e2]at hk; exact hk.elim
   | some i2 =>
    rw[e1]at hj; rw[e2]at hk
    simp only[js.pick,e1,e2,Option.bind_some]at h1 h2
    have:=wf.inj i1 i2 b (Cf.1 hj) (Cf.1 hk) h1 h2
    subst this
    obtain ⟨NV,Ug⟩:=List.getElem?_eq_some_iff.1 e1
    obtain ⟨qA,e2'⟩:=List.getElem?_eq_some_iff.1 e2
    have hp:=List.pairwise_iff_getElem.1 D0
    rcases Nat.lt_trichotomy j k with jb|rfl|jb
    ·exact (hp j k NV qA jb (Ug.trans e2'.symm)).elim
    ·rfl
    ·exact (hp k j qA NV jb (e2'.trans Ug.symm)).elim

theorem Bq (h:aG):∀(n:Nat) (todo seen:List Nat),seen.Nodup→(reach h n todo seen).Nodup
 | 0,_,_,hn=>hn
 | n+1, [],_,hn=>hn
 | n+1,i::todo,seen,hn=>by
  simp only[reach]
  split
  ·exact Bq h n _ _ hn
  ·rename_i hc
   refine Bq h n _ _ ?_
   rw[List.nodup_append]
   refine ⟨hn,by simp,fun a ha b hb => ?_⟩
   simp at hb; subst hb
   rintro rfl
   simp at hc
   exact hc ha
end

section
variable {w w':World} {h h':aG} {c c':js}

theorem qB {i:Nat}:∀ {cs:List V},i∈V.r6 cs↔∃(j:Nat) (v:V),cs[j]? = some v∧i∈v.ids
  | []=>by simp[V.r6]
  | v::cs=>by
    simp only[V.r6,List.mem_append,qB (cs:=cs)]
    constructor
    · rintro (h|⟨j,u,h1,h2⟩)
      · exact ⟨0,v,rfl,h⟩
      · exact ⟨j+1,u,h1,h2⟩
    · rintro ⟨j,u,h1,h2⟩
      cases j with
      | zero=>simp at h1; subst h1; exact .inl h2
      | succ j=>exact .inr ⟨j,u,h1,h2⟩

theorem dz.yq {v:V} {d:Value} (r:dz w h c v d):∀i∈v.ids,Used h i:=by
  induction r with
  | undef v=>simp[V.ids]
  | int hn=>simp[V.ids]
  | bool b=>simp[V.ids]
  | str hl=>simp[V.ids]
  | eI=>simp[V.ids]
  | cM=>simp[V.ids]
  | aT=>simp[V.ids]
  | nS=>simp[V.ids]
  | dv=>simp[V.ids]
  | iface t v=>simp[V.ids]
  | GC hn=>simp[V.ids]
  | FN b=>simp[V.ids]
  | ptr hi _=>simpa [V.ids]using hi
  | map hi _=>simpa [V.ids]using hi
  | row hi _ _=>simpa [V.ids]using hi
  | B5 hi _ _=>simpa [V.ids]using hi
  | sD hi _=>simpa [V.ids]using hi
  | uN f hc _ ih =>
    intro i hi
    simp only[V.ids]at hi
    obtain ⟨j,v,h1,h2⟩:=qB.1 hi
    exact ih j v h1 i h2
  | @sl T l t A cap f kM r5 hc hr xj lC ih =>
    intro i hi
    cases t with
    | no=>simp[V.ids]at hi
    | nil=>simp[V.ids]at hi
    | own j=>simp[V.ids]at hi; subst hi; exact (lC i rfl).1
  | J6 hn r5 f hc _ ih =>
    intro i hi
    simp only[V.ids]at hi
    obtain ⟨j,v,h1,h2⟩:=qB.1 hi
    exact ih j v h1 i h2
  | @func f a b x y ha hb _ _ iha ihb =>
    intro i hi
    simp only[V.ids,List.mem_append]at hi
    rcases hi with hi|hi
    · obtain ⟨j,v,h1,h2⟩:=qB.1 hi
      have hj:=(List.getElem?_eq_some_iff.1 h1).1
      exact iha j v _ h1 (Array.getElem?_eq_getElem (by omega)) i h2
    · obtain ⟨j,v,h1,h2⟩:=qB.1 hi
      have hj:=(List.getElem?_eq_some_iff.1 h1).1
      exact ihb j v _ h1 (Array.getElem?_eq_getElem (by omega)) i h2
  | agg hl _ ih =>
    intro i hi
    simp only[V.ids]at hi
    obtain ⟨j,v,h1,h2⟩:=qB.1 hi
    have hj:=(List.getElem?_eq_some_iff.1 h1).1
    exact ih j v _ h1 (Array.getElem?_eq_getElem (by omega)) i h2
  | tuple hl _ ih =>
    intro i hi
    simp only[V.ids]at hi
    obtain ⟨j,v,h1,h2⟩:=qB.1 hi
    have hj:=(List.getElem?_eq_some_iff.1 h1).1
    exact ih j v _ h1 (Array.getElem?_eq_getElem (by omega)) i h2

theorem cy.yq {cs:List V} {ds:List Value} (r:cy w h c cs ds):∀i∈V.r6 cs,Used h i:=by
  intro i hi
  obtain ⟨j,v,h1,h2⟩:=qB.1 hi
  have hj:=(List.getElem?_eq_some_iff.1 h1).1
  exact (r.2 j v _ h1 (List.getElem?_eq_getElem (by have:=r.1; omega))).yq i h2

theorem WF.yq (wf:WF w h c) (i:Nat):∀j∈(h.at i).ids,Used h j:=by
  intro j hj
  cases e:h.at i with
  | cells cs =>
    rw[e]at hj
    have ho:=wf.obj i (aG.fW rfl (by rw[e]; simp))
    rw[e]at ho
    obtain ⟨b,arr,el,_,_,r⟩:=ho
    exact r.yq j hj
  | lW v =>
    rw[e]at hj
    have ho:=wf.obj i (aG.fW rfl (by rw[e]; simp))
    rw[e]at ho
    obtain ⟨b,p,d,_,_,_,r⟩:=ho
    exact r.yq j hj
  | _=>rw[e]at hj; simp[bO.ids]at hj

theorem GM (wf:WF w h c):∀(n:Nat) (todo seen:List Nat),(∀i∈todo,Used h i)→(∀i∈seen,Used h i)→∀i∈reach h n todo seen,Used h i
  | 0,_,_,_,hs=>hs
  | n+1, [],_,_,hs=>hs
  | n+1,i::todo,seen,ht,hs=>by
    simp only[reach]
    split
    · exact GM wf n _ _ (fun j hj=>ht j (by simp[hj])) hs
    · refine GM wf n _ _ (fun j hj => ?_) (fun j hj => ?_)
      · rcases List.mem_append.1 hj with hj|hj
        · exact ht j (by simp[hj])
        · exact wf.yq i j hj
      · rcases List.mem_append.1 hj with hj|hj
        · exact hs j hj
        · simp at hj; subst hj; exact ht j (by simp)

theorem sF.lt (wf:WF w h c) {b x:Nat} (ho:sF h c b x):b<w.heap.size:=by
  obtain ⟨i,f,h1,h2,_⟩:=ho
  have hl:(h.at i).live:=by cases e:h.at i <;> rw[e]at h2 <;> simp_all [bO.from_,bO.live]
  exact (wf.obj i (aG.fW rfl (vX hl))).lt hl h1

theorem VL {o:bO} (h:o.live) (f:Nat):∃g,o.from_ f=some g:=by cases o <;> simp_all [bO.from_,bO.live]

def HF (h:aG) (c:js) (ord:List Nat) (b x:Nat):Prop:=∃i∈ord,∃f,c.rZ i=some b∧(h.at i).from_ (c.off i)=some f∧f≤x

def LH (h:aG) (c:js) (ord:List Nat):Qq:=⟨fun b x=>c.ext b x∨(sF h c b x∧¬HF h c ord b x)⟩

theorem HF.vH {ord:List Nat} {b x:Nat} (o:HF h c ord b x):sF h c b x:=by obtain ⟨i,_,f,h1,h2,h3⟩:=o; exact ⟨i,f,h1,h2,h3⟩

theorem LI {ord:List Nat}:∀b x,FO h c b x→¬LH h c ord b x:=by
  rintro b x hf (he|he)
  · exact hf.2 he
  · exact hf.1 he.1

theorem I8 (wf:WF w h c) {ord:List Nat} (D0:ord.Nodup):WF w (h.pick ord) (c.pick ord (LH h c ord)):=by
  refine Uf wf D0 LI ?_ ?_
  · rintro b x (he|he)
    · exact wf.o3 b x he
    · exact he.1.lt wf
  · rintro b x ho (he|he)
    · exact wf.wX b x (HF.vH ho) he
    · exact he.2 ho

theorem GN {ord:List Nat} {cs:List V} {ds:List Value} (r:cy w h c cs ds):cy w (h.pick ord) (c.pick ord (LH h c ord)) (V.xh (xd ord) cs) ds :=
  r.pg (LG LI)

theorem fE:∀(l:List (Nat × bO)) (h:aG),(aG.yO h l).length=h.length
  | [],_=>rfl
  | (i,o)::l,h=>by simp[aG.yO,fE l]

theorem CQ {i:Nat}:∀(ord:List Nat) (os:List bO) (h:aG),i∉ord→aG.at (aG.yO h (ord.zip os)) i=h.at i
  | [],_,_,_=>rfl
  | _::_, [],_,_=>rfl
  | a::ord,o::os,h,hn=>by
    simp only[List.zip_cons_cons,aG.yO]
    rw[CQ ord os _ (fun hm=>hn (by simp[hm]))]
    exact cS _ (fun e=>hn (by simp[e]))

theorem I9 {i:Nat}:∀(ord:List Nat) (os:List bO) (h:aG) (j:Nat) (o:bO),ord.Nodup→ord[j]? = some i→os[j]? = some o→i<h.length→aG.at (aG.yO h (ord.zip os)) i=o
  | [],_,_,_,_,_,hj,_,_=>by simp at hj
  | _::_, [],_,_,_,_,_,ho,_=>by simp at ho
  | a::ord,p::os,h,j,o,D0,hj,ho,hi=>by
    simp only[List.zip_cons_cons,aG.yO]
    cases j with
    | zero =>
      simp at hj ho
      subst hj; subst ho
      rw[CQ ord os _ (by simpa using (List.nodup_cons.1 D0).1)]
      exact lZ _ hi
    | succ j=>exact I9 ord os _ j o (List.nodup_cons.1 D0).2 (by simpa using hj) (by simpa using ho) (by simpa using hi)

theorem jX {a b:aG} {i:Nat} (hi:i<a.length):aG.at (a++b) i=aG.at a i:=by simp[aG.at,List.getD,List.getElem?_append_left hi]
theorem jd {a b:aG} {i:Nat} (hi:a.length≤i):aG.at (a++b) i=aG.at b (i - a.length):=by simp[aG.at,List.getD,List.getElem?_append_right hi]

theorem HG {ord:List Nat} (D0:ord.Nodup) {i j:Nat} (e:ord[j]? = some i):xd ord i=some j:=by
  obtain ⟨hj,rfl⟩:=List.getElem?_eq_some_iff.1 e
  have hm:ord[j]∈ord:=List.getElem_mem hj
  have jb:ord.idxOf ord[j]<ord.length:=List.idxOf_lt_length_of_mem hm
  unfold xd
  simp only[jb,if_true]
  have hg:=List.getElem_idxOf jb
  have hp:=List.pairwise_iff_getElem.1 D0
  rcases Nat.lt_trichotomy (ord.idxOf ord[j]) j with hl|he|hl
  · exact (hp _ _ jb hj hl hg).elim
  · rw[he]
  · exact (hp _ _ hj jb hl hg.symm).elim

theorem xo {ord:List Nat} {i:Nat} (h:i∉ord):xd ord i=none:=by
  cases e:xd ord i with
  | none=>rfl
  | some j=>exact (h (List.mem_of_getElem? (AG e))).elim

def js.back (c:js) (ord:List Nat) (n:Nat) (c':js):js :=
  ⟨fun i=>match xd ord i with|some j=>c'.rZ j|none=>if i<n then c.rZ i else c'.rZ (i - n+ord.length),
   fun i=>match xd ord i with|some j=>c'.off j|none=>if i<n then c.off i else c'.off (i - n+ord.length),c.ext⟩

theorem Br {ord:List Nat} (D0:ord.Nodup) (jb:∀i∈ord,i<h.length) (hle:ord.length≤h'.length) (i:Nat) :
    (∃j,oI ord h.length j=i∧j<h'.length∧aG.at (h.back ord h') i=(h'.at j).pg (fun j=>some (oI ord h.length j))∧(c.back ord h.length c').rZ i=c'.rZ j∧(c.back ord h.length c').off i=c'.off j) ∨
    (i∉ord∧i<h.length∧aG.at (h.back ord h') i=h.at i∧(c.back ord h.length c').rZ i=c.rZ i∧(c.back ord h.length c').off i=c.off i) ∨
    ((h.back ord h').length≤i∧aG.at (h.back ord h') i = .dead):=by
  have hlen:(h.back ord h').length=h.length+(h'.length - ord.length):=by simp[aG.back,fE]
  by_cases hm:i∈ord
  · obtain ⟨j,hj,e⟩:=List.mem_iff_getElem.1 hm
    have e':ord[j]? = some i:=by rw[List.getElem?_eq_getElem hj,e]
    have hi:=jb i hm
    refine .inl ⟨j,by simp[oI,hj,List.getD,e],by omega,?_,by simp[js.back,HG D0 e'],by simp[js.back,HG D0 e']⟩
    unfold aG.back
    simp only
    rw[jX (by rw[fE]; exact hi)]
    refine I9 ord _ h j _ D0 e' ?_ hi
    have NV:j<h'.length:=by omega
    simp[hj,aG.at,List.getD,List.getElem?_eq_getElem NV]
  · by_cases hi:i<h.length
    · refine .inr (.inl ⟨hm,hi,?_,by simp[js.back,xo hm,hi],by simp[js.back,xo hm,hi]⟩)
      unfold aG.back
      simp only
      rw[jX (by rw[fE]; exact hi)]
      exact CQ ord _ h hm
    · by_cases hb:i<(h.back ord h').length
      · rw[hlen]at hb
        refine .inl ⟨i - h.length+ord.length,?_,by omega,?_,by simp[js.back,xo hm,hi],by simp[js.back,xo hm,hi]⟩
        · have:¬(i - h.length+ord.length<ord.length):=by omega
          simp only[oI,this,if_false]
          omega
        · unfold aG.back
          simp only
          rw[jd (by rw[fE]; omega),fE]
          have oH:i - h.length+ord.length<h'.length:=by omega
          have hq:ord.length+(i - h.length)=i - h.length+ord.length:=by omega
          simp[aG.at,List.getD,hq,List.getElem?_eq_getElem oH]
      · refine .inr (.inr ⟨by omega,?_⟩)
        simp[aG.at,List.getD,List.getElem?_eq_none (Nat.le_of_not_lt hb)]

theorem KM {ord:List Nat} (D0:ord.Nodup) (jb:∀i∈ord,i<h.length) (hle:ord.length≤h'.length) (j:Nat) :
    aG.at (h.back ord h') (oI ord h.length j)=(h'.at j).pg (fun j=>some (oI ord h.length j))∧(c.back ord h.length c').rZ (oI ord h.length j)=c'.rZ j∧(c.back ord h.length c').off (oI ord h.length j)=c'.off j:=by
  have hlen:(h.back ord h').length=h.length+(h'.length - ord.length):=by simp[aG.back,fE]
  by_cases hj:j<ord.length
  · have hb:oI ord h.length j=ord[j]:=by simp[oI,hj,List.getD]
    have e':ord[j]? = some ord[j]:=List.getElem?_eq_getElem hj
    have hi:=jb _ (List.getElem_mem hj)
    rw[hb]
    refine ⟨?_,by simp[js.back,HG D0 e'],by simp[js.back,HG D0 e']⟩
    unfold aG.back
    simp only
    rw[jX (by rw[fE]; exact hi)]
    refine I9 ord _ h j _ D0 e' ?_ hi
    have NV:j<h'.length:=by omega
    simp[hj,aG.at,List.getD,List.getElem?_eq_getElem NV]
  · have hb:oI ord h.length j=h.length+(j - ord.length):=by simp[oI,hj]
    have hm:h.length+(j - ord.length)∉ord:=fun hm=>by have:=jb _ hm; omega
    have hn:¬(h.length+(j - ord.length)<h.length):=by omega
    have hs:h.length+(j - ord.length) - h.length+ord.length=j:=by omega
    rw[hb]
    refine ⟨?_,by simp only[js.back,xo hm,hn,if_false,hs],by simp only[js.back,xo hm,hn,if_false,hs]⟩
    unfold aG.back
    simp only
    rw[jd (by rw[fE]; omega),fE]
    have hq:h.length+(j - ord.length) - h.length=j - ord.length:=by omega
    have Vb:ord.length+(j - ord.length)=j:=by omega
    rw[hq]
    by_cases NV:j<h'.length
    · simp[aG.at,List.getD,Vb,List.getElem?_eq_getElem NV]
    · simp[aG.at,List.getD,Vb,List.getElem?_eq_none (Nat.le_of_not_lt NV),bO.pg]

theorem VM {ρ:Nat→Option Nat} {o o':bO}:(o.pg ρ).gZ o'↔o.gZ o':=by cases o <;> cases o' <;> simp[bO.pg,bO.gZ,tV]
theorem N1 {ρ:Nat→Option Nat} {o o':bO}:o.gZ (o'.pg ρ)↔o.gZ o':=by cases o <;> cases o' <;> simp[bO.pg,bO.gZ,tV]
theorem Ch {o:bO} (h:o.live) (hm:∀K T l,o ≠ .uO K T l∨True):o.gZ o:=by cases o <;> simp_all [bO.gZ,bO.live]

theorem N2 (wf:WF w h c) {ord:List Nat} (D0:ord.Nodup) (hu:∀i∈ord,Used h i) (T9:WF w' h' c') (x:Ext w (h.pick ord) (c.pick ord (LH h c ord)) w' h' c') :
    WF w' (h.back ord h') (c.back ord h.length c')∧Ext w h c w' (h.back ord h') (c.back ord h.length c')∧N0 (fun j=>some (oI ord h.length j)) h' c' (h.back ord h') (c.back ord h.length c'):=by
  have jb:∀i∈ord,i<h.length:=fun i hi=>(hu i hi).1
  have hup:∀j,j<ord.length→Used (h.pick ord) j:=fun j hj=>by
    refine ⟨by simpa [aG.pick]using hj,?_⟩
    rw[uH,List.getElem?_eq_getElem hj]
    simp only[ne_eq,Ce]
    exact (hu _ (List.getElem_mem hj)).2
  have hle:ord.length≤h'.length:=by
    rcases Nat.eq_zero_or_pos ord.length with h0|h0
    · omega
    · have:=(x.used _ (hup (ord.length - 1) (by omega))).1; omega
  have hlen:(h.back ord h').length=h.length+(h'.length - ord.length):=by simp[aG.back,fE]
  -- who owns a cell
  have HB:∀b y,sF (h.back ord h') (c.back ord h.length c') b y→sF h' c' b y∨∃i f,i∉ord∧i<h.length∧c.rZ i=some b∧(h.at i).from_ (c.off i)=some f∧f≤y:=by
    rintro b y ⟨i,f,h1,h2,h3⟩
    rcases Br (c:=c) (c':=c') D0 jb hle i with ⟨j,_,_,g1,g2,g3⟩|⟨g0,g1,g2,g3,g4⟩|⟨_,g1⟩
    · rw[g2]at h1; rw[g1,g3,QW]at h2
      exact .inl ⟨j,f,h1,h2,h3⟩
    · rw[g3]at h1; rw[g2,g4]at h2
      exact .inr ⟨i,f,g0,g1,h1,h2,h3⟩
    · rw[g1]at h2; cases h2
  have Xy:∀i f b y,i∉ord→c.rZ i=some b→(h.at i).from_ (c.off i)=some f→f≤y→LH h c ord b y:=by
    intro i f b y hi h1 h2 h3
    refine .inr ⟨⟨i,f,h1,h2,h3⟩,?_⟩
    rintro ⟨i2,hm,f2,g1,g2,g3⟩
    have:=wf.inj i i2 b (qP h2) (qP g2) h1 g1
    subst this
    exact hi hm
  have QX:∀b y,sF (h.pick ord) (c.pick ord (LH h c ord)) b y→HF h c ord b y:=fun b y ho=>Cg ho
  have hext:c'.ext=LH h c ord:=x.ext
  have hren:N0 (fun j=>some (oI ord h.length j)) h' c' (h.back ord h') (c.back ord h.length c'):=by
    refine ⟨fun i j e hi => ?_,fun i j e hd => ?_,fun i j e ht => ?_,fun i j e T l ht => ?_,fun b y hf=>⟨fun ho => ?_,fun he => ?_⟩⟩
    · cases e
      obtain ⟨g1,_,_⟩:=KM (c:=c) (c':=c') D0 jb hle i
      refine ⟨?_,by rw[g1]; simp only[ne_eq,Ce]; exact hi.2⟩
      rw[hlen]
      unfold oI
      have:=hi.1
      split
      · rename_i hj
        have:=jb _ (List.getElem_mem hj)
        simp only[List.getD,List.getElem?_eq_getElem hj,Option.getD_some]
        omega
      · omega
    · cases e
      obtain ⟨g1,g2,g3⟩:=KM (c:=c) (c':=c') D0 jb hle i
      rw[g1]at hd
      simp only[ne_eq,HE]at hd
      exact ⟨hd,g2,g3⟩
    · cases e
      rw[(KM (c:=c) (c':=c') D0 jb hle i).1]at ht
      exact Ud.1 ht
    · cases e
      rw[(KM (c:=c) (c':=c') D0 jb hle i).1]at ht
      exact Ue.1 ht
    · rcases HB b y ho with ho|⟨i,f,g0,_,g2,g3,g4⟩
      · exact hf.1 ho
      · exact hf.2 (by rw[hext]; exact Xy i f b y g0 g2 g3 g4)
    · exact hf.2 (by rw[hext]; exact .inl he)
  have hx:Ext w h c w' (h.back ord h') (c.back ord h.length c'):=by
    refine ⟨x.os,x.tape,x.output,x.size,fun i hi => ?_,fun i hi hd => ?_,fun b y hb ho=>x.cell b y hb (fun o=>ho (QX b y o).vH),fun b hb ho=>x.block b hb (fun y o=>ho y (QX b y o).vH),fun b y hb ho => ?_,rfl,x.arr⟩
    · rcases Br (c:=c) (c':=c') D0 jb hle i with ⟨j,g0,gj,g1,g2,g3⟩|⟨g0,g1,g2,g3,g4⟩|⟨g0,_⟩
      · refine ⟨by have:=hi.1; omega,?_⟩
        rw[g1]; simp only[ne_eq,Ce]
        have hjo:j<ord.length:=by
          unfold oI at g0
          split at g0
          · assumption
          · have:=hi.1; omega
        exact (x.used j (hup j hjo)).2
      · exact ⟨by omega,by rw[g2]; exact hi.2⟩
      · have:=hi.1; omega
    · rcases Br (c:=c) (c':=c') D0 jb hle i with ⟨j,g0,gj,g1,g2,g3⟩|⟨g0,g1,g2,g3,g4⟩|⟨g0,_⟩
      · have hjo:j<ord.length:=by
          unfold oI at g0
          split at g0
          · assumption
          · have:=hi.1; omega
        have e:ord[j]? = some i:=by
          simp only[oI,hjo,if_true,List.getD,List.getElem?_eq_getElem hjo,Option.getD_some]at g0
          rw[List.getElem?_eq_getElem hjo,g0]
        rw[g1]at hd ⊢
        simp only[ne_eq,HE]at hd
        obtain ⟨s1,s2,s3⟩:=x.same j (hup j hjo) hd
        rw[uH,e]at s1
        rw[g2,g3,s2,s3]
        exact ⟨N1.2 (VM.1 s1),by simp[js.pick,e],by simp[js.pick,List.getD,e]⟩
      · rw[g2]at hd ⊢
        exact ⟨Ch (Fy hi.2 hd) (fun _ _ _ => .inr trivial),g3,g4⟩
      · have:=hi.1; omega
    · rcases HB b y ho with ho|⟨i,f,g0,_,g2,g3,g4⟩
      · exact (QX b y (x.vH b y hb ho)).vH
      · exact ⟨i,f,g2,g3,g4⟩
  refine ⟨⟨fun b y ho he => ?_,fun b y he=>Nat.lt_of_lt_of_le (wf.o3 b y he) x.size,fun i hi => ?_,fun i j b hi hj h1 h2 => ?_,wf.rq hx⟩,hx,hren⟩
  · rcases HB b y ho with ho|⟨i,f,g0,_,g2,g3,g4⟩
    · exact T9.wX b y ho (by rw[hext]; exact .inl he)
    · exact wf.wX b y ⟨i,f,g2,g3,g4⟩ he
  · rcases Br (c:=c) (c':=c') D0 jb hle i with ⟨j,g0,gj,g1,g2,g3⟩|⟨g0,g1,g2,g3,g4⟩|⟨_,g0⟩
    · rw[g1]
      exact (T9.obj j gj).pg hren g2 g3
    · rw[g2]
      by_cases hl:(h.at i).live
      · refine (wf.obj i g1).uM hx (fun b hb=>x.block b ((wf.obj i g1).lt hl hb) fun y o => ?_) g3 g4
        obtain ⟨i2,hm,f2,k1,k2,_⟩:=QX b y o
        have:=wf.inj i i2 b hl (qP k2) hb k1
        subst this
        exact g0 hm
      · have h0:h.at i = .free∨h.at i = .dead:=by revert hl; cases h.at i <;> simp[bO.live]
        rcases h0 with h0|h0 <;> rw[h0] <;> trivial
    · rw[g0]; trivial
  · have key:∀i j b,i∉ord→(h.at i).live→c.rZ i=some b→(h'.at j).live→c'.rZ j=some b→False:=by
      intro i j b hi hl hb W9 oH
      have Pl:=(wf.obj i (aG.fW rfl (vX hl))).lt hl hb
      obtain ⟨f,hf⟩:=VL W9 (c'.off j)
      obtain ⟨i2,hm,f2,k1,k2,_⟩:=QX b f (x.vH b f Pl ⟨j,f,oH,hf,Nat.le_refl _⟩)
      have:=wf.inj i i2 b hl (qP k2) hb k1
      subst this
      exact hi hm
    rcases Br (c:=c) (c':=c') D0 jb hle i with ⟨i',a0,_,a1,a2,a3⟩|⟨a0,a1,a2,a3,a4⟩|⟨_,a0⟩
    · rcases Br (c:=c) (c':=c') D0 jb hle j with ⟨j',b0,_,b1,b2,b3⟩|⟨b0,b1,b2,b3,b4⟩|⟨_,b0⟩
      · rw[a1,Cf]at hi; rw[b1,Cf]at hj
        rw[a2]at h1; rw[b2]at h2
        rw[←a0,←b0,T9.inj i' j' b hi hj h1 h2]
      · rw[a1,Cf]at hi; rw[b2]at hj
        rw[a2]at h1; rw[b3]at h2
        exact (key j i' b b0 hj h2 hi h1).elim
      · rw[b0]at hj; exact hj.elim
    · rcases Br (c:=c) (c':=c') D0 jb hle j with ⟨j',b0,_,b1,b2,b3⟩|⟨b0,b1,b2,b3,b4⟩|⟨_,b0⟩
      · rw[a2]at hi; rw[b1,Cf]at hj
        rw[a3]at h1; rw[b2]at h2
        exact (key i j' b a0 hi h1 hj h2).elim
      · rw[a2]at hi; rw[b2]at hj
        rw[a3]at h1; rw[b3]at h2
        exact wf.inj i j b hi hj h1 h2
      · rw[b0]at hj; exact hj.elim
    · rw[a0]at hi; exact hi.elim
end
end Go.aF
end
