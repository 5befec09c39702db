/-
  GO, part 2 of 10.
-/
import Derived.Laws.StructEq
import Derived.WalkKit
import Derived.MapKept
import Derived.Laws.BytesString
import Derived.Laws.Cover4
import Derived.Laws.Rows
import Derived.Laws.MakeOwn
import Derived.Laws.Append
import Derived.Test.YtidfokedcnhahaaGreatDoorGOB1
set_option linter.unusedSimpArgs false
set_option linter.unnecessarySimpa false
set_option linter.unusedVariables false
set_option linter.unusedSectionVars false
noncomputable section
namespace Go.aA
open Go.RowKit
def TD.Is (P:Program) (t:Nat):TD→Prop
 | .bool=>P.underlying t=some .bool
 | .int k=>P.underlying t=some (.int k)
 | .string=>P.underlying t=some .string
 | .ptr e=>P.underlying t=some (.pointer e)
 | .slice e=>P.underlying t=some (.slice e)
 | .arr n e=>P.underlying t=some (.array n e)
 | .map k e=>P.underlying t=some (.map k e)
 | .struct fs=>∃F,P.underlying t=some (.struct F)∧F.toList.map (fun f=>(f.offset,f.type))=fs
 | .func=>∃a b c,P.underlying t=some (.func a b c)
 | .iface=>∃a,P.underlying t=some (.interface a)
 | .other=>True
structure CU (P:Program) (tt:dn):Prop where
 und:∀t,(tt.at t).d.Is P t
 info:∀t,tt.ok t=true→∃i z,P.info? t=some i∧i.size=(tt.at t).size∧i.bytes=(tt.at t).bytes∧i.zero=some z∧z.cells.size=i.size ∧
  ∀(w:World) (h:aN) (c:j8),cz w h c (tt.at t).zero z.cells.toList
 eqs:∀t,∀(w:World) (h:aN) (c:j8) (cs ds:List V) (xs ys:Array Value) (b:Bool),eqOk (tt.at t) cs ds=true→cz w h c cs xs.toList→cz w h c ds ys.toList →
  lO cs ds=some b→P.eqGuardType P.depth t=false∧(Op.equalIn 10000 t (.agg xs) (.agg ys)).run P w = .ok b w
 u8s:∀e,(tt.at e).ty=some (.int .u8)→e=pW.u8
 blds:∀t,(tt.at t).mZ=true→t=pW.mZ∧(tt.at t).zero = [.iJ, .bB]∧tt.ok t=true
 ones:∀t,tt.ok t=true→∀i z,P.info? t=some i→i.zero=some z→z.oneCell' = !tt.isAgg t
section
variable {P:Program} {tt:dn} {w:World}
theorem CU.isAgg (T:CU P tt) {t:Nat} (h:tt.ok t=true):(isAgg t).run P w = .ok (tt.isAgg t) w:=by
 have hu:=T.und t;unfold dn.ok at h;unfold dn.isAgg;cases hd:(tt.at t).d <;> rw[hd]at hu h <;> simp only[TD.Is]at hu
 case struct fs=>obtain ⟨F,hF,_⟩:=hu; simp[Go.isAgg,run_underlying hF]
 case func=>obtain ⟨a,b,c,hF⟩:=hu; simp[Go.isAgg,run_underlying hF]
 case iface=>obtain ⟨a,hF⟩:=hu; simp[Go.isAgg,run_underlying hF]
 case other=>cases h
 all_goals simp[Go.isAgg,run_underlying hu]
theorem CU.sizeOf (T:CU P tt) {t:Nat} (h:tt.ok t=true):(sizeOf t).run P w = .ok (tt.at t).size w:=by
 obtain ⟨i,z,hi,hs,_⟩:=T.info t h;simp[Go.sizeOf,typeInfo,hi,hs]
theorem CU.zero (T:CU P tt) {t:Nat} (h:tt.ok t=true):∃z,(zeroValue t).run P w = .ok z w∧z.cells.size=(tt.at t).size ∧
  ∀(w:World) (h:aN) (c:j8),cz w h c (tt.at t).zero z.cells.toList:=by
 obtain ⟨i,z,hi,hs,_,hz,hzs,hr⟩:=T.info t h;exact ⟨z,by simp[Go.zeroValue,typeInfo,hi,hz],by omega,hr⟩
theorem ez (T:CU P tt) {t:Nat} {d:TD} (h:(tt.at t).d=d):d.Is P t:=h▸T.und t
theorem Vb (T:CU P tt) {t f off ty:Nat} {fs:List (Nat×Nat)} (h:(tt.at t).d = .struct fs) (hf:fs[f]? = some (off,ty)) :
  ∃F fd,P.underlying t=some (.struct F)∧F[f]? = some fd∧fd.offset=off∧fd.type=ty:=by
 obtain ⟨F,hF,e⟩:=ez T h;subst e;rw[List.getElem?_map]at hf;cases hx:F.toList[f]? with
 | none=>rw[hx]at hf; cases hf
 | some fd =>
  rw[hx]at hf;simp at hf;exact ⟨F,fd,hF,by simpa using hx,hf.1,hf.2⟩
variable {h:aN} {c:j8} {R:Type}
theorem X9 (T:CU P tt) {t off:Nat} {cs:List V} {x:Array Value} (hr:cz w h c cs x.toList) {k:V→Option R} {r:R} (hk:wN tt t cs off k=some r) :
  ∃v v',(part t x off).run P w = .ok v' w∧dx w h c v v'∧k v=some r:=by
 unfold wN at hk;split at hk
 ·rename_i sR;have hlen:cs.length=x.size:=by have:=hr.1; simpa using this
  split at hk
  ·rename_i hagg;split at hk
   ·rename_i rV;refine ⟨_, .agg (x.extract off (off+(tt.at t).size)),?_,?_,hk⟩
    ·simp[part,T.isAgg sR,hagg,T.sizeOf sR]
    ·have Vc:=(hr.drop off).take (tt.at t).size;refine .agg ?_ fun j v d hv hd=>Vc.2 j v d hv ?_
     ·simp[hlen]; omega
     ·simp only[Array.getElem?_extract]at hd;rw[List.getElem?_take,List.getElem?_drop];split at hd
      ·rename_i hj;have hj':j<(tt.at t).size:=by omega
       simp only[hj',if_true]; simpa using hd
      ·cases hd
   ·cases hk
  ·rename_i hagg;split at hk
   ·rename_i v hv;have jz:off<cs.length:=(List.getElem?_eq_some_iff.1 hv).1;have hx:x[off]? = some (x[off]'(by omega)):=Array.getElem?_eq_getElem (by omega);refine ⟨v,x[off]'(by omega),?_,hr.2 off v _ hv (by simp),hk⟩;simp[part,T.isAgg sR,hagg,hx]
   ·cases hk
 ·cases hk
end
section
variable {P:Program} {tt:dn} {w:World} {h:aN} {c:j8} {R:Type}
theorem has_wrap (k:IntKind) (n:Int):k.has (k.wrap n):=by
 unfold IntKind.has;cases k <;> simp only[IntKind.wrap,IntKind.min,IntKind.max,IntKind.signed,IntKind.bits] <;> simp <;> omega
theorem bY {b:Bool} {k:Option R} {r:R} (hk:bX b k=some r):b=true∧k=some r:=by
 unfold bX at hk; cases b <;> simp_all
theorem dx.fA {k:IntKind} {n:Int} {v:Value} (r:dx w h c (.int k n) v):v = .int k n∧k.has n:=by cases r; exact ⟨rfl, ‹_›⟩
theorem dx.L3 {b:Bool} {v:Value} (r:dx w h c (.bool b) v):v = .bool b:=by cases r; rfl
theorem dx.gS {s:ae} {v:Value} (r:dx w h c (.str s) v):∃t,v = .string t∧t.data.toList=s∧t.size≤mx:=by cases r; exact ⟨_,rfl,rfl, ‹_›⟩
theorem has_byte (n:Nat) (hn:n<256):IntKind.u8.has (n:Int):=by unfold IntKind.has; simp[IntKind.min,IntKind.max,IntKind.signed,IntKind.bits]; omega
theorem Nj (n:Nat) (hn:n≤mx):IntKind.i64.has (n:Int):=by unfold IntKind.has; unfold mx at hn; simp[IntKind.min,IntKind.max,IntKind.signed,IntKind.bits]; omega
theorem Vd (v:Value):dx w h c (P3 v) v:=by
 unfold P3;split
 ·exact .bool _
 ·split
  ·rename_i hk; unfold inK at hk; simp at hk; exact .int hk
  ·exact .undef _
 ·split
  ·exact .str ‹_›
  ·exact .undef _
 ·exact .iJ
 ·exact .bB
 ·exact .fG
 ·exact .ql
 ·exact .dK
 ·exact .undef _
theorem Ya (v:Value):dx w h c (ofConst v) v:=by
 unfold ofConst;split
 ·refine .agg (by simp) fun j v d hv hd => ?_
  rw[List.getElem?_map,Array.getElem?_toList,hd]at hv;cases hv;exact Vd d
 ·exact Vd v
theorem uX {a b:ByteArray} (h:a.data.toList=b.data.toList):a=b:=by
 obtain ⟨⟨x⟩⟩:=a; obtain ⟨⟨y⟩⟩:=b; simp at h; subst h; rfl
theorem toList_data (a:ByteArray):a.toList=a.data.toList:=ByteArray.toList_eq a
theorem size_data (a:ByteArray):a.data.toList.length=a.size:=by rw[Array.length_toList]; rfl
theorem HG {s:ae} (t:ByteArray) (e:t.data.toList=s) (hl:s.length≤mx):dx w h c (.str s) (.string t):=by
 subst e; rw[size_data]at hl; exact .str hl
theorem bytesLt_eq:∀a b:ae,Op.bytesLess a b=Ka a b
 | [], []=>rfl
 | [],_::_=>rfl
 | _::_, []=>rfl
 | a::x,b::y=>by simp[Op.bytesLess,Ka,bytesLt_eq x y]
def qC (P:Program) (w:World) (h:aN) (c:j8) (s:Sem Value) (k:V→Option R) (r:R):Prop:=∃v v',s.run P w = .ok v' w∧dx w h c v v'∧k v=some r
theorem tmod_bounds (a b:Int):(0≤a→0≤a.tmod b∧a.tmod b≤a)∧(a≤0→a≤a.tmod b∧a.tmod b≤0):=by
 have key:∀m:Nat,∀b:Int,0≤(m:Int).tmod b∧(m:Int).tmod b≤m:=fun m b=>by
  cases b with
  | ofNat n =>
   have:((m:Int).tmod (Int.ofNat n))=((m % n:Nat):Int):=rfl;have h:=Nat.mod_le m n;rw[this]; omega
  | negSucc n =>
   have:((m:Int).tmod (Int.negSucc n))=((m % (n+1):Nat):Int):=rfl;have h:=Nat.mod_le m (n+1);rw[this]; omega
 constructor
 ·intro h;obtain ⟨m,rfl⟩:=Int.eq_ofNat_of_zero_le h;exact key m b
 ·intro h;obtain ⟨m,hm⟩:=Int.eq_ofNat_of_zero_le (show 0 ≤ -a by omega);have e:a = -(m:Int):=by omega
  subst e;rw[Int.neg_tmod];have:=key m b;omega
theorem binK_int {op:BinOp} {i j:IntKind} {a b:Int} (hb:j.has b) (t:TypeId) (x y:Operand) {k:V→Option R} {r:R} (hk:Eu op (.int i a) (.int j b) k=some r) (ha:i.has a) :
  qC P w h c (do eqGuard op t x y (.int i a) (.int j b); binOp op t (.int i a) (.int j b)) k r:=by
 have hg:∀op:BinOp,(eqGuard op t x y (.int i a) (.int j b)).run P w = .ok () w:=fun op=>by cases op <;> simp[eqGuard]
 unfold qC;simp only[Sem.run_bind,hg,Result.andThen_ok];have hw:=fun n=>has_wrap i n
 by_cases hsh:op = .shl∨op = .shr
 ·rcases hsh with rfl|rfl
  ·simp only[Eu]at hk;obtain ⟨h0,hk⟩:=bY hk;simp at h0;exact ⟨_,_,by simp[binOp,Op.shift]; intro hn; omega, .int (hw _),hk⟩
  ·simp only[Eu]at hk;obtain ⟨h0,hk⟩:=bY hk;simp at h0;refine ⟨_,_,by simp[binOp,Op.shift]; intro hn; omega, .int ?_,hk⟩;have hp:(0:Int)<2 ^ (min b.toNat i.bits):=Int.pow_pos (by decide);have h1:(1:Int)≤2 ^ (min b.toNat i.bits):=hp;unfold IntKind.has at ha ⊢;have hmin:i.min≤0:=by cases i <;> simp[IntKind.min,IntKind.signed,IntKind.bits]
   have hmax:0≤i.max:=by cases i <;> simp[IntKind.max,IntKind.signed,IntKind.bits]
   rw[Int.fdiv_eq_ediv_of_nonneg _ (Int.le_of_lt hp)];constructor
   ·rcases Int.lt_or_le a 0 with hn|hn
    ·have:a≤a / 2 ^ (min b.toNat i.bits):=by
      refine (Int.le_ediv_iff_mul_le hp).2 ?_;have h2:=Int.mul_nonneg (show 0 ≤ -a by omega) (show 0≤(2:Int) ^ (min b.toNat i.bits) - 1 by omega);rw[Int.mul_sub,Int.neg_mul]at h2;omega
     omega
    ·have:=Int.ediv_nonneg hn (Int.le_of_lt hp); omega
   ·rcases Int.lt_or_le a 0 with hn|hn
    ·have:=Int.ediv_neg_of_neg_of_pos hn hp; omega
    ·have:=Int.ediv_le_self (2 ^ (min b.toNat i.bits)) hn; omega
 ·have vH:(if i=j then (match op with
    | .add=>k (.int i (i.wrap (a+b)))
    | .sub=>k (.int i (i.wrap (a - b)))
    | .mul=>k (.int i (i.wrap (a*b)))
    | .quo=>bX (!decide (b=0)) (k (.int i (i.wrap (a.tdiv b))))
    | .rem=>bX (!decide (b=0)) (k (.int i (a.tmod b)))
    | .and=>k (.int i (i.wrap (BitVec.ofInt i.bits a &&& BitVec.ofInt i.bits b).toNat))
    | .or=>k (.int i (i.wrap (BitVec.ofInt i.bits a ||| BitVec.ofInt i.bits b).toNat))
    | .xor=>k (.int i (i.wrap (BitVec.ofInt i.bits a ^^^ BitVec.ofInt i.bits b).toNat))
    | .eql=>k (.bool (a==b))
    | .neq=>k (.bool (a != b))
    | .lss=>k (.bool (decide (a<b)))
    | .leq=>k (.bool (decide (a≤b)))
    | .gtr=>k (.bool (decide (a>b)))
    | .geq=>k (.bool (decide (a≥b)))
    | _=>none)else none)=some r:=by
   cases op <;> first|exact absurd (.inl rfl) hsh|exact absurd (.inr rfl) hsh|exact hk
  clear hk;split at vH
  ·rename_i B7;subst B7;cases op <;> simp only at vH <;> try (first|exact absurd (.inl rfl) hsh|exact absurd (.inr rfl) hsh|cases vH)
   case add=>exact ⟨_,_,by simp[binOp,Op.intArith], .int (hw _),vH⟩
   case sub=>exact ⟨_,_,by simp[binOp,Op.intArith], .int (hw _),vH⟩
   case mul=>exact ⟨_,_,by simp[binOp,Op.intArith], .int (hw _),vH⟩
   case quo =>
    obtain ⟨h0,vH⟩:=bY vH;simp at h0;exact ⟨_,_,by simp[binOp,Op.intDiv,h0], .int (hw _),vH⟩
   case rem =>
    obtain ⟨h0,vH⟩:=bY vH;simp at h0;refine ⟨_,_,by simp[binOp,Op.intDiv,h0], .int ?_,vH⟩;unfold IntKind.has at ha ⊢;have hmin:i.min≤0:=by cases i <;> simp[IntKind.min,IntKind.signed,IntKind.bits]
    have hmax:0≤i.max:=by cases i <;> simp[IntKind.max,IntKind.signed,IntKind.bits]
    have hb:=tmod_bounds a b;rcases Int.lt_or_le a 0 with hn|hn
    ·have:=hb.2 (by omega); omega
    ·have:=hb.1 hn; omega
   case and=>exact ⟨_,_,by simp[binOp,Op.intBits], .int (hw _),vH⟩
   case or=>exact ⟨_,_,by simp[binOp,Op.intBits], .int (hw _),vH⟩
   case xor=>exact ⟨_,_,by simp[binOp,Op.intBits], .int (hw _),vH⟩
   case eql=>exact ⟨_,_,by simp[binOp,Op.intCmp], .bool _,vH⟩
   case neq=>exact ⟨_,_,by simp[binOp,Op.intCmp], .bool _,vH⟩
   case lss=>exact ⟨_,_,by simp[binOp,Op.intCmp], .bool _,vH⟩
   case leq=>exact ⟨_,_,by simp[binOp,Op.intCmp], .bool _,vH⟩
   case gtr=>exact ⟨_,_,by simp[binOp,Op.intCmp], .bool _,vH⟩
   case geq=>exact ⟨_,_,by simp[binOp,Op.intCmp], .bool _,vH⟩
  ·cases vH
end
section
variable {P:Program} {tt:dn} {w:World} {h:aN} {c:j8} {R:Type}
theorem beq_data (a b:ByteArray):(a.toList==b.toList)=(a.data.toList==b.data.toList):=by rw[toList_data,toList_data]
theorem size_append (a b:ByteArray):(a++b).size=a.size+b.size:=ByteArray.size_append
theorem binK_str {op:BinOp} {a b:ByteArray} (t:TypeId) (x y:Operand) {k:V→Option R} {r:R}
  (hk:Eu op (.str a.data.toList) (.str b.data.toList) k=some r) :
  qC P w h c (do eqGuard op t x y (.string a) (.string b); binOp op t (.string a) (.string b)) k r:=by
 have hg:∀op:BinOp,(eqGuard op t x y (.string a) (.string b)).run P w = .ok () w:=fun op=>by cases op <;> simp[eqGuard]
 have he:(a.toList==b.toList)=(a.data.toList==b.data.toList):=beq_data a b;have hl:Op.bytesLess a.toList b.toList=Ka a.data.toList b.data.toList:=by rw[toList_data,toList_data,bytesLt_eq]
 unfold qC;simp only[Sem.run_bind,hg,Result.andThen_ok];cases op <;> simp only[Eu]at hk <;> (try cases hk)
 case add =>
  obtain ⟨h0,hk⟩:=bY hk;simp at h0;refine ⟨_, .string (a++b),?_,HG (a++b) (by simp) (by simp; exact h0),hk⟩;have:¬(((a.size+b.size:Nat):Int)>IntKind.i64.max):=by
   have e:IntKind.i64.max=9223372036854775807:=by decide
   rw[e]; omega
  simp only[binOp,Op.stringOp];rw[if_neg this]; rfl
 case eql=>exact ⟨_, .bool _,by simp only[binOp,Op.stringOp,he]; rfl, .bool _,hk⟩
 case neq=>exact ⟨_, .bool _,by simp only[binOp,Op.stringOp,he]; rfl, .bool _,hk⟩
 case lss=>exact ⟨_, .bool _,by simp only[binOp,Op.stringOp,hl]; rfl, .bool _,hk⟩
 case leq=>exact ⟨_, .bool _,by simp only[binOp,Op.stringOp,hl,he]; rfl, .bool _,hk⟩
 case gtr=>exact ⟨_, .bool _,by simp only[binOp,Op.stringOp,hl,he]; rfl, .bool _,hk⟩
 case geq=>exact ⟨_, .bool _,by simp only[binOp,Op.stringOp,hl]; rfl, .bool _,hk⟩
theorem binK_bool (T:CU P tt) {op:BinOp} {a b:Bool} {t:TypeId} (ht:(tt.at t).d = .bool) (x y:Operand) {k:V→Option R} {r:R}
  (hk:Eu op (.bool a) (.bool b) k=some r):qC P w h c (do eqGuard op t x y (.bool a) (.bool b); binOp op t (.bool a) (.bool b)) k r:=by
 have hu:P.underlying t=some .bool:=ez T ht;have hg:∀op:BinOp,(eqGuard op t x y (.bool a) (.bool b)).run P w = .ok () w:=fun op=>by cases op <;> simp[eqGuard]
 have hq:=run_equalIn_bool w 9999 t a b hu;unfold qC;simp only[Sem.run_bind,hg,Result.andThen_ok];cases op <;> simp only[Eu,eqV]at hk <;> (try cases hk)
 case eql=>exact ⟨_, .bool (a==b),by simp[binOp,Op.equal,Op.maxDepth,hq], .bool _,hk⟩
 case neq=>exact ⟨_, .bool (!(a==b)),by simp[binOp,Op.equal,Op.maxDepth,hq], .bool _,hk⟩
theorem binK_agg (T:CU P tt) {op:BinOp} {cs ds:List V} {xs ys:Array Value} {t:TypeId} (ht:eqOk (tt.at t) cs ds=true) (rx:cz w h c cs xs.toList) (ry:cz w h c ds ys.toList)
  (x y:Operand) {k:V→Option R} {r:R} (hk:Eu op (.agg cs) (.agg ds) k=some r) :
  qC P w h c (do eqGuard op t x y (.agg xs) (.agg ys); binOp op t (.agg xs) (.agg ys)) k r:=by
 cases op <;> simp only[Eu,eqV]at hk <;> (try cases hk)
 all_goals
  split at hk
  ·rename_i b hb;obtain ⟨hg,hq⟩:=T.eqs t w h c cs ds xs ys b ht rx ry hb;have hg':=fun op=>run_eqGuard_agg (P:=P) (w:=w) op t x y xs ys hg
   unfold qC;simp only[Sem.run_bind,hg',Result.andThen_ok]
   first
    | exact ⟨_, .bool b,by simp only[binOp]; unfold Op.equal Op.maxDepth; simp[hq], .bool _,hk⟩
    | exact ⟨_, .bool (!b),by simp only[binOp]; unfold Op.equal Op.maxDepth; simp[hq], .bool _,hk⟩
  ·cases hk
theorem TG (d:Nat) (t e:TypeId) (q:Option Addr) (hu:P.underlying t=some (.pointer e)) :
  (Op.equalIn (d+1) t (.pointer q) (.pointer none)).run P w = .ok q.isNone w:=by
 cases q <;> simp[Op.equalIn,run_underlying hu]
theorem L4 (t e:TypeId) (q:Option Addr) (hu:P.underlying t=some (.pointer e)) :
  (Op.equal t (.pointer q) (.pointer none)).run P w = .ok q.isNone w:=TG 9999 t e q hu
theorem ptrK_sound (T:CU P tt) {op:BinOp} {a b:V} {u v:Value} {t e:TypeId} (ht:(tt.at t).d = .ptr e) (ra:dx w h c a u) (rb:dx w h c b v) (x y:Operand)
  {k:V→Option R} {r:R} (hk:ptrK op a b k=some r):qC P w h c (do eqGuard op t x y u v; binOp op t u v) k r:=by
 have hu:P.underlying t=some (.pointer e):=ez T ht;unfold ptrK at hk;split at hk
 ·cases rb;have key:∀r,isNilV a=some r→∃q:Option Addr,u = .pointer q∧r=q.isNone:=by
   intro r hr;unfold isNilV at hr;split at hr <;> try cases hr
   ·cases ra; exact ⟨none,rfl,rfl⟩
   ·cases ra with|ptr _ hv=>obtain ⟨b,hv,_⟩:=hv; exact ⟨_,hv,rfl⟩
   ·cases ra; exact ⟨_,rfl,rfl⟩
   ·cases ra with|yq _ hv=>obtain ⟨b,hv,_⟩:=hv; exact ⟨_,hv,rfl⟩
  split at hk
  ·rename_i q hq;obtain ⟨q,rfl,rfl⟩:=key _ hq;refine ⟨_, .bool q.isNone,?_, .bool _,hk⟩;have hq:=L4 (w:=w) t e q hu;cases q <;> simp[eqGuard,binOp,hq]
  ·rename_i q hq;obtain ⟨q,rfl,rfl⟩:=key _ hq;refine ⟨_, .bool (!q.isNone),?_, .bool _,hk⟩;have hq:=L4 (w:=w) t e q hu;cases q <;> simp[eqGuard,binOp,hq]
  ·cases hk
 ·cases hk
theorem dx.ifi_inv {t:Nat} {k:IntKind} {n:Int} {v:Value} (r:dx w h c (.TA t k n) v):v = .iface t (.int k n)∧k.has n:=by cases r; exact ⟨rfl, ‹_›⟩
theorem ifK_sound (T:CU P tt) {op:BinOp} {a b:V} {u v:Value} {t:TypeId} (ht:(tt.at t).d = .iface) (ra:dx w h c a u) (rb:dx w h c b v) (x y:Operand)
  {k:V→Option R} {r:R} (hk:ifK op y a b k=some r):qC P w h c (do eqGuard op t x y u v; binOp op t u v) k r:=by
 obtain ⟨ms,hu⟩:=ez T ht;have hq:∀(d:Nat) (u:Value),(u = .nilIface∨∃t x,u = .iface t x)→(Op.equalIn (d+1) t u .nilIface).run P w = .ok (match u with | .nilIface=>true|_=>false) w:=by
  rintro d u (rfl|⟨t',x',rfl⟩) <;> simp[Op.equalIn,run_underlying hu]
 have hq1:=hq 9999 .nilIface (.inl rfl);unfold ifK at hk;split at hk <;> (try cases hk)
 ·cases ra; cases rb;refine ⟨_, .bool true,?_, .bool _,hk⟩;simp[eqGuard,binOp,Op.equal,Op.maxDepth,hq1]
 ·cases ra; cases rb;refine ⟨_, .bool false,?_, .bool _,hk⟩;simp[eqGuard,binOp,Op.equal,Op.maxDepth,hq1]
 ·cases ra with
  | iface t' v' =>
   cases rb;have hq2:=hq 9999 (.iface t' v') (.inr ⟨_,_,rfl⟩);refine ⟨_, .bool false,?_, .bool _,hk⟩;simp[eqGuard,binOp,Op.equal,Op.maxDepth,hq2]
 ·cases ra with
  | iface t' v' =>
   cases rb;have hq2:=hq 9999 (.iface t' v') (.inr ⟨_,_,rfl⟩);refine ⟨_, .bool true,?_, .bool _,hk⟩;simp[eqGuard,binOp,Op.equal,Op.maxDepth,hq2]
 ·obtain ⟨rfl,_⟩:=ra.ifi_inv;cases rb;refine ⟨_, .bool false,?_, .bool _,hk⟩;simp[eqGuard,binOp,Op.equal,Op.maxDepth,hq 9999 (.iface _ (.int _ _)) (.inr ⟨_,_,rfl⟩)]
 ·obtain ⟨rfl,_⟩:=ra.ifi_inv;cases rb;refine ⟨_, .bool true,?_, .bool _,hk⟩;simp[eqGuard,binOp,Op.equal,Op.maxDepth,hq 9999 (.iface _ (.int _ _)) (.inr ⟨_,_,rfl⟩)]
theorem Ty.sz_pos' (T:Ty):0<T.sz:=by cases T <;> simp[Ty.sz]
theorem Kc (d:Nat) (t e:TypeId) (A:Option Addr) (n cap:Nat) (hu:P.underlying t=some (.slice e)) :
  (Op.equalIn (d+1) t (.slice A n cap) (.slice none 0 0)).run P w = .ok A.isNone w:=by
 cases A <;> simp[Op.equalIn,run_underlying hu]
theorem slK_sound (T:CU P tt) {op:BinOp} {a b:V} {u v:Value} {t e:TypeId} (ht:(tt.at t).d = .slice e) (ra:dx w h c a u) (rb:dx w h c b v) (x y:Operand)
  {k:V→Option R} {r:R} (hk:slK op a b k=some r):qC P w h c (do eqGuard op t x y u v; binOp op t u v) k r:=by
 have hu:P.underlying t=some (.slice e):=ez T ht;unfold slK at hk;split at hk
 ·cases rb;have key:∀(neg:Bool) (k:V→Option R),Pa a (fun r=>k (aaj neg r))=some r→∃A n cap,u = .slice A n cap∧∃z,dx w h c z (.bool (bif neg then !A.isNone else A.isNone))∧k z=some r:=by
   intro neg k hk;unfold Pa at hk;split at hk <;> try cases hk
   ·cases ra; exact ⟨none,0,0,rfl, .bool (bif neg then false else true),by cases neg <;> exact .bool _,by cases neg <;> exact hk⟩
   ·rename_i T l tk _;cases ra with
    | @sl _ _ _ A cap f jd uP hc hr E0 mz =>
     refine ⟨A,_,cap,rfl,?_⟩;cases hl:l.isEmpty with
     | true=>rw[hl]at hk; exact ⟨.Su, .Su _,hk⟩
     | false =>
      rw[hl]at hk;have Nk:0<l.length:=List.length_pos_iff.2 (by intro e; rw[e]at hl; cases hl);obtain ⟨b,o,rfl,_⟩:=hc 0 0 Nk (Ty.sz_pos' T);exact ⟨_, .bool _,hk⟩
   ·rename_i i n _;cases ra with
    | row hi hn hv =>
     obtain ⟨A,cap,rfl,⟨_,_,hA⟩,_⟩:=hv;refine ⟨A,n,cap,rfl,?_⟩;cases hl:decide (n=0)with
     | true=>rw[hl]at hk; exact ⟨.Su, .Su _,hk⟩
     | false =>
      rw[hl]at hk;obtain ⟨q,rfl⟩:=hA (Nat.pos_of_ne_zero (by simpa using hl));exact ⟨_, .bool _,hk⟩
  split at hk
  ·obtain ⟨A,n,cap,rfl,z,rz,hk⟩:=key false k hk;refine ⟨_, .bool A.isNone,?_,rz,hk⟩;have hq:=Kc (w:=w) 9999 t e A n cap hu;simp[eqGuard,binOp,Op.equal,Op.maxDepth,hq]
  ·obtain ⟨A,n,cap,rfl,z,rz,hk⟩:=key true k hk;refine ⟨_, .bool (!A.isNone),?_,rz,hk⟩;have hq:=Kc (w:=w) 9999 t e A n cap hu;simp[eqGuard,binOp,Op.equal,Op.maxDepth,hq]
  ·cases hk
 ·cases hk
end
section
variable {P:Program} {tt:dn} {w:World} {h:aN} {c:j8} {R:Type}
theorem one_cell {v:V} {d:Value} (r:dx w h c v d) (h1:v.one=true):d.oneCell'=true∧d.cells = #[d]:=by
 cases r <;> simp_all [V.one,Value.oneCell',Value.cells]
 case ptr hi hv=>obtain ⟨b,rfl,_⟩:=hv; simp
 case yq hi hv=>obtain ⟨b,rfl,_⟩:=hv; simp
 case row hi _ hv=>obtain ⟨A,cap,rfl,_,_⟩:=hv; simp
 case xx hi _ hv=>obtain ⟨A,cap,rfl,_,_⟩:=hv; simp
 case map hi hv=>obtain ⟨b,rfl,_⟩:=hv; simp
def Ones (ds:List Value):Prop:=∀d∈ds,d.oneCell'=true
theorem ones_of {cs:List V} {ds:List Value} (r:cz w h c cs ds) (h1:cs.all V.one=true):Ones ds:=by
 intro d hd;obtain ⟨j,hj,rfl⟩:=List.mem_iff_getElem.1 hd;have hj':j<cs.length:=by have:=r.1; omega
 have:=r.2 j cs[j] ds[j] (List.getElem?_eq_getElem hj') (List.getElem?_eq_getElem hj);exact (one_cell this (by simpa using List.all_eq_true.1 h1 _ (List.getElem_mem hj'))).1
theorem P6 {v:V} {d:Value} (r:dx w h c v d) {cs:List V} (hf:flatK v=some cs):cz w h c cs d.cells.toList∧Ones d.cells.toList∧cs.all V.one=true:=by
 unfold flatK at hf;split at hf
 ·split at hf
  ·rename_i uQ;cases hf;cases r with
   | @agg _ x hl hr =>
    have hr':cz w h c cs x.toList:=⟨by rw[hl,Array.length_toList],fun j v d hv hd=>hr j v d hv (by simpa using hd)⟩;exact ⟨hr',ones_of hr' uQ,uQ⟩
  ·cases hf
 ·split at hf
  ·rename_i h1;cases hf;obtain ⟨ho,hc⟩:=one_cell r h1;rw[hc];refine ⟨.cons r .nil,fun d' hd => ?_,by simp[h1]⟩;simp at hd; subst hd; exact ho
  ·cases hf
theorem setAll (xs:List Value):∀(k off:Nat) (a:Array Value),off+k+xs.length≤a.size →
  ((xs.zipIdx k).foldl (fun cs (p:Value×Nat)=>cs.setIfInBounds (off+p.2) p.1) a).toList=a.toList.take (off+k)++xs++a.toList.drop (off+k+xs.length):=by
 induction xs with
 | nil=>intro k off a hs; simp
 | cons x xs ih =>
  intro k off a hs;simp only[List.length_cons]at hs;simp only[List.zipIdx_cons,List.foldl_cons];rw[ih (k+1) off _ (by simp; omega)];simp only[Array.toList_setIfInBounds];have jz:off+k<a.toList.length:=by simp; omega
  apply List.ext_getElem?;intro i;simp only[List.getElem?_append,List.length_take,List.length_set,List.getElem?_take,List.getElem?_drop,List.getElem?_set,List.length_cons,List.length_append,List.getElem?_cons];simp only[Array.length_toList]at jz ⊢;by_cases h1:i<off+k
  ·have e1:off+k≠i:=by omega
   have e2:i<off+(k+1):=by omega
   have e3:i<min (off+(k+1)) a.size:=by omega
   have e4:i<min (off+k) a.size:=by omega
   have e5:i<min (off+(k+1)) a.size+xs.length:=by omega
   have e6:i<min (off+k) a.size+(xs.length+1):=by omega
   simp[h1,e1,e2,e3,e4,e5,e6]
  ·by_cases h2:i=off+k
   ·subst h2;have m1:min (off+(k+1)) a.size=off+k+1:=by omega
    have m2:min (off+k) a.size=off+k:=by omega
    have e2:off+k<off+(k+1):=by omega
    have e3:off+k<a.size:=by omega
    rw[m1,m2];simp[e2,e3];intro h7; omega
   ·have m1:min (off+(k+1)) a.size=off+k+1:=by omega
    have m2:min (off+k) a.size=off+k:=by omega
    rw[m1,m2];by_cases h3:i<off+k+1+xs.length
    ·have e1:¬i<off+k+1:=by omega
     have e2:¬i<off+k:=by omega
     have e4:i<off+k+(xs.length+1):=by omega
     have e5:¬(i - (off+k)=0):=by omega
     have e6:i - (off+k) - 1=i - (off+k+1):=by omega
     simp[h3,e1,e2,e4,e5,e6]
    ·have e1:¬i<off+k+1:=by omega
     have e4:¬i<off+k+(xs.length+1):=by omega
     have e8:off+(k+1)+xs.length+(i - (off+k+1+xs.length))=off+k+(xs.length+1)+(i - (off+k+(xs.length+1))):=by omega
     simp[h3,e4,e8];intro hh; omega
theorem putCells (cells:Array Value) (d:Value) (off:Nat) (hs:off+d.cells.size≤cells.size) :
  (d.cells.zipIdx.foldl (fun cs (p:Value×Nat)=>cs.setIfInBounds (off+p.2) p.1) cells).toList=cells.toList.take off++d.cells.toList++cells.toList.drop (off+d.cells.size):=by
 have h:=setAll d.cells.toList 0 off cells (by simpa using hs);simp only[Nat.add_zero,Array.length_toList]at h;rw[←h,←Array.foldl_toList,Array.toList_zipIdx]
theorem cz.len {cs:List V} {ds:List Value} (r:cz w h c cs ds):cs.length=ds.length:=r.1
theorem Nl (place:Nat→Option (Nat×Nat)):∀(parts:List (Nat×V)) (TH:List (Nat×Value)) (cs:List V) (cells:Array Value) (out:List V),
  (parts.map Prod.fst=TH.map Prod.fst)→cz w h c (parts.map Prod.snd) (TH.map Prod.snd)→cz w h c cs cells.toList →
  SQ cs (parts.map fun p=>(((place p.1).getD (0,1000000)).1,((place p.1).getD (0,1000000)).2,p.2))=some out→cells.size<1000000 →
  ∃W6,Instr.fill place cells TH=some W6∧cz w h c out W6.toList∧W6.size=cells.size
 | [],TH,cs,cells,out,he,_,rc,hf,_=>by
  cases TH with
  | nil=>simp[SQ]at hf; subst hf; exact ⟨cells,rfl,rc,rfl⟩
  | cons p ps=>simp at he
 | (i,v)::parts,TH,cs,cells,out,he,rp,rc,hf,hno=>by
  cases TH with
  | nil=>simp at he
  | cons p ps =>
   obtain ⟨i',d⟩:=p;simp only[List.map_cons,List.cons.injEq]at he;obtain ⟨rfl,he⟩:=he;simp only[List.map_cons]at rp hf;simp only[SQ]at hf;split at hf
   ·rename_i vs hvs;split at hf
    ·rename_i sC;simp only[Bool.and_eq_true,decide_eq_true_eq]at sC;obtain ⟨hlen,rV⟩:=sC;obtain ⟨rv,_,_⟩:=P6 rp.head hvs;have hl1:=rv.len;have hl2:=rc.len;simp only[Array.length_toList]at hl1 hl2;cases hpl:place i with
     | none =>
      rw[hpl]at rV;simp at rV; omega
     | some q =>
      obtain ⟨off,size⟩:=q;simp only[hpl,Option.getD_some]at hlen rV hf;have K7:=putCells cells d off (by omega);have Vc:cz w h c (cs.take off++vs++cs.drop (off+size)) (d.cells.zipIdx.foldl (fun cs (p:Value×Nat)=>cs.setIfInBounds (off+p.2) p.1) cells).toList:=by
       rw[K7];have hd:d.cells.size=size:=by omega
       rw[hd];exact ((rc.take off).append rv).append (rc.drop _)
      obtain ⟨W6,h1,h2,h3⟩:=Nl place parts ps _ _ out he rp.tail Vc hf (by rw[←Array.length_toList,K7]; simp; omega);refine ⟨W6,?_,h2,?_⟩
      ·simp only[Instr.fill,hpl];rw[if_neg]
       ·exact h1
       ·simp; omega
      ·rw[h3,←Array.length_toList,K7]; simp; omega
    ·cases hf
   ·cases hf
end
section
variable {P:Program} {tt:dn} {w:World} {h:aN} {c:j8} {R:Type}
theorem sV (b o n:Nat):(⟨b,o,none⟩:Addr).add n=⟨b,o+n,none⟩:=by unfold Addr.add; split <;> simp_all
theorem cut_rep {T:Ty} {l:List T.den} {t:Tok} {A:Option Addr} {n cap:Nat} (r:dx w h c (.sl T l t) (.slice A n cap)) (lo hi:Nat) (h1:lo≤hi) (h2:hi≤l.length) :
  dx w h c (.sl T ((l.drop lo).take (hi - lo)) .no) (.slice (if cap=lo then A else A.map (·.add (lo*T.sz))) (hi - lo) (cap - lo)):=by
 cases r with
 | sl f jd uP hc hr E0 mz =>
  have hlen:((l.drop lo).take (hi - lo)).length=hi - lo:=by simp; omega
  have key:=dx.sl (w:=w) (h:=h) (c:=c) (T:=T) (l:=(l.drop lo).take (hi - lo)) (t := .no) (A:=if cap=lo then A else A.map (·.add (lo*T.sz))) (cap:=cap - lo)
   (fun i j=>f (lo+i) j) (by omega) (by omega) ?_ ?_ (by simp) (by simp)
  ·rw[hlen]at key; exact key
  ·intro i j hi' hj;rw[hlen]at hi';obtain ⟨b,o,hA,EN,hown'⟩:=hc (lo+i) j (by omega) hj;rw[if_neg (by omega)];refine ⟨b,o+lo*T.sz,by rw[hA]; simp[sV],?_⟩;have e:o+lo*T.sz+i*T.sz+j=o+(lo+i)*T.sz+j:=by rw[Nat.add_mul]; omega
   rw[e];exact ⟨EN,hown'⟩
  ·intro i j x v hx hv;rw[List.getElem?_take,List.getElem?_drop]at hx;split at hx
   ·exact hr _ j x v hx hv
   ·cases hx
theorem GN {T:Ty} {l:List T.den} {t:Tok} {v:Value} (r:dx w h c (.sl T l t) v):∃A cap,v = .slice A l.length cap∧l.length≤cap∧cap≤mx:=by
 cases r with
 | sl f jd uP hc hr E0 mz=>exact ⟨_,_,rfl,jd,uP⟩
theorem Ty.Nn (T:Ty):0<T.sz:=by cases T <;> simp[Ty.sz]
theorem Ty.je (T:Ty) (x:T.den):(T.cells x).length=T.sz:=by cases T <;> rfl
theorem B8 {v:Option V} {v':Option Value} (hv:match v,v' with|none,none=>True|some a,some b=>dx w h c a b|_,_=>False) {d:Int} {k:Int→Option R} {r:R}
  (hk:K5 v d k=some r):∃n,k n=some r∧((v'=none∧n=d)∨∃i,v'=some (.int i n)):=by
 unfold K5 at hk;split at hk
 ·split at hv <;> simp_all
 ·rename_i i n;cases v' with
  | none=>exact hv.elim
  | some b=>exact ⟨n,hk, .inr ⟨_,by rw[(show dx w h c (.int i n) b from hv).fA.1]⟩⟩
 ·cases hk
theorem Np {ρ:Operand→V} {ρ':Operand→Value} (hρ:∀x,dx w h c (ρ x) (ρ' x)) (o:Option Operand) :
  match o.map ρ,o.map ρ' with|none,none=>True|some a,some b=>dx w h c a b|_,_=>False:=by
 cases o <;> simp[hρ]
theorem vI (isSlice:Bool) (len cap:Nat) (lo hi:Option Value) (l hh:Int) (hlo:(lo=none∧l=0)∨∃k,lo=some (.int k l))
  (hhi:(hi=none∧hh=len)∨∃k,hi=some (.int k hh)) (h0:0≤l) (h1:l≤hh) (h2:hh≤cap) :
  (Instr.sliceBounds isSlice len cap lo hi none).run P w = .ok (l.toNat,hh.toNat,cap) w:=by
 have hb:∀(k:IntKind) (n:Int) (y:Nat) (code:BoundsCode),0≤n→n≤y→(Instr.sliceBound (.int k n) y code).run P w = .ok n.toNat w:=by
  intro k n y code h0 h1;simp[Instr.sliceBound,asIntOf,h0,h1]
 rcases hlo with ⟨rfl,rfl⟩|⟨k,rfl⟩ <;> rcases hhi with ⟨rfl,rfl⟩|⟨k',rfl⟩
 ·simp[Instr.sliceBounds]
 ·simp[Instr.sliceBounds,hb _ _ _ _ (show 0≤hh by omega) h2]
 ·simp[Instr.sliceBounds,hb _ _ _ _ h0 h1]
 ·simp only[Instr.sliceBounds];have e:((hh.toNat:Nat):Int)=hh:=by omega
  simp[hb _ _ _ _ (show 0≤hh by omega) h2,hb k l hh.toNat .sliceB h0 (by omega)]
theorem idxOf_some {v:V} {d:Value} (r0:dx w h c v d) {k:Int→Option R} {r:R} (hk:idxOf v k=some r):∃i n,d = .int i n∧k n=some r:=by
 unfold idxOf at hk;split at hk
 ·exact ⟨_,_,r0.fA.1,hk⟩
 ·cases hk
theorem Y1 (T:CU P tt) {t:Nat} {a i:V} {a' i':Value} (ra:dx w h c a a') (ri:dx w h c i i') {k:V→Option R} {r:R}
  (hk:(idxOf i fun n =>
   match (generalizing:=false) (tt.at t).d,a with
   | .slice e, .sl T l _=>if T.sz=(tt.at e).size&&tt.ok e then bX (decide (0≤n)&&decide (n<l.length)) (k (.Br (T.cells (l.getD n.toNat T.aR))))else none
   | .slice e, .row id m=>if tt.ok e then bX (decide (0≤n)&&decide (n<m)) (k (.yq id (tt.at e).size n.toNat 0))else none
   | .arr m e, .ptr id o=>if tt.ok e then bX (decide (0≤n)&&decide (n<m)) (k (.ptr id (o+n.toNat*(tt.at e).size)))else none
   | .slice e, .YZ m cs=>if tt.ok e&&decide ((tt.at e).size≠0)&&decide (cs.length=m*(tt.at e).size)then bX (decide (0≤n)&&decide (n<m)) (k (.Br (cs.drop (n.toNat*(tt.at e).size))))else none
   | _,_=>none)=some r):qC P w h c (Instr.indexAt t a' i') k r:=by
 obtain ⟨ik,n,rfl,RZ⟩:=idxOf_some ri hk;clear hk;split at RZ
 ·rename_i e T' l tk hd;split at RZ
  ·rename_i sC;simp only[Bool.and_eq_true,decide_eq_true_eq]at sC;obtain ⟨rV,sR⟩:=sC;obtain ⟨hb,hk⟩:=bY RZ;simp only[Bool.and_eq_true,decide_eq_true_eq]at hb;have hu:P.underlying t=some (.slice e):=ez T hd;have Nq:=T.sizeOf (w:=w) sR;cases ra with
   | @sl _ _ _ A cap f jd uP hc hr E0 mz =>
    have hnl:n.toNat<l.length:=by omega
    have hxd:l.getD n.toNat T'.aR=l[n.toNat]:=by simp[List.getD,List.getElem?_eq_getElem hnl]
    have hx:l[n.toNat]? = some l[n.toNat]:=List.getElem?_eq_getElem hnl;obtain ⟨b,o,rfl,_,_⟩:=hc n.toNat 0 hnl T'.Nn;refine ⟨_, .pointer (some ⟨b,o+n.toNat*T'.sz,none⟩),?_,?_,hk⟩
    ·simp[Instr.indexAt,asIntOf,run_underlying hu,hb.1,hb.2,Nq,←rV,sV]
    ·refine .Br (fun j=>f n.toNat j) (fun j hj => ?_) (fun j v hv=>hr n.toNat j _ v hx (by rw[hxd]at hv; exact hv));rw[Ty.je]at hj;obtain ⟨b',o',e',h1,h2⟩:=hc n.toNat j hnl hj;cases e';exact ⟨h1,h2⟩
  ·cases RZ
 ·rename_i e id m hd;split at RZ
  ·rename_i sR;obtain ⟨hb,hk⟩:=bY RZ;simp only[Bool.and_eq_true,decide_eq_true_eq]at hb;have hu:P.underlying t=some (.slice e):=ez T hd;have Nq:=T.sizeOf (w:=w) sR;cases ra with
   | row hi _ hv =>
    obtain ⟨A,cap,rfl,⟨_,_,hA⟩,hv⟩:=hv;obtain ⟨a,rfl⟩:=hA (by omega);refine ⟨_, .pointer (some (a.add (n.toNat*(tt.at e).size))),?_,?_,hk⟩
    ·simp[Instr.indexAt,asIntOf,run_underlying hu,hb.1,hb.2,Nq]
    ·refine .yq hi ⟨_,rfl,fun T' l' he rV hj => ?_⟩;obtain ⟨_,_,_,h3⟩:=hv T' l' he;rcases h3 with ⟨_,h3,_⟩|⟨b,arr,el,fz,g1,g2,_,_⟩
     ·cases h3
     ·cases g2;exact ⟨b,g1,by rw[rV,sV]; rfl⟩
  ·cases RZ
 ·rename_i m e id o hd;split at RZ
  ·rename_i sR;obtain ⟨hb,hk⟩:=bY RZ;simp only[Bool.and_eq_true,decide_eq_true_eq]at hb;have hu:P.underlying t=some (.array m e):=ez T hd;have Nq:=T.sizeOf (w:=w) sR;cases ra with
   | ptr hi hv =>
    obtain ⟨b,rfl,hv⟩:=hv;refine ⟨_, .pointer (some (Addr.add ⟨b,o,none⟩ (n.toNat*(tt.at e).size))),?_,?_,hk⟩
    ·simp[Instr.indexAt,asIntOf,run_underlying hu,hb.1,hb.2,Nq,Instr.sureAddr]
    ·exact .ptr hi ⟨b,by rw[sV],hv⟩
  ·cases RZ
 ·rename_i e m cs hd;split at RZ
  ·rename_i sC;simp only[Bool.and_eq_true,decide_eq_true_eq]at sC;obtain ⟨⟨sR,h0⟩,hlen⟩:=sC;obtain ⟨hb,hk⟩:=bY RZ;simp only[Bool.and_eq_true,decide_eq_true_eq]at hb;have hu:P.underlying t=some (.slice e):=ez T hd;have Nq:=T.sizeOf (w:=w) sR;have jz:n.toNat*(tt.at e).size+(tt.at e).size≤cs.length:=by
    rw[hlen,←Nat.succ_mul];exact Nat.mul_le_mul_right _ (by omega)
   cases ra with
   | @YZ _ sz _ A hn uP f hc hr =>
    obtain ⟨b,o,rfl,_,_⟩:=hc (n.toNat*(tt.at e).size) (by omega);refine ⟨_, .pointer (some ⟨b,o+n.toNat*(tt.at e).size,none⟩),?_,?_,hk⟩
    ·simp[Instr.indexAt,asIntOf,run_underlying hu,hb.1,hb.2,Nq,sV]
    ·refine .Br (fun j=>f (n.toNat*(tt.at e).size+j)) (fun j hj => ?_) (fun j v hv=>hr _ v (by rw[List.getElem?_drop]at hv; exact hv));rw[List.length_drop]at hj;obtain ⟨b',o',e',h1,h2⟩:=hc (n.toNat*(tt.at e).size+j) (by omega);cases e';rw[Nat.add_assoc];exact ⟨h1,h2⟩
  ·cases RZ
 ·cases RZ
end
section
variable {P:Program} {tt:dn} {w:World} {h:aN} {c:j8} {R:Type}
theorem partK_ok {t off:Nat} {cs:List V} {k:V→Option R} {r:R} (hk:wN tt t cs off k=some r):tt.ok t=true:=by
 unfold wN at hk;split at hk
 ·assumption
 ·cases hk
theorem Y2 (T:CU P tt) {s f:Nat} {a:V} {a':Value} (ra:dx w h c a a') {k:V→Option R} {r:R}
  (hk:(match (generalizing:=false) (tt.at s).d with
  | .struct fs =>
   (match (generalizing:=false) fs[f]? with
    | some (off,t) =>
     if (tt.at t).size=0 || !tt.ok t then none else
     (match (generalizing:=false) a with
     | .ptr i o=>k (.ptr i (o+off))
     | .Br cs=>k (.Br (cs.drop off))
     | .yq i n j o=>k (.yq i n j (o+off))
     | _=>none)
    | none=>none)
  | _=>none)=some r):qC P w h c (Instr.fieldAt s a' f) k r:=by
 split at hk
 ·rename_i fs hd;split at hk
  ·rename_i off t hf;split at hk
   ·cases hk
   ·rename_i SU;simp only[Bool.or_eq_true,decide_eq_true_eq,Bool.not_eq_true',not_or,Bool.not_eq_false]at SU;obtain ⟨rV,sR⟩:=SU;obtain ⟨F,fd,hu,hfd,rfl,rfl⟩:=Vb T hd hf;have hs:=T.sizeOf (w:=w) sR;have run:∀b o,(Instr.fieldAt s (.pointer (some ⟨b,o,none⟩)) f).run P w = .ok (.pointer (some ⟨b,o+fd.offset,none⟩)) w:=by
     intro b o;simp[Instr.fieldAt,run_underlying hu,hfd,Instr.sureAddr,fieldPlace,hs,rV,sV]
    have run':∀a:Addr,(Instr.fieldAt s (.pointer (some a)) f).run P w = .ok (.pointer (some (a.add fd.offset))) w:=by
     intro a;simp[Instr.fieldAt,run_underlying hu,hfd,Instr.sureAddr,fieldPlace,hs,rV]
    split at hk
    ·rename_i ra;cases ra with
     | ptr hi hv =>
      obtain ⟨b,rfl,hb⟩:=hv;exact ⟨_,_,run _ _, .ptr hi ⟨b,rfl,hb⟩,hk⟩
    ·rename_i ra;cases ra with
     | Br g hc hr =>
      refine ⟨_,_,run _ _, .Br (fun j=>g (fd.offset+j)) (fun j hj => ?_) (fun j v hv => ?_),hk⟩
      ·simp at hj;have:=hc (fd.offset+j) (by omega);rw[Nat.add_assoc]; exact this
      ·rw[List.getElem?_drop]at hv;exact hr _ v hv
    ·rename_i ra;cases ra with
     | yq hi hv =>
      obtain ⟨a,rfl,hv⟩:=hv;refine ⟨_,_,run' a, .yq hi ⟨_,rfl,fun T' l he hn hj => ?_⟩,hk⟩;obtain ⟨b,hb,rfl⟩:=hv T' l he hn hj;exact ⟨b,hb,by rw[sV,Nat.add_assoc]⟩
    ·cases hk
  ·cases hk
 ·cases hk
theorem field_sound (T:CU P tt) {s f:Nat} {a:V} {a':Value} (ra:dx w h c a a') {k:V→Option R} {r:R}
  (hk:(match (generalizing:=false) (tt.at s).d,a with
  | .struct fs, .agg cs=>(match (generalizing:=false) fs[f]? with|some (off,t)=>wN tt t cs off k|none=>none)
  | _,_=>none)=some r):qC P w h c (Instr.field s a' f) k r:=by
 split at hk
 ·have hd := ‹(tt.at s).d = .struct _›;have ra := ‹dx w h c (.agg _) a'›;split at hk
  ·rename_i off t hf;obtain ⟨F,fd,hu,hfd,rfl,rfl⟩:=Vb T hd hf;cases ra with
   | @agg _ x hl hr =>
    obtain ⟨v,v',h1,h2,h3⟩:=X9 (x:=x) T ⟨by rw[hl,Array.length_toList],fun j v d hv hd=>hr j v d hv (by simpa using hd)⟩ hk;exact ⟨v,v',by simp[Instr.field,run_underlying hu,hfd,asAgg,h1],h2,h3⟩
  ·cases hk
 ·cases hk
theorem str_index {s:ByteArray} {n:Int} (h0:0≤n) (h1:n<s.data.toList.length):(if 0≤n then s[n.toNat]? else none)=some (s.data.toList.getD n.toNat 0):=by
 have jz:n.toNat<s.size:=by rw[←size_data]; omega
 have e:s[n.toNat]? = some (s[n.toNat]'jz):=getElem?_pos s n.toNat jz;rw[if_pos h0,e];have:s[n.toNat]'jz=s.data.toList.getD n.toNat 0:=by
  have hl:n.toNat<s.data.toList.length:=by omega
  simp only[List.getD,List.getElem?_eq_getElem hl,Option.getD_some];rfl
 rw[this]
theorem index_sound (T:CU P tt) {t:Nat} {a i:V} {a' i':Value} (ra:dx w h c a a') (ri:dx w h c i i') {k:V→Option R} {r:R}
  (hk:(idxOf i fun n =>
  match (generalizing:=false) (tt.at t).d,a with
  | .string, .str s=>bX (decide (0≤n)&&decide (n<s.length)) (k (.int .u8 (s.getD n.toNat 0).toNat))
  | .arr m e, .agg cs=>bX (decide (0≤n)&&decide (n<m)) (wN tt e cs (n.toNat*(tt.at e).size) k)
  | _,_=>none)=some r):qC P w h c (Instr.index t a' i') k r:=by
 obtain ⟨ik,n,rfl,RZ⟩:=idxOf_some ri hk;clear hk;split at RZ
 ·have hd := ‹(tt.at t).d = .string›;have ra := ‹dx w h c (.str _) a'›;obtain ⟨hb,hk⟩:=bY RZ;simp only[Bool.and_eq_true,decide_eq_true_eq]at hb;have hu:P.underlying t=some .string:=ez T hd;obtain ⟨t',rfl,rfl,_⟩:=ra.gS;refine ⟨_,_,?_, .int (has_byte _ (UInt8.toNat_lt _)),hk⟩;have:=str_index hb.1 hb.2;simp only[Instr.index,Sem.run_bind,asIntOf,Sem.run_pure,Result.andThen_ok,run_underlying hu,this]
 ·have hd := ‹(tt.at t).d = .arr _ _›;have ra := ‹dx w h c (.agg _) a'›;obtain ⟨hb,hk⟩:=bY RZ;simp only[Bool.and_eq_true,decide_eq_true_eq]at hb;have hu:=ez T hd;simp only[TD.Is]at hu;have sR:=partK_ok hk;have hs:=T.sizeOf (w:=w) sR;cases ra with
  | @agg _ x hl hr =>
   obtain ⟨v,v',h1,h2,h3⟩:=X9 (x:=x) T ⟨by rw[hl,Array.length_toList],fun j v d hv hd=>hr j v d hv (by simpa using hd)⟩ hk;exact ⟨v,v',by simp[Instr.index,asIntOf,run_underlying hu,hb.1,hb.2,hs,h1],h2,h3⟩
 ·cases RZ
theorem slice_str {s:ByteArray} {l hh:Nat}:(s.extract l hh).data.toList=(s.data.toList.drop l).take (hh - l):=by
 simp[ByteArray.data_extract,List.extract]
theorem view_rep {i n sz:Nat} {A:Option Addr} {cap:Nat} (hu:Used h i) (hn:n≤mx) (jd:n≤cap) (uP:cap≤mx) (hA:0<n→∃a,A=some a)
  (hv:∀T l,h.at i = .row T l→n=l.length∧n≤cap∧cap≤mx ∧
    ((c.wO i=none∧A=none∧cap=0)∨∃b arr e fz,c.wO i=some b∧A=some ⟨b,c.off i,none⟩∧w.heap[b]? = some (Obj.cells arr e fz)∧c.off i+cap*T.sz≤arr.size)) (lo hi:Nat) (h1:lo≤hi) (h2:hi≤n) :
  dx w h c (.xx i sz lo (hi - lo)) (.slice (if cap=lo then A else A.map (·.add (lo*sz))) (hi - lo) (cap - lo)):=by
 refine .xx hu (by omega) ⟨_,_,rfl,⟨by omega,by omega,fun hp => ?_⟩,fun T l he hz hq => ?_⟩
 ·obtain ⟨a,ha⟩:=hA (by omega);rw[if_neg (by omega),ha];exact ⟨_,rfl⟩
 ·obtain ⟨g1,_,_,g4⟩:=hv T l he;refine ⟨by omega,fun jz => ?_⟩;rcases g4 with ⟨_,_,g⟩|⟨b,arr,e,fz,k1,k2,k3,k4⟩
  ·omega
  ·subst hz;refine ⟨b,arr,e,fz,k1,?_,k3,?_⟩
   ·rw[if_neg (by omega),k2];simp[sV]
   ·rw[show lo+(cap - lo)=cap by omega]; exact k4
theorem slice_sound (T:CU P tt) {t:Nat} {a:V} {a':Value} (ra:dx w h c a a') {ρ:Operand→V} {ρ':Operand→Value} (hρ:∀x,dx w h c (ρ x) (ρ' x)) (lo hi:Option Operand)
  {k:V→Option R} {r:R}
  (hk:(match (generalizing:=false) (tt.at t).d,a with
    | .string, .str s =>
     K5 (hi.map ρ) s.length fun h=>K5 (lo.map ρ) 0 fun l =>
     bX (decide (0≤h)&&decide (h≤s.length)) (bX (decide (0≤l)&&decide (l≤h)) (k (.str ((s.drop l.toNat).take (h.toNat - l.toNat)))))
    | .slice e, .sl T s _ =>
     if T.sz=(tt.at e).size&&tt.ok e then
     K5 (lo.map ρ) 0 fun l =>
     (match (generalizing:=false) hi with
     | none=>bX (decide (0≤l)&&decide (l≤s.length)) (k (.sl T (s.drop l.toNat) .no))
     | some hi =>
      K5 (some (ρ hi)) 0 fun h =>
      bX (decide (0≤h)&&decide (h≤s.length)) (bX (decide (0≤l)&&decide (l≤h)) (k (.sl T ((s.drop l.toNat).take (h.toNat - l.toNat)) .no))))
     else none
    | .slice e, .bB =>
     if !tt.ok e then none else
     K5 (hi.map ρ) 0 fun h=>K5 (lo.map ρ) 0 fun l=>bX (decide (h=0)&&decide (l=0)) (k .bB)
    | .slice e, .row i n =>
     if !tt.ok e then none else
     K5 (hi.map ρ) n fun h=>K5 (lo.map ρ) 0 fun l=>bX (decide (0≤h)&&decide (h≤n)) (bX (decide (0≤l)&&decide (l≤h)) (k (.xx i (tt.at e).size l.toNat (h.toNat - l.toNat))))
    | _,_=>none)=some r):qC P w h c (Instr.sliceAt t a' (lo.map ρ') (hi.map ρ') none) k r:=by
 split at hk
 ·have hd := ‹(tt.at t).d = .string›;have ra := ‹dx w h c (.str _) a'›;have hu:P.underlying t=some .string:=ez T hd;obtain ⟨hh,hk,hhi⟩:=B8 (Np hρ hi) hk;obtain ⟨l,hk,hlo⟩:=B8 (Np hρ lo) hk;obtain ⟨hb,hk⟩:=bY hk;obtain ⟨pX,hk⟩:=bY hk;simp only[Bool.and_eq_true,decide_eq_true_eq]at hb pX;obtain ⟨t',rfl,rfl,uP⟩:=ra.gS;rw[size_data]at hb hhi;have nG:=vI (P:=P) (w:=w) false t'.size t'.size (lo.map ρ') (hi.map ρ') l hh hlo hhi pX.1 pX.2 hb.2;refine ⟨_, .string (t'.extract l.toNat hh.toNat),?_,HG _ slice_str ?_,hk⟩
  ·simp[Instr.sliceAt,Instr.slice,run_underlying hu,nG]
  ·simp; omega
 ·have hd := ‹(tt.at t).d = .slice _›;have ra := ‹dx w h c (.sl _ _ _) a'›;rename_i s _ _ _;split at hk
  ·rename_i sC;simp only[Bool.and_eq_true,decide_eq_true_eq]at sC;obtain ⟨rV,sR⟩:=sC;have hu:=ez T hd;simp only[TD.Is]at hu;have hs:=T.sizeOf (w:=w) sR;obtain ⟨A,cap,rfl,jd,uP⟩:=GN ra;obtain ⟨l,hk,hlo⟩:=B8 (Np hρ lo) hk;cases hi with
   | none =>
    obtain ⟨hb,hk⟩:=bY hk;simp only[Bool.and_eq_true,decide_eq_true_eq]at hb;have nG:=vI (P:=P) (w:=w) true s.length cap (lo.map ρ') none l s.length hlo (.inl ⟨rfl,rfl⟩) hb.1 hb.2 (by omega);have hc:=cut_rep ra l.toNat s.length (by omega) (Nat.le_refl _);rw[List.take_of_length_le (by simp)]at hc;refine ⟨_,_,?_,hc,hk⟩;simp[Instr.sliceAt,Instr.slice,run_underlying hu,nG,hs,←rV]
   | some hi =>
    obtain ⟨hh,hk,hhi⟩:=B8 (v':=some (ρ' hi)) (hρ hi) hk;obtain ⟨hb,hk⟩:=bY hk;obtain ⟨pX,hk⟩:=bY hk;simp only[Bool.and_eq_true,decide_eq_true_eq]at hb pX;have nG:=vI (P:=P) (w:=w) true s.length cap (lo.map ρ') (some (ρ' hi)) l hh hlo (hhi.imp (fun x=>by cases x.1) id) pX.1 pX.2 (by omega);have hc:=cut_rep ra l.toNat hh.toNat (by omega) (by omega);refine ⟨_,_,?_,hc,hk⟩;simp[Instr.sliceAt,Instr.slice,run_underlying hu,nG,hs,←rV]
  ·cases hk
 ·have hd := ‹(tt.at t).d = .slice _›;have ra := ‹dx w h c .bB a'›;split at hk
  ·cases hk
  ·rename_i sR;simp at sR;have hu:=ez T hd;simp only[TD.Is]at hu;have hs:=T.sizeOf (w:=w) sR;obtain ⟨hh,hk,hhi⟩:=B8 (Np hρ hi) hk;obtain ⟨l,hk,hlo⟩:=B8 (Np hρ lo) hk;obtain ⟨hb,hk⟩:=bY hk;simp only[Bool.and_eq_true,decide_eq_true_eq]at hb;obtain ⟨rfl,rfl⟩:=hb;have nG:=vI (P:=P) (w:=w) true 0 0 (lo.map ρ') (hi.map ρ') 0 0 hlo hhi (by omega) (by omega) (by omega);cases ra;refine ⟨_, .slice none 0 0,?_, .bB,hk⟩;simp[Instr.sliceAt,Instr.slice,run_underlying hu,nG,hs]
 ·have hd := ‹(tt.at t).d = .slice _›;have ra := ‹dx w h c (.row _ _) a'›;split at hk
  ·cases hk
  ·rename_i sR;simp at sR;have hu:=ez T hd;simp only[TD.Is]at hu;have hs:=T.sizeOf (w:=w) sR;obtain ⟨hh,hk,hhi⟩:=B8 (Np hρ hi) hk;obtain ⟨l,hk,hlo⟩:=B8 (Np hρ lo) hk;obtain ⟨hb,hk⟩:=bY hk;obtain ⟨pX,hk⟩:=bY hk;simp only[Bool.and_eq_true,decide_eq_true_eq]at hb pX;cases ra with
   | row hu' hn hv =>
    obtain ⟨A,cap,rfl,⟨jd,uP,hA⟩,hv⟩:=hv;have nG:=vI (P:=P) (w:=w) true _ cap (lo.map ρ') (hi.map ρ') l hh hlo hhi pX.1 pX.2 (by omega);refine ⟨_,_,?_,view_rep hu' hn jd uP hA hv l.toNat hh.toNat (by omega) (by omega),hk⟩;simp[Instr.sliceAt,Instr.slice,run_underlying hu,nG,hs]
 ·cases hk
end
section
variable {P:Program} {tt:dn} {w:World} {h:aN} {c:j8} {R:Type}
theorem qv {s:Sem Value} {k:V→Option R} {r:R} (hm:qC P w h c s k r) :
  ∃v v',((do pure (Next.value (←s))):Sem Next).run P w = .ok (.value v') w∧dx w h c v v'∧k v=some r:=by
 obtain ⟨v,v',h1,h2,h3⟩:=hm;exact ⟨v,v',by simp[h1],h2,h3⟩
theorem binOp_sound (T:CU P tt) {op:BinOp} {t:Nat} (x y:Operand) {a b:V} {a' b':Value} (ra:dx w h c a a') (rb:dx w h c b b') {k:V→Option R} {r:R}
  (hk:(match (generalizing:=false) a,b with
  | .agg a, .agg b=>if eqOk (tt.at t) a b then Eu op (.agg a) (.agg b) k else none
  | .bool a, .bool b=>(match (generalizing:=false) (tt.at t).d with | .bool=>Eu op (.bool a) (.bool b) k|_=>none)
  | .int i a, .int j b=>Eu op (.int i a) (.int j b) k
  | .str a, .str b=>Eu op (.str a) (.str b) k
  | a,b=>(match (generalizing:=false) (tt.at t).d with | .ptr _=>ptrK op a b k | .slice _=>slK op a b k | .iface=>ifK op y a b k|_=>none))=some r) :
  qC P w h c (do eqGuard op t x y a' b'; binOp op t a' b') k r:=by
 split at hk
 ·have ra := ‹dx w h c (.agg _) a'›;have rb := ‹dx w h c (.agg _) b'›;split at hk
  ·rename_i heq;cases ra with
   | @agg _ u hl hr =>
    cases rb with
    | @agg _ v hl' hr' =>
     exact binK_agg T heq ⟨by rw[hl,Array.length_toList],fun j v d hv hd=>hr j v d hv (by simpa using hd)⟩
      ⟨by rw[hl',Array.length_toList],fun j v d hv hd=>hr' j v d hv (by simpa using hd)⟩ x y hk
  ·cases hk
 ·have ra := ‹dx w h c (.bool _) a'›;have rb := ‹dx w h c (.bool _) b'›;split at hk
  ·rename_i hd;rw[ra.L3,rb.L3];exact binK_bool T hd x y hk
  ·cases hk
 ·have ra := ‹dx w h c (.int _ _) a'›;have rb := ‹dx w h c (.int _ _) b'›;rename_i i m j n _ _;have e1:=ra.fA;have e2:=rb.fA;rw[e1.1,e2.1];exact binK_int e2.2 t x y hk e1.2
 ·have ra := ‹dx w h c (.str _) a'›;have rb := ‹dx w h c (.str _) b'›;obtain ⟨s,rfl,rfl,_⟩:=ra.gS;obtain ⟨u,rfl,rfl,_⟩:=rb.gS;exact binK_str t x y hk
 ·split at hk
  ·rename_i hd;exact ptrK_sound T hd ra rb x y hk
  ·rename_i hd;exact slK_sound T hd ra rb x y hk
  ·rename_i hd;exact ifK_sound T hd ra rb x y hk
  ·cases hk
theorem convert_sound (T:CU P tt) {s d:Nat} {a:V} {a':Value} (ra:dx w h c a a') {k:V→Option R} {r:R}
  (hk:(match (generalizing:=false) (tt.at d).d,a with
  | .int i, .int _ n=>k (.int i (i.wrap n))
  | .string, .str t=>(match (generalizing:=false) (tt.at s).d with | .string=>k (.str t)|_=>none)
  | _,_=>none)=some r)
  (hs:tt.ok s=true):qC P w h c (convert s d a') k r:=by
 split at hk
 ·have hd := ‹(tt.at d).d = .int _›;have ra := ‹dx w h c (.int _ _) a'›;have hu:=ez T hd;simp only[TD.Is]at hu;obtain ⟨rfl,_⟩:=ra.fA;have hsu:=T.und s;refine ⟨_,_,?_, .int (has_wrap _ _),hk⟩;unfold dn.ok at hs;cases hd':(tt.at s).d <;> rw[hd']at hsu hs <;> simp only[TD.Is]at hsu
  case struct fs=>obtain ⟨F,hF,_⟩:=hsu; simp[convert,run_underlying hu,run_underlying hF,Conv.intToInt]
  case func=>obtain ⟨x,y,z,hF⟩:=hsu; simp[convert,run_underlying hu,run_underlying hF,Conv.intToInt]
  case iface=>obtain ⟨x,hF⟩:=hsu; simp[convert,run_underlying hu,run_underlying hF,Conv.intToInt]
  case other=>cases hs
  all_goals simp[convert,run_underlying hu,run_underlying hsu,Conv.intToInt]
 ·have hd := ‹(tt.at d).d = .string›;have ra := ‹dx w h c (.str _) a'›;have hu:=ez T hd;simp only[TD.Is]at hu;split at hk
  ·have hd2 := ‹(tt.at s).d = .string›;have hu2:=ez T hd2;simp only[TD.Is]at hu2;have ra':=ra;obtain ⟨t,rfl,rfl,hl⟩:=ra.gS;exact ⟨_,_,by simp[convert,run_underlying hu,run_underlying hu2],ra',hk⟩
  ·cases hk
 ·cases hk
theorem len_sound (T:CU P tt) {t:Nat} {o:Nat} {a:V} {a':Value} (ra:dx w h c a a') {k:V→Option R} {r:R}
  (hk:(match (generalizing:=false) (tt.at t).d,a with
     | .string, .str s=>k (.int .i64 s.length)
     | .slice _, .sl _ l _=>k (.int .i64 l.length)
     | .slice _, .YZ n _=>k (.int .i64 n)
     | .slice _, .row _ n=>k (.int .i64 n)
     | .slice _, .bB=>k (.int .i64 0)
     | _,_=>none)=some r):qC P w h c (Builtin.len_ #[t] o #[a']) k r:=by
 have key:∀(e:TypeId) (A:Option Addr) (n m:Nat),P.underlying t=some (.slice e)→(Builtin.len_ #[t] o #[.slice A n m]).run P w = .ok (.int .i64 n) w:=by
  intro e A n m hu; simp[Builtin.len_,run_underlying hu,goInt]
 split at hk
 ·have hu:P.underlying t=some .string:=ez T ‹(tt.at t).d = .string›;have ra := ‹dx w h c (.str _) a'›;obtain ⟨s,rfl,rfl,hl⟩:=ra.gS;refine ⟨_, .int .i64 s.size,by simp[Builtin.len_,run_underlying hu,goInt],?_,hk⟩;rw[size_data]; exact .int (Nj _ hl)
 ·have hu:=ez T ‹(tt.at t).d = .slice _›;simp only[TD.Is]at hu;have ra := ‹dx w h c (.sl _ _ _) a'›;obtain ⟨A,cap,rfl,h1,h2⟩:=GN ra;exact ⟨_,_,key _ _ _ _ hu, .int (Nj _ (by omega)),hk⟩
 ·have hu:=ez T ‹(tt.at t).d = .slice _›;simp only[TD.Is]at hu;have ra := ‹dx w h c (.YZ _ _) a'›;cases ra with
  | YZ hn uP f hc hr=>exact ⟨_,_,key _ _ _ _ hu, .int (Nj _ uP),hk⟩
 ·have hu:=ez T ‹(tt.at t).d = .slice _›;simp only[TD.Is]at hu;have ra := ‹dx w h c (.row _ _) a'›;cases ra with
  | row hi hn hv =>
   obtain ⟨A,cap,rfl,_,_⟩:=hv;exact ⟨_,_,key _ _ _ _ hu, .int (Nj _ hn),hk⟩
 ·have hu:=ez T ‹(tt.at t).d = .slice _›;simp only[TD.Is]at hu;have ra := ‹dx w h c .bB a'›;cases ra;exact ⟨_,_,key _ _ 0 0 hu, .int (Nj 0 (by unfold mx; omega)),hk⟩
 ·cases hk
theorem mapM_places (T:CU P tt) (F:Array Field) (sR:∀f∈F.toList,tt.ok f.type=true) :
  (F.mapM (m:=Sem) fun f=>do pure (f.offset,←Go.sizeOf f.type)).run P w = .ok (F.map fun f=>(f.offset,(tt.at f.type).size)) w:=by
 rw[Array.mapM_eq_mapM_toList];have key:∀l:List Field,(∀f∈l,tt.ok f.type=true)→(l.mapM (m:=Sem) fun f=>do pure (f.offset,←Go.sizeOf f.type)).run P w = .ok (l.map fun f=>(f.offset,(tt.at f.type).size)) w:=by
  intro l
  induction l with
  | nil=>intro _; simp
  | cons f l ih =>
   intro h;have hs:=T.sizeOf (w:=w) (h f (by simp));have:=ih fun g hg=>h g (by simp[hg])
   simp only[List.mapM_cons,Sem.run_bind,hs,Result.andThen_ok,Sem.run_pure,this,List.map_cons]
 simp only[Sem.run_map,key _ sR,Result.andThen_ok];congr 1;apply Array.ext';simp
theorem mem_fs {fs:List (Nat×Nat)} {F:Array Field} (e:F.toList.map (fun f=>(f.offset,f.type))=fs) (uQ:fs.all (fun f=>tt.ok f.2)=true):∀f∈F.toList,tt.ok f.type=true:=by
 intro f hf;have:(f.offset,f.type)∈fs:=by rw[←e]; exact List.mem_map.2 ⟨f,hf,rfl⟩
 exact List.all_eq_true.1 uQ _ this
theorem zeroLen (T:CU P tt) {t:Nat} (h:tt.ok t=true):(tt.at t).zero.length=(tt.at t).size:=by
 obtain ⟨z,_,h2,h3⟩:=T.zero (w:=default) h;have:=(h3 default [] ⟨fun _=>none,fun _=>0,⟨fun _ _=>False⟩⟩).1;simp at this; omega
theorem parts_map {ρ:Operand→V} {ρ':Operand→Value} (hρ:∀x,dx w h c (ρ x) (ρ' x)) (parts:List (Nat×Operand)) :
  (parts.map fun p=>(p.1,ρ p.2)).map Prod.fst=(parts.map fun p=>(p.1,ρ' p.2)).map Prod.fst ∧
  cz w h c ((parts.map fun p=>(p.1,ρ p.2)).map Prod.snd) ((parts.map fun p=>(p.1,ρ' p.2)).map Prod.snd):=by
 refine ⟨by simp[Function.comp_def],?_⟩;simp only[List.map_map];exact cz.map parts fun p _=>hρ p.2
theorem build_sound (T:CU P tt) {t:Nat} {parts:Array (Nat×Operand)} {ρ:Operand→V} {ρ':Operand→Value} (hρ:∀x,dx w h c (ρ x) (ρ' x)) {k:V→Option R} {r:R}
  (hk:(match (generalizing:=false) (tt.at t).d with
  | .struct fs =>
   if !fs.all (fun f=>tt.ok f.2) || !tt.ok t||decide (1000000≤(tt.at t).zero.length)then none else
   (match (generalizing:=false) SQ (tt.at t).zero (parts.toList.map fun (i,x)=>((fs.getD i (0,0)).1,if i<fs.length then (tt.at (fs.getD i (0,0)).2).size else 1000000,ρ x))with
    | some cs=>k (.agg cs)|none=>none)
  | .arr _ e =>
   if !tt.ok e || !tt.ok t||decide (1000000≤(tt.at t).zero.length)then none else
   (match (generalizing:=false) SQ (tt.at t).zero (parts.toList.map fun (i,x)=>(i*(tt.at e).size,(tt.at e).size,ρ x))with
    | some cs=>k (.agg cs)|none=>none)
  | _=>none)=some r):qC P w h c (Instr.build t (parts.map fun (i,x)=>(i,ρ' x))) k r:=by
 have Nr:=parts_map hρ parts.toList;split at hk
 ·rename_i fs hd;split at hk
  ·cases hk
  ·rename_i SU;simp only[Bool.or_eq_true,Bool.not_eq_true',decide_eq_true_eq,not_or,Bool.not_eq_false,Nat.not_le]at SU;obtain ⟨⟨uQ,sR⟩,hsm⟩:=SU;obtain ⟨F,hu,he⟩:=ez T hd;obtain ⟨z,hz,hzs,hzr⟩:=T.zero (w:=w) sR;split at hk
   ·rename_i cs hf;have hplaces:=mapM_places (w:=w) T F (mem_fs he uQ);have hl:=zeroLen T sR;obtain ⟨W6,h1,h2,h3⟩:=Nl (w:=w) (h:=h) (c:=c) (fun i=>(F.map fun f=>(f.offset,(tt.at f.type).size))[i]?) (parts.toList.map fun p=>(p.1,ρ p.2)) (parts.toList.map fun p=>(p.1,ρ' p.2))
     (tt.at t).zero z.cells cs Nr.1 Nr.2 (hzr w h c) (by
      rw[←hf,List.map_map];congr 1;apply List.map_congr_left;intro p _;obtain ⟨i,x⟩:=p;subst he;simp only[Function.comp,List.length_map,Array.length_toList,Array.getElem?_map];by_cases hi:i<F.size
      ·simp[hi,List.getD]
      ·simp[hi,List.getD]) (by omega)
    have h2':dx w h c (.agg cs) (.agg W6) := .agg (by have:=h2.1; simpa using this) (fun j v d hv hd=>h2.2 j v d hv (by simpa using hd));refine ⟨.agg cs, .agg W6,?_,h2',hk⟩;simp only[Instr.build,Sem.run_bind,hz,Result.andThen_ok,run_underlying hu,hplaces,Array.toList_map];rw[h1];rfl
   ·cases hk
 ·rename_i n e hd;split at hk
  ·cases hk
  ·rename_i SU;simp only[Bool.or_eq_true,Bool.not_eq_true',decide_eq_true_eq,not_or,Bool.not_eq_false,Nat.not_le]at SU;obtain ⟨⟨hoke,sR⟩,hsm⟩:=SU;have hu:=ez T hd;simp only[TD.Is]at hu;obtain ⟨z,hz,hzs,hzr⟩:=T.zero (w:=w) sR;have hse:=T.sizeOf (w:=w) hoke;split at hk
   ·rename_i cs hf;have hl:=zeroLen T sR;obtain ⟨W6,h1,h2,h3⟩:=Nl (w:=w) (h:=h) (c:=c) (fun i=>some (i*(tt.at e).size,(tt.at e).size)) (parts.toList.map fun p=>(p.1,ρ p.2)) (parts.toList.map fun p=>(p.1,ρ' p.2))
     (tt.at t).zero z.cells cs Nr.1 Nr.2 (hzr w h c) (by
      rw[←hf,List.map_map];congr 1) (by omega)
    have h2':dx w h c (.agg cs) (.agg W6) := .agg (by have:=h2.1; simpa using this) (fun j v d hv hd=>h2.2 j v d hv (by simpa using hd));refine ⟨.agg cs, .agg W6,?_,h2',hk⟩;simp[Instr.build,hz,run_underlying hu,hse,h1]
   ·cases hk
 ·cases hk
end
section
variable {P:Program} {tt:dn} {w:World} {h:aN} {c:j8} {R:Type}
theorem repl_map {ρ:Operand→V} {ρ':Operand→Value} (hρ:∀x,dx w h c (ρ x) (ρ' x)) (l:List Operand):cz w h c (l.map ρ) (l.map ρ'):=cz.map l fun x _=>hρ x
theorem repl_arr {ρ:Operand→V} {ρ':Operand→Value} (hρ:∀x,dx w h c (ρ x) (ρ' x)) (l:Array Operand) :
  (l.toList.map ρ).length=(l.map ρ').size∧∀(j:Nat) (v:V) (d:Value),(l.toList.map ρ)[j]? = some v→(l.map ρ')[j]? = some d→dx w h c v d:=by
 have:=repl_map hρ l.toList;exact ⟨by simp,fun j v d hv hd=>this.2 j v d hv (by simpa using hd)⟩
theorem min_sound {ts:Array TypeId} {o:Nat} {x y:V} {x' y':Value} (rx:dx w h c x x') (ry:dx w h c y y') {k:V→Option R} {r:R}
  (hk:(match (generalizing:=false) x,y with | .int i a, .int j b=>if i=j then k (.int i (min a b))else none|_,_=>none)=some r):qC P w h c (Builtin.min_ ts o #[x',y']) k r:=by
 split at hk
 ·rename_i i a j b';split at hk
  ·rename_i B7;subst B7;obtain ⟨rfl,ha⟩:=rx.fA;obtain ⟨rfl,hb⟩:=ry.fA;refine ⟨_, .int i (min a b'),?_, .int (by unfold IntKind.has at *; omega),hk⟩;rw[run_min_int2];congr 2;split <;> omega
  ·cases hk
 ·cases hk
theorem max_sound {ts:Array TypeId} {o:Nat} {x y:V} {x' y':Value} (rx:dx w h c x x') (ry:dx w h c y y') {k:V→Option R} {r:R}
  (hk:(match (generalizing:=false) x,y with | .int i a, .int j b=>if i=j then k (.int i (max a b))else none|_,_=>none)=some r):qC P w h c (Builtin.max_ ts o #[x',y']) k r:=by
 split at hk
 ·rename_i i a j b';split at hk
  ·rename_i B7;subst B7;obtain ⟨rfl,ha⟩:=rx.fA;obtain ⟨rfl,hb⟩:=ry.fA;refine ⟨_, .int i (max a b'),?_, .int (by unfold IntKind.has at *; omega),hk⟩;rw[run_max_int2];congr 2;split <;> omega
  ·cases hk
 ·cases hk
theorem opP_sound (T:CU P tt) {o:Oper} {ρ:Operand→V} {ρ':Operand→Value} (hρ:∀x,dx w h c (ρ x) (ρ' x)) {k:V→Option R} {r:R}
  (hk:opP tt o.op ρ k=some r):∃v v',(execOp ρ' o).run P w = .ok (.value v') w∧dx w h c v v'∧k v=some r:=by
 obtain ⟨dst,op,type,pos,after,guard⟩:=o;cases op <;> simp only[opP]at hk <;> (try cases hk)
 case move x=>exact ⟨_,_,by simp[execOp],hρ x,hk⟩
 case assign x=>exact ⟨_,_,by simp[execOp],hρ x,hk⟩
 case pick cc a b =>
  have rc:=hρ cc;have ra:=hρ a;have rb:=hρ b;split at hk
  ·rename_i t ht;rw[ht]at rc;have ec:=rc.L3;have run:(execOp ρ' ⟨dst, .pick cc a b,type,pos,after,guard⟩).run P w = .ok (.value (if t then ρ' a else ρ' b)) w:=by
    simp[execOp,ec,asBool]
   split at hk
   ·rename_i u v hu hv;rw[hu]at ra; rw[hv]at rb;refine ⟨_,_,run,?_,hk⟩;rw[ra.L3,rb.L3];cases t <;> exact .bool _
   ·cases t
    ·exact ⟨_,_,run,rb,hk⟩
    ·exact ⟨_,_,run,ra,hk⟩
  ·cases hk
 case nilCheck x =>
  have rx:=hρ x;split at hk <;> (try cases hk)
  ·rename_i i o hx;rw[hx]at rx;have rx':=rx;cases rx with
   | ptr hi hv=>obtain ⟨b,hv,_⟩:=hv; exact ⟨_,ρ' x,by simp[execOp,hv],rx',hk⟩
  ·rename_i cs hx;rw[hx]at rx;have rx':=rx;generalize hy:ρ' x=y at rx;cases rx with
   | Br f hc hr=>exact ⟨_,ρ' x,by simp[execOp,hy],rx',hk⟩
  ·rename_i i n j o hx;rw[hx]at rx;have rx':=rx;cases rx with
   | yq hi hv=>obtain ⟨b,hv,_⟩:=hv; exact ⟨_,ρ' x,by simp[execOp,hv],rx',hk⟩
  ·rename_i f a b hx;rw[hx]at rx;have rx':=rx;generalize hy:ρ' x=y at rx;cases rx with
   | func ha hb hra hrb=>exact ⟨_,ρ' x,by simp[execOp,hy],rx',hk⟩
 case binOp op t x y ty =>
  exact qv (binOp_sound T x y (hρ x) (hρ y) hk)
 case unOp op t x =>
  have rx:=hρ x;split at hk <;> (try cases hk)
  ·rename_i i n hx;rw[hx]at rx;exact ⟨_, .int i (i.wrap (0 - n)),by simp[execOp,Op.unary,rx.fA.1,Op.intArith], .int (has_wrap _ _),hk⟩
  ·rename_i b hx;rw[hx]at rx;exact ⟨_,_,by simp[execOp,Op.unary,rx.L3], .bool _,hk⟩
 case convert s d x =>
  split at hk
  ·cases hk
  ·rename_i hs;exact qv (convert_sound T (hρ x) hk (by simpa using hs))
 case makeInterface t x =>
  have rx:=hρ x;split at hk <;> (try cases hk);rename_i k0 i n hd hx;rw[hx]at rx;have hu:=ez T hd;simp only[TD.Is]at hu;exact ⟨_, .iface t (.int i n),by simp[execOp,Instr.makeInterface,run_underlying hu,rx.fA.1], .TA rx.fA.2,hk⟩
 case fieldAddr s x f=>exact qv (Y2 T (hρ x) hk)
 case field s x f=>exact qv (field_sound T (hρ x) hk)
 case indexAddr t x i=>exact qv (Y1 T (hρ x) (hρ i) hk)
 case index t x i=>exact qv (index_sound T (hρ x) (hρ i) hk)
 case slice t x lo hi mx =>
  split at hk
  ·cases hk
  ·exact qv (slice_sound T (hρ x) hρ lo hi hk)
 case makeFunc fn first cap =>
  cases fn <;> simp only at hk <;> (try cases hk);rename_i f;obtain ⟨l1,r1⟩:=repl_arr hρ first
  obtain ⟨l2,r2⟩:=repl_arr hρ cap;exact ⟨_, .func (.func f) (first.map ρ') (cap.map ρ'),by simp[execOp,Instr.makeFunc], .func l1 l2 r1 r2,hk⟩
 case extract t i =>
  have rt:=hρ t;split at hk <;> (try cases hk);rename_i vs ht;rw[ht]at rt;split at hk
  ·rename_i v hv;generalize hy:ρ' t=y at rt;cases rt with
   | @tuple _ x hl hr =>
    have jz:i<vs.length:=(List.getElem?_eq_some_iff.1 hv).1;have hx:x[i]? = some (x[i]'(by omega)):=Array.getElem?_eq_getElem (by omega);exact ⟨v,_,by simp[execOp,hy,Instr.extract,hx],hr i v _ hv hx,hk⟩
  ·cases hk
 case build t parts=>exact qv (build_sound T hρ hk)
 case call cl =>
  obtain ⟨callee,args,argTypes⟩:=cl;simp only at hk;split at hk <;> (try cases hk)
  ·rename_i x ha;obtain rfl:args = #[x]:=by cases args; simp_all
   split at hk <;> (try cases hk);rename_i t ht;obtain rfl:argTypes = #[t]:=by cases argTypes; simp_all
   have:=qv (len_sound (P:=P) (o:=type) T (hρ x) hk);simpa [execOp,resolve,invoke,builtin]using this
  ·rename_i x y ha;obtain rfl:args = #[x,y]:=by cases args; simp_all
   have:=qv (min_sound (P:=P) (ts:=argTypes) (o:=type) (hρ x) (hρ y) hk);simpa [execOp,resolve,invoke,builtin]using this
  ·rename_i x y ha;obtain rfl:args = #[x,y]:=by cases args; simp_all
   have:=qv (max_sound (P:=P) (ts:=argTypes) (o:=type) (hρ x) (hρ y) hk);simpa [execOp,resolve,invoke,builtin]using this
end
end Go.aA
namespace Go.aA
open Go.RowKit Go.MapKept
section
variable {P:Program} {tt:dn} {w w':World} {h:aN} {c:j8} {R:Type}
def Ve (K T:Ty) (k:K.den):List (K.den×T.den)→List MapEntry→Nat→Option (Nat×Value)
 | x::l,e::es,i=>if EK K k x.1 then some (i,e.val)else Ve K T k l es (i+1)
 | _,_,_=>none
theorem W7 {K T:Ty} {k:K.den}:∀(l:List (K.den×T.den)) (es:List MapEntry) (i:Nat),es.length=l.length →
  (Ve K T k l es i=none∧Nb K T k l=false∧mO K T k l=T.aR∧∀v,CV K T k v l=l ++ [(k,v)]) ∨
  ∃j x e,Ve K T k l es i=some (i+j,e.val)∧l[j]? = some x∧es[j]? = some e∧EK K k x.1=true∧Nb K T k l=true∧mO K T k l=x.2∧∀v,CV K T k v l=l.set j (k,v)
 | [], [],_,_ => .inl ⟨rfl,rfl,rfl,fun _=>rfl⟩
 | [],_::_,_,hl=>by cases hl
 | _::_, [],_,hl=>by cases hl
 | x::l,e::es,i,hl=>by
  cases hk:EK K k x.1 with
  | true=>exact .inr ⟨0,x,e,by simp[Ve,hk],rfl,rfl,hk,by simp[Nb,hk],by simp[mO,hk],fun v=>by simp[CV,hk]⟩
  | false =>
   rcases W7 (T:=T) (k:=k) l es (i+1) (by simpa using hl)with ⟨h1,h2,h3,h4⟩|⟨j,y,f,h1,h2,h3,h4,h5,h6,h7⟩
   ·exact .inl ⟨by simp[Ve,hk,h1],by simp[Nb,hk,h2],by simp[mO,hk,h3],fun v=>by simp[CV,hk,h4 v]⟩
   ·exact .inr ⟨j+1,y,f,by simp[Ve,hk,h1]; omega,by simpa using h2,by simpa using h3,h4,by simp[Nb,hk,h5],by simp[mO,hk,h6],fun v=>by simp[CV,hk,h7 v]⟩
theorem key_str {kx:ae} {d:Value} (r:dx w h c (elV .str kx) d):∃s,d = .string s∧s.data.toList=kx:=by
 obtain ⟨s,h1,h2,_⟩:=dx.gS (s:=kx) r;exact ⟨s,h1,h2⟩
theorem key_int {k:IntKind} {n:Int} {d:Value} (r:dx w h c (elV (.int k) n) d):d = .int k n:=(dx.fA (n:=n) r).1
theorem beq_bytes {a b:ByteArray}:(a==b)=(a.data.toList==b.data.toList):=by
 rw[Bool.eq_iff_iff];rw[bytes_beq];simp only[beq_iff_eq];exact ⟨fun e=>by rw[e],fun e=>uX e⟩
theorem Vf {kt:Nat} (T:CU P tt) {K:Ty} (hk:CW tt kt K=true) {kx ky:K.den} {d e:Value} (rk:dx w h c (elV K kx) d) (re:dx w h c (elV K ky) e) :
  ∃u,P.underlying kt=some u∧IsKey u d∧IsKey u e∧Instr.sameNow u d e=some (EK K kx ky)∧(EK K kx ky=true→e=d):=by
 unfold CW at hk;split at hk
 ·split at hk
  ·rename_i hd;have hu:P.underlying kt=some .string:=ez T hd;obtain ⟨s,rfl,hs⟩:=key_str rk;obtain ⟨t,rfl,ht⟩:=key_str re;subst hs; subst ht;refine ⟨_,hu,by simp[IsKey],by simp[IsKey],?_,fun he => ?_⟩
   ·simp only[Instr.sameNow,EK,beq_bytes]
   ·have:s.data.toList=t.data.toList:=by simpa [EK]using he
    rw[uX this]
  ·cases hk
 ·rename_i k;split at hk
  ·rename_i k' hd;have e:k'=k:=by simpa using hk
   subst e;have hu:P.underlying kt=some (.int k'):=ez T hd;have e1:=key_int rk;have e2:=key_int re;subst e1; subst e2;refine ⟨_,hu,by simp[IsKey],by simp[IsKey],?_,fun he => ?_⟩
   ·simp[Instr.sameNow,EK]
   ·have h' : @BEq.beq Int _ kx ky=true:=he;have:kx=ky := @eq_of_beq Int _ _ kx ky h';rw[this]
  ·cases hk
 ·cases hk
theorem find_run {kt:Nat} (T:CU P tt) {K V':Ty} (hk:CW tt kt K=true) {kx:K.den} {d:Value} (rk:dx w h c (elV K kx) d) {u:TypeDesc} (hu:P.underlying kt=some u) :
  ∀(l:List (K.den×V'.den)) (es:List MapEntry) (i:Nat),es.length=l.length→(∀(j:Nat) (x:K.den×V'.den) (e:MapEntry),l[j]? = some x→es[j]? = some e→dx w h c (elV K x.1) e.key) →
   Instr.findNow u d es i=some (Ve K V' kx l es i)
 | [], [],_,_,_=>rfl
 | [],_::_,_,hl,_=>by cases hl
 | _::_, [],_,hl,_=>by cases hl
 | x::l,e::es,i,hl,hr=>by
  obtain ⟨u',hu',_,_,hs,_⟩:=Vf T hk rk (hr 0 x e rfl rfl);rw[hu]at hu'; cases hu';have ih:=find_run T hk rk hu l es (i+1) (by simpa using hl) fun j y f hy hf=>hr (j+1) y f (by simpa using hy) (by simpa using hf)
  simp only[Instr.findNow,hs];cases hb:EK K kx x.1 with
  | true=>simp[Ve,hb]
  | false=>simp[Ve,hb,ih]
theorem fits_one {kt:Nat} {K:Ty} (hk:CW tt kt K=true):K.one=true∧ZJ K=true:=by
 cases K <;> first|exact ⟨rfl,rfl⟩|(simp[CW]at hk)
theorem elFits_one {kt:Nat} {K:Ty} (hk:GL tt kt K=true):K.one=true:=by
 cases K <;> first|rfl|(simp[GL]at hk)
theorem W8 {k:IntKind} {v:V} {x:Int} (h:uW k [v]=some x):v = .int k x:=by
 unfold uW at h;split at h
 ·rename_i e;simp only[List.cons.injEq,and_true]at e;split at h
  ·rename_i e2; cases h; subst e2; exact e
  ·cases h
 ·cases h
theorem decBool_eq {v:V} {x:Bool} (h:U7 [v]=some x):v = .bool x:=by
 unfold U7 at h;split at h
 ·rename_i e;simp only[List.cons.injEq,and_true]at e;cases h; exact e
 ·cases h
theorem decStr_eq {v:V} {x:ae} (h:aad [v]=some x):v = .str x:=by
 unfold aad at h;split at h
 ·rename_i e;simp only[List.cons.injEq,and_true]at e;cases h; exact e
 ·cases h
theorem elD_eq {K:Ty} {v:V} {x:K.den} (hx:elD K v=some x) (ho:K.one=true):v=elV K x:=by
 have hd:K.dec [v]=some x:=by
  unfold elD at hx;split at hx <;> simp only[ho,cond_true]at hx
  ·cases hx
  ·exact hx
 cases K <;> simp only[Ty.one]at ho <;> (try cases ho)
 ·exact W8 hd
 ·exact decBool_eq hd
 ·exact decStr_eq hd
theorem ok_fits {vt:Nat} {V':Ty} (hv:GL tt vt V'=true):tt.ok vt=true∧tt.isAgg vt=false:=by
 unfold GL at hv;unfold dn.ok dn.isAgg;split at hv
 ·split at hv
  ·rename_i hd _; rw[hd]; exact ⟨rfl,rfl⟩
  ·cases hv
 ·split at hv
  ·rename_i hd _; rw[hd]; exact ⟨rfl,rfl⟩
  ·cases hv
 ·cases hv
theorem one_cells {z:Value} (h:z.oneCell'=true):z.cells.toList = [z]:=by
 cases z <;> simp_all [Value.oneCell',Value.cells]
theorem elFits_zero (T:CU P tt) {vt:Nat} {V':Ty} (hv:GL tt vt V'=true):∃z,(zeroValue vt).run P w = .ok z w∧dx w h c (elV V' V'.aR) z:=by
 obtain ⟨sR,hag⟩:=ok_fits hv;obtain ⟨i,z,hi,hs,hby,hz,hzs,hr⟩:=T.info vt sR;have h1:=T.ones vt sR i z hi hz;rw[hag]at h1;have h3:=hr w h c;rw[one_cells h1]at h3;refine ⟨z,by simp[Go.zeroValue,typeInfo,hi,hz],?_⟩;unfold GL at hv;split at hv
 ·split at hv
  ·rename_i hd hz';rw[hz']at h3;exact h3.head
  ·cases hv
 ·split at hv
  ·rename_i hd hz';have e:_=_:=of_decide_eq_true hv;subst e;rw[hz']at h3;exact h3.head
  ·cases hv
 ·cases hv
theorem lookup_sound (T:CU P tt) (wf:WF w h c) {t kt vt i:Nat} {K V':Ty} {l:List (K.den×V'.den)} (ht:(tt.at t).d = .map kt vt) {m d:Value} (rm:dx w h c (.map i) m) (hm:h.at i = .Bs K V' l)
  (hf:(CW tt kt K&&GL tt vt V')=true) {v:V} (rk:dx w h c v d) {kx:K.den} (hx:elD K v=some kx) (ok:Bool) :
  ∃r,(Instr.lookup t m d ok).run P w = .ok r w∧dx w h c (bif ok then .tuple [elV V' (mO K V' kx l), .bool (Nb K V' kx l)]else elV V' (mO K V' kx l)) r:=by
 simp only[Bool.and_eq_true]at hf;obtain ⟨hf1,hf2⟩:=hf;have hi:i<h.length:=by
  unfold aN.at at hm;rcases Nat.lt_or_ge i (List.length h)with hi|hi
  ·exact hi
  ·simp[List.getD,List.getElem?_eq_none hi]at hm
 have ho:=wf.obj i hi;rw[hm]at ho;obtain ⟨b,es,clock,g1,g2,g3,g4,g5,g6⟩:=ho;cases rm with
 | map hu hv =>
  obtain ⟨b',rfl,pX⟩:=hv;have:=pX (by rw[hm]; simp);rw[g1]at this; cases this;have hut:P.underlying t=some (.map kt vt):=ez T ht;have e:=elD_eq hx (fits_one hf1).1;subst e;have hl:es.toList.length=l.length:=by simpa using g5
  have hr:∀(j:Nat) (x:K.den×V'.den) (e:MapEntry),l[j]? = some x→es.toList[j]? = some e→dx w h c (elV K x.1) e.key:=fun j x e hx he=>(g6 j x e hx (by simpa using he)).1
  obtain ⟨z,hz,rz⟩:=elFits_zero (w:=w) (h:=h) (c:=c) T hf2;have hkey:∃u,P.underlying kt=some u∧IsKey u d:=by
   obtain ⟨u,q1,q2,_⟩:=Vf T hf1 rk rk;exact ⟨u,q1,q2⟩
  obtain ⟨u,hu',hik⟩:=hkey;have Vg:=run_findKey (w:=w) hu' (find_run T hf1 rk hu' l es.toList 0 hl hr);have hchk:=run_checkKey (w:=w) hu' hik es.isEmpty 9999;have Iz:=Go.MapKept.run_getObj_map (P:=P) g2;rcases W7 (K:=K) (T:=V') (k:=kx) l es.toList 0 hl with ⟨h1,h2,h3,_⟩|⟨j,x,e,h1,h2,h3,h4,h5,h6,_⟩
  ·rw[h1]at Vg;rw[h2,h3];refine ⟨if ok then .tuple #[z, .bool false]else z,?_,?_⟩
   ·simp[Instr.lookup,run_underlying hut,Iz,hchk,Vg,hz]
   ·cases ok with
    | true =>
     refine .tuple rfl fun j v d hv hd => ?_
     match j,hv,hd with
     | 0,hv,hd=>simp at hv hd; subst hv; subst hd; exact rz
     | 1,hv,hd=>simp at hv hd; subst hv; subst hd; exact .bool _
     | j+2,hv,_=>simp at hv
    | false=>exact rz
  ·rw[h1]at Vg;rw[h5,h6];have re:=(g6 j x e h2 (by simpa using h3)).2;refine ⟨if ok then .tuple #[e.val, .bool true]else e.val,?_,?_⟩
   ·simp[Instr.lookup,run_underlying hut,Iz,hchk,Vg]
   ·cases ok with
    | true =>
     refine .tuple rfl fun j v d hv hd => ?_
     match j,hv,hd with
     | 0,hv,hd=>simp at hv hd; subst hv; subst hd; exact re
     | 1,hv,hd=>simp at hv hd; subst hv; subst hd; exact .bool _
     | j+2,hv,_=>simp at hv
    | false=>exact re
end
end Go.aA
namespace Go.aA
open Go.RowKit
section
variable {P:Program} {tt:dn} {w:World} {h:aN} {c:j8} {R:Type}
def wP (w:World) (b o:Nat) (ds:List Value):Prop:=∀(j:Nat) (d:Value),ds[j]? = some d→w.cell? ⟨b,o+j,none⟩=some d
theorem FL (T:CU P tt) {t b o off:Nat} {cs:List V} {ds:List Value} (hr:cz w h c cs ds) (hc:wP w b o ds) {k:V→Option R} {r:R} (hk:wN tt t cs off k=some r) :
  qC P w h c (loadVar t ⟨b,o+off,none⟩) k r:=by
 have sR:=partK_ok hk;unfold wN at hk;rw[if_pos sR]at hk;split at hk
 ·rename_i hagg;split at hk
  ·rename_i rV;have hlen:((ds.drop off).take (tt.at t).size).length=(tt.at t).size:=by have:=hr.1; simp; omega
   have Vc:=(hr.drop off).take (tt.at t).size;have K7:=run_loadCells_list (P:=P) w ⟨b,o+off,none⟩ ((ds.drop off).take (tt.at t).size) (fun j v hv=>by
    rw[List.getElem?_take]at hv;split at hv
    ·rw[List.getElem?_drop]at hv;rw[sV,Nat.add_assoc];exact hc _ v hv
    ·cases hv)
   rw[hlen]at K7;refine ⟨_, .agg ((ds.drop off).take (tt.at t).size).toArray,?_, .agg (by have:=Vc.1; simpa using this) (fun j v d hv hd=>Vc.2 j v d hv (by simpa using hd)),hk⟩;simp[loadVar,T.isAgg sR,hagg,T.sizeOf sR,K7]
  ·cases hk
 ·rename_i hagg;split at hk
  ·rename_i v hv;have jz:off<cs.length:=(List.getElem?_eq_some_iff.1 hv).1;have hd:ds[off]? = some (ds[off]'(by have:=hr.1; omega)):=List.getElem?_eq_getElem _;refine ⟨v,_,?_,hr.2 off v _ hv hd,hk⟩;simp[loadVar,T.isAgg sR,hagg,hc off _ hd]
  ·cases hk
theorem aN.gK {i:Nat} {o:cb} (e:h.at i=o) (hl:o ≠ .dead):i<h.length:=by
 unfold aN.at at e;rcases Nat.lt_or_ge i (List.length h)with hi|hi
 ·exact hi
 ·simp[List.getD,List.getElem?_eq_none hi]at e;exact absurd e.symm hl
theorem foldl_push (ns:List Int):∀s:ByteArray,(ns.foldl (fun (r:ByteArray) n=>r.push (UInt8.ofNat n.toNat)) s).data.toList=s.data.toList++ns.map fun n=>UInt8.ofNat n.toNat:=by
 induction ns with
 | nil=>intro s; simp
 | cons n ns ih=>intro s; simp only[List.foldl_cons]; rw[ih]; simp[ByteArray.push]
theorem row_cells (wf:WF w h c) {i:Nat} {T':Ty} {l:List T'.den} (he:h.at i = .row T' l) {j:Nat} (hj:j<l.length) :
  ∃b ds,c.wO i=some b∧wP w b (c.off i+j*T'.sz) ds∧cz w h c (T'.cells l[j]) ds:=by
 have hi:=aN.gK he (by simp);have ho:=wf.obj i hi;rw[he]at ho;rcases ho with ⟨_,rfl⟩|⟨b,arr,e,fz,h1,h2,h3,h4,h5⟩
 ·simp at hj
 ·have hlen:=T'.je l[j];have hm:(j+1)*T'.sz≤l.length*T'.sz:=Nat.mul_le_mul_right _ hj;rw[Nat.add_mul]at hm;refine ⟨b,(arr.toList.drop (c.off i+j*T'.sz)).take T'.sz,h1,fun x d hd => ?_,?_,fun x v d hv hd => ?_⟩
  ·rw[List.getElem?_take]at hd;split at hd
   ·rw[List.getElem?_drop]at hd;rw[cell_of_row w b _ arr e fz h2];simpa using hd
   ·cases hd
  ·rw[hlen]; simp; omega
  ·obtain ⟨d',g1,g2⟩:=h5 j x l[j] v (List.getElem?_eq_getElem hj) hv;rw[List.getElem?_take]at hd;split at hd
   ·rw[List.getElem?_drop]at hd;have:d'=d:=by
     have e1:arr[c.off i+j*T'.sz+x]? = some d:=by simpa using hd
     rw[g1]at e1; exact Option.some.inj e1
    subst this;exact g2
   ·cases hd
theorem getD_eq {T':Ty} {l:List T'.den} {j:Nat} (hj:j<l.length):l.getD j T'.aR=l[j]:=by simp[List.getD,List.getElem?_eq_getElem hj]
theorem load_sound (T:CU P tt) (wf:WF w h c) {t:Nat} {a:V} {a':Value} (ra:dx w h c a a') {lim:Option Nat} {k:V→Option R} {r:R}
  (hk:(match (generalizing:=false) a with
  | .ptr i o =>
   if Pb lim i then
    match (generalizing:=false) h.at i with
    | .cells cs=>wN tt t cs o k
    | .mZ v=>wN tt t [.undef,v] o k
    | _=>none
   else none
  | .Br cs=>wN tt t cs 0 k
  | .yq i sz j o =>
   if Pb lim i then
    match (generalizing:=false) h.at i with
    | .row T l=>if sz=T.sz then bX (decide (j<l.length)) (wN tt t (T.cells (l.getD j T.aR)) o k)else none
    | _=>none
   else none
  | _=>none)=some r):qC P w h c (Instr.loadAt t a') k r:=by
 split at hk
 ·rename_i i o;split at hk
  ·split at hk
   ·rename_i cs he;have hi:=aN.gK he (by simp);have ho:=wf.obj i hi;rw[he]at ho;obtain ⟨b,arr,e,h1,h2,h3⟩:=ho;cases ra with
    | ptr hu hv =>
     obtain ⟨b',rfl,hb⟩:=hv;have pX:=hb (by rw[he]; simp);rw[h1]at pX;cases pX;have:=FL (w:=w) (b:=b) (o:=0) T h3 (fun j d hd=>by
      rw[cell_of_row w b _ arr e _ h2]; simpa using hd) hk
     simpa [qC,Instr.loadAt,Instr.sureAddr]using this
   ·rename_i v he;have hi:=aN.gK he (by simp);have ho:=wf.obj i hi;rw[he]at ho;obtain ⟨b,p,d,h1,h2,_,h3⟩:=ho;cases ra with
    | ptr hu hv =>
     obtain ⟨b',rfl,hb⟩:=hv;have pX:=hb (by rw[he]; simp);rw[h1]at pX;cases pX;have:=FL (w:=w) (b:=b) (o:=0) T (cz.cons (.undef p) (cz.cons h3 .nil)) (fun j d hd=>by
      rw[cell_of_row w b _ _ _ _ h2]
      match j,hd with
      | 0,hd=>simpa using hd
      | 1,hd=>simpa using hd
      | j+2,hd=>simp at hd) hk
     simpa [qC,Instr.loadAt,Instr.sureAddr]using this
   ·cases hk
  ·cases hk
 ·rename_i cs;cases ra with
  | @Br _ b o f hc hr =>
   have hr':cz w h c cs ((List.range cs.length).map f):=by
    refine ⟨by simp,fun j v d hv hd => ?_⟩;simp only[List.getElem?_map]at hd;have jz:j<cs.length:=(List.getElem?_eq_some_iff.1 hv).1;rw[List.getElem?_range jz]at hd;simp at hd; subst hd;exact hr j v hv
   have:=FL (w:=w) (b:=b) (o:=o) (off:=0) T hr' (fun j d hd=>by
    simp only[List.getElem?_map]at hd;by_cases jz:j<cs.length
    ·rw[List.getElem?_range jz]at hd;simp at hd; subst hd;exact (hc j jz).1
    ·rw[List.getElem?_eq_none (by simp; omega)]at hd; cases hd) hk
   simpa [qC,Instr.loadAt,Instr.sureAddr]using this
 ·rename_i i sz j o;split at hk
  ·split at hk
   ·rename_i T' l he;split at hk
    ·rename_i rV;obtain ⟨hj,hk⟩:=bY hk;simp at hj;rw[getD_eq hj]at hk;obtain ⟨b,ds,h1,h2,h3⟩:=row_cells wf he hj;cases ra with
     | yq hu hv =>
      obtain ⟨a,rfl,hv⟩:=hv;obtain ⟨b',pX,rfl⟩:=hv T' l he rV hj;rw[h1]at pX;cases pX;have:=FL T h3 h2 hk;simpa [qC,Instr.loadAt,Instr.sureAddr]using this
    ·cases hk
   ·cases hk
  ·cases hk
 ·cases hk
theorem row_bytes (wf:WF w h c) {i:Nat} {ik:IntKind} {l:List Int} (hl:h.at i = .row (.int ik) l) (jW:l ≠ []) :
  ∃b,c.wO i=some b∧wP w b (c.off i) (l.map (Value.int ik)):=by
 have hi:=aN.gK hl (by simp);have ho:=wf.obj i hi;rw[hl]at ho;rcases ho with ⟨_,rfl⟩|⟨b,arr,el,fz,p1,p2,p3,p4,p5⟩
 ·exact absurd rfl jW
 ·have p5':∀(n:Nat) (z:Int),l[n]? = some z→arr[c.off i+n]? = some (.int ik z):=fun n z hz=>by
   obtain ⟨d,t1,t2⟩:=p5 n 0 z (.int ik z) hz rfl;rw[t2.fA.1]at t1;simpa [Ty.sz]using t1
  refine ⟨b,p1,fun j d hd => ?_⟩;simp only[List.getElem?_map]at hd;cases hlj:l[j]? with
  | none=>rw[hlj]at hd; cases hd
  | some z =>
   rw[hlj]at hd; simp at hd; subst hd;rw[cell_of_row w b _ arr el fz p2];exact p5' j z hlj
theorem sl_bytes {ik:IntKind} {l:List Int} {t:Tok} {A:Option Addr} {n cap:Nat} (r:dx w h c (.sl (.int ik) l t) (.slice A n cap)) (jW:l ≠ []) :
  ∃b o,A=some ⟨b,o,none⟩∧n=l.length∧wP w b o (l.map (Value.int ik)):=by
 cases r with
 | sl f jd uP hc hr E0 mz =>
  have Nk:0<l.length:=List.length_pos_iff.2 jW;obtain ⟨b,o,rfl,_⟩:=hc 0 0 Nk (by simp[Ty.sz]);refine ⟨b,o,rfl,rfl,fun j d hd => ?_⟩;simp only[List.getElem?_map]at hd;cases hlj:l[j]? with
  | none=>rw[hlj]at hd; cases hd
  | some z =>
   rw[hlj]at hd; simp at hd; subst hd;have jz:j<l.length:=(List.getElem?_eq_some_iff.1 hlj).1;obtain ⟨b',o',e',g1,_⟩:=hc j 0 jz (by simp[Ty.sz]);cases e';have:=hr j 0 z (.int ik z) hlj rfl;rw[this.fA.1]at g1;simpa [Ty.sz]using g1
theorem TJ {s d e:TypeId} (us:P.underlying s=some (.slice e)) (ue:P.underlying e=some (.int .u8)) (ud:P.underlying d=some .string) {l:List Int} {A:Option Addr} {n cap:Nat}
  (hn:n=l.length) (EN:l ≠ []→∃b o,A=some ⟨b,o,none⟩∧wP w b o (l.map (Value.int .u8))) :
  ∃t,(convert s d (.slice A n cap)).run P w = .ok (.string t) w∧t.data.toList=l.map fun n=>UInt8.ofNat n.toNat:=by
 rw[run_convert_bytes_string w s d e A n cap us ue ud];by_cases Yb:l = []
 ·subst Yb;subst hn;refine ⟨.empty,?_,rfl⟩;cases A with
  | none=>simp[Conv.bytesToString]
  | some a =>
   have hlc:=run_loadCells_list (P:=P) w a [] (fun j v hv=>by simp at hv);exact run_bytesToString (P:=P) w a 0 cap [] (by simpa using hlc)
 ·obtain ⟨b,o,rfl,hc⟩:=EN Yb;have hlc:=run_loadCells_list (P:=P) w ⟨b,o,none⟩ (l.map (Value.int .u8)) (fun j v hv=>by rw[sV]; exact hc j v hv);rw[List.length_map,←hn]at hlc;exact ⟨_,run_bytesToString (P:=P) w ⟨b,o,none⟩ n cap l hlc,by rw[foldl_push]; rfl⟩
theorem foldl_runes (l:List Int):∀s:ByteArray,(l.foldl (fun r n=>r++Utf8.encode n) s).data.toList=s.data.toList++W3 l:=by
 induction l with
 | nil=>intro s; simp[W3]
 | cons n l ih=>intro s; simp only[List.foldl_cons]; rw[ih]; simp[W3]
theorem Y3 (l:List Int):(Go.runesBytes l).data.toList=W3 l:=by
 unfold Go.runesBytes;rw[foldl_runes];simp
theorem conv_runes {s d e:TypeId} (us:P.underlying s=some (.slice e)) (ue:P.underlying e=some (.int .i32)) (ud:P.underlying d=some .string) {l:List Int} {A:Option Addr} {n cap:Nat}
  (hn:n=l.length) (EN:l ≠ []→∃b o,A=some ⟨b,o,none⟩∧wP w b o (l.map (Value.int .i32))) :
  ∃t,(convert s d (.slice A n cap)).run P w = .ok (.string t) w∧t.data.toList=W3 l∧t.size≤4*l.length:=by
 have hcv:(convert s d (.slice A n cap)).run P w=(Conv.runesToString (.slice A n cap)).run P w:=by
  unfold convert;simp[run_underlying us,run_underlying ue,run_underlying ud]
 rw[hcv];by_cases Yb:l = []
 ·subst Yb;subst hn;refine ⟨.empty,?_,rfl,by simp⟩;cases A with
  | none=>simp[Conv.runesToString]
  | some a =>
   have hlc:=run_loadCells_list (P:=P) w a [] (fun j v hv=>by simp at hv);exact Go.run_runesToString (P:=P) w a 0 cap [] (by simpa using hlc)
 ·obtain ⟨b,o,rfl,hc⟩:=EN Yb;have hlc:=run_loadCells_list (P:=P) w ⟨b,o,none⟩ (l.map (Value.int .i32)) (fun j v hv=>by rw[sV]; exact hc j v hv);rw[List.length_map,←hn]at hlc;exact ⟨_,Go.run_runesToString (P:=P) w ⟨b,o,none⟩ n cap l hlc,Y3 l,Go.runesBytes_size_le l⟩
theorem opR_sound (T:CU P tt) (wf:WF w h c) {o:Oper} {ρ:Operand→V} {ρ':Operand→Value} (hρ:∀x,dx w h c (ρ x) (ρ' x)) {lim:Option Nat} {k:V→Option R} {r:R}
  (hk:opR tt o.op ρ h lim k=some r):∃v v',(execOp ρ' o).run P w = .ok (.value v') w∧dx w h c v v'∧k v=some r:=by
 obtain ⟨dst,op,type,pos,after,guard⟩:=o;cases op <;> simp only[opR]at hk <;> (try cases hk)
 case load t x=>exact qv (load_sound T wf (hρ x) hk)
 case lookup t x ix ok =>
  have rx:=hρ x;split at hk <;> (try cases hk);rename_i kt vt i ht hx;rw[hx]at rx;split at hk <;> (try cases hk);split at hk <;> (try cases hk);rename_i K V' l hm;split at hk <;> (try cases hk);rename_i hf;split at hk <;> (try cases hk);rename_i kx hkx;obtain ⟨v',g1,g2⟩:=lookup_sound T wf ht rx hm hf (hρ ix) hkx ok;refine ⟨_,v',by simp[execOp,g1],g2,?_⟩;cases ok <;> exact hk
 case convert s d x =>
  have rx:=hρ x;split at hk <;> (try cases hk)
  ·rename_i e i n hd hs hx;rw[hx]at rx;split at hk
   ·split at hk <;> (try cases hk);rename_i l he hl;have ud:=ez T hd;have us:=ez T hs;have ue:=ez T he;simp only[TD.Is]at ud us ue;cases rx with
    | row hu hn hv =>
     obtain ⟨A,cap,hv',hA,hv⟩:=hv;obtain ⟨g1,g2,g3,g4⟩:=hv _ _ hl;obtain ⟨t,h1,h2⟩:=TJ (w:=w) (A:=A) (cap:=cap) (l:=l) us ue ud g1 (fun jW=>by
      obtain ⟨b,hb,hc⟩:=row_bytes wf hl jW;rcases g4 with ⟨q0,_⟩|⟨b',arr,el,fz,q1,rfl,q2,q3⟩
      ·rw[hb]at q0; cases q0
      ·rw[hb]at q1; cases q1;exact ⟨b,_,rfl,hc⟩)
     refine ⟨_, .string t,?_,HG t h2 ?_,hk⟩
     ·simp only[execOp,Sem.run_bind,hv',h1,Result.andThen_ok,Sem.run_pure]
     ·refine Nat.le_trans (Nat.le_of_eq (@List.length_map Int UInt8 (l:List Int) _)) ?_;exact (show l.length≤mx from g1▸hn)
   ·cases hk
  ·rename_i e T' l tk hd hs hx;rw[hx]at rx;split at hk <;> (try cases hk)
   ·rename_i l he;have ud:=ez T hd;have us:=ez T hs;have ue:=ez T he;simp only[TD.Is]at ud us ue;obtain ⟨A,cap,hv,jd,uP⟩:=GN rx;rw[hv]at rx;obtain ⟨t,h1,h2⟩:=TJ (w:=w) (A:=A) (cap:=cap) (l:=l) (n:=List.length l) us ue ud rfl (fun jW=>by
     obtain ⟨b,o,e1,_,e3⟩:=sl_bytes rx jW;exact ⟨b,o,e1,e3⟩)
    refine ⟨_, .string t,?_,HG t h2 ?_,hk⟩
    ·simp only[execOp,Sem.run_bind,hv,h1,Result.andThen_ok,Sem.run_pure]
    ·refine Nat.le_trans (Nat.le_of_eq (@List.length_map Int UInt8 (l:List Int) _)) ?_;exact Nat.le_trans jd uP
   ·rename_i l he;obtain ⟨hb,hk⟩:=bY hk;have ud:=ez T hd;have us:=ez T hs;have ue:=ez T he;simp only[TD.Is]at ud us ue;obtain ⟨A,cap,hv,jd,uP⟩:=GN rx;rw[hv]at rx;obtain ⟨t,h1,h2,h3⟩:=conv_runes (w:=w) (A:=A) (cap:=cap) (l:=l) (n:=List.length l) us ue ud rfl (fun jW=>by
     obtain ⟨b,o,e1,_,e3⟩:=sl_bytes rx jW;exact ⟨b,o,e1,e3⟩)
    refine ⟨_, .string t,?_,HG t h2 ?_,hk⟩
    ·simp only[execOp,Sem.run_bind,hv,h1,Result.andThen_ok,Sem.run_pure]
    ·rw[←h2];have pX:4*List.length (l:List Int)≤9223372036854775807:=of_decide_eq_true hb;refine Nat.le_trans ?_ pX;exact h3
  ·rename_i e hd hs hx;rw[hx]at rx;split at hk <;> (try cases hk);rename_i he;have ud:=ez T hd;have us:=ez T hs;have ue:=ez T he;simp only[TD.Is]at ud us ue;generalize hv:ρ' x=xv at rx;cases rx;obtain ⟨t,h1,h2⟩:=TJ (w:=w) (A:=none) (cap:=0) (l := []) (n:=0) us ue ud rfl (fun jW=>(jW rfl).elim);refine ⟨_, .string t,?_,HG t h2 (Nat.zero_le _),hk⟩;simp only[execOp,Sem.run_bind,hv,h1,Result.andThen_ok,Sem.run_pure]
end
end Go.aA
namespace Go.aA
def Wk (u v:V):Prop:=u=v∨∃(T:Ty) (l:List T.den),v = .sl T l .no∧LY T u=some l
inductive R0:List V→List V→Prop where
 | nil:R0 [] []
 | cons {u v:V} {us vs:List V} (h:Wk u v) (t:R0 us vs):R0 (u::us) (v::vs)
theorem Wk.rfl {u:V}:Wk u u := .inl _root_.rfl
theorem Wk.sl {T:Ty} {u:V} {l:List T.den} (h:LY T u=some l):Wk u (.sl T l .no) := .inr ⟨T,l,_root_.rfl,h⟩
theorem decInt_wk (k:IntKind) {cs:List V} {x:Int} (h:uW k cs=some x):R0 cs (Ty.cells (.int k) x):=by
 unfold uW at h;split at h
 ·split at h
  ·rename_i e; subst e; cases h; exact .cons .rfl .nil
  ·cases h
 ·cases h
theorem decBool_wk  {cs:List V} {x:Bool} (h:U7 cs=some x):R0 cs (Ty.cells (.bool) x):=by
 unfold U7 at h;split at h
 ·cases h; exact .cons .rfl .nil
 ·cases h
theorem decStr_wk  {cs:List V} {x:ae} (h:aad cs=some x):R0 cs (Ty.cells (.str) x):=by
 unfold aad at h;split at h
 ·cases h; exact .cons .rfl .nil
 ·cases h
theorem decDcm_wk  {cs:List V} {x:fO} (h:decDcm cs=some x):R0 cs (Ty.cells (.dcm) x):=by
 unfold decDcm at h;split at h
 ·cases h; exact .cons .rfl (.cons .rfl .nil)
 ·cases h
theorem decJson_wk  {cs:List V} {x:Json} (h:decJson cs=some x):R0 cs (Ty.cells (.json) x):=by
 unfold decJson at h;split at h
 ·split at h
  ·cases h; exact .cons .rfl (.cons .rfl (.cons .rfl (.cons .rfl (.cons (.sl ‹_›) (.cons (.sl ‹_›) .nil)))))
  ·cases h
 ·cases h
theorem decRaw_wk  {cs:List V} {x:Raw} (h:decRaw cs=some x):R0 cs (Ty.cells (.raw) x):=by
 unfold decRaw at h;split at h
 ·split at h
  ·cases h; exact .cons .rfl (.cons .rfl (.cons .rfl (.cons (.sl ‹_›) (.cons (.sl ‹_›) .nil))))
  ·cases h
 ·cases h
theorem decRaw3_wk  {cs:List V} {x:Raw3} (h:decRaw3 cs=some x):R0 cs (Ty.cells (.raw3) x):=by
 unfold decRaw3 at h;split at h
 ·split at h
  ·cases h; exact .cons .rfl (.cons .rfl (.cons .rfl (.cons (.sl ‹_›) .nil)))
  ·cases h
 ·cases h
theorem decFld_wk  {cs:List V} {x:Fld} (h:decFld cs=some x):R0 cs (Ty.cells (.fld) x):=by
 unfold decFld at h;split at h
 ·cases h; exact .cons .rfl (.cons .rfl (.cons .rfl (.cons .rfl (.cons .rfl .nil))))
 ·cases h
theorem decMail_wk  {cs:List V} {x:Mail} (h:decMail cs=some x):R0 cs (Ty.cells (.mail) x):=by
 unfold decMail at h;split at h
 ·cases h; exact .cons .rfl (.cons .rfl (.cons .rfl .nil))
 ·cases h
theorem decToken_wk  {cs:List V} {x:Token} (h:aae cs=some x):R0 cs (Ty.cells (.token) x):=by
 unfold aae at h;split at h
 ·cases h; exact .cons .rfl (.cons .rfl (.cons .rfl (.cons .rfl (.cons .rfl .nil))))
 ·cases h
theorem decStop_wk  {cs:List V} {x:Stop} (h:decStop cs=some x):R0 cs (Ty.cells (.stop) x):=by
 unfold decStop at h;split at h
 ·cases h; exact .cons .rfl (.cons .rfl (.cons .rfl .nil))
 ·cases h
theorem decWay_wk  {cs:List V} {x:Way} (h:decWay cs=some x):R0 cs (Ty.cells (.na) x):=by
 unfold decWay at h;split at h
 ·cases h; exact .cons .rfl (.cons .rfl (.cons .rfl .nil))
 ·cases h
theorem decOrder_wk  {cs:List V} {x:Order} (h:aaf cs=some x):R0 cs (Ty.cells (.order) x):=by
 unfold aaf at h;split at h
 ·split at h
  ·cases h; exact .cons .rfl (.cons .rfl (.cons .rfl (.cons .rfl (.cons (.sl ‹_›) (.cons (.sl ‹_›) .nil)))))
  ·cases h
 ·cases h
theorem decEdge_wk  {cs:List V} {x:Edge} (h:decEdge cs=some x):R0 cs (Ty.cells (.zy) x):=by
 unfold decEdge at h;split at h
 ·cases h; exact .cons .rfl (.cons .rfl (.cons .rfl .nil))
 ·cases h
theorem decLayout_wk  {cs:List V} {x:K3} (h:W1 cs=some x):R0 cs (Ty.cells (.layout) x):=by
 unfold W1 at h;split at h
 ·split at h
  ·cases h; exact .cons .rfl (.cons (.sl ‹_›) .nil)
  ·cases h
 ·cases h
theorem decTopic_wk  {cs:List V} {x:SP} (h:aag cs=some x):R0 cs (Ty.cells (.topic) x):=by
 unfold aag at h;split at h
 ·cases h; exact .cons .rfl (.cons .rfl (.cons .rfl .nil))
 ·cases h
theorem decState_wk  {cs:List V} {x:State} (h:aah cs=some x):R0 cs (Ty.cells (.state) x):=by
 unfold aah at h;split at h
 ·cases h; exact .cons .rfl (.cons .rfl (.cons .rfl (.cons .rfl (.cons .rfl (.cons .rfl (.cons .rfl (.cons .rfl (.cons .rfl (.cons .rfl .nil)))))))))
 ·cases h
theorem decCtl_wk  {cs:List V} {x:Ctl} (h:decCtl cs=some x):R0 cs (Ty.cells (.ctl) x):=by
 unfold decCtl at h;split at h
 ·split at h
  ·cases h; exact .cons .rfl (.cons .rfl (.cons .rfl (.cons .rfl (.cons .rfl (.cons .rfl (.cons (.sl ‹_›) (.cons .rfl (.cons .rfl (.cons .rfl (.cons .rfl (.cons .rfl (.cons .rfl (.cons .rfl (.cons .rfl (.cons (.sl ‹_›) (.cons (.sl ‹_›) .nil))))))))))))))))
  ·cases h
 ·cases h
theorem decOp17_wk  {cs:List V} {x:Op17} (h:decOp17 cs=some x):R0 cs (Ty.cells (.op17) x):=by
 unfold decOp17 at h;split at h
 ·cases h; exact .cons .rfl (.cons .rfl (.cons .rfl (.cons .rfl (.cons .rfl .nil))))
 ·cases h
theorem decRaw13_wk  {cs:List V} {x:O9} (h:aai cs=some x):R0 cs (Ty.cells (.X6) x):=by
 unfold aai at h;split at h
 ·split at h
  ·cases h; exact .cons .rfl (.cons .rfl (.cons .rfl (.cons .rfl (.cons .rfl (.cons .rfl (.cons (.sl ‹_›) .nil))))))
  ·cases h
 ·cases h
theorem decEv16_wk  {cs:List V} {x:Ev16} (h:decEv16 cs=some x):R0 cs (Ty.cells (.ev16) x):=by
 unfold decEv16 at h;split at h
 ·split at h
  ·cases h; exact .cons .rfl (.cons .rfl (.cons .rfl (.cons .rfl (.cons .rfl (.cons .rfl (.cons .rfl (.cons (.sl ‹_›) (.cons .rfl .nil))))))))
  ·cases h
 ·cases h
theorem decEv18_wk  {cs:List V} {x:Ev18} (h:decEv18 cs=some x):R0 cs (Ty.cells (.ev18) x):=by
 unfold decEv18 at h;split at h
 ·split at h
  ·cases h; exact .cons .rfl (.cons .rfl (.cons (.sl ‹_›) .nil))
  ·cases h
 ·cases h
theorem decArr3_wk  {cs:List V} {x:Arr3} (h:decArr3 cs=some x):R0 cs (Ty.cells (.arr3) x):=by
 unfold decArr3 at h;split at h
 ·cases h; exact .cons .rfl (.cons .rfl (.cons .rfl .nil))
 ·cases h
theorem decArr2_wk  {cs:List V} {x:YY} (h:decArr2 cs=some x):R0 cs (Ty.cells (.arr2) x):=by
 unfold decArr2 at h;split at h
 ·cases h; exact .cons .rfl (.cons .rfl .nil)
 ·cases h
theorem decDec2_wk  {cs:List V} {x:Dec2} (h:decDec2 cs=some x):R0 cs (Ty.cells (.dec2) x):=by
 unfold decDec2 at h;split at h
 ·cases h; exact .cons .rfl (.cons .rfl (.cons .rfl (.cons .rfl .nil)))
 ·cases h
theorem decPost_wk  {cs:List V} {x:Post} (h:decPost cs=some x):R0 cs (Ty.cells (.post) x):=by
 unfold decPost at h;split at h
 ·cases h; exact .cons .rfl (.cons .rfl .nil)
 ·cases h
theorem decJob_wk  {cs:List V} {x:Job} (h:decJob cs=some x):R0 cs (Ty.cells (.job) x):=by
 unfold decJob at h;split at h
 ·cases h; exact .cons .rfl (.cons .rfl (.cons .rfl (.cons .rfl .nil)))
 ·cases h
theorem decRecord_wk  {cs:List V} {x:K4} (h:W2 cs=some x):R0 cs (Ty.cells (.record) x):=by
 unfold W2 at h;split at h
 ·split at h
  ·cases h; exact .cons .rfl (.cons (.sl ‹_›) (.cons .rfl .nil))
  ·cases h
 ·cases h
theorem dec_wk:∀(T:Ty) {cs:List V} {x:T.den},T.dec cs=some x→R0 cs (T.cells x)
 | .int k,_,_,h=>decInt_wk k h
 | .bool,_,_,h=>decBool_wk h
 | .str,_,_,h=>decStr_wk h
 | .dcm,_,_,h=>decDcm_wk h
 | .json,_,_,h=>decJson_wk h
 | .raw,_,_,h=>decRaw_wk h
 | .raw3,_,_,h=>decRaw3_wk h
 | .fld,_,_,h=>decFld_wk h
 | .mail,_,_,h=>decMail_wk h
 | .token,_,_,h=>decToken_wk h
 | .stop,_,_,h=>decStop_wk h
 | .na,_,_,h=>decWay_wk h
 | .order,_,_,h=>decOrder_wk h
 | .zy,_,_,h=>decEdge_wk h
 | .layout,_,_,h=>decLayout_wk h
 | .topic,_,_,h=>decTopic_wk h
 | .state,_,_,h=>decState_wk h
 | .ctl,_,_,h=>decCtl_wk h
 | .op17,_,_,h=>decOp17_wk h
 | .X6,_,_,h=>decRaw13_wk h
 | .ev16,_,_,h=>decEv16_wk h
 | .ev18,_,_,h=>decEv18_wk h
 | .arr3,_,_,h=>decArr3_wk h
 | .arr2,_,_,h=>decArr2_wk h
 | .dec2,_,_,h=>decDec2_wk h
 | .post,_,_,h=>decPost_wk h
 | .job,_,_,h=>decJob_wk h
 | .record,_,_,h=>decRecord_wk h
end Go.aA
namespace Go.aA
open Go.RowKit
section
variable {P:Program} {tt:dn} {w w':World} {h h':aN} {c c':j8}
theorem mR (h:aN) (i j:Nat) (o:cb):aN.at (h.set i o) j=if i=j∧i<h.length then o else h.at j:=by
 unfold aN.at;simp only[List.getD,List.getElem?_set];by_cases B7:i=j
 ·subst B7;by_cases hl:i<h.length
  ·simp[hl]
  ·simp[hl]
 ·simp[B7]
theorem cF {i j:Nat} (o:cb) (B7:i≠j):aN.at (h.set i o) j=h.at j:=by rw[mR]; simp[B7]
theorem ma {i:Nat} (o:cb) (hi:i<h.length):aN.at (h.set i o) i=o:=by rw[mR]; simp[hi]
def j8.put (c:j8) (i:Nat) (b:Option Nat) (o:Nat):j8:=⟨fun j=>if j=i then b else c.wO j,fun j=>if j=i then o else c.off j,c.ext⟩
theorem uY {i j:Nat} (b:Option Nat) (o:Nat) (h:j≠i):(c.put i b o).wO j=c.wO j:=by simp[j8.put,h]
theorem E1 {i j:Nat} (b:Option Nat) (o:Nat) (h:j≠i):(c.put i b o).off j=c.off j:=by simp[j8.put,h]
theorem cV (i:Nat) (b:Option Nat) (o:Nat):(c.put i b o).wO i=b:=by simp[j8.put]
theorem eB (i:Nat) (b:Option Nat) (o:Nat):(c.put i b o).off i=o:=by simp[j8.put]
theorem R1 {o:cb} (h1:o ≠ .free) (h2:o ≠ .dead):o.live:=by cases o <;> simp_all [cb.live]
theorem CZ {o:cb} (h:o.live):o ≠ .dead:=by rintro rfl; exact h
theorem FM {b:Nat} {o:Obj} (h:w.heap[b]? = some o):b<w.heap.size:=(Array.getElem?_eq_some_iff.1 h).1
theorem pa.lt {i b:Nat} {o:cb} (ho:pa w h c i o) (hl:o.live) (hb:c.wO i=some b):b<w.heap.size:=by
 cases o <;> simp only[cb.live]at hl <;> simp only[pa]at ho
 ·obtain ⟨b',arr,e,h1,h2,_⟩:=ho;rw[h1]at hb; cases hb; exact FM h2
 ·rcases ho with ⟨h1,_⟩|⟨b',arr,e,fz,h1,h2,_⟩
  ·rw[h1]at hb; cases hb
  ·rw[h1]at hb; cases hb; exact FM h2
 ·rcases ho with h1|⟨b',arr,e,fz,h1,h2,_⟩
  ·rw[h1]at hb; cases hb
  ·rw[h1]at hb; cases hb; exact FM h2
 ·obtain ⟨b',bs,h1,h2,_⟩:=ho;rw[h1]at hb; cases hb; exact FM h2
 ·obtain ⟨b',p,d,h1,h2,_⟩:=ho;rw[h1]at hb; cases hb; exact FM h2
 ·obtain ⟨b',es,cl,h1,h2,_⟩:=ho;rw[h1]at hb; cases hb; exact FM h2
theorem pa.Ar (x:Ext w h c w' h' c') {i:Nat} {o:cb} (ho:pa w h c i o) (hb:∀b,c.wO i=some b→w'.heap[b]? = w.heap[b]?) (e1:c'.wO i=c.wO i) (e2:c'.off i=c.off i) :
  pa w' h' c' i o:=by
 have hfz:∀b x,c.wO i=some b→w'.frozen? ⟨b,x,none⟩=w.frozen? ⟨b,x,none⟩:=fun b x h=>by simp only[World.frozen?,hb b h]
 cases o <;> simp only[pa]at ho ⊢
 ·obtain ⟨b,arr,e,h1,h2,h3⟩:=ho;exact ⟨b,arr,e,e1▸h1,(hb b h1).trans h2,h3.mono x⟩
 ·rcases ho with ⟨h1,h2⟩|⟨b,arr,e,fz,h1,h2,h3,h4,h5⟩
  ·exact .inl ⟨e1▸h1,h2⟩
  ·refine .inr ⟨b,arr,e,fz,e1▸h1,(hb b h1).trans h2,by rw[e2]; exact h3,fun x hx=>by rw[hfz b x h1]; exact h4 x hx,fun n j y v hy hv => ?_⟩;obtain ⟨d,g1,g2⟩:=h5 n j y v hy hv;exact ⟨d,by rw[e2]; exact g1,g2.mono x⟩
 ·rcases ho with h1|⟨b,arr,e,fz,h1,h2,h3,h4⟩
  ·exact .inl (e1▸h1)
  ·exact .inr ⟨b,arr,e,fz,e1▸h1,(hb b h1).trans h2,by rw[e2]; exact h3,by rw[e2]; exact h4⟩
 ·obtain ⟨b,bs,h1,h2,h3⟩:=ho;exact ⟨b,bs,e1▸h1,(hb b h1).trans h2,h3⟩
 ·obtain ⟨b,p,d,h1,h2,h3,h4⟩:=ho;exact ⟨b,p,d,e1▸h1,(hb b h1).trans h2,h3,h4.mono x⟩
 ·obtain ⟨b,es,cl,h1,h2,h3,h4,h5,h6⟩:=ho;exact ⟨b,es,cl,e1▸h1,(hb b h1).trans h2,h3,h4,h5,fun j q e hq he=>⟨(h6 j q e hq he).1.mono x,(h6 j q e hq he).2.mono x⟩⟩
theorem xB {b x:Nat} (h:w'.heap[b]? = w.heap[b]?):w'.cell? ⟨b,x,none⟩=w.cell? ⟨b,x,none⟩:=by simp only[World.cell?,h]
theorem yu (hb:Below w.heap.size w w') {id:Nat} (hf:h.at id = .free) (ob:cb) {nb:Option Nat} {no:Nat} (hn:∀b,nb=some b→w.heap.size≤b) :
  Ext w h c w' (h.set id ob) (c.put id nb no) where
 os:=hb.os
 tape:=hb.tape
 output:=hb.output
 size:=hb.size
 used:=fun i hi=>by
  have jW:id≠i:=by rintro rfl; exact hi.2 hf
  exact ⟨by simpa using hi.1,by rw[cF _ jW]; exact hi.2⟩
 same:=fun i hi hd=>by
  have jW:id≠i:=by rintro rfl; exact hi.2 hf
  rw[cF _ jW]at hd ⊢;refine ⟨?_,uY _ _ (Ne.symm jW),E1 _ _ (Ne.symm jW)⟩;have h2:=hi.2
  revert hd h2
  cases h.at i <;> simp[cb.iS]
 cell:=fun b x hx _=>xB (hb.block b hx)
 block:=fun b hx _=>hb.block b hx
 CF:=fun b x hx ho=>by
  obtain ⟨i,f,h1,h2,h3⟩:=ho;by_cases jW:id=i
  ·subst jW;rw[cV]at h1;have:=hn b h1;omega
  ·rw[uY _ _ (Ne.symm jW)]at h1;rw[cF _ jW,E1 _ _ (Ne.symm jW)]at h2;exact ⟨i,f,h1,h2,h3⟩
 ext:=rfl
 arr:=fun b arr e fz hx=>⟨arr,fz,by rw[hb.block b (FM hx)]; exact hx,rfl⟩
theorem WF.wQ (wf:WF w h c) {h':aN} {c':j8} (x:Ext w h c w' h' c'):Laid w' h' c' :=
 ⟨pW.Ar w w' (fun b hb=>x.block b (wf.lay.2 b hb).1 (wf.lay.2 b hb).2) wf.lay.1,
  fun b hb=>⟨Nat.lt_of_lt_of_le (wf.lay.2 b hb).1 x.size,fun y ho=>(wf.lay.2 b hb).2 y (x.CF b y (wf.lay.2 b hb).1 ho)⟩⟩
theorem GO (wf:WF w h c) (hb:Below w.heap.size w w') {id:Nat} (hid:id<h.length) (hf:h.at id = .free) {ob:cb} {nb:Option Nat} {no:Nat} (hn:∀b,nb=some b→w.heap.size≤b)
  (JH:pa w' (h.set id ob) (c.put id nb no) id ob):WF w' (h.set id ob) (c.put id nb no):=by
 have x:=yu (h:=h) (c:=c) hb hf ob (no:=no) hn;constructor
 ·intro b y ho he;have jz:b<w.heap.size:=wf.sB b y he;exact wf.Ev b y (x.CF b y jz ho) he
 ·intro b y he;exact Nat.lt_of_lt_of_le (wf.sB b y he) hb.size
 ·intro i hi;by_cases jW:id=i
  ·subst jW; rw[ma _ hid]; exact JH
  ·rw[cF _ jW];by_cases hl:(h.at i).live
   ·have ho:=wf.obj i (by simpa using hi);exact ho.Ar x (fun b hbk=>hb.block b (ho.lt hl hbk)) (uY _ _ (Ne.symm jW)) (E1 _ _ (Ne.symm jW))
   ·revert hl; cases h.at i <;> simp[cb.live,pa]
 ·intro i j b hi hj h1 h2;have jz:∀k,id≠k→(aN.at (h.set id ob) k).live→(c.put id nb no).wO k=some b→b<w.heap.size:=by
   intro k jW hl hbk;rw[cF _ jW]at hl;rw[uY _ _ (Ne.symm jW)]at hbk;exact (wf.obj k (aN.gK rfl (CZ hl))).lt hl hbk
  by_cases h3:id=i <;> by_cases h4:id=j
  ·exact h3.symm.trans h4
  ·subst h3;rw[cV]at h1;have:=hn b h1;have:=jz j h4 hj h2;omega
  ·subst h4;rw[cV]at h2;have:=hn b h2;have:=jz i h3 hi h1;omega
  ·rw[cF _ h3]at hi;rw[cF _ h4]at hj;rw[uY _ _ (Ne.symm h3)]at h1;rw[uY _ _ (Ne.symm h4)]at h2;exact wf.inj i j b hi hj h1 h2
 ·exact wf.wQ x
theorem asSl_sound {T:Ty} {v:V} {d:Value} (r:dx w h c v d) {l:List T.den} (hs:LY T v=some l):dx w h c (.sl T l .no) d:=by
 unfold LY at hs;split at hs
 ·cases hs;cases r;exact .sl (fun _ _=>undef) (Nat.le_refl _) (by unfold mx; exact Nat.zero_le _) (fun i j hi=>by simp at hi) (fun i j x v hx=>by simp at hx) (by simp) (by simp)
 ·rename_i T' l' t;split at hs
  ·rename_i e;subst e;cases hs;cases r with
   | sl f jd uP hc hr E0 mz=>exact .sl f jd uP hc hr (by simp) (by simp)
  ·cases hs
 ·cases hs
theorem Wk.rep {u v:V} {d:Value} (k:Wk u v) (r:dx w h c u d):dx w h c v d:=by
 rcases k with rfl|⟨T,l,rfl,e⟩
 ·exact r
 ·exact asSl_sound r e
theorem R0.rep {us vs:List V} (k:R0 us vs):∀ {ds:List Value},cz w h c us ds→cz w h c vs ds:=by
 induction k with
 | nil=>exact fun r=>r
 | cons a _ ih =>
  intro ds r;cases ds with
  | nil=>have:=r.1; simp at this
  | cons d ds=>exact .cons (a.rep r.head) (ih r.tail)
theorem R2 {T:Ty} {cs:List V} {x:T.den} (hx:T.dec cs=some x) {ds:List Value} (r:cz w h c cs ds):cz w h c (T.cells x) ds:=(dec_wk T hx).rep r
end
section
variable {P:Program} {tt:dn} {w:World} {h:aN} {c:j8} {R:Type}
def TK (P:Program) (w:World) (h:aN) (c:j8) (s:Sem Value) (ob:cb) (mk:Nat→V):Prop :=
 ∀id,id<h.length→h.at id = .free→∃v' w' c',s.run P w = .ok v' w'∧WF w' (h.set id ob) c'∧Ext w h c w' (h.set id ob) c'∧dx w' (h.set id ob) c' (mk id) v'
theorem qD (w:World) (o:Obj):Below w.heap.size w (w.alloc o):=(Below.refl _ _).alloc (Nat.le_refl _) o
theorem xC {id:Nat} (hid:id<h.length) {ob:cb} (ho:ob ≠ .free):Used (h.set id ob) id:=⟨by simpa using hid,by rw[ma _ hid]; exact ho⟩
theorem Yc (wf:WF w h c) {cs:List V} {ds:Array Value} (r:cz w h c cs ds.toList) (e:TypeId) {s:Sem Value} (nG:s.run P w = .ok (.pointer (some ⟨w.heap.size,0,none⟩)) (w.alloc (.cells ds e))) :
  TK P w h c s (.cells cs) fun i => .ptr i 0:=by
 intro id hid hf;have hb:=qD w (.cells ds e);have hn:∀b,some w.heap.size=some b→w.heap.size≤b:=by intro b hb; cases hb; exact Nat.le_refl _
 have x:=yu (h:=h) (c:=c) hb hf (.cells cs) (no:=0) hn;have JH:pa (w.alloc (.cells ds e)) (h.set id (.cells cs)) (c.put id (some w.heap.size) 0) id (.cells cs):=by
  refine ⟨w.heap.size,ds,e,cV _ _ _,heap_alloc_new w _,r.mono x⟩
 exact ⟨_,_,_,nG,GO wf hb hid hf hn JH,x, .ptr (xC hid (by simp)) ⟨w.heap.size,rfl,fun _=>cV _ _ _⟩⟩
theorem chunks_get (n:Nat):∀(m:Nat) (l:List V) (i:Nat),i<m→(chunks n m l)[i]? = some ((l.drop (i*n)).take n)
 | m+1,l,0,_=>by simp[chunks]
 | m+1,l,i+1,h=>by
  simp only[chunks,List.getElem?_cons_succ];rw[chunks_get n m (l.drop n) i (by omega),List.drop_drop];congr 3;rw[Nat.add_mul]; omega
theorem E2 (n:Nat):∀(m:Nat) (l:List V),(chunks n m l).length=m
 | 0,_=>rfl
 | m+1,l=>by simp[chunks,E2 n m]
theorem E3 {T:Ty}:∀ {css:List (List V)} {l:List T.den},zz T css=some l→l.length=css.length
 | [],l,hd=>by simp[zz]at hd; subst hd; rfl
 | c::cs,l,hd=>by
  simp only[zz]at hd;split at hd
  ·cases hd; rename_i h1 h2; simp[E3 h2]
  ·cases hd
theorem decAll_get {T:Ty}:∀ {css:List (List V)} {l:List T.den},zz T css=some l→∀(i:Nat) (x:T.den),l[i]? = some x→∃cs,css[i]? = some cs∧T.dec cs=some x
 | [],l,hd,i,x,hx=>by simp[zz]at hd; subst hd; simp at hx
 | c::cs,l,hd,i,x,hx=>by
  simp only[zz]at hd;split at hd
  ·cases hd;rename_i y ys h1 h2;cases i with
   | zero=>simp at hx; subst hx; exact ⟨c,rfl,h1⟩
   | succ i=>simp at hx; exact decAll_get h2 i x hx
  ·cases hd
theorem elems_rep {T:Ty} {n:Nat} {cs:List V} {ds:List Value} (r:cz w h c cs ds) {l:List T.den} (hd:zz T (chunks T.sz n cs)=some l) :
  ∀(i j:Nat) (x:T.den) (v:V),l[i]? = some x→(T.cells x)[j]? = some v→dx w h c v (ds.getD (i*T.sz+j) undef):=by
 intro i j x v hx hv;have hl:=E3 hd;rw[E2]at hl;have hi:i<l.length:=(List.getElem?_eq_some_iff.1 hx).1;obtain ⟨cs',h1,h2⟩:=decAll_get hd i x hx;rw[chunks_get _ _ _ _ (by omega)]at h1;cases h1;have rr:=R2 h2 ((r.drop (i*T.sz)).take T.sz);have hj:j<(T.cells x).length:=(List.getElem?_eq_some_iff.1 hv).1;rw[T.je]at hj;have hlen:=rr.1;rw[T.je]at hlen;have hd':((ds.drop (i*T.sz)).take T.sz)[j]? = some (((ds.drop (i*T.sz)).take T.sz)[j]'(by omega)):=List.getElem?_eq_getElem _;have:=rr.2 j v _ hv hd';have e:ds.getD (i*T.sz+j) undef=((ds.drop (i*T.sz)).take T.sz)[j]'(by omega):=by
  rw[List.getElem?_take,if_pos hj,List.getElem?_drop]at hd';simp[List.getD,hd']
 rw[e]; exact this
theorem madeCells_add (z:Array Value) (m:Nat):(madeCells z (z.size+m)).toList=z.toList++(madeCells z m).toList:=by
 simp only[madeCells,Array.toList_map,Array.toList_range,List.range_add,List.map_append,List.map_map];congr 1
 ·apply List.ext_getElem
  ·simp
  ·intro i h1 h2;simp only[List.length_map,List.length_range]at h1;simp[Nat.mod_eq_of_lt h1,getElem!_pos z i h1]
 ·apply List.map_congr_left;intro k _;simp
theorem made_rep {zs:List V} {z:Array Value} (r:cz w h c zs z.toList):∀n:Nat,cz w h c (List.replicate n zs).flatten (madeCells z (n*z.size)).toList
 | 0=>by simp[madeCells]; exact .nil
 | n+1=>by
  have e:(n+1)*z.size=z.size+n*z.size:=by rw[Nat.add_mul]; omega
  rw[e,madeCells_add z _,List.replicate_succ,List.flatten_cons];exact r.append (made_rep r n)
theorem K8 (wf:WF w h c) {id:Nat} (ob:cb) (no x:Nat) (hx:∀f,ob.from_ no=some f→¬f≤x) (hid:id<h.length):Sv (h.set id ob) (c.put id (some w.heap.size) no) w.heap.size x:=by
 refine ⟨?_,fun he=>Nat.lt_irrefl _ (wf.sB _ _ he)⟩
 rintro ⟨i,f,h1,h2,h3⟩
 by_cases jW:id=i
 ·subst jW;rw[ma _ hid,eB]at h2;exact hx f h2 h3
 ·rw[cF _ jW,E1 _ _ (Ne.symm jW)]at h2;rw[uY _ _ (Ne.symm jW)]at h1;have hl:(h.at i).live:=by revert h2; cases h.at i <;> simp[cb.from_,cb.live]
  have:=(wf.obj i (aN.gK rfl (CZ hl))).lt hl h1;omega
theorem alloc_slice (wf:WF w h c) {T:Ty} {n:Nat} {cs:List V} {ds:Array Value} (r:cz w h c cs ds.toList) {l:List T.den} (hd:zz T (chunks T.sz n cs)=some l) (rV:ds.size=n*T.sz) (hn:n≤mx)
  (e:TypeId) (hte:TokE T 0 e) {s:Sem Value} (nG:s.run P w = .ok (.slice (some ⟨w.heap.size,0,none⟩) n n) (w.alloc (.cells ds e))) :
  TK P w h c s .tok fun i => .sl T l (.own i):=by
 intro id hid hf;have hb:=qD w (.cells ds e);have TL:∀b,some w.heap.size=some b→w.heap.size≤b:=by intro b hb; cases hb; exact Nat.le_refl _
 have x:=yu (h:=h) (c:=c) hb hf .tok (no:=n*T.sz) TL;have hl:l.length=n:=by rw[E3 hd,E2]
 have Ew:=heap_alloc_new w (.cells ds e);have JH:pa (w.alloc (.cells ds e)) (h.set id .tok) (c.put id (some w.heap.size) (n*T.sz)) id .tok:=by
  refine .inr ⟨w.heap.size,ds,e,(0,0),cV _ _ _,Ew,by rw[eB]; omega, .inl rfl⟩
 have hel:=elems_rep (r.mono x) hd;refine ⟨_,_,_,nG,GO wf hb hid hf TL JH,x,?_⟩;subst hl;refine .sl (fun i j=>ds.toList.getD (i*T.sz+j) undef) (Nat.le_refl _) hn (fun i j hi hj=>⟨w.heap.size,0,rfl,?_,?_⟩) hel (by simp) (fun i he => ?_)
 ·have jz:i*T.sz+j<ds.size:=by
   have:=Nat.mul_le_mul_right T.sz hi;rw[Nat.succ_mul]at this; omega
  rw[Nat.zero_add,cell_of_row _ _ _ _ _ _ Ew];simp[List.getD,jz]
 ·refine K8 wf _ _ _ (fun f hf' => ?_) hid;simp[cb.from_]at hf';have:=Nat.mul_le_mul_right T.sz hi;rw[Nat.succ_mul]at this; omega
 ·cases he;refine ⟨xC hid (by simp),fun _ => .inr ⟨w.heap.size,0,ds,e,(0,0),cV _ _ _,rfl,by rw[eB,Nat.zero_add],Ew,by omega,hte⟩⟩
theorem Vh (wf:WF w h c) {n sz:Nat} {cs:List V} {ds:Array Value} (r:cz w h c cs ds.toList) (rV:cs.length=n*sz) (hn:n≤mx)
  (e:TypeId) {s:Sem Value} (nG:s.run P w = .ok (.slice (some ⟨w.heap.size,0,none⟩) n n) (w.alloc (.cells ds e))) :
  TK P w h c s .dead fun _ => .YZ n cs:=by
 intro id hid hf;have hb:=qD w (.cells ds e);have TL:∀b,some w.heap.size=some b→w.heap.size≤b:=by intro b hb; cases hb; exact Nat.le_refl _
 have x:=yu (h:=h) (c:=c) hb hf .dead (no:=0) TL;have Ew:=heap_alloc_new w (.cells ds e);refine ⟨_,_,_,nG,GO wf hb hid hf TL trivial,x,?_⟩;have r':=r.mono x;have hl:=r.1;refine .YZ rV hn (fun j=>ds.toList.getD j undef) (fun j hj=>⟨w.heap.size,0,rfl,?_,?_⟩) (fun j v hv => ?_)
 ·rw[Nat.zero_add,cell_of_row _ _ _ _ _ _ Ew];have jz:j<ds.size:=by simp at hl; omega
  simp[List.getD,jz]
 ·exact K8 wf _ _ _ (fun f hf'=>by simp[cb.from_]at hf') hid
 ·have hj:j<cs.length:=(List.getElem?_eq_some_iff.1 hv).1;have jz:j<ds.toList.length:=by omega
  refine r'.2 j v _ hv ?_;simp only[List.getD,List.getElem?_eq_getElem jz,Option.getD_some]
end
section
variable {P:Program} {tt:dn} {w:World} {h:aN} {c:j8} {R:Type}
theorem xD {w:World} {b:Nat} {arr:Array Value} {e:TypeId} (hb:w.heap[b]? = some (.cells arr e (0,0))) (x:Nat):w.frozen? ⟨b,x,none⟩=false:=by
 simp[World.frozen?,hb]
theorem alloc_row2 (wf:WF w h c) {T:Ty} {l:List T.den} {ds:Array Value} {w':World} (hb:Below w.heap.size w w') {e:TypeId} {fz:Nat×Nat} (Ew:w'.heap[w.heap.size]? = some (.cells ds e fz))
  (hfz:∀x,(x<ds.size∨T.P2=true)→w'.frozen? ⟨w.heap.size,x,none⟩=false) {cap:Nat} (jd:l.length≤cap) (uP:cap≤mx) (rV:cap*T.sz≤ds.size)
  (hr:∀(n j:Nat) (x:T.den) (v:V),l[n]? = some x→(T.cells x)[j]? = some v→∃d,ds[n*T.sz+j]? = some d∧dx w h c v d)
  {s:Sem Value} (nG:s.run P w = .ok (.slice (some ⟨w.heap.size,0,none⟩) l.length cap) w') :
  TK P w h c s (.row T l) fun i => .row i l.length:=by
 intro id hid hf;have TL:∀b,some w.heap.size=some b→w.heap.size≤b:=by intro b hb; cases hb; exact Nat.le_refl _
 have x:=yu (h:=h) (c:=c) hb hf (.row T l) (no:=0) TL;have hm:l.length*T.sz≤cap*T.sz:=Nat.mul_le_mul_right _ jd;have JH:pa w' (h.set id (.row T l)) (c.put id (some w.heap.size) 0) id (.row T l):=by
  refine .inr ⟨w.heap.size,ds,e,fz,cV _ _ _,Ew,by rw[eB]; omega,hfz,fun n j y v hy hv => ?_⟩;obtain ⟨d,h1,h2⟩:=hr n j y v hy hv;exact ⟨d,by rw[eB,Nat.zero_add]; exact h1,h2.mono x⟩
 refine ⟨_,_,_,nG,GO wf hb hid hf TL JH,x,?_⟩;refine .row (xC hid (by simp)) (by omega) ⟨_,_,rfl,⟨jd,uP,fun _=>⟨_,rfl⟩⟩,fun T' l' he => ?_⟩;rw[ma _ hid]at he;cases he;exact ⟨rfl,jd,uP, .inr ⟨w.heap.size,ds,e,fz,cV _ _ _,by rw[eB],Ew,by rw[eB]; omega⟩⟩
theorem W9 (wf:WF w h c) {T:Ty} {l:List T.den} {ds:Array Value} {w':World} (hb:Below w.heap.size w w') {e:TypeId} {fz:Nat×Nat} (Ew:w'.heap[w.heap.size]? = some (.cells ds e fz))
  (hfz:∀x,(x<ds.size∨T.P2=true)→w'.frozen? ⟨w.heap.size,x,none⟩=false) {cap:Nat} (jd:l.length≤cap) (uP:cap≤mx) (rV:cap*T.sz≤ds.size)
  (hr:∀(n j:Nat) (x:T.den) (v:V),l[n]? = some x→(T.cells x)[j]? = some v→∃d,ds[n*T.sz+j]? = some d∧∀(w:World) (h:aN) (c:j8),dx w h c v d)
  {s:Sem Value} (nG:s.run P w = .ok (.slice (some ⟨w.heap.size,0,none⟩) l.length cap) w') :
  TK P w h c s (.row T l) fun i => .row i l.length:=by
 intro id hid hf;have TL:∀b,some w.heap.size=some b→w.heap.size≤b:=by intro b hb; cases hb; exact Nat.le_refl _
 have x:=yu (h:=h) (c:=c) hb hf (.row T l) (no:=0) TL;have hm:l.length*T.sz≤cap*T.sz:=Nat.mul_le_mul_right _ jd;have JH:pa w' (h.set id (.row T l)) (c.put id (some w.heap.size) 0) id (.row T l):=by
  refine .inr ⟨w.heap.size,ds,e,fz,cV _ _ _,Ew,by rw[eB]; omega,hfz,fun n j y v hy hv => ?_⟩;obtain ⟨d,h1,h2⟩:=hr n j y v hy hv;exact ⟨d,by rw[eB,Nat.zero_add]; exact h1,h2 _ _ _⟩
 refine ⟨_,_,_,nG,GO wf hb hid hf TL JH,x,?_⟩;refine .row (xC hid (by simp)) (by omega) ⟨_,_,rfl,⟨jd,uP,fun _=>⟨_,rfl⟩⟩,fun T' l' he => ?_⟩;rw[ma _ hid]at he;cases he;exact ⟨rfl,jd,uP, .inr ⟨w.heap.size,ds,e,fz,cV _ _ _,by rw[eB],Ew,by rw[eB]; omega⟩⟩
theorem Xa (T:CU P tt) (wf:WF w h c) {t len:Nat} {parts:Array (Nat×Operand)} {ρ:Operand→V} {ρ':Operand→Value} (hρ:∀x,dx w h c (ρ x) (ρ' x)) {k:cb→(Nat→V)→Option R} {r:R}
  (hk:opA tt (.buildSlice t len parts) ρ k=some r):∃ob mk,k ob mk=some r∧ob ≠ .free∧TK P w h c (Instr.buildSlice t len (parts.map fun (i,x)=>(i,ρ' x))) ob mk:=by
 simp only[opA]at hk;split at hk
 ·rename_i e hd;split at hk
  ·cases hk
  ·rename_i SU;simp only[Bool.or_eq_true,Bool.not_eq_true',decide_eq_true_eq,not_or,Bool.not_eq_false,Nat.not_lt]at SU;obtain ⟨⟨rV,hsm⟩,sR⟩:=SU;have hu:=ez T hd;simp only[TD.Is]at hu;have hse:=T.sizeOf (w:=w) sR;obtain ⟨z,hz,hzs,hzr⟩:=T.zero (w:=w) sR;have Nr:=parts_map hρ parts.toList;have hmade:=made_rep (w:=w) (h:=h) (c:=c) (hzr w h c) len;rw[hzs]at hmade;have key:∀cs,SQ ((List.replicate len (tt.at e).zero).flatten) (parts.toList.map fun (i,x)=>(i*(tt.at e).size,(tt.at e).size,ρ x))=some cs →
     ∃ds:Array Value,cz w h c cs ds.toList∧ds.size=len*(tt.at e).size ∧
      (Instr.buildSlice t len (parts.map fun (i,x)=>(i,ρ' x))).run P w = .ok (.slice (some ⟨w.heap.size,0,none⟩) len len) (w.alloc (.cells ds e)):=by
    intro cs hf;obtain ⟨W6,h1,h2,h3⟩:=Nl (w:=w) (h:=h) (c:=c) (fun i=>some (i*(tt.at e).size,(tt.at e).size)) (parts.toList.map fun p=>(p.1,ρ p.2)) (parts.toList.map fun p=>(p.1,ρ' p.2))
     ((List.replicate len (tt.at e).zero).flatten) (madeCells z.cells (len*(tt.at e).size)) cs Nr.1 Nr.2 hmade (by
      rw[←hf,List.map_map];congr 1) (by rw[size_madeCells]; omega)
    rw[size_madeCells]at h3;refine ⟨W6,h2,h3,?_⟩;have hlim:¬(len*(tt.at e).size>2 ^ 24):=by omega
    simp only[Instr.buildSlice,Sem.run_bind,run_underlying hu,Result.andThen_ok,hse,if_neg hlim];by_cases Yb:len*(tt.at e).size=0
    ·simp only[Yb,if_true,Array.toList_map];have e0:madeCells z.cells (len*(tt.at e).size) = #[]:=by rw[Yb]; simp[madeCells]
     rw[e0]at h1;simp only[Array.range_zero',Array.map_empty];rw[h1];simp[newRow]
    ·simp only[if_neg Yb,Sem.run_bind,hz,Result.andThen_ok,Sem.run_pure,Array.toList_map];have e1:(Array.range (len*(tt.at e).size)).map (z.cells[· % z.cells.size]!)=madeCells z.cells (len*(tt.at e).size):=rfl;rw[e1,h1];simp[newRow]
   split at hk
   ·rename_i cs T' hf hty;split at hk
    ·rename_i hT;obtain ⟨ds,g1,g2,g3⟩:=key cs hf;split at hk
     ·rename_i F5;simp only[Bool.and_eq_true,decide_eq_true_eq]at F5;obtain ⟨_,rfl⟩:=F5;have hds:ds.size=0:=by omega
      have Ew:=heap_alloc_new w (.cells ds e);exact ⟨_,_,hk,by simp,W9 (T:=T') (l := []) (cap:=0) wf (qD w _) Ew (fun x _=>xD Ew x) (Nat.le_refl _) (by unfold mx; omega) (by omega) (fun n j x v hx=>by simp at hx) g3⟩
     split at hk
     ·split at hk <;> (try cases hk);rename_i l hl;rw[←hT]at hl g2;have hlen:l.length=len:=by rw[E3 hl,E2]
      have Ew:=heap_alloc_new w (.cells ds e);have uP:len≤mx:=by unfold mx; have:len≤len*(tt.at e).size:=Nat.le_mul_of_pos_right _ (by omega); omega
      have hel:=elems_rep g1 hl;exact ⟨_,_,hk,by simp,alloc_row2 (T:=T') (l:=l) (cap:=l.length) wf (qD w _) Ew (fun x _=>xD Ew x) (Nat.le_refl _) (by omega) (by rw[hlen]; omega) (fun n j x v hx hv=>by
       have hn:n<l.length:=(List.getElem?_eq_some_iff.1 hx).1;have hj:j<T'.sz:=by rw[←T'.je x]; exact (List.getElem?_eq_some_iff.1 hv).1
       have jz:n*T'.sz+j<ds.size:=by
        have:=Nat.mul_le_mul_right T'.sz (show n+1≤len by omega);rw[Nat.succ_mul]at this; omega
       have:=hel n j x v hx hv;refine ⟨_,?_,this⟩;simp[List.getD,jz]) (by rw[hlen]; exact g3)⟩
     split at hk
     ·rename_i l hl;rw[←hT]at hl g2;exact ⟨_,_,hk,by simp,alloc_slice wf g1 hl g2 (by unfold mx; have:len≤len*(tt.at e).size:=Nat.le_mul_of_pos_right _ (by omega); omega) e (fun hT'=>⟨rfl,T.u8s e (by rw[hty,hT'])⟩) g3⟩
     ·exact ⟨_,_,hk,by simp,Vh wf (sz:=(tt.at e).size) g1 (by have:=g1.1; simp at this; omega) (by unfold mx; have:len≤len*(tt.at e).size:=Nat.le_mul_of_pos_right _ (by omega); omega) e g3⟩
    ·cases hk
   ·rename_i cs hf hty;obtain ⟨ds,g1,g2,g3⟩:=key cs hf;exact ⟨_,_,hk,by simp,Vh wf (sz:=(tt.at e).size) g1 (by have:=g1.1; simp at this; omega) (by unfold mx; have:len≤len*(tt.at e).size:=Nat.le_mul_of_pos_right _ (by omega); omega) e g3⟩
   ·cases hk
 ·cases hk
theorem E4 {o:Oper} {ρ':Operand→Value} {s:Sem Value} {ob:cb} {mk:Nat→V} (he:execOp ρ' o=(do pure (.value (←s)))) (ha:TK P w h c s ob mk) :
  ∀id,id<h.length→h.at id = .free→∃v' w' c',(execOp ρ' o).run P w = .ok (.value v') w'∧WF w' (h.set id ob) c'∧Ext w h c w' (h.set id ob) c'∧dx w' (h.set id ob) c' (mk id) v':=by
 intro id hid hf;obtain ⟨v',w',c',h1,h2⟩:=ha id hid hf;exact ⟨v',w',c',by rw[he]; simp[h1],h2⟩
theorem Xb (T:CU P tt) {t e:Nat} (hd:(tt.at t).d = .slice e) (sR:tt.ok e=true) {i j:IntKind} {a:Int} (h0:0≤a) (hb:a*(tt.at e).bytes≤140737488355328) (uP:a≤9223372036854775807) :
  ∃z:Value,z.cells.size=(tt.at e).size∧(∀(w:World) (h:aN) (c:j8),cz w h c (tt.at e).zero z.cells.toList) ∧
   (Instr.makeSlice t (.int i a) (.int j a)).run P w = .ok (.slice (some ⟨w.heap.size,0,none⟩) a.toNat a.toNat) (w.alloc (.cells (madeCells z.cells (a.toNat*(tt.at e).size)) e)):=by
 have hu:=ez T hd;simp only[TD.Is]at hu;obtain ⟨inf,z,hi,hs,hby,hz,hzs,hr⟩:=T.info e sR;have nG:=run_make (P:=P) w t e inf z hu hi hz i j a a h0 (Int.le_refl _) (by rw[hby,Int.mul_comm]; omega) uP;rw[hs]at nG;exact ⟨z,by omega,hr,nG⟩
theorem zero_made {z:Array Value} (n:Nat) {i j:Nat} (hi:i<n) (hj:j<z.size):(madeCells z (n*z.size))[i*z.size+j]? = some (z[j]):=by
 have jz:i*z.size+j<n*z.size:=by
  have:=Nat.mul_le_mul_right z.size hi;rw[Nat.succ_mul]at this; omega
 simp only[madeCells,Array.getElem?_map];rw[Array.getElem?_eq_getElem (by simpa using jz)];simp only[Array.getElem_range,Option.map_some];congr 1;rw[Nat.mul_comm,Nat.mul_add_mod,Nat.mod_eq_of_lt hj,getElem!_pos z j hj]
theorem Vi (e:TypeId) (s:ByteArray):∃(cap:Nat) (w':World),(Conv.stringToBytes e s).run P w = .ok (.slice (some ⟨w.heap.size,0,none⟩) s.size cap) w'∧Below w.heap.size w w'∧s.size≤cap∧(s.size≤mx→cap≤mx) ∧
  ∃ds:Array Value,w'.heap[w.heap.size]? = some (.cells ds e (ds.size,ds.size+1))∧ds.size=cap∧∀(i:Nat) (b:UInt8),s.data.toList[i]? = some b→ds[i]? = some (.int .u8 b.toNat):=by
 let cap:=(Question.appendCap s.size 0 e).cut (w.tape w.drawn (.appendCap s.size 0 e))
 have jd:s.size≤cap:=by simp only[cap,Question.cut]; omega
 let ds:Array Value:=(s.data.map fun b=>Value.int .u8 b.toNat)++Array.replicate (cap - s.size) (.int .u8 0)
 have hds:ds.size=cap:=by
  simp only[ds,Array.size_append,Array.size_map,Array.size_replicate];have:s.data.size=s.size:=rfl;omega
 refine ⟨cap,(w.drew.alloc (.cells ds e)).freeze ⟨w.heap.size,ds.size,none⟩ 1,?_,?_,jd,fun hs => ?_,ds,?_,hds,fun i b hb => ?_⟩
 ·have hf:(Question.appendCap s.size 0 e).forced=false:=rfl;simp only[Conv.stringToBytes,Sem.run_bind,run_choose,hf];simp only[Bool.false_eq_true,if_false,Result.andThen_ok,newRow,Sem.run_bind,run_newObj,Sem.run_pure];have hsh:(w.drew.alloc (.cells ds e)).shape? w.heap.size=some (e,ds.size):=by
   have:=heap_alloc_new w.drew (.cells ds e);simp only[World.shape?];rw[show (w.drew.alloc (.cells ds e)).heap[w.heap.size]? = some (.cells ds e)from this]
  show ((markStringish ⟨w.heap.size,0,none⟩).run P (w.drew.alloc (.cells ds e))).andThen _=_;simp only[markStringish,Sem.run_bind,run_shape,hsh,Result.andThen_ok,run_freeze];rfl
 ·refine ⟨rfl,rfl,rfl,?_,fun k hk => ?_⟩
  ·have:((w.drew.alloc (.cells ds e)).freeze ⟨w.heap.size,ds.size,none⟩ 1).heap.size=w.heap.size+1:=by simp[World.freeze]
   omega
  ·simp only[World.freeze];rw[if_neg (by decide)];simp only[Array.getElem?_modify];rw[if_neg (by show ¬w.heap.size=k; omega)];exact Below.heap_alloc w.drew _ k hk
 ·have jz:w.tape w.drawn (Question.appendCap s.size 0 e) % (2 ^ 63 - s.size)<2 ^ 63 - s.size:=Nat.mod_lt _ (by unfold mx at hs; omega);simp only[cap,Question.cut];unfold mx at hs ⊢;omega
 ·simp only[World.freeze];rw[if_neg (by decide)];simp only[Array.getElem?_modify];have:=heap_alloc_new w.drew (.cells ds e);rw[show (w.drew.alloc (.cells ds e)).heap[w.heap.size]? = some (.cells ds e)from this];simp
 ·have jz:i<s.data.size:=by
   have:=(List.getElem?_eq_some_iff.1 hb).1;simpa using this
  simp only[ds];rw[Array.getElem?_append_left (by simpa using jz)];simp only[Array.getElem?_map];have:s.data[i]? = some b:=by simpa using hb
  rw[this]; rfl
theorem opA_sound (T:CU P tt) (wf:WF w h c) {o:Oper} {ρ:Operand→V} {ρ':Operand→Value} (hρ:∀x,dx w h c (ρ x) (ρ' x)) {k:cb→(Nat→V)→Option R} {r:R}
  (hk:opA tt o.op ρ k=some r):∃ob mk,k ob mk=some r∧ob ≠ .free∧∀id,id<h.length→h.at id = .free →
   ∃v' w' c',(execOp ρ' o).run P w = .ok (.value v') w'∧WF w' (h.set id ob) c'∧Ext w h c w' (h.set id ob) c'∧dx w' (h.set id ob) c' (mk id) v':=by
 obtain ⟨dst,op,type,pos,after,guard⟩:=o;cases op <;> (try simp only[opA]at hk) <;> (try cases hk)
 case alloc t =>
  split at hk
  ·rename_i hb;obtain ⟨rfl,hz0,sR⟩:=T.blds t hb;obtain ⟨z,hz,hzs,hzr⟩:=T.zero (w:=w) sR;refine ⟨_,_,hk,by simp,E4 (s:=Instr.alloc pW.mZ true (.tuple #[])) rfl ?_⟩;have hzr:=hzr w h c;rw[hz0]at hzr;have FN:z.cells = #[.pointer none, .slice none 0 0]:=by
    generalize z.cells=q at hzr;obtain ⟨l⟩:=q
    match l,hzr with
    | [p,d],hzr =>
     have r0:=hzr.head;have r1:=hzr.tail.head;cases r0; cases r1; rfl
    | [],hzr=>have:=hzr.1; simp at this
    | [_],hzr=>have:=hzr.1; simp at this
    | _::_::_::_,hzr=>have:=hzr.1; simp at this
   intro id hid hf;have hbel:=qD w (.cells #[.pointer none, .slice none 0 0] pW.mZ);have hn:∀b,some w.heap.size=some b→w.heap.size≤b:=by intro b hb; cases hb; exact Nat.le_refl _
   have x:=yu (h:=h) (c:=c) hbel hf (.mZ .bB) (no:=0) hn;have JH:pa (w.alloc (.cells #[.pointer none, .slice none 0 0] pW.mZ)) (h.set id (.mZ .bB)) (c.put id (some w.heap.size) 0) id (.mZ .bB) :=
    ⟨w.heap.size,_,_,cV _ _ _,heap_alloc_new w _, .inl rfl, .bB⟩
   exact ⟨_,_,_,by simp[Instr.alloc,hz,newVar,newRow,FN],GO wf hbel hid hf hn JH,x, .ptr (xC hid (by simp)) ⟨w.heap.size,rfl,fun _=>cV _ _ _⟩⟩
  split at hk
  ·rename_i sR;obtain ⟨z,hz,hzs,hzr⟩:=T.zero (w:=w) sR;exact ⟨_,_,hk,by simp,E4 (s:=Instr.alloc t true (.tuple #[])) rfl (Yc wf (hzr w h c) t (by simp[Instr.alloc,hz,newVar,newRow]))⟩
  ·cases hk
 case box t x =>
  split at hk
  ·rename_i cs FN;split at hk
   ·obtain ⟨rv,_,_⟩:=P6 (hρ x) FN;exact ⟨_,_,hk,by simp,E4 (s:=Instr.box t (ρ' x)) rfl (Yc wf rv t (by simp[Instr.box,newVar,newRow]))⟩
   ·cases hk
  ·cases hk
 case buildSlice t len parts =>
  obtain ⟨ob,mk,h1,h0,h2⟩:=Xa T wf hρ hk;exact ⟨ob,mk,h1,h0,E4 rfl h2⟩
 case makeSlice t n cc =>
  split at hk
  ·rename_i e i a j b hd hn hc;split at hk
   ·rename_i T' hty;split at hk
    ·rename_i z hz;split at hk
     ·rename_i sC;simp only[Bool.and_eq_true,decide_eq_true_eq]at sC;obtain ⟨rV,sR⟩:=sC;obtain ⟨hb,RZ⟩:=bY hk;clear hk;simp only[Bool.and_eq_true,decide_eq_true_eq]at hb;obtain ⟨⟨⟨h0,rfl⟩,hby⟩,uP⟩:=hb;have rn:=hρ n;have rc:=hρ cc;rw[hn]at rn; rw[hc]at rc;obtain ⟨en,hn1,hn2⟩:=rn.fA;obtain ⟨ec,hc1,hc2⟩:=rc.fA;obtain ⟨zv,g1,g2,g3⟩:=Xb (w:=w) (i:=i) (j:=j) T hd sR h0 hby (by omega);have Ew:=heap_alloc_new w (.cells (madeCells zv.cells (a.toNat*(tt.at e).size)) e);have hs:(Instr.makeSlice t (ρ' n) (ρ' cc)).run P w = .ok (.slice (some ⟨w.heap.size,0,none⟩) (List.replicate a.toNat z).length a.toNat) (w.alloc (.cells (madeCells zv.cells (a.toNat*(tt.at e).size)) e)):=by
       rw[en,ec,g3]; simp
      have:=W9 (T:=T') (l:=List.replicate a.toNat z) wf (qD w _) Ew (fun x _=>xD Ew x) (by simp) (by unfold mx; omega) (by rw[size_madeCells,rV]; exact Nat.le_refl _) (fun n' j' x v hx hv=>by
       simp only[List.getElem?_replicate]at hx;split at hx
       ·rename_i jz;cases hx;have hj:j'<T'.sz:=by rw[←T'.je z]; exact (List.getElem?_eq_some_iff.1 hv).1
        have hj':j'<zv.cells.size:=by omega
        have hm:=zero_made (z:=zv.cells) a.toNat jz hj';rw[g1]at hm;rw[rV];refine ⟨_,hm,fun w h c => ?_⟩;exact (R2 hz (g2 w h c)).2 j' v _ hv (by simp[hj'])
       ·cases hx) hs
      have e2:(List.replicate a.toNat z).length=a.toNat:=List.length_replicate;rw[e2]at this;exact ⟨_,_,RZ,by simp,E4 (o:=⟨dst, .makeSlice t n cc,type,pos,after,guard⟩) rfl this⟩
     ·cases hk
    ·cases hk
   ·cases hk
  ·cases hk
 case convert s d x =>
  split at hk
  ·rename_i e t hs hd hx;split at hk
   ·rename_i he;have rx:=hρ x;rw[hx]at rx;obtain ⟨bs,hv,rfl,hl⟩:=rx.gS;have us:=ez T hs;have ud:=ez T hd;have ue:=ez T he;simp only[TD.Is]at us ud ue;obtain ⟨cap,w',g1,g2,g3,g4,ds,g5,g6,g7⟩:=Vi (P:=P) (w:=w) e bs;obtain ⟨l,hl'⟩:∃l:List Int,l=bs.data.toList.map fun b=>(b.toNat:Int):=⟨_,rfl⟩
    have hlen:l.length=bs.size:=by rw[hl',List.length_map,size_data]
    have Iz:∀(n:Nat) (z:Int),l[n]? = some z→∃b:UInt8,bs.data.toList[n]? = some b∧z=b.toNat:=fun n z hz=>by
     rw[hl',List.getElem?_map]at hz;cases hb:bs.data.toList[n]? with
     | none=>rw[hb]at hz; cases hz
     | some b=>rw[hb]at hz; simp at hz; exact ⟨b,rfl,hz.symm⟩
    have nG:(convert s d (ρ' x)).run P w = .ok (.slice (some ⟨w.heap.size,0,none⟩) l.length cap) w':=by
     rw[hv,hlen];simp only[convert,Sem.run_bind,run_underlying us,run_underlying ud,run_underlying ue,Result.andThen_ok,g1]
    have:=W9 (T := .int .u8) (l:=l) wf g2 g5 (fun y hy=>by
      have hy:y<_:=hy.resolve_right (by simp[Ty.P2]);simp only[World.frozen?,g5];simp; omega) (cap:=cap) (by show l.length≤cap; omega) (g4 hl) (by simp[Ty.sz]; omega) (fun n j y v hy hv=>by
      obtain ⟨b,h1,rfl⟩:=Iz n y hy;have hj:j<1:=by
       have:=(List.getElem?_eq_some_iff.1 hv).1;simpa [Ty.cells]using this
      obtain rfl:j=0:=by omega
      simp[Ty.cells]at hv;subst hv;exact ⟨_,by simpa [Ty.sz]using g7 n b h1,fun w h c => .int (has_byte _ (UInt8.toNat_lt b))⟩) nG
    have e2:List.length (α:=Int) l=bs.data.toList.length:=by rw[hlen,size_data]
    refine ⟨.row (.int .u8) l,fun i => .row i (List.length (α:=Int) l),?_,by simp,E4 (o:=⟨dst, .convert s d x,type,pos,after,guard⟩) rfl this⟩;rw[e2,hl']; exact hk
   ·cases hk
  ·cases hk
 case makeMap t rsv =>
  split at hk <;> (try cases hk);rename_i hrs;split at hk <;> (try cases hk);rename_i kt vt hd;split at hk <;> (try cases hk);rename_i K V' hK hV;split at hk <;> (try cases hk);rename_i hf;simp only[Bool.and_eq_true]at hf;have hu:=ez T hd;simp only[TD.Is]at hu;refine ⟨_,_,hk,by simp,fun id hid hfr => ?_⟩;have hb:=qD w (.map #[] 0);have TL:∀b,some w.heap.size=some b→w.heap.size≤b:=by intro b hb; cases hb; exact Nat.le_refl _
  have x':=yu (h:=h) (c:=c) hb hfr (.Bs K V' []) (no:=0) TL;have JH:pa (w.alloc (.map #[] 0)) (h.set id (.Bs K V' [])) (c.put id (some w.heap.size) 0) id (.Bs K V' []) :=
   ⟨w.heap.size, #[],0,cV _ _ _,heap_alloc_new w _,(fits_one hf.1).2,elFits_one hf.2,rfl,fun j q e hq=>by simp at hq⟩
  refine ⟨.map (some w.heap.size),_,_,?_,GO wf hb hid hfr TL JH,x', .map (xC hid (by simp)) ⟨w.heap.size,rfl,fun _=>cV _ _ _⟩⟩;cases rsv with
  | none=>simp[execOp,Instr.makeMap]
  | some x =>
   have rx:=hρ x;unfold LZ at hrs;simp only at hrs;split at hrs
   ·rename_i i n hx;rw[hx]at rx;simp[execOp,Instr.makeMap,run_underlying hu,rx.fA.1,asInt,asIntOf]
   ·cases hrs
 case range t x =>
  split at hk
  ·rename_i s hd hx;have rx:=hρ x;rw[hx]at rx;obtain ⟨bs,hv,rfl,hl⟩:=rx.gS;have hu:=ez T hd;simp only[TD.Is]at hu;refine ⟨_,_,hk,by simp,fun id hid hf => ?_⟩;have hb:=qD w (.stringIter bs 0);have TL:∀b,some w.heap.size=some b→w.heap.size≤b:=by intro b hb; cases hb; exact Nat.le_refl _
   have x':=yu (h:=h) (c:=c) hb hf (.iter bs.data.toList 0) (no:=0) TL;have JH:pa (w.alloc (.stringIter bs 0)) (h.set id (.iter bs.data.toList 0)) (c.put id (some w.heap.size) 0) id (.iter bs.data.toList 0) :=
    ⟨w.heap.size,bs,cV _ _ _,heap_alloc_new w _,rfl,hl⟩
   refine ⟨.pointer (some ⟨w.heap.size,0,none⟩),_,_,?_,GO wf hb hid hf TL JH,x', .ptr (xC hid (by simp)) ⟨w.heap.size,rfl,fun _=>cV _ _ _⟩⟩;simp[execOp,hv,Instr.range,run_underlying hu]
  ·cases hk
end
section
variable {P:Program} {tt:dn} {w w':World} {h:aN} {c:j8} {R:Type}
structure Wrote (w w':World) (b:Nat) (cur:Array Value) (e:TypeId) (fz:Nat×Nat):Prop where
 os:w'.os=w.os
 tape:w'.tape=w.tape
 output:w'.output=w.output
 size:w'.heap.size=w.heap.size
 other:∀k,k≠b→w'.heap[k]? = w.heap[k]?
 here:w'.heap[b]? = some (.cells cur e fz)
theorem L5 {w:World} {b:Nat} {arr:Array Value} {e:TypeId} {lo hi:Nat} (hb:w.heap[b]? = some (.cells arr e (lo,hi))) (x:Nat):w.frozen? ⟨b,x,none⟩=(decide (lo≤x)&&decide (x<hi)):=by
 simp[World.frozen?,hb]
theorem frozen_low {w:World} {b:Nat} {arr:Array Value} {e:TypeId} {fz:Nat×Nat} (hb:w.heap[b]? = some (.cells arr e fz)) {o x:Nat} (hf:fz.1=fz.2∨fz.2≤o) (hx:o≤x):w.frozen? ⟨b,x,none⟩=false:=by
 obtain ⟨lo,hi⟩:=fz;rw[L5 hb];simp only at hf;rcases hf with rfl|hf
 ·by_cases h:lo≤x
  ·simp[h]
  ·simp[h]
 ·have:¬x<hi:=by omega
  simp[this]
theorem pb (b o:Nat) (e:TypeId) (fz:Nat×Nat):∀(vs:List Value) (i:Nat) (cur:Array Value) (w:World),w.heap[b]? = some (.cells cur e fz)→o+i+vs.length≤cur.size →
  (∀x,o+i≤x→x<o+i+vs.length→w.frozen? ⟨b,x,none⟩=false)→Ones vs →
  ∃(w':World) (oY:Array Value),(storeCells ⟨b,o,none⟩ vs i).run P w = .ok () w'∧Wrote w w' b oY e fz∧oY.toList=cur.toList.take (o+i)++vs++cur.toList.drop (o+i+vs.length)
 | [],i,cur,w,hb,_,_,_=>⟨w,cur,by simp[storeCells],⟨rfl,rfl,rfl,rfl,fun _ _=>rfl,hb⟩,by simp⟩
 | v::vs,i,cur,w,hb,hs,hf,h1=>by
  simp only[List.length_cons]at hs hf;have hv:v.oneCell'=true:=h1 v (by simp);have jz:o+i<cur.size:=by omega
  have EN:w.cell? ⟨b,o+i,none⟩=some cur[o+i]:=by rw[cell_of_row w b _ cur e fz hb]; exact Array.getElem?_eq_getElem jz
  have hfz:=hf (o+i) (Nat.le_refl _) (by omega);have hstore:(store ((⟨b,o,none⟩:Addr).add i) v).run P w = .ok () (w.setCell ⟨b,o+i,none⟩ v):=by
   rw[sV,run_store P w _ v _ hv,EN];simp[hfz]
  have pX:(w.setCell ⟨b,o+i,none⟩ v).heap[b]? = some (.cells (cur.setIfInBounds (o+i) v) e fz):=by
   simp[World.setCell,Array.getElem?_modify,hb]
  obtain ⟨w',oY,g1,g2,g3⟩:=pb b o e fz vs (i+1) (cur.setIfInBounds (o+i) v) (w.setCell ⟨b,o+i,none⟩ v) pX (by simp; omega)
   (fun x hx1 hx2=>by rw[World.frozen?_setCell]; exact hf x (by omega) (by omega)) (fun d hd=>h1 d (by simp[hd]))
  refine ⟨w',oY,?_,⟨g2.os,g2.tape,g2.output,by rw[g2.size]; simp,fun k hk => ?_,g2.here⟩,?_⟩
  ·simp only[storeCells,Sem.run_bind,hstore,Result.andThen_ok,g1]
  ·rw[g2.other k hk]; exact heap_setCell_other w _ k v hk
  ·rw[g3];have:=setAll [v] 0 (o+i) cur (by simp; omega);simp only[List.zipIdx_cons,List.zipIdx_nil,List.foldl_cons,List.foldl_nil,Nat.add_zero,List.length_singleton]at this;rw[this];have e1:o+(i+1)=o+i+1:=by omega
   have l1:(cur.toList.take (o+i) ++ [v]).length=o+i+1:=by simp; omega
   rw[e1,List.take_append_of_le_length (by omega),List.take_of_length_le (by omega)];have e2:o+i+1+vs.length=(cur.toList.take (o+i) ++ [v]).length+vs.length:=by omega
   rw[e2,List.drop_append];have e3:(cur.toList.take (o+i) ++ [v]).length+vs.length - (cur.toList.take (o+i) ++ [v]).length=vs.length:=by omega
   rw[e3,List.drop_eq_nil_of_le (by omega),List.nil_append,List.drop_drop];simp only[List.append_assoc,List.length_cons,List.cons_append];rw[List.nil_append,show o+i+1+vs.length=o+i+(vs.length+1)from by omega]
theorem Vj {i b:Nat} {o':cb} {cur oY:Array Value} {e:TypeId} {fz:Nat×Nat} (hb:c.wO i=some b) (Vk:w.heap[b]? = some (.cells cur e fz)) (hw:Wrote w w' b oY e fz) (rV:oY.size=cur.size)
  (wR:(h.at i).from_ (c.off i)=some 0) (hfrom':o'.from_ (c.off i)=some 0) (zA:(h.at i).iS o'):Ext w h c w' (h.set i o') c:=by
 have hi:i<h.length:=aN.gK rfl (cb.L2 zA).1;have mz:∀x,yt h c b x:=fun x=>⟨i,0,hb,wR,Nat.zero_le _⟩
 constructor
 ·exact hw.os
 ·exact hw.tape
 ·exact hw.output
 ·rw[hw.size]; exact Nat.le_refl _
 ·intro j hj;by_cases B7:i=j
  ·subst B7;refine ⟨by simpa using hj.1,?_⟩;rw[ma _ hi];intro he; subst he; simp[cb.from_]at hfrom'
  ·exact ⟨by simpa using hj.1,by rw[cF _ B7]; exact hj.2⟩
 ·intro j hj hd;refine ⟨?_,rfl,rfl⟩;by_cases B7:i=j
  ·subst B7; rw[ma _ hi]; exact zA
  ·rw[cF _ B7]at hd ⊢;have h2:=hj.2
   revert hd h2
   cases h.at j <;> simp[cb.iS]
 ·intro b' x hx ho;have jW:b'≠b:=by rintro rfl; exact ho (mz x)
  exact xB (hw.other b' jW)
 ·intro b' hx ho;have jW:b'≠b:=by rintro rfl; exact ho 0 (mz 0)
  exact hw.other b' jW
 ·rintro b' x hx ⟨j,f,g1,g2,g3⟩
  by_cases B7:i=j
  ·subst B7;rw[hb]at g1; cases g1;exact mz x
  ·rw[cF _ B7]at g2;exact ⟨j,f,g1,g2,g3⟩
 ·rfl
 ·intro b' arr el P5 ha;by_cases jW:b'=b
  ·subst jW;rw[Vk]at ha; cases ha;exact ⟨oY,fz,hw.here,rV⟩
  ·exact ⟨arr,P5,by rw[hw.other b' jW]; exact ha,rfl⟩
theorem wi {o:cb} {f g:Nat} (hf:o.from_ f=some g):o.live:=by revert hf; cases o <;> simp[cb.from_,cb.live]
theorem upd_wf (wf:WF w h c) {i b:Nat} {o':cb} {cur oY:Array Value} {e:TypeId} {fz:Nat×Nat} (hb:c.wO i=some b) (Vk:w.heap[b]? = some (.cells cur e fz)) (hw:Wrote w w' b oY e fz) (rV:oY.size=cur.size)
  (wR:(h.at i).from_ (c.off i)=some 0) (hfrom':o'.from_ (c.off i)=some 0) (zA:(h.at i).iS o') (JH:pa w' (h.set i o') c i o'):WF w' (h.set i o') c:=by
 have hi:i<h.length:=aN.gK rfl (cb.L2 zA).1;have x:=Vj hb Vk hw rV wR hfrom' zA;have hli:=wi wR;have hlive:∀j,(aN.at (h.set i o') j).live→(h.at j).live:=fun j hj=>by
  by_cases B7:i=j
  ·subst B7; exact hli
  ·rw[cF _ B7]at hj; exact hj
 constructor
 ·intro b' y ho he;exact wf.Ev b' y (x.CF b' y (wf.sB b' y he) ho) he
 ·intro b' y he;rw[hw.size]; exact wf.sB b' y he
 ·intro j hj;by_cases B7:i=j
  ·subst B7; rw[ma _ hi]; exact JH
  ·rw[cF _ B7];by_cases hl:(h.at j).live
   ·refine (wf.obj j (by simpa using hj)).Ar x (fun b' pX=>hw.other b' ?_) rfl rfl
    rintro rfl
    exact B7 (wf.inj i j b' hli hl hb pX)
   ·revert hl; cases h.at j <;> simp[cb.live,pa]
 ·intro j k b' hj hk h1 h2;exact wf.inj j k b' (hlive j hj) (hlive k hk) h1 h2
 ·exact wf.wQ x
theorem splice_len {cs vs:List V} {o:Nat} (h:o+vs.length≤cs.length):(GM cs o vs).length=cs.length:=by simp[GM]; omega
theorem splice_rep {cs vs:List V} {ds us:List Value} (r:cz w h c cs ds) (s:cz w h c vs us) (o:Nat):cz w h c (GM cs o vs) (ds.take o++us++ds.drop (o+us.length)):=by
 unfold GM;rw[s.1];exact ((r.take o).append s).append (r.drop _)
theorem store_cells (wf:WF w h c) {t:Nat} (T:CU P tt) {i o:Nat} {cs vs:List V} {a' y':Value} (ra:dx w h c (.ptr i o) a') (FN:h.at i = .cells cs) (rv:cz w h c vs y'.cells.toList) (h1:Ones y'.cells.toList)
  (sR:tt.ok t=true) (rV:vs.length=(tt.at t).size) (jz:o+vs.length≤cs.length) :
  ∃w',(Instr.storeAt t a' y').run P w = .ok () w'∧WF w' (h.set i (.cells (GM cs o vs))) c∧Ext w h c w' (h.set i (.cells (GM cs o vs))) c:=by
 have hi:=aN.gK FN (by simp);have ho:=wf.obj i hi;rw[FN]at ho;obtain ⟨b,arr,e,g1,g2,g3⟩:=ho;cases ra with
 | ptr hu hv =>
  obtain ⟨b',rfl,pX⟩:=hv;have:=pX (by rw[FN]; simp);rw[g1]at this; cases this;have hl:=g3.1;simp only[Array.length_toList]at hl;have hlv:=rv.1;obtain ⟨w',oY,k1,k2,k3⟩:=pb (P:=P) b o e (0,0) y'.cells.toList 0 arr w g2 (by omega) (fun x _ _=>xD g2 x) h1;have Nq:oY.size=arr.size:=by
   rw[←Array.length_toList,k3]; simp only[Array.length_toList,List.length_append,List.length_take,List.length_drop]at *; omega
  have wR:(h.at i).from_ (c.off i)=some 0:=by rw[FN]; rfl
  have zA:(h.at i).iS (.cells (GM cs o vs)):=by rw[FN]; exact (splice_len jz).symm
  have x:=Vj g1 g2 k2 Nq wR rfl zA;refine ⟨w',?_,upd_wf wf g1 g2 k2 Nq wR rfl zA ⟨b,oY,e,g1,k2.here,?_⟩,x⟩
  ·simp only[Instr.storeAt,Instr.sureAddr,Sem.run_bind,Sem.run_pure,Result.andThen_ok,storeVar,T.sizeOf sR];rw[if_neg (by simp only[Array.length_toList]at hlv; omega)];simp only[k1]
  ·rw[k3];exact splice_rep (g3.mono x) (rv.mono x) _
theorem store_bld (wf:WF w h c) {t:Nat} (T:CU P tt) {i:Nat} {u v:V} {a' y':Value} (ra:dx w h c (.ptr i 1) a') (FN:h.at i = .mZ u) (rv:cz w h c [v] y'.cells.toList) (h1:Ones y'.cells.toList)
  (sR:tt.ok t=true) (rV:1=(tt.at t).size) :
  ∃w',(Instr.storeAt t a' y').run P w = .ok () w'∧WF w' (h.set i (.mZ v)) c∧Ext w h c w' (h.set i (.mZ v)) c:=by
 have hi:=aN.gK FN (by simp);have ho:=wf.obj i hi;rw[FN]at ho;obtain ⟨b,p,d,g1,g2,g3,g4⟩:=ho;cases ra with
 | ptr hu hv =>
  obtain ⟨b',rfl,pX⟩:=hv;have:=pX (by rw[FN]; simp);rw[g1]at this; cases this;have hlv:=rv.1;simp only[List.length_cons,List.length_nil]at hlv;obtain ⟨w',oY,k1,k2,k3⟩:=pb (P:=P) b 1 pW.mZ (0,0) y'.cells.toList 0 #[p,d] w g2 (by simp at hlv ⊢; omega) (fun x _ _=>xD g2 x) h1;have Nq:oY.size=(#[p,d]:Array Value).size:=by
   rw[←Array.length_toList,k3]; simp at hlv ⊢; omega
  have wR:(h.at i).from_ (c.off i)=some 0:=by rw[FN]; rfl
  have zA:(h.at i).iS (.mZ v):=by rw[FN]; trivial
  have x:=Vj g1 g2 k2 Nq wR rfl zA;refine ⟨w',?_,upd_wf wf g1 g2 k2 Nq wR rfl zA ?_,x⟩
  ·simp only[Instr.storeAt,Instr.sureAddr,Sem.run_bind,Sem.run_pure,Result.andThen_ok,storeVar,T.sizeOf sR];rw[if_neg (by simp at hlv; omega)];simp only[k1]
  ·match hy:y'.cells.toList,hlv with
   | [q],_ =>
    rw[hy]at k3 rv;have ZI:oY = #[p,q]:=by
     apply Array.ext';rw[k3]; rfl
    exact ⟨b,p,q,g1,by rw[←ZI]; exact k2.here,g3,rv.head.mono x⟩
theorem sim_row_set {T':Ty} (l:List T'.den) (j:Nat) (y:T'.den):(cb.row T' l).iS (.row T' (l.set j y)):=⟨rfl,by simp⟩
theorem store_row (wf:WF w h c) {t:Nat} (T:CU P tt) {i n j o:Nat} {T':Ty} {l:List T'.den} {vs:List V} {a' y':Value} (ra:dx w h c (.yq i n j o) a') (F5:h.at i = .row T' l) (rv:cz w h c vs y'.cells.toList) (h1:Ones y'.cells.toList)
  (sR:tt.ok t=true) (hn:n=T'.sz) (rV:vs.length=(tt.at t).size) (hj:j<l.length) (jz:o+vs.length≤(T'.cells (l.getD j T'.aR)).length) {y:T'.den} (hy:T'.dec (GM (T'.cells (l.getD j T'.aR)) o vs)=some y) :
  ∃w',(Instr.storeAt t a' y').run P w = .ok () w'∧WF w' (h.set i (.row T' (l.set j y))) c∧Ext w h c w' (h.set i (.row T' (l.set j y))) c:=by
 have hi:=aN.gK F5 (by simp);have ho:=wf.obj i hi;rw[F5]at ho;rw[getD_eq hj]at jz hy;have hclen:=T'.je l[j];rcases ho with ⟨_,rfl⟩|⟨b,arr,e,fz,g1,g2,g3,g4,g5⟩
 ·simp at hj
 ·cases ra with
  | yq hu hv =>
   obtain ⟨a,rfl,hv⟩:=hv;obtain ⟨b',pX,rfl⟩:=hv T' l F5 hn hj;rw[g1]at pX; cases pX;have hlv:=rv.1;have hm:=Nat.mul_le_mul_right T'.sz hj;rw[Nat.succ_mul]at hm;obtain ⟨w',oY,k1,k2,k3⟩:=pb (P:=P) b (c.off i+j*T'.sz+o) e fz y'.cells.toList 0 arr w g2 (by omega) (fun x _ hx=>g4 x (.inl (by omega))) h1;have Nq:oY.size=arr.size:=by
    rw[←Array.length_toList,k3]; simp only[Array.length_toList,List.length_append,List.length_take,List.length_drop]at *; omega
   have wR:(h.at i).from_ (c.off i)=some 0:=by rw[F5]; rfl
   have zA:(h.at i).iS (.row T' (l.set j y)):=by rw[F5]; exact sim_row_set l j y
   have x:=Vj g1 g2 k2 Nq wR rfl zA;obtain ⟨fl,fh⟩:=fz;refine ⟨w',?_,upd_wf wf g1 g2 k2 Nq wR rfl zA (.inr ⟨b,oY,e,(fl,fh),g1,k2.here,by rw[Nq]; simpa using g3,fun x hx => ?_,fun n' q z v hz hv' => ?_⟩),x⟩
   ·simp only[Instr.storeAt,Instr.sureAddr,Sem.run_bind,Sem.run_pure,Result.andThen_ok,storeVar,T.sizeOf sR];rw[if_neg (by simp only[Array.length_toList]at hlv; omega)];simp only[k1]
   ·have:=g4 x (hx.imp (fun h=>by omega) fun h=>h);rw[L5 g2]at this;rw[L5 k2.here]; exact this
   ·have hq:q<T'.sz:=by rw[←T'.je z]; exact (List.getElem?_eq_some_iff.1 hv').1
    rw[List.getElem?_set]at hz;have Iz:∀p:Nat,oY[p]? = oY.toList[p]? :=fun p=>Array.getElem?_toList.symm
    rw[Iz,k3];by_cases hjn:j=n'
    ·subst hjn;rw[if_pos rfl,if_pos hj]at hz;cases hz
     
     have base:cz w h c (T'.cells l[j]) ((arr.toList.drop (c.off i+j*T'.sz)).take T'.sz):=by
      refine ⟨by rw[hclen]; simp; omega,fun x v d hv hd => ?_⟩;obtain ⟨d',p1,p2⟩:=g5 j x l[j] v (List.getElem?_eq_getElem hj) hv;rw[List.getElem?_take]at hd;split at hd
      ·rw[List.getElem?_drop]at hd;have e1:arr[c.off i+j*T'.sz+x]? = some d:=by simpa using hd
       rw[p1]at e1; cases e1; exact p2
      ·cases hd
     have sp:=(R2 hy (splice_rep base rv o)).mono x;have hlen2:=sp.1;have hq2:q<(((arr.toList.drop (c.off i+j*T'.sz)).take T'.sz).take o++y'.cells.toList++((arr.toList.drop (c.off i+j*T'.sz)).take T'.sz).drop (o+y'.cells.toList.length)).length:=by
      rw[←hlen2,T'.je]; exact hq
     refine ⟨_,?_,sp.2 q v _ hv' (List.getElem?_eq_getElem hq2)⟩;rw[←List.getElem?_eq_getElem hq2];simp only[List.getElem?_append,List.length_append,List.length_take,List.length_drop,List.getElem?_take,List.getElem?_drop,Array.length_toList,Nat.add_zero]at *;by_cases c1:q<o
     ·have e1:c.off i+j*T'.sz+q<c.off i+j*T'.sz+o:=by omega
      have e2:c.off i+j*T'.sz+q<min (c.off i+j*T'.sz+o) arr.size:=by omega
      have e3:c.off i+j*T'.sz+q<min (c.off i+j*T'.sz+o) arr.size+y'.cells.size:=by omega
      have e4:q<min o (min T'.sz (arr.size - (c.off i+j*T'.sz))):=by omega
      have e5:q<min o (min T'.sz (arr.size - (c.off i+j*T'.sz)))+y'.cells.size:=by omega
      simp only[e1,e2,e3,e4,e5,c1,hq,if_true]
     ·have m1:min (c.off i+j*T'.sz+o) arr.size=c.off i+j*T'.sz+o:=by omega
      have m2:min o (min T'.sz (arr.size - (c.off i+j*T'.sz)))=o:=by omega
      rw[m1,m2];by_cases c2:q<o+y'.cells.size
      ·have e1:c.off i+j*T'.sz+q<c.off i+j*T'.sz+o+y'.cells.size:=by omega
       have e2:¬c.off i+j*T'.sz+q<c.off i+j*T'.sz+o:=by omega
       have e3:c.off i+j*T'.sz+q - (c.off i+j*T'.sz+o)=q - o:=by omega
       simp only[e1,e2,e3,c1,c2,if_true,if_false]
      ·have e1:¬c.off i+j*T'.sz+q<c.off i+j*T'.sz+o+y'.cells.size:=by omega
       have e3:c.off i+j*T'.sz+o+y'.cells.size+(c.off i+j*T'.sz+q - (c.off i+j*T'.sz+o+y'.cells.size))=c.off i+j*T'.sz+(o+y'.cells.size+(q - (o+y'.cells.size))):=by omega
       have e4:o+y'.cells.size+(q - (o+y'.cells.size))<T'.sz:=by omega
       simp only[e1,e3,e4,c2,if_true,if_false]
    ·rw[if_neg hjn]at hz;obtain ⟨d,p1,p2⟩:=g5 n' q z v hz hv';refine ⟨d,?_,p2.mono x⟩;have hn':n'<l.length:=(List.getElem?_eq_some_iff.1 hz).1;have p1':arr.toList[c.off i+n'*T'.sz+q]? = some d:=by simpa using p1
     simp only[Array.length_toList]at hlv;simp only[List.getElem?_append,List.length_append,List.length_take,List.getElem?_take,List.getElem?_drop,Array.length_toList,Nat.add_zero];rcases Nat.lt_or_ge n' j with hlt'|hge
     ·have hm2:=Nat.mul_le_mul_right T'.sz hlt';rw[Nat.succ_mul]at hm2;have e1:c.off i+n'*T'.sz+q<c.off i+j*T'.sz+o:=by omega
      have e2:c.off i+n'*T'.sz+q<min (c.off i+j*T'.sz+o) arr.size:=by omega
      have e3:c.off i+n'*T'.sz+q<min (c.off i+j*T'.sz+o) arr.size+y'.cells.size:=by omega
      simp only[e1,e2,e3,if_true]; exact p1'
     ·have hm2:=Nat.mul_le_mul_right T'.sz (show j+1≤n' by omega);rw[Nat.succ_mul]at hm2;have m1:min (c.off i+j*T'.sz+o) arr.size=c.off i+j*T'.sz+o:=by omega
      have e1:¬c.off i+n'*T'.sz+q<c.off i+j*T'.sz+o+y'.cells.size:=by omega
      have e3:c.off i+j*T'.sz+o+y'.cells.size+(c.off i+n'*T'.sz+q - (c.off i+j*T'.sz+o+y'.cells.size))=c.off i+n'*T'.sz+q:=by omega
      rw[m1];simp only[e1,e3,if_false]; exact p1'
end
section
variable {P:Program} {tt:dn} {w w':World} {h:aN} {c:j8} {R:Type}
def gv (T:Ty):List T.den→List V
 | [] => []
 | x::l=>T.cells x++gv T l
theorem kK (T:Ty):∀l:List T.den,(gv T l).length=l.length*T.sz
 | []=>by simp[gv]
 | x::l=>by simp only[gv,List.length_append,T.je,kK T l,List.length_cons,Nat.succ_mul]; omega
theorem Au (T:Ty):∀l m:List T.den,gv T (l++m)=gv T l++gv T m
 | [],m=>rfl
 | x::l,m=>by simp only[List.cons_append,gv,Au T l m,List.append_assoc]
theorem E5 (T:Ty):∀(l:List T.den) (i j:Nat) (x:T.den),l[i]? = some x→j<T.sz→(gv T l)[i*T.sz+j]? = (T.cells x)[j]?
 | [],i,j,x,hx,_=>by simp at hx
 | y::l,0,j,x,hx,hj=>by
  simp at hx; subst hx;simp only[gv,Nat.zero_mul,Nat.zero_add];rw[List.getElem?_append_left (by rw[T.je]; exact hj)]
 | y::l,i+1,j,x,hx,hj=>by
  simp at hx;simp only[gv];rw[List.getElem?_append_right (by rw[T.je,Nat.succ_mul]; omega),T.je];rw[show (i+1)*T.sz+j - T.sz=i*T.sz+j from by rw[Nat.succ_mul]; omega];exact E5 T l i j x hx hj
theorem cells_one (T:Ty) (x:T.den):(T.cells x).all V.one=true:=by cases T <;> rfl
theorem cellsL_one (T:Ty):∀l:List T.den,(gv T l).all V.one=true
 | []=>rfl
 | x::l=>by simp only[gv,List.all_append,cells_one,cellsL_one T l,Bool.and_true]
theorem decAll_rep {T:Ty} {n:Nat}:∀ {cs:List V} {ds:List Value} {l:List T.den},cs.length=n*T.sz→cz w h c cs ds→zz T (chunks T.sz n cs)=some l→cz w h c (gv T l) ds:=by
 induction n with
 | zero =>
  intro cs ds l hl r hd;simp[chunks,zz]at hd;subst hd;have h0:cs = []:=List.eq_nil_of_length_eq_zero (by simpa using hl);subst h0;exact r
 | succ n ih =>
  intro cs ds l hl r hd;simp only[chunks,zz]at hd;split at hd
  ·rename_i x xs h1 h2;cases hd;rw[Nat.succ_mul]at hl;have r1:=R2 h1 (r.take T.sz);have r2:=ih (by simp; omega) (r.drop T.sz) h2;have:=r1.append r2;rw[List.take_append_drop]at this;exact this
  ·cases hd
theorem sl_cells {T:Ty} {l:List T.den} {t:Tok} {A:Option Addr} {n cap:Nat} (r:dx w h c (.sl T l t) (.slice A n cap)) :
  ∃ds,cz w h c (gv T l) ds∧(l ≠ []→∃b o,A=some ⟨b,o,none⟩∧wP w b o ds∧∀x,o≤x→x<o+l.length*T.sz→Sv h c b x):=by
 cases r with
 | sl f jd uP hc hr E0 mz =>
  refine ⟨(List.range (l.length*T.sz)).map fun k=>f (k / T.sz) (k % T.sz),⟨by simp[kK],fun k v d hv hd => ?_⟩,fun jW => ?_⟩
  ·have hk:k<l.length*T.sz:=by rw[←kK]; exact (List.getElem?_eq_some_iff.1 hv).1
   have Nk:=T.Nn;have hi:k / T.sz<l.length:=(Nat.div_lt_iff_lt_mul Nk).2 hk;have hj:=Nat.mod_lt k Nk;have e:k / T.sz*T.sz+k % T.sz=k:=by rw[Nat.mul_comm]; exact Nat.div_add_mod _ _
   have:=E5 T l (k / T.sz) (k % T.sz) _ (List.getElem?_eq_getElem hi) hj;rw[e]at this;rw[this]at hv;simp only[List.getElem?_map,List.getElem?_range hk,Option.map_some,Option.some.injEq]at hd;subst hd;exact hr _ _ _ v (List.getElem?_eq_getElem hi) hv
  ·have Nk:0<l.length:=List.length_pos_iff.2 jW;obtain ⟨b,o,rfl,_⟩:=hc 0 0 Nk T.Nn;have all:∀k,k<l.length*T.sz→w.cell? ⟨b,o+k,none⟩=some (f (k / T.sz) (k % T.sz))∧Sv h c b (o+k):=by
    intro k hk;have hi:k / T.sz<l.length:=(Nat.div_lt_iff_lt_mul T.Nn).2 hk;obtain ⟨b',o',e',g1,g2⟩:=hc _ _ hi (Nat.mod_lt k T.Nn);cases e';have e:k / T.sz*T.sz+k % T.sz=k:=by rw[Nat.mul_comm]; exact Nat.div_add_mod _ _
    rw[Nat.add_assoc,e]at g1 g2;exact ⟨g1,g2⟩
   refine ⟨b,o,rfl,fun k d hd => ?_,fun x h1 h2 => ?_⟩
   ·simp only[List.getElem?_map]at hd;by_cases hk:k<l.length*T.sz
    ·rw[List.getElem?_range hk]at hd;simp at hd; subst hd;exact (all k hk).1
    ·rw[List.getElem?_eq_none (by simp; omega)]at hd; cases hd
   ·have:=(all (x - o) (by omega)).2;rw[show o+(x - o)=x from by omega]at this;exact this
theorem F6 {T:Ty} {l:List T.den} {t:Tok} {A:Option Addr} {cap:Nat} {ds:List Value} (r:cz w h c (gv T l) ds) (jd:l.length≤cap) (uP:cap≤mx)
  (hA:l ≠ []→∃b o,A=some ⟨b,o,none⟩∧wP w b o ds∧∀x,o≤x→x<o+l.length*T.sz→Sv h c b x) (E0:t = .nil→A=none∧cap=0)
  (mz:∀i,t = .own i→Used h i∧(h.at i = .tok →
    (c.wO i=none∧A=none∧cap=0)∨∃b o arr e fz,c.wO i=some b∧A=some ⟨b,o,none⟩∧c.off i=o+l.length*T.sz ∧
     w.heap[b]? = some (.cells arr e fz)∧o+cap*T.sz≤arr.size∧TokE T o e)):dx w h c (.sl T l t) (.slice A l.length cap):=by
 have hlen:=r.1;rw[kK]at hlen;refine .sl (fun i j=>ds.getD (i*T.sz+j) undef) jd uP (fun i j hi hj => ?_) (fun i j x v hx hv => ?_) E0 mz
 ·have hk:i*T.sz+j<l.length*T.sz:=by
   have:=Nat.mul_le_mul_right T.sz hi;rw[Nat.succ_mul]at this; omega
  obtain ⟨b,o,e,h1,h2⟩:=hA (by intro e; subst e; simp at hi);refine ⟨b,o,e,?_,h2 _ (by omega) (by omega)⟩;rw[Nat.add_assoc];refine h1 _ _ ?_;rw[List.getElem?_eq_getElem (by omega)];simp[List.getD,List.getElem?_eq_getElem (show i*T.sz+j<ds.length by omega)]
 ·have hj:j<T.sz:=by rw[←T.je x]; exact (List.getElem?_eq_some_iff.1 hv).1
  have hi:i<l.length:=(List.getElem?_eq_some_iff.1 hx).1;have hk:i*T.sz+j<ds.length:=by
   have:=Nat.mul_le_mul_right T.sz hi;rw[Nat.succ_mul]at this; omega
  have:=E5 T l i j x hx hj;refine r.2 (i*T.sz+j) v _ (this.trans hv) ?_;rw[List.getElem?_eq_getElem hk];simp[List.getD,List.getElem?_eq_getElem hk]
theorem P7 {b o n sz:Nat} {cap:Nat} {ds:List Value} (hl:ds.length=n*sz) (hc:wP w b o ds):(Builtin.firstCells sz n (.slice (some ⟨b,o,none⟩) n cap)).run P w = .ok ds.toArray w:=by
 have:=run_loadCells_list (P:=P) w ⟨b,o,none⟩ ds (fun j v hv=>by rw[sV]; exact hc j v hv);rw[hl]at this;simpa [Builtin.firstCells]using this
theorem GP {A:Option Addr} {n sz cap:Nat} (hn:n*sz=0):(Builtin.firstCells sz n (.slice A n cap)).run P w = .ok #[] w:=by
 cases A with
 | none=>simp[Builtin.firstCells]
 | some a =>
  simp only[Builtin.firstCells,hn];exact run_loadCells_list (P:=P) w a [] (fun j v hv=>by simp at hv)
theorem C0 (T:CU P tt) {t xt e:Nat} (ht:(tt.at t).d = .slice e) (sR:tt.ok e=true) (hxt:(∃e',P.underlying xt=some (.slice e'))∨P.underlying xt=some .string)
  {A:Option Addr} {n cap m:Nat} {x:Value} {olds news:List Value} (ty:Nat)
  (hlx:(Builtin.lenOf x).run P w = .ok m w) (hnews:∀W:World,W.heap=w.heap→(Builtin.firstCells (tt.at e).size m x).run P W = .ok news.toArray W) (hnl:news.length=m*(tt.at e).size) (h1:Ones news)
  (holds:olds.length=n*(tt.at e).size) (hold:n≠0→∃b o,A=some ⟨b,o,none⟩∧wP w b o olds) (hncap:n≤cap) (hcapmx:cap≤mx)
  (hA:(A=none∧cap=0)∨∃b o arr el fz,A=some ⟨b,o,none⟩∧w.heap[b]? = some (.cells arr el fz)∧o+cap*(tt.at e).size≤arr.size∧∀y,o+n*(tt.at e).size≤y→y<arr.size→w.frozen? ⟨b,y,none⟩=false)
  (Kd:(n+m)*(tt.at e).bytes≤140737488355328) (uP:n+m≤mx) :
  (n+m≤cap∧A=none∧m=0∧(Builtin.append_ #[t,xt] ty #[.slice A n cap,x]).run P w = .ok (.slice A (n+m) cap) w) ∨
  (n+m≤cap∧∃b o arr el fz w' oY,A=some ⟨b,o,none⟩∧w.heap[b]? = some (.cells arr el fz)∧o+cap*(tt.at e).size≤arr.size ∧
   (Builtin.append_ #[t,xt] ty #[.slice A n cap,x]).run P w = .ok (.slice A (n+m) cap) w'∧Wrote w w' b oY el fz ∧
   oY.toList=arr.toList.take (o+n*(tt.at e).size)++news++arr.toList.drop (o+n*(tt.at e).size+news.length)) ∨
  (∃zB ds,n+m≤zB∧zB≤mx∧ds.size=zB*(tt.at e).size∧ds.toList.take ((n+m)*(tt.at e).size)=olds++news ∧
   (Builtin.append_ #[t,xt] ty #[.slice A n cap,x]).run P w = .ok (.slice (some ⟨w.heap.size,0,none⟩) (n+m) zB) (w.drew.alloc (.cells ds e))):=by
 have hu:=ez T ht;simp only[TD.Is]at hu;have hs:=T.sizeOf (w:=w) sR;obtain ⟨inf,z,hi,hsi,hby,hzv,hzs,hzr⟩:=T.info e sR;have hx:∃d,P.underlying xt=some d∧((∃e',d = .slice e')∨d = .string):=by
  rcases hxt with ⟨e',hx⟩|hx
  ·exact ⟨_,hx, .inl ⟨e',rfl⟩⟩
  ·exact ⟨_,hx, .inr rfl⟩
 by_cases hfit:n+m≤cap
 ·rcases hA with ⟨rfl,rfl⟩|⟨b,o,arr,el,fz,rfl,hb,rV,hfz⟩
  ·have hm0:m=0:=by omega
   subst hm0;refine .inl ⟨hfit,rfl,rfl,?_⟩;have hn0:news = []:=List.eq_nil_of_length_eq_zero (by simpa using hnl);have hf:=hnews w rfl;subst hn0;rcases hxt with ⟨e',hx⟩|hx <;>
    simp[Builtin.append_,run_underlying hu,run_underlying hx,hs,hlx,hf,show n=0 from by omega]
  ·refine .inr (.inl ⟨hfit,b,o,arr,el,fz,?_⟩);have hf:=hnews w rfl;obtain ⟨w',oY,k1,k2,k3⟩:=pb (P:=P) b (o+n*(tt.at e).size) el fz news 0 arr w hb (by
    have:(n+m)*(tt.at e).size≤cap*(tt.at e).size:=Nat.mul_le_mul_right _ hfit;rw[Nat.add_mul]at this; omega) (fun y h1 h2=>hfz y h1 (by
    have:(n+m)*(tt.at e).size≤cap*(tt.at e).size:=Nat.mul_le_mul_right _ hfit;rw[Nat.add_mul]at this; omega)) h1
   refine ⟨w',oY,rfl,hb,rV,?_,k2,by simpa using k3⟩;rcases hxt with ⟨e',hx⟩|hx <;>
    simp[Builtin.append_,run_underlying hu,run_underlying hx,hs,hlx,hf,hfit,sV,k1]
 ·refine .inr (.inr ?_)
  let zB:=(Question.appendCap (n+m) cap e).cut (w.tape w.drawn (.appendCap (n+m) cap e))
  have hge:n+m≤zB:=by simp only[zB,Question.cut]; omega
  have jz:zB≤mx:=by
   have jz:w.tape w.drawn (Question.appendCap (n+m) cap e) % (2 ^ 63 - (n+m))<2 ^ 63 - (n+m):=Nat.mod_lt _ (by unfold mx at uP; omega);simp only[zB,Question.cut];unfold mx at uP ⊢;omega
  let ds:Array Value:=olds.toArray++news.toArray++Builtin.zeroCells z.cells (zB - (n+m))
  have hzl:(Builtin.zeroCells z.cells (zB - (n+m))).size=(zB - (n+m))*(tt.at e).size:=by
   simp[Builtin.zeroCells]; rw[hzs,hsi]
  have hds:ds.size=zB*(tt.at e).size:=by
   simp only[ds,Array.size_append,List.size_toArray,holds,hnl,hzl];rw[←Nat.add_mul,←Nat.add_mul];congr 1; omega
  refine ⟨zB,ds,hge,jz,hds,?_,?_⟩
  ·have:ds.toList=(olds++news)++(Builtin.zeroCells z.cells (zB - (n+m))).toList:=by simp[ds]
   rw[this,List.take_append_of_le_length (by simp[holds,hnl,Nat.add_mul]),List.take_of_length_le (by simp[holds,hnl,Nat.add_mul])]
  ·have hfo:(Builtin.firstCells (tt.at e).size n (.slice A n cap)).run P w.drew = .ok olds.toArray w.drew:=by
    by_cases hn0:n=0
    ·subst hn0;have:olds = []:=List.eq_nil_of_length_eq_zero (by simpa using holds);subst this;exact GP (by simp)
    ·obtain ⟨b,o,rfl,hc⟩:=hold hn0;exact P7 holds hc
   have hf:=hnews w.drew rfl;have h48':¬(281474976710656<Builtin.nextslicecap (n+m) cap*(tt.at e).bytes):=by
    have:=growslice_fits (need:=n+m) (old:=cap) (by omega) Kd;omega
   have h63':¬(9223372036854775807<((n:Int)+(m:Int))):=by unfold mx at uP; omega
   have hsd:(sizeOf e).run P w.drew = .ok (tt.at e).size w.drew:=T.sizeOf sR;rcases hxt with ⟨e',hx⟩|hx <;>
    simp[Builtin.append_,run_underlying hu,run_underlying hx,hs,hlx,hfit,h63',typeInfo,hi,hby,h48',Question.forced,hfo,hf,zeroValue,hzv,newRow,ds,zB]
end
section
variable {P:Program} {tt:dn} {w w':World} {h:aN} {c:j8} {R:Type}
theorem owns_dead {i b x:Nat} (ho:yt (h.set i .dead) c b x):yt h c b x:=by
 obtain ⟨j,f,g1,g2,g3⟩:=ho;rw[mR]at g2;split at g2
 ·simp[cb.from_]at g2
 ·exact ⟨j,f,g1,g2,g3⟩
theorem IA (i:Nat):Ext w h c w (h.set i .dead) c where
 os:=rfl
 tape:=rfl
 output:=rfl
 size:=Nat.le_refl _
 used:=fun j hj=>⟨by simpa using hj.1,by rw[mR]; split; simp; exact hj.2⟩
 same:=fun j hj hd=>by
  rw[mR]at hd ⊢;split
  ·rename_i hc; rw[if_pos hc]at hd; exact absurd rfl hd
  ·rename_i hc;rw[if_neg hc]at hd;refine ⟨?_,rfl,rfl⟩;have h2:=hj.2
   revert hd h2
   cases h.at j <;> simp[cb.iS]
 cell:=fun _ _ _ _=>rfl
 block:=fun _ _ _=>rfl
 CF:=fun b x _ ho=>owns_dead ho
 ext:=rfl
 arr:=fun b arr e fz hb=>⟨arr,fz,hb,rfl⟩
theorem ZM (wf:WF w h c) (i:Nat):WF w (h.set i .dead) c where
 lay:=wf.wQ (IA i)
 Ev:=fun b x ho=>wf.Ev b x (owns_dead ho)
 sB:=wf.sB
 obj:=fun j hj=>by
  rw[mR];split
  ·trivial
  ·exact (wf.obj j (by simpa using hj)).Ar (IA i) (fun _ _=>rfl) rfl rfl
 inj:=fun j k b hj hk h1 h2=>by
  have key:∀j,(aN.at (h.set i .dead) j).live→(h.at j).live:=fun j hj=>by
   rw[mR]at hj;split at hj
   ·exact hj.elim
   ·exact hj
  exact wf.inj j k b (key j hj) (key k hk) h1 h2
theorem E6 (w:World) (o:Obj):Below w.heap.size w (w.drew.alloc o):=((Below.refl _ _).drew).alloc (Nat.le_refl _) o
theorem grown_tok (wf:WF w h c) {id:Nat} (hid:id<h.length) (hf:h.at id = .free) {T:Ty} {l:List T.den} {us:List Value} (r:cz w h c (gv T l) us) {ds:Array Value} {e:TypeId} (hte:TokE T 0 e) {cap:Nat}
  (hds:ds.size=cap*T.sz) (htake:ds.toList.take (l.length*T.sz)=us) (jd:l.length≤cap) (uP:cap≤mx) :
  ∃c',WF (w.drew.alloc (.cells ds e)) (h.set id .tok) c'∧Ext w h c (w.drew.alloc (.cells ds e)) (h.set id .tok) c'∧dx (w.drew.alloc (.cells ds e)) (h.set id .tok) c' (.sl T l (.own id)) (.slice (some ⟨w.heap.size,0,none⟩) l.length cap):=by
 have hb:=E6 w (.cells ds e);have TL:∀b,some w.heap.size=some b→w.heap.size≤b:=by intro b hb; cases hb; exact Nat.le_refl _
 have Ew:(w.drew.alloc (.cells ds e)).heap[w.heap.size]? = some (.cells ds e (0,0)):=heap_alloc_new w.drew (.cells ds e);have x:=yu (h:=h) (c:=c) hb hf .tok (no:=l.length*T.sz) TL;have hm:l.length*T.sz≤cap*T.sz:=Nat.mul_le_mul_right _ jd;have JH:pa (w.drew.alloc (.cells ds e)) (h.set id .tok) (c.put id (some w.heap.size) (l.length*T.sz)) id .tok :=
  .inr ⟨w.heap.size,ds,e,(0,0),cV _ _ _,Ew,by rw[eB]; omega, .inl rfl⟩
 refine ⟨_,GO wf hb hid hf TL JH,x,F6 (r.mono x) jd uP (fun _=>⟨w.heap.size,0,rfl,fun j d hd => ?_,fun y _ hy => ?_⟩) (by simp) (fun i hi => ?_)⟩
 ·rw[Nat.zero_add,cell_of_row _ _ _ _ _ _ Ew];rw[←htake,List.getElem?_take]at hd;split at hd
  ·simpa using hd
  ·cases hd
 ·refine K8 wf _ _ _ (fun f hf' => ?_) hid;simp[cb.from_]at hf';omega
 ·cases hi;exact ⟨xC hid (by simp),fun _ => .inr ⟨w.heap.size,0,ds,e,(0,0),cV _ _ _,rfl,by rw[eB,Nat.zero_add],Ew,by omega,hte⟩⟩
theorem grown_row (wf:WF w h c) {id:Nat} (hid:id<h.length) (hf:h.at id = .free) {T:Ty} {l:List T.den} {us:List Value} (r:cz w h c (gv T l) us) {ds:Array Value} {e:TypeId} {cap:Nat}
  (hds:ds.size=cap*T.sz) (htake:ds.toList.take (l.length*T.sz)=us) (jd:l.length≤cap) (uP:cap≤mx) :
  ∃c',WF (w.drew.alloc (.cells ds e)) (h.set id (.row T l)) c'∧Ext w h c (w.drew.alloc (.cells ds e)) (h.set id (.row T l)) c' ∧
   dx (w.drew.alloc (.cells ds e)) (h.set id (.row T l)) c' (.row id l.length) (.slice (some ⟨w.heap.size,0,none⟩) l.length cap):=by
 have hb:=E6 w (.cells ds e);have TL:∀b,some w.heap.size=some b→w.heap.size≤b:=by intro b hb; cases hb; exact Nat.le_refl _
 have Ew:(w.drew.alloc (.cells ds e)).heap[w.heap.size]? = some (.cells ds e (0,0)):=heap_alloc_new w.drew (.cells ds e);have x:=yu (h:=h) (c:=c) hb hf (.row T l) (no:=0) TL;have hm:l.length*T.sz≤cap*T.sz:=Nat.mul_le_mul_right _ jd;have r':=r.mono x;have JH:pa (w.drew.alloc (.cells ds e)) (h.set id (.row T l)) (c.put id (some w.heap.size) 0) id (.row T l):=by
  refine .inr ⟨w.heap.size,ds,e,(0,0),cV _ _ _,Ew,by rw[eB]; omega,fun y _=>xD Ew y,fun n j z v hz hv => ?_⟩;have hj:j<T.sz:=by rw[←T.je z]; exact (List.getElem?_eq_some_iff.1 hv).1
  have hn:n<l.length:=(List.getElem?_eq_some_iff.1 hz).1;have jz:n*T.sz+j<l.length*T.sz:=by
   have:=Nat.mul_le_mul_right T.sz hn;rw[Nat.succ_mul]at this; omega
  have hl:=r.1;rw[kK]at hl;have hg:=List.getElem?_eq_getElem (show n*T.sz+j<us.length by omega);refine ⟨us[n*T.sz+j]'(by omega),?_,r'.2 _ v _ ((E5 T l n j z hz hj).trans hv) hg⟩;rw[eB,Nat.zero_add,←hg,←htake,List.getElem?_take,if_pos jz];simp
 refine ⟨_,GO wf hb hid hf TL JH,x, .row (xC hid (by simp)) (by omega) ⟨_,_,rfl,⟨jd,uP,fun _=>⟨_,rfl⟩⟩,fun T' l' he => ?_⟩⟩;rw[ma _ hid]at he;cases he;exact ⟨rfl,jd,uP, .inr ⟨w.heap.size,ds,e,(0,0),cV _ _ _,by rw[eB],Ew,by rw[eB]; omega⟩⟩
theorem Vl (wf:WF w h c) {id:Nat} (hid:id<h.length) (hf:h.at id = .free) {T:Ty} :
  ∃c',WF w (h.set id .tok) c'∧Ext w h c w (h.set id .tok) c'∧dx w (h.set id .tok) c' (.sl T [] (.own id)) (.slice none 0 0):=by
 have TL:∀b,(none:Option Nat)=some b→w.heap.size≤b:=by intro b hb; cases hb
 have x:=yu (h:=h) (c:=c) (Below.refl w.heap.size w) hf .tok (no:=0) TL;refine ⟨_,GO wf (Below.refl _ _) hid hf TL (.inl (cV _ _ _)),x,?_⟩;exact F6 (l := []) (ds := []) cz.nil (Nat.le_refl _) (by unfold mx; omega) (fun h=>absurd rfl h) (by simp) (fun i hi=>by
  cases hi; exact ⟨xC hid (by simp),fun _ => .inl ⟨cV _ _ _,rfl,rfl⟩⟩)
theorem none_row (wf:WF w h c) {id:Nat} (hid:id<h.length) (hf:h.at id = .free) {T:Ty} :
  ∃c',WF w (h.set id (.row T [])) c'∧Ext w h c w (h.set id (.row T [])) c'∧dx w (h.set id (.row T [])) c' (.row id 0) (.slice none 0 0):=by
 have TL:∀b,(none:Option Nat)=some b→w.heap.size≤b:=by intro b hb; cases hb
 have x:=yu (h:=h) (c:=c) (Below.refl w.heap.size w) hf (.row T []) (no:=0) TL;refine ⟨_,GO wf (Below.refl _ _) hid hf TL (.inl ⟨cV _ _ _,rfl⟩),x,?_⟩;refine .row (xC hid (by simp)) (by unfold mx; omega) ⟨none,0,rfl,⟨Nat.le_refl _,by unfold mx; omega,fun h=>by omega⟩,fun T' l' he => ?_⟩;rw[ma _ hid]at he;cases he;exact ⟨rfl,Nat.le_refl _,by unfold mx; omega, .inl ⟨cV _ _ _,rfl,rfl⟩⟩
theorem TM (s:ae):(TB s).length=s.length := @List.length_map UInt8 Int s _
theorem Vm:∀s:ae,gv (.int .u8) (TB s)=s.map fun b=>V.int .u8 b.toNat
 | []=>rfl
 | b::s=>by
  show V.int .u8 b.toNat::gv (.int .u8) (TB s)=_;rw[Vm s]; rfl
theorem ZN (wf:WF w h c) {i:Nat} {T:Ty} {l:List T.den} (he:h.at i = .row T l) :
  ∃ds,cz w h c (gv T l) ds∧(l ≠ []→∃b,c.wO i=some b∧wP w b (c.off i) ds):=by
 have hi:=aN.gK he (by simp);have ho:=wf.obj i hi;rw[he]at ho;rcases ho with ⟨_,rfl⟩|⟨b,arr,e,fz,h1,h2,h3,h4,h5⟩
 ·exact ⟨[], .nil,fun h=>absurd rfl h⟩
 ·refine ⟨(arr.toList.drop (c.off i)).take (l.length*T.sz),⟨by rw[kK]; simp; omega,fun k v d hv hd => ?_⟩,fun _=>⟨b,h1,fun k d hd => ?_⟩⟩
  ·have hk:k<l.length*T.sz:=by rw[←kK]; exact (List.getElem?_eq_some_iff.1 hv).1
   have hq:k / T.sz<l.length:=(Nat.div_lt_iff_lt_mul T.Nn).2 hk;have hj:=Nat.mod_lt k T.Nn;have e:k / T.sz*T.sz+k % T.sz=k:=by rw[Nat.mul_comm]; exact Nat.div_add_mod _ _
   have hg:=E5 T l (k / T.sz) (k % T.sz) _ (List.getElem?_eq_getElem hq) hj;rw[e]at hg;rw[hg]at hv;obtain ⟨d',p1,p2⟩:=h5 _ _ _ v (List.getElem?_eq_getElem hq) hv;rw[Nat.add_assoc,e]at p1;rw[List.getElem?_take,if_pos hk,List.getElem?_drop]at hd;have e1:arr[c.off i+k]? = some d:=by simpa using hd
   rw[p1]at e1; cases e1; exact p2
  ·rw[List.getElem?_take]at hd;split at hd
   ·rw[List.getElem?_drop]at hd;rw[cell_of_row w b _ arr e fz h2]; simpa using hd
   ·cases hd
theorem Yd (T:Ty):∀(l:List T.den) (n:Nat),gv T (l.take n)=(gv T l).take (n*T.sz)
 | [],n=>by simp[gv]
 | x::l,0=>by simp[gv]
 | x::l,n+1=>by
  have hl:(T.cells x).length=T.sz:=T.je x;rw[List.take_succ_cons];simp only[gv];rw[Yd T l n,show (n+1)*T.sz=(T.cells x).length+n*T.sz by rw[hl,Nat.add_mul]; omega,List.take_append,List.take_of_length_le (Nat.le_add_right _ _),Nat.add_sub_cancel_left]
theorem Ye (T:Ty):∀(l:List T.den) (n:Nat),gv T (l.drop n)=(gv T l).drop (n*T.sz)
 | [],n=>by simp[gv]
 | x::l,0=>by simp[gv]
 | x::l,n+1=>by
  have hl:(T.cells x).length=T.sz:=T.je x;rw[List.drop_succ_cons];simp only[gv];rw[Ye T l n,show (n+1)*T.sz=(T.cells x).length+n*T.sz by rw[hl,Nat.add_mul]; omega,List.drop_append];simp
theorem repL_take {cs:List V} {ds:List Value} (r:cz w h c cs ds) (n:Nat):cz w h c (cs.take n) (ds.take n) :=
 ⟨by rw[List.length_take,List.length_take,r.1],fun j v d hv hd=>by
  rw[List.getElem?_take]at hv hd;split at hv
  ·rename_i hj;rw[if_pos hj]at hd;exact r.2 j v d hv hd
  ·cases hv⟩
theorem repL_drop {cs:List V} {ds:List Value} (r:cz w h c cs ds) (n:Nat):cz w h c (cs.drop n) (ds.drop n) :=
 ⟨by rw[List.length_drop,List.length_drop,r.1],fun j v d hv hd=>by
  rw[List.getElem?_drop]at hv hd;exact r.2 _ v d hv hd⟩
theorem src_sound (wf:WF w h c) {T:Ty} {sz:Nat} (rV:T.sz=sz) {v:V} {v':Value} (rv:dx w h c v v') {m:List T.den} (sR:W4 h v=true) (hs:X7 T h v=some m) :
  ∃news,(Builtin.lenOf v').run P w = .ok m.length w∧(∀W:World,W.heap=w.heap→(Builtin.firstCells sz m.length v').run P W = .ok news.toArray W)∧cz w h c (gv T m) news∧m.length≤mx:=by
 subst rV;have EN:∀(W:World) (b x:Nat),W.heap=w.heap→W.cell? ⟨b,x,none⟩=w.cell? ⟨b,x,none⟩:=fun W b x hW=>by simp only[World.cell?,hW]
 have key:∀(A:Option Addr) (cap:Nat) (news:List Value),cz w h c (gv T m) news→(m ≠ []→∃b o,A=some ⟨b,o,none⟩∧wP w b o news) →
   ∀W:World,W.heap=w.heap→(Builtin.firstCells T.sz m.length (.slice A m.length cap)).run P W = .ok news.toArray W:=by
  intro A cap news hr hA W hW;have hl:=hr.1;rw[kK]at hl;by_cases hm:m = []
  ·subst hm;have:news = []:=List.eq_nil_of_length_eq_zero (by simpa using hl.symm);subst this;exact GP (by simp)
  ·obtain ⟨b,o,rfl,hc⟩:=hA hm;exact P7 hl.symm (fun j d hd=>by rw[EN W _ _ hW]; exact hc j d hd)
 unfold X7 at hs;split at hs
 ·cases hs;cases rv;exact ⟨[],by simp[Builtin.lenOf],fun W hW=>GP (by simp), .nil,by simp⟩
 ·rename_i T' l t;split at hs
  ·rename_i e;subst e;obtain rfl:l=m:=by simpa using hs
   obtain ⟨A,cap,rfl,h1,h2⟩:=GN rv;obtain ⟨ds,g1,g2⟩:=sl_cells rv;exact ⟨ds,by simp[Builtin.lenOf],key A cap ds g1 (fun jW=>by obtain ⟨b,o,q1,q2,_⟩:=g2 jW; exact ⟨b,o,q1,q2⟩),g1,by omega⟩
  ·cases hs
 ·rename_i i n;split at hs
  ·rename_i T' l F5;split at hs
   ·rename_i e;subst e;obtain rfl:l=m:=by simpa using hs
    cases rv with
    | row hu hn hv =>
     obtain ⟨A,cap,rfl,hA,hv⟩:=hv;obtain ⟨g1,g2,g3,g4⟩:=hv _ _ F5;obtain ⟨ds,k1,k2⟩:=ZN wf F5;subst g1;exact ⟨ds,by simp[Builtin.lenOf],key A cap ds k1 (fun jW=>by
      obtain ⟨b,q1,q2⟩:=k2 jW;rcases g4 with ⟨p1,_⟩|⟨b',arr,el,fz,p1,p2,_⟩
      ·rw[q1]at p1; cases p1
      ·rw[q1]at p1; cases p1;exact ⟨b,_,p2,q2⟩),k1,hn⟩
   ·cases hs
  ·cases hs
 ·rename_i i z q n;split at hs
  ·rename_i T' l F5;split at hs
   ·rename_i e;subst e
    ·simp only[W4,F5,Bool.and_eq_true,decide_eq_true_eq]at sR;obtain ⟨hz,hq⟩:=sR;obtain rfl:(l.drop q).take n=m:=by simpa using hs
     cases rv with
     | xx hu hn hv =>
      obtain ⟨A,cap,rfl,hA,hv⟩:=hv;obtain ⟨g1,g4⟩:=hv _ _ F5 hz (by omega);obtain ⟨ds,k1,k2⟩:=ZN wf F5;have hml:((l.drop q).take n).length=n:=by rw[List.length_take,List.length_drop]; omega
      have k3:cz w h c (gv T' ((l.drop q).take n)) ((ds.drop (q*T'.sz)).take (n*T'.sz)):=by
       rw[Yd,Ye];exact repL_take (repL_drop k1 _) _
      refine ⟨(ds.drop (q*T'.sz)).take (n*T'.sz),by simp[Builtin.lenOf,hml],?_,k3,by omega⟩;have:=key A cap _ k3 (fun jW=>by
       have Nk:=List.length_pos_iff.2 jW;obtain ⟨b,q1,q2⟩:=k2 (by rintro rfl; simp at jW);obtain ⟨b',arr,el,fz,p1,p2,_⟩:=g4 (by omega);rw[q1]at p1; cases p1;refine ⟨b,_,p2,fun j d hd => ?_⟩;rw[List.getElem?_take]at hd;split at hd
       ·rw[List.getElem?_drop]at hd;rw[Nat.add_assoc];exact q2 _ _ hd
       ·cases hd)
      rw[hml]at this ⊢;exact this
   ·cases hs
  ·cases hs
 ·rename_i n cs;split at hs
  ·rename_i P1;cases rv with
   | @YZ _ sz' _ A hn uP f hc hr =>
    have hr':cz w h c cs ((List.range cs.length).map f):=by
     refine ⟨by simp,fun j v d hv hd => ?_⟩;have jz:j<cs.length:=(List.getElem?_eq_some_iff.1 hv).1;simp only[List.getElem?_map,List.getElem?_range jz,Option.map_some,Option.some.injEq]at hd;subst hd;exact hr j v hv
    have Vc:=decAll_rep P1 hr' hs;have hml:m.length=n:=by rw[E3 hs,E2]
    rw[←hml];exact ⟨_,by simp[Builtin.lenOf],key A m.length _ Vc (fun jW=>by
     have Nk:0<cs.length:=by
      have:=List.length_pos_iff.2 jW;rw[P1,←hml];exact Nat.mul_pos this T.Nn
     obtain ⟨b,o,rfl,_⟩:=hc 0 Nk;refine ⟨b,o,rfl,fun j d hd => ?_⟩;simp only[List.getElem?_map]at hd;by_cases jz:j<cs.length
     ·rw[List.getElem?_range jz]at hd;simp at hd; subst hd;obtain ⟨b',o',e',q1,_⟩:=hc j jz;cases e';exact q1
     ·rw[List.getElem?_eq_none (by simp; omega)]at hd; cases hd),Vc,by omega⟩
  ·cases hs
 ·rename_i s;split at hs
  ·rename_i e;subst e;obtain ⟨t,rfl,rfl,hl⟩:=rv.gS;obtain rfl:TB t.data.toList=m:=by simpa using hs
   refine ⟨t.data.toList.map fun b=>Value.int .u8 b.toNat,?_,fun W hW => ?_,?_,?_⟩
   ·rw[TM,size_data]; simp[Builtin.lenOf]
   ·rw[TM,size_data];simp only[Builtin.firstCells,Sem.run_pure];congr 1;apply Array.ext';simp
   ·rw[Vm]; exact cz.map _ fun b _ => .int (has_byte _ (UInt8.toNat_lt b))
   ·rw[TM,size_data]; exact hl
  ·cases hs
 ·cases hs
theorem fit_tok (wf:WF w h c) {i id:Nat} (hi:h.at i = .tok) (hid:id<h.length) (hf:h.at id = .free) {b o:Nat} (hb:c.wO i=some b) {T:Ty} {l m:List T.den} (hoff:c.off i=o+l.length*T.sz)
  {arr oY:Array Value} {el:TypeId} (hte:TokE T o el) {fz:Nat×Nat} (IB:w.heap[b]? = some (.cells arr el fz)) (hw:Wrote w w' b oY el fz) {cap:Nat} (jd:(l++m).length≤cap) (uP:cap≤mx) (rV:o+cap*T.sz≤arr.size)
  {olds news:List Value} (ro:cz w h c (gv T l) olds) (rn:cz w h c (gv T m) news) (hold:l ≠ []→wP w b o olds) (hun:∀x,o≤x→x<o+l.length*T.sz→Sv h c b x)
  (Vk:oY.toList=arr.toList.take (o+l.length*T.sz)++news++arr.toList.drop (o+l.length*T.sz+news.length)) :
  ∃c',WF w' ((h.set i .dead).set id .tok) c'∧Ext w h c w' ((h.set i .dead).set id .tok) c'∧dx w' ((h.set i .dead).set id .tok) c' (.sl T (l++m) (.own id)) (.slice (some ⟨b,o,none⟩) (l++m).length cap):=by
 have jW:i≠id:=by rintro rfl; rw[hi]at hf; cases hf
 have hil:=aN.gK hi (by simp);have hlen1:=ro.1;have hlen2:=rn.1;rw[kK]at hlen1 hlen2;have hmul:(l++m).length*T.sz≤cap*T.sz:=Nat.mul_le_mul_right _ jd;have hlm:(l++m).length*T.sz=l.length*T.sz+m.length*T.sz:=by rw[List.length_append,Nat.add_mul]
 have FN:oY.size=arr.size:=by
  rw[←Array.length_toList,Vk]; simp only[List.length_append,List.length_take,List.length_drop,Array.length_toList]; omega
 have hid1:id<(h.set i .dead).length:=by simpa using hid
 have ZO:∀j,aN.at ((h.set i .dead).set id .tok) j=if id=j then .tok else if i=j then .dead else h.at j:=by
  intro j;rw[mR,mR];by_cases h1:id=j
  ·simp[h1]; intro h2; subst h1; omega
  ·simp only[h1,false_and,if_false];by_cases h2:i=j
   ·subst h2; simp[hil]
   ·simp[h2]
 have ZI:∀j,j≠id→(c.put id (some b) (o+(l++m).length*T.sz)).wO j=c.wO j∧(c.put id (some b) (o+(l++m).length*T.sz)).off j=c.off j:=fun j hj=>⟨uY _ _ hj,E1 _ _ hj⟩
 have Xc:∀j,j≠i→(h.at j).live→c.wO j≠some b:=fun j hj hl hbj=>hj (wf.inj j i b hl (by rw[hi]; trivial) hbj hb)
 have hcellx:∀x,x<o+l.length*T.sz→w'.cell? ⟨b,x,none⟩=w.cell? ⟨b,x,none⟩:=by
  intro x hx;rw[cell_of_row w' b x oY el fz hw.here,cell_of_row w b x arr el fz IB,←Array.getElem?_toList,←Array.getElem?_toList,Vk,List.append_assoc,
   List.getElem?_append_left (by simp only[List.length_take,Array.length_toList]; omega),List.getElem?_take,if_pos hx]
 have Vn:∀b' x,yt ((h.set i .dead).set id .tok) (c.put id (some b) (o+(l++m).length*T.sz)) b' x→yt h c b' x:=by
  rintro b' x ⟨j,f,g1,g2,g3⟩
  rw[ZO]at g2;by_cases h1:id=j
  ·subst h1;rw[cV]at g1;cases g1;rw[if_pos rfl,eB]at g2;simp only[cb.from_,Option.some.injEq]at g2;exact ⟨i,c.off i,hb,by rw[hi]; rfl,by omega⟩
  ·rw[if_neg h1]at g2;split at g2
   ·simp[cb.from_]at g2
   ·obtain ⟨e1,e2⟩:=ZI j (Ne.symm h1);rw[e1]at g1; rw[e2]at g2;exact ⟨j,f,g1,g2,g3⟩
 have x:Ext w h c w' ((h.set i .dead).set id .tok) (c.put id (some b) (o+(l++m).length*T.sz)):=by
  constructor
  ·exact hw.os
  ·exact hw.tape
  ·exact hw.output
  ·rw[hw.size]; exact Nat.le_refl _
  ·intro j hj;refine ⟨by simpa using hj.1,?_⟩;rw[ZO];split
   ·simp
   ·split
    ·simp
    ·exact hj.2
  ·intro j hj hd;have hjid:id≠j:=by rintro rfl; exact hj.2 hf
   rw[ZO,if_neg hjid]at hd ⊢;split
   ·rename_i h2; rw[if_pos h2]at hd; exact absurd rfl hd
   ·rename_i h2;rw[if_neg h2]at hd;refine ⟨?_,(ZI j (Ne.symm hjid)).1,(ZI j (Ne.symm hjid)).2⟩;have h3:=hj.2
    revert hd h3
    cases h.at j <;> simp[cb.iS]
  ·intro b' y hy ho;by_cases hbb:b'=b
   ·subst hbb;refine hcellx y ?_;rcases Nat.lt_or_ge y (o+l.length*T.sz)with h1|h1
    ·exact h1
    ·exact absurd ⟨i,c.off i,hb,by rw[hi]; rfl,by omega⟩ ho
   ·exact xB (hw.other b' hbb)
  ·intro b' pX ho;have hbb:b'≠b:=by
    rintro rfl
    exact ho (c.off i) ⟨i,c.off i,hb,by rw[hi]; rfl,Nat.le_refl _⟩
   exact hw.other b' hbb
  ·intro b' y _ ho; exact Vn b' y ho
  ·rfl
  ·intro b' Ni e' P5 ha;by_cases hbb:b'=b
   ·subst hbb;rw[IB]at ha; cases ha;exact ⟨oY,fz,hw.here,FN⟩
   ·exact ⟨Ni,P5,by rw[hw.other b' hbb]; exact ha,rfl⟩
 obtain ⟨fl,fh⟩:=fz;have hti:=wf.obj i hil;rw[hi]at hti;have hfz:fl=fh∨fh≤o+l.length*T.sz:=by
  rcases hti with h0|⟨b',Ni,e',P5,p1,p2,p3,p4⟩
  ·rw[hb]at h0; cases h0
  ·rw[hb]at p1; cases p1;rw[IB]at p2; cases p2;rw[hoff]at p4;exact p4
 have wf':WF w' ((h.set i .dead).set id .tok) (c.put id (some b) (o+(l++m).length*T.sz)):=by
  constructor
  ·intro b' y ho; exact wf.Ev b' y (Vn b' y ho)
  ·intro b' y he; rw[hw.size]; exact wf.sB b' y he
  ·intro j hj;rw[ZO];by_cases h1:id=j
   ·subst h1;rw[if_pos rfl];refine .inr ⟨b,oY,el,(fl,fh),cV _ _ _,hw.here,by rw[eB]; omega,?_⟩;rw[eB];have:l.length*T.sz≤(l++m).length*T.sz:=Nat.mul_le_mul_right _ (by simp);exact hfz.imp (fun e=>e) fun hh=>Nat.le_trans hh (by omega)
   ·rw[if_neg h1];split
    ·trivial
    ·rename_i h2;by_cases hl:(h.at j).live
     ·refine (wf.obj j (by simpa using hj)).Ar x (fun b' pX=>hw.other b' ?_) (ZI j (Ne.symm h1)).1 (ZI j (Ne.symm h1)).2
      rintro rfl
      exact Xc j (Ne.symm h2) hl pX
     ·revert hl; cases h.at j <;> simp[cb.live,pa]
  ·intro j k b' hj hk h1 h2;rw[ZO]at hj hk;by_cases e1:id=j <;> by_cases e2:id=k
   ·exact e1.symm.trans e2
   ·subst e1;rw[cV]at h1; cases h1;rw[if_neg e2]at hk;rw[(ZI k (Ne.symm e2)).1]at h2;split at hk
    ·exact hk.elim
    ·rename_i h3; exact absurd h2 (Xc k (Ne.symm h3) hk)
   ·subst e2;rw[cV]at h2; cases h2;rw[if_neg e1]at hj;rw[(ZI j (Ne.symm e1)).1]at h1;split at hj
    ·exact hj.elim
    ·rename_i h3; exact absurd h1 (Xc j (Ne.symm h3) hj)
   ·rw[if_neg e1]at hj;rw[if_neg e2]at hk;rw[(ZI j (Ne.symm e1)).1]at h1;rw[(ZI k (Ne.symm e2)).1]at h2;split at hj
    ·exact hj.elim
    ·split at hk
     ·exact hk.elim
     ·exact wf.inj j k b' hj hk h1 h2
  ·exact wf.wQ x
 refine ⟨_,wf',x,?_⟩;have rr:cz w' ((h.set i .dead).set id .tok) (c.put id (some b) (o+(l++m).length*T.sz)) (gv T (l++m)) (olds++news):=by
  rw[Au]; exact (ro.mono x).append (rn.mono x)
 refine F6 rr jd uP (fun _=>⟨b,o,rfl,fun j d hd => ?_,fun y h1 h2=>⟨fun ho => ?_,fun he => ?_⟩⟩) (by simp) (fun k hk => ?_)
 ·by_cases hj:j<olds.length
  ·rw[List.getElem?_append_left hj]at hd;have hlne:l ≠ []:=by rintro rfl; simp at hlen1; omega
   rw[hcellx (o+j) (by omega)];exact hold hlne j d hd
  ·rw[List.getElem?_append_right (by omega)]at hd;have hj2:j - olds.length<news.length:=(List.getElem?_eq_some_iff.1 hd).1;have l1:(arr.toList.take (o+l.length*T.sz)).length=o+l.length*T.sz:=by simp only[List.length_take,Array.length_toList]; omega
   rw[cell_of_row w' b _ oY el (fl,fh) hw.here,←Array.getElem?_toList,Vk,List.append_assoc,List.getElem?_append_right (by omega),l1,List.getElem?_append_left (by omega)];rw[←hd]; congr 1; omega
 ·obtain ⟨j,f,g1,g2,g3⟩:=ho;rw[ZO]at g2;by_cases e1:id=j
  ·subst e1;rw[if_pos rfl,eB]at g2;simp only[cb.from_,Option.some.injEq]at g2;omega
  ·rw[if_neg e1]at g2;rw[(ZI j (Ne.symm e1)).1]at g1;split at g2
   ·simp[cb.from_]at g2
   ·rename_i h3; exact Xc j (Ne.symm h3) (wi g2) g1
 ·rcases Nat.lt_or_ge y (o+l.length*T.sz)with q|q
  ·exact (hun y h1 q).2 he
  ·exact wf.Ev b y ⟨i,c.off i,hb,by rw[hi]; rfl,by omega⟩ he
 ·cases hk;refine ⟨⟨by simpa using hid,by rw[ZO,if_pos rfl]; simp⟩,fun _ => .inr ⟨b,o,oY,el,(fl,fh),cV _ _ _,rfl,eB _ _ _,hw.here,by rw[FN]; exact rV,hte⟩⟩
end
section
variable {P:Program} {tt:dn} {w w':World} {h:aN} {c:j8} {R:Type}
theorem row_of_cells {T:Ty} {l:List T.den} {us:List Value} (r:cz w h c (gv T l) us) {arr:Array Value} {off:Nat} (ha:∀(k:Nat) (d:Value),us[k]? = some d→arr[off+k]? = some d) :
  ∀(n j:Nat) (x:T.den) (v:V),l[n]? = some x→(T.cells x)[j]? = some v→∃d,arr[off+n*T.sz+j]? = some d∧dx w h c v d:=by
 intro n j z v hz hv;have hj:j<T.sz:=by rw[←T.je z]; exact (List.getElem?_eq_some_iff.1 hv).1
 have hn:n<l.length:=(List.getElem?_eq_some_iff.1 hz).1;have jz:n*T.sz+j<l.length*T.sz:=by
  have:=Nat.mul_le_mul_right T.sz hn;rw[Nat.succ_mul]at this; omega
 have hl:=r.1;rw[kK]at hl;have hg:=List.getElem?_eq_getElem (show n*T.sz+j<us.length by omega);exact ⟨_,by rw[Nat.add_assoc]; exact ha _ _ hg,r.2 _ v _ ((E5 T l n j z hz hj).trans hv) hg⟩
theorem fit_row (wf:WF w h c) {i id:Nat} {T:Ty} {l m:List T.den} (hi:h.at i = .row T l) (hid:id<h.length) (hf:h.at id = .free) {b:Nat} (hb:c.wO i=some b)
  {arr oY:Array Value} {el:TypeId} {fz:Nat×Nat} (IB:w.heap[b]? = some (.cells arr el fz)) (hw:Wrote w w' b oY el fz) {cap:Nat} (jd:(l++m).length≤cap) (uP:cap≤mx) (rV:c.off i+cap*T.sz≤arr.size)
  {olds news:List Value} (ro:cz w h c (gv T l) olds) (rn:cz w h c (gv T m) news) (hold:l ≠ []→wP w b (c.off i) olds)
  (Vk:oY.toList=arr.toList.take (c.off i+l.length*T.sz)++news++arr.toList.drop (c.off i+l.length*T.sz+news.length)) :
  ∃c',WF w' ((h.set i .dead).set id (.row T (l++m))) c'∧Ext w h c w' ((h.set i .dead).set id (.row T (l++m))) c' ∧
   dx w' ((h.set i .dead).set id (.row T (l++m))) c' (.row id (l++m).length) (.slice (some ⟨b,c.off i,none⟩) (l++m).length cap):=by
 have jW:i≠id:=by rintro rfl; rw[hi]at hf; cases hf
 have hil:=aN.gK hi (by simp);have hlen1:=ro.1;have hlen2:=rn.1;rw[kK]at hlen1 hlen2;have hmul:(l++m).length*T.sz≤cap*T.sz:=Nat.mul_le_mul_right _ jd;have hlm:(l++m).length*T.sz=l.length*T.sz+m.length*T.sz:=by rw[List.length_append,Nat.add_mul]
 have FN:oY.size=arr.size:=by
  rw[←Array.length_toList,Vk]; simp only[List.length_append,List.length_take,List.length_drop,Array.length_toList]; omega
 have ZO:∀j,aN.at ((h.set i .dead).set id (.row T (l++m))) j=if id=j then .row T (l++m)else if i=j then .dead else h.at j:=by
  intro j;rw[mR,mR];by_cases h1:id=j
  ·simp[h1]; intro h2; subst h1; omega
  ·simp only[h1,false_and,if_false];by_cases h2:i=j
   ·subst h2; simp[hil]
   ·simp[h2]
 have ZI:∀j,j≠id→(c.put id (some b) (c.off i)).wO j=c.wO j∧(c.put id (some b) (c.off i)).off j=c.off j:=fun j hj=>⟨uY _ _ hj,E1 _ _ hj⟩
 have Xc:∀j,j≠i→(h.at j).live→c.wO j≠some b:=fun j hj hl hbj=>hj (wf.inj j i b hl (by rw[hi]; trivial) hbj hb)
 have mz:∀y,yt h c b y:=fun y=>⟨i,0,hb,by rw[hi]; rfl,Nat.zero_le _⟩
 have Vn:∀b' x,yt ((h.set i .dead).set id (.row T (l++m))) (c.put id (some b) (c.off i)) b' x→yt h c b' x:=by
  rintro b' x ⟨j,f,g1,g2,g3⟩
  rw[ZO]at g2;by_cases h1:id=j
  ·subst h1;rw[cV]at g1;cases g1;exact mz x
  ·rw[if_neg h1]at g2;split at g2
   ·simp[cb.from_]at g2
   ·obtain ⟨e1,e2⟩:=ZI j (Ne.symm h1);rw[e1]at g1; rw[e2]at g2;exact ⟨j,f,g1,g2,g3⟩
 have x:Ext w h c w' ((h.set i .dead).set id (.row T (l++m))) (c.put id (some b) (c.off i)):=by
  constructor
  ·exact hw.os
  ·exact hw.tape
  ·exact hw.output
  ·rw[hw.size]; exact Nat.le_refl _
  ·intro j hj;refine ⟨by simpa using hj.1,?_⟩;rw[ZO];split
   ·simp
   ·split
    ·simp
    ·exact hj.2
  ·intro j hj hd;have hjid:id≠j:=by rintro rfl; exact hj.2 hf
   rw[ZO,if_neg hjid]at hd ⊢;split
   ·rename_i h2; rw[if_pos h2]at hd; exact absurd rfl hd
   ·rename_i h2;rw[if_neg h2]at hd;refine ⟨?_,(ZI j (Ne.symm hjid)).1,(ZI j (Ne.symm hjid)).2⟩;have h3:=hj.2
    revert hd h3
    cases h.at j <;> simp[cb.iS]
  ·intro b' y hy ho;have hbb:b'≠b:=by rintro rfl; exact ho (mz y)
   exact xB (hw.other b' hbb)
  ·intro b' pX ho;have hbb:b'≠b:=by rintro rfl; exact ho 0 (mz 0)
   exact hw.other b' hbb
  ·intro b' y _ ho; exact Vn b' y ho
  ·rfl
  ·intro b' Ni e' P5 ha;by_cases hbb:b'=b
   ·subst hbb;rw[IB]at ha; cases ha;exact ⟨oY,fz,hw.here,FN⟩
   ·exact ⟨Ni,P5,by rw[hw.other b' hbb]; exact ha,rfl⟩
 obtain ⟨fl,fh⟩:=fz;have hti:=wf.obj i hil;rw[hi]at hti;have hfz:∀y,(y<arr.size∨T.P2=true)→w.frozen? ⟨b,y,none⟩=false:=by
  rcases hti with ⟨h0,_⟩|⟨b',Ni,e',P5,p1,p2,p3,p4,p5⟩
  ·rw[hb]at h0; cases h0
  ·rw[hb]at p1; cases p1;rw[IB]at p2; cases p2;exact p4
 have rr:cz w' ((h.set i .dead).set id (.row T (l++m))) (c.put id (some b) (c.off i)) (gv T (l++m)) (olds++news):=by
  rw[Au]; exact (ro.mono x).append (rn.mono x)
 have K7:∀(k:Nat) (d:Value),(olds++news)[k]? = some d→oY[c.off i+k]? = some d:=by
  intro k d hd;have l1:(arr.toList.take (c.off i+l.length*T.sz)).length=c.off i+l.length*T.sz:=by simp only[List.length_take,Array.length_toList]; omega
  rw[←Array.getElem?_toList,Vk,List.append_assoc];by_cases hk:k<olds.length
  ·rw[List.getElem?_append_left hk]at hd;have hlne:l ≠ []:=by rintro rfl; simp at hlen1; omega
   have hc1:=hold hlne k d hd;rw[cell_of_row w b _ arr el (fl,fh) IB]at hc1;rw[List.getElem?_append_left (by omega),List.getElem?_take,if_pos (by omega),Array.getElem?_toList];exact hc1
  ·rw[List.getElem?_append_right (by omega)]at hd;have hj2:k - olds.length<news.length:=(List.getElem?_eq_some_iff.1 hd).1;rw[List.getElem?_append_right (by omega),l1,List.getElem?_append_left (by omega)];rw[←hd]; congr 1; omega
 have wf':WF w' ((h.set i .dead).set id (.row T (l++m))) (c.put id (some b) (c.off i)):=by
  constructor
  ·intro b' y ho; exact wf.Ev b' y (Vn b' y ho)
  ·intro b' y he; rw[hw.size]; exact wf.sB b' y he
  ·intro j hj;rw[ZO];by_cases h1:id=j
   ·subst h1;rw[if_pos rfl];refine .inr ⟨b,oY,el,(fl,fh),cV _ _ _,hw.here,by rw[eB]; omega,fun y h1 => ?_,?_⟩
    ·have:=hfz y (h1.imp (fun h=>by omega) fun h=>h);rw[L5 IB]at this;rw[L5 hw.here]; exact this
    ·rw[eB]; exact row_of_cells rr K7
   ·rw[if_neg h1];split
    ·trivial
    ·rename_i h2;by_cases hl:(h.at j).live
     ·refine (wf.obj j (by simpa using hj)).Ar x (fun b' pX=>hw.other b' ?_) (ZI j (Ne.symm h1)).1 (ZI j (Ne.symm h1)).2
      rintro rfl
      exact Xc j (Ne.symm h2) hl pX
     ·revert hl; cases h.at j <;> simp[cb.live,pa]
  ·intro j k b' hj hk h1 h2;rw[ZO]at hj hk;by_cases e1:id=j <;> by_cases e2:id=k
   ·exact e1.symm.trans e2
   ·subst e1;rw[cV]at h1; cases h1;rw[if_neg e2]at hk;rw[(ZI k (Ne.symm e2)).1]at h2;split at hk
    ·exact hk.elim
    ·rename_i h3; exact absurd h2 (Xc k (Ne.symm h3) hk)
   ·subst e2;rw[cV]at h2; cases h2;rw[if_neg e1]at hj;rw[(ZI j (Ne.symm e1)).1]at h1;split at hj
    ·exact hj.elim
    ·rename_i h3; exact absurd h1 (Xc j (Ne.symm h3) hj)
   ·rw[if_neg e1]at hj;rw[if_neg e2]at hk;rw[(ZI j (Ne.symm e1)).1]at h1;rw[(ZI k (Ne.symm e2)).1]at h2;split at hj
    ·exact hj.elim
    ·split at hk
     ·exact hk.elim
     ·exact wf.inj j k b' hj hk h1 h2
  ·exact wf.wQ x
 refine ⟨_,wf',x, .row ⟨by simpa using hid,by rw[ZO,if_pos rfl]; simp⟩ (by omega) ⟨_,_,rfl,⟨jd,uP,fun _=>⟨_,rfl⟩⟩,fun T' l' he => ?_⟩⟩;rw[ZO,if_pos rfl]at he;cases he;exact ⟨rfl,jd,uP, .inr ⟨b,oY,el,(fl,fh),cV _ _ _,by rw[eB],hw.here,by rw[eB,FN]; exact rV⟩⟩
def Writes (P:Program) (w:World) (h:aN) (c:j8) (s:Sem Value) (k:V→aN→Option R) (r:R):Prop :=
 ∃v h' v' w' c',s.run P w = .ok v' w'∧WF w' h' c'∧Ext w h c w' h' c'∧dx w' h' c' v v'∧k v h'=some r
theorem Vo (T:CU P tt) (wf:WF w h c) {t xt e id:Nat} (ht:(tt.at t).d = .slice e) (hxt:(∃e',P.underlying xt=some (.slice e'))∨P.underlying xt=some .string) {s x:V} {s' x':Value}
  (rs:dx w h c s s') (rx:dx w h c x x') (hid:id<h.length) (hf:h.at id = .free) (ty:Nat) {k:V→aN→Option R} {r:R} (hk:pO tt e s x h id k=some r) :
  Writes P w h c (Builtin.append_ #[t,xt] ty #[s',x']) k r:=by
 unfold pO at hk;have hk0:=bY hk;clear hk;obtain ⟨hvok,hk⟩:=hk0;unfold As at hk;split at hk <;> (try cases hk);rename_i T' hty;split at hk <;> (try cases hk);rename_i sC;simp only[Bool.and_eq_true,decide_eq_true_eq,bne_iff_ne,ne_eq]at sC;obtain ⟨⟨rV,hnz⟩,sR⟩:=sC;split at hk <;> (try cases hk);rename_i m hsrc;obtain ⟨news,n1,n2,n3,n4⟩:=src_sound (P:=P) wf rV rx hvok hsrc;clear hvok;have hnl:=n3.1;rw[kK,rV]at hnl;have hones:=ones_of n3 (cellsL_one T' m);have hbig:∀n:Nat,(n+m.length)*(tt.at e).bytes≤140737488355328→n+m.length≤mx:=fun n hb=>by
  have:n+m.length≤(n+m.length)*(tt.at e).bytes:=Nat.le_mul_of_pos_right _ (by omega);unfold mx; omega
 have hte:∀o:Nat,o=0→TokE T' o e:=fun o ho hT=>⟨ho,T.u8s e (by rw[hty,hT])⟩
 have fromNil:((0+m.length)*(tt.at e).bytes≤140737488355328)→k (.sl T' m (.own id)) (h.set id .tok)=some r→Writes P w h c (Builtin.append_ #[t,xt] ty #[.slice none 0 0,x']) k r:=by
  intro Kd hk;have:=C0 (P:=P) (w:=w) (A:=none) (n:=0) (cap:=0) (m:=m.length) (x:=x') (olds := []) (news:=news) T ht sR hxt ty n1 n2 hnl.symm hones (by simp) (fun h=>absurd rfl h) (Nat.le_refl _) (by unfold mx; omega) (.inl ⟨rfl,rfl⟩) Kd (by omega);rcases this with ⟨h1,_,hm0,nG⟩|⟨_,b,o,arr,el,fz,w',oY,hA,_⟩|⟨cap,ds,h1,h2,h3,h4,nG⟩
  ·have hm:m = []:=List.eq_nil_of_length_eq_zero hm0;subst hm;obtain ⟨c',g1,g2,g3⟩:=Vl wf hid hf (T:=T');exact ⟨_,_,_,w,c',nG,g1,g2,g3,hk⟩
  ·cases hA
  ·rw[Nat.zero_add]at h1 h4 nG;rw[←rV]at h3 h4;obtain ⟨c',g1,g2,g3⟩:=grown_tok wf hid hf n3 (hte 0 rfl) h3 (by simpa using h4) h1 h2 (e:=e);exact ⟨_,_,_,_,c',nG,g1,g2,g3,hk⟩
 have P4:((0+m.length)*(tt.at e).bytes≤140737488355328)→k (.row id m.length) (h.set id (.row T' m))=some r→Writes P w h c (Builtin.append_ #[t,xt] ty #[.slice none 0 0,x']) k r:=by
  intro Kd hk;have:=C0 (P:=P) (w:=w) (A:=none) (n:=0) (cap:=0) (m:=m.length) (x:=x') (olds := []) (news:=news) T ht sR hxt ty n1 n2 hnl.symm hones (by simp) (fun h=>absurd rfl h) (Nat.le_refl _) (by unfold mx; omega) (.inl ⟨rfl,rfl⟩) Kd (by omega);rcases this with ⟨h1,_,hm0,nG⟩|⟨_,b,o,arr,el,fz,w',oY,hA,_⟩|⟨cap,ds,h1,h2,h3,h4,nG⟩
  ·have hm:m = []:=List.eq_nil_of_length_eq_zero hm0;subst hm;obtain ⟨c',g1,g2,g3⟩:=none_row wf hid hf (T:=T');exact ⟨_,_,_,w,c',nG,g1,g2,g3,hk⟩
  ·cases hA
  ·rw[Nat.zero_add]at h1 h4 nG;rw[←rV]at h3 h4;obtain ⟨c',g1,g2,g3⟩:=grown_row wf hid hf n3 h3 (by simpa using h4) h1 h2 (e:=e);exact ⟨_,_,_,_,c',nG,g1,g2,g3,hk⟩
 split at hk <;> (try cases hk)
 ·obtain ⟨Kd,hk⟩:=bY hk;cases rs;split at hk
  ·exact P4 (by simpa using Kd) hk
  ·exact fromNil (by simpa using Kd) hk
 ·rename_i T'' l tk;split at hk <;> (try cases hk);rename_i q;subst q;simp only at hk;split at hk <;> (try cases hk)
  ·obtain ⟨Kd,hk⟩:=bY hk;cases rs with
   | sl f jd uP hc hr E0 mz =>
    obtain ⟨rfl,rfl⟩:=E0 rfl;have Yb:l = []:=List.eq_nil_of_length_eq_zero (by omega);subst Yb;exact fromNil (by simpa using Kd) hk
  ·rename_i i;split at hk <;> (try cases hk);rename_i htok;obtain ⟨Kd,hk⟩:=bY hk;have hroom':(l.length+m.length)*(tt.at e).bytes≤140737488355328:=by simpa using Kd
   have jW:i≠id:=by rintro rfl; rw[htok]at hf; cases hf
   have hid1:id<(h.set i .dead).length:=by simpa using hid
   have hf1:aN.at (h.set i .dead) id = .free:=by rw[cF _ jW]; exact hf
   obtain ⟨A,cap,rfl,jd,uP⟩:=GN rs;obtain ⟨olds,ro,ho⟩:=sl_cells rs;have hol:=ro.1;rw[kK,rV]at hol;have mz:(c.wO i=none∧A=none∧cap=0)∨∃b o arr e fz,c.wO i=some b∧A=some ⟨b,o,none⟩∧c.off i=o+l.length*T''.sz∧w.heap[b]? = some (.cells arr e fz)∧o+cap*T''.sz≤arr.size∧TokE T'' o e:=by
    cases rs with
    | sl f jd uP hc hr E0 mz=>exact (mz i rfl).2 htok
   have hobj:=wf.obj i (aN.gK htok (by simp));rw[htok]at hobj;have hA:(A=none∧cap=0)∨∃b o arr el fz,A=some ⟨b,o,none⟩∧w.heap[b]? = some (.cells arr el fz)∧o+cap*(tt.at e).size≤arr.size∧∀y,o+l.length*(tt.at e).size≤y→y<arr.size→w.frozen? ⟨b,y,none⟩=false:=by
    rcases mz with ⟨_,h1,h2⟩|⟨b,o,arr,el,fz,g1,g2,g3,g4,g5,_⟩
    ·exact .inl ⟨h1,h2⟩
    ·refine .inr ⟨b,o,arr,el,fz,g2,g4,by rw[←rV]; exact g5,?_⟩;rcases hobj with h0|⟨b',Ni,e',P5,p1,p2,p3,p4⟩
     ·rw[g1]at h0; cases h0
     ·rw[g1]at p1; cases p1;rw[g4]at p2; cases p2;intro y h1 h2;exact frozen_low g4 p4 (by rw[g3,rV]; exact h1)
   have:=C0 (P:=P) (w:=w) (n:=l.length) (olds:=olds) T ht sR hxt ty n1 n2 hnl.symm hones hol.symm (fun hn=>by
    obtain ⟨b,o,q1,q2,_⟩:=ho (by rintro rfl; exact hn rfl);exact ⟨b,o,q1,q2⟩) jd uP hA hroom' (hbig _ hroom')
   have k1:=IA (w:=w) (h:=h) (c:=c) i;have k2:=ZM wf i;rcases this with ⟨h1,hA0,hm0,nG⟩|⟨hfit,b,o,arr,el,fz,w',oY,hA1,IB,hsz1,nG,hw,Vk⟩|⟨cap',ds,h1,h2,h3,h4,nG⟩
   ·have hm:m = []:=List.eq_nil_of_length_eq_zero hm0;subst hm;have Yb:l = []:=by
     rcases mz with ⟨_,_,SU⟩|⟨b,o,arr,el,fz,_,g2,_⟩
     ·exact List.eq_nil_of_length_eq_zero (by omega)
     ·rw[g2]at hA0; cases hA0
    subst Yb;have SU:cap=0:=by
     rcases mz with ⟨_,_,SU⟩|⟨b,o,arr,el,fz,_,g2,_⟩
     ·exact SU
     ·rw[g2]at hA0; cases hA0
    subst SU;subst hA0;obtain ⟨c',g1,g2,g3⟩:=Vl k2 hid1 hf1 (T:=T'');exact ⟨_,_,_,w,c',nG,g1,k1.trans g2,g3,hk⟩
   ·rcases mz with ⟨_,hA2,_⟩|⟨b',o',Ni,el',P5,g1,g2,g3,g4,g5,g6⟩
    ·rw[hA2]at hA1; cases hA1
    ·rw[g2]at hA1; cases hA1;rw[g4]at IB; cases IB;subst g2;have hlen:(l++m).length=l.length+m.length:=List.length_append;obtain ⟨c',q1,q2,q3⟩:=fit_tok (l:=l) (m:=m) wf htok hid hf g1 g3 g6 g4 hw (by omega) uP g5 ro n3 (fun jW=>by
      obtain ⟨b2,o2,p1,p2,_⟩:=ho jW;cases p1; exact p2) (fun y y1 y2=>by
      by_cases jW:l = []
      ·subst jW; simp at y2; omega
      ·obtain ⟨b2,o2,p1,_,p3⟩:=ho jW;cases p1; exact p3 y y1 y2) (by rw[rV]; exact Vk)
     rw[hlen]at q3;exact ⟨_,_,_,w',c',nG,q1,q2,q3,hk⟩
   ·have hlen:(l++m).length=l.length+m.length:=List.length_append;obtain ⟨c',q1,q2,q3⟩:=grown_tok (l:=l++m) k2 hid1 hf1 (by rw[Au]; exact (ro.mono k1).append (n3.mono k1)) (hte 0 rfl) (by rw[rV]; exact h3) (by rw[hlen,rV]; exact h4) (by omega) h2 (e:=e);rw[hlen]at q3;exact ⟨_,_,_,_,c',nG,q1,k1.trans q2,q3,hk⟩
 ·rename_i i n;split at hk <;> (try cases hk);rename_i T'' l F5;split at hk <;> (try cases hk);rename_i q;subst q;obtain ⟨Kd,hk⟩:=bY hk;simp only at hk;have hroom':(l.length+m.length)*(tt.at e).bytes≤140737488355328:=by simpa using Kd
  have jW:i≠id:=by rintro rfl; rw[F5]at hf; cases hf
  have hid1:id<(h.set i .dead).length:=by simpa using hid
  have hf1:aN.at (h.set i .dead) id = .free:=by rw[cF _ jW]; exact hf
  obtain ⟨olds,ro,ho⟩:=ZN wf F5;have hol:=ro.1;rw[kK,rV]at hol;have hobj:=wf.obj i (aN.gK F5 (by simp));rw[F5]at hobj;cases rs with
  | row hu hn hv =>
   obtain ⟨A,cap,rfl,hA0,hv⟩:=hv;obtain ⟨hnl',jd,uP,mz⟩:=hv _ _ F5;subst hnl';have hA:(A=none∧cap=0)∨∃b o arr el fz,A=some ⟨b,o,none⟩∧w.heap[b]? = some (.cells arr el fz)∧o+cap*(tt.at e).size≤arr.size∧∀y,o+l.length*(tt.at e).size≤y→y<arr.size→w.frozen? ⟨b,y,none⟩=false:=by
    rcases mz with ⟨_,h1,h2⟩|⟨b,arr,el,fz,g1,g2,g4,g5⟩
    ·exact .inl ⟨h1,h2⟩
    ·refine .inr ⟨b,c.off i,arr,el,fz,g2,g4,by rw[←rV]; exact g5,?_⟩;rcases hobj with ⟨h0,_⟩|⟨b',Ni,e',P5,p1,p2,p3,p4,_⟩
     ·rw[g1]at h0; cases h0
     ·rw[g1]at p1; cases p1;rw[g4]at p2; cases p2;intro y _ h2;exact p4 y (.inl h2)
   have:=C0 (P:=P) (w:=w) (n:=l.length) (olds:=olds) T ht sR hxt ty n1 n2 hnl.symm hones hol.symm (fun hn=>by
    obtain ⟨b,q1,q2⟩:=ho (by rintro rfl; exact hn rfl);rcases mz with ⟨p1,_⟩|⟨b',arr,el,fz,p1,p2,_⟩
    ·rw[q1]at p1; cases p1
    ·rw[q1]at p1; cases p1;exact ⟨b,_,p2,q2⟩) jd uP hA hroom' (hbig _ hroom')
   have k1:=IA (w:=w) (h:=h) (c:=c) i;have k2:=ZM wf i;have hlen:(l++m).length=l.length+m.length:=List.length_append;rcases this with ⟨h1,hAn,hm0,nG⟩|⟨hfit,b,o,arr,el,fz,w',oY,hA1,IB,hsz1,nG,hw,Vk⟩|⟨cap',ds,h1,h2,h3,h4,nG⟩
   ·have hm:m = []:=List.eq_nil_of_length_eq_zero hm0;subst hm;have SU:cap=0:=by
     rcases mz with ⟨_,_,SU⟩|⟨b,arr,el,fz,_,g2,_⟩
     ·exact SU
     ·rw[g2]at hAn; cases hAn
    have Yb:l = []:=List.eq_nil_of_length_eq_zero (by omega);subst Yb;subst SU;subst hAn;obtain ⟨c',g1,g2,g3⟩:=none_row k2 hid1 hf1 (T:=T'');exact ⟨_,_,_,w,c',nG,g1,k1.trans g2,g3,hk⟩
   ·rcases mz with ⟨_,hA2,_⟩|⟨b',Ni,el',P5,g1,g2,g4,g5⟩
    ·rw[hA2]at hA1; cases hA1
    ·rw[g2]at hA1; cases hA1;rw[g4]at IB; cases IB;subst g2;obtain ⟨c',q1,q2,q3⟩:=fit_row (l:=l) (m:=m) wf F5 hid hf g1 g4 hw (by omega) uP g5 ro n3 (fun jW=>by
      obtain ⟨b2,p1,p2⟩:=ho jW;rw[g1]at p1; cases p1; exact p2) (by rw[rV]; exact Vk)
     rw[hlen]at q3;exact ⟨_,_,_,w',c',nG,q1,q2,q3,hk⟩
   ·obtain ⟨c',q1,q2,q3⟩:=grown_row (l:=l++m) k2 hid1 hf1 (by rw[Au]; exact (ro.mono k1).append (n3.mono k1)) (by rw[rV]; exact h3) (by rw[hlen,rV]; exact h4) (by omega) h2 (e:=e);rw[hlen]at q3;exact ⟨_,_,_,_,c',nG,q1,k1.trans q2,q3,hk⟩
end
section
variable {P:Program} {tt:dn} {w w':World} {h:aN} {c:j8} {R:Type}
def Obj.isCells:Obj→Bool
 | .cells _ _ _=>true
 | _=>false
theorem put_obj (wf:WF w h c) {i b:Nat} {o':cb} {o1 o2:Obj} (hb:c.wO i=some b) (h1:w.heap[b]? = some o1) (hn1:Obj.isCells o1=false)
  (wR:(h.at i).from_ (c.off i)=some 0) (hfrom':o'.from_ (c.off i)=some 0) (zA:(h.at i).iS o')
  (JH:Ext w h c { w with heap:=w.heap.setIfInBounds b o2 } (h.set i o') c→pa { w with heap:=w.heap.setIfInBounds b o2 } (h.set i o') c i o') :
  WF { w with heap:=w.heap.setIfInBounds b o2 } (h.set i o') c∧Ext w h c { w with heap:=w.heap.setIfInBounds b o2 } (h.set i o') c:=by
 have hi:i<h.length:=aN.gK rfl (cb.L2 zA).1;have mz:∀x,yt h c b x:=fun x=>⟨i,0,hb,wR,Nat.zero_le _⟩
 have hother:∀k,k≠b→(w.heap.setIfInBounds b o2)[k]? = w.heap[k]? :=fun k hk=>by
  rw[Array.getElem?_setIfInBounds]; simp[Ne.symm hk]
 have hli:=wi wR;have x:Ext w h c { w with heap:=w.heap.setIfInBounds b o2 } (h.set i o') c:=by
  constructor
  ·rfl
  ·rfl
  ·rfl
  ·simp
  ·intro j hj;by_cases B7:i=j
   ·subst B7;refine ⟨by simpa using hj.1,?_⟩;rw[ma _ hi];intro he; subst he; simp[cb.from_]at hfrom'
   ·exact ⟨by simpa using hj.1,by rw[cF _ B7]; exact hj.2⟩
  ·intro j hj hd;refine ⟨?_,rfl,rfl⟩;by_cases B7:i=j
   ·subst B7; rw[ma _ hi]; exact zA
   ·rw[cF _ B7]at hd ⊢;have h2:=hj.2
    revert hd h2
    cases h.at j <;> simp[cb.iS]
  ·intro b' x hx ho;have jW:b'≠b:=by rintro rfl; exact ho (mz x)
   exact xB (hother b' jW)
  ·intro b' hx ho;have jW:b'≠b:=by rintro rfl; exact ho 0 (mz 0)
   exact hother b' jW
  ·rintro b' x hx ⟨j,f,g1,g2,g3⟩
   by_cases B7:i=j
   ·subst B7;rw[hb]at g1; cases g1;exact mz x
   ·rw[cF _ B7]at g2;exact ⟨j,f,g1,g2,g3⟩
  ·rfl
  ·intro b' arr el P5 ha;by_cases jW:b'=b
   ·subst jW;rw[h1]at ha; cases ha;simp[Obj.isCells]at hn1
   ·exact ⟨arr,P5,by rw[hother b' jW]; exact ha,rfl⟩
 have hlive:∀j,(aN.at (h.set i o') j).live→(h.at j).live:=fun j hj=>by
  by_cases B7:i=j
  ·subst B7; exact hli
  ·rw[cF _ B7]at hj; exact hj
 refine ⟨?_,x⟩;constructor
 ·intro b' y ho he;exact wf.Ev b' y (x.CF b' y (wf.sB b' y he) ho) he
 ·intro b' y he;simpa using wf.sB b' y he
 ·intro j hj;by_cases B7:i=j
  ·subst B7; rw[ma _ hi]; exact JH x
  ·rw[cF _ B7];by_cases hl:(h.at j).live
   ·refine (wf.obj j (by simpa using hj)).Ar x (fun b' pX=>hother b' ?_) rfl rfl
    rintro rfl
    exact B7 (wf.inj i j b' hli hl hb pX)
   ·revert hl; cases h.at j <;> simp[cb.live,pa]
 ·intro j k b' hj hk h1 h2;exact wf.inj j k b' (hlive j hj) (hlive k hk) h1 h2
 ·exact wf.wQ x
theorem Xd (s:ByteArray) (i:Nat):(Utf8.decode s i).1<2097152∧1≤(Utf8.decode s i).2∧(Utf8.decode s i).2≤4:=by
 have hb:∀k,(s.get! k).toNat<256:=fun k=>UInt8.toNat_lt _
 have h0:=hb (i+0);unfold Utf8.decode;simp only;split
 ·exact ⟨by omega,by simp,by simp⟩
 ·split
  ·split
   ·exact ⟨by simp only; omega,by simp,by simp⟩
   ·exact ⟨by simp[Utf8.runeError],by simp,by simp⟩
  ·split
   ·split
    ·exact ⟨by simp only; omega,by simp,by simp⟩
    ·exact ⟨by simp[Utf8.runeError],by simp,by simp⟩
   ·split
    ·split
     ·exact ⟨by simp only; omega,by simp,by simp⟩
     ·exact ⟨by simp[Utf8.runeError],by simp,by simp⟩
    ·exact ⟨by simp[Utf8.runeError],by simp,by simp⟩
theorem has_rune (n:Nat) (h:n<2097152):IntKind.i32.has (n:Int):=by
 unfold IntKind.has; simp[IntKind.min,IntKind.max,IntKind.signed,IntKind.bits]; omega
theorem next_sound (wf:WF w h c) {i:Nat} {s:ae} {pos:Nat} {a':Value} (ra:dx w h c (.ptr i 0) a') (hit:h.at i = .iter s pos) (ty:TypeId) {k:V→aN→Option R} {r:R}
  (hk:(bif decide (pos<s.length)then k (.tuple [.bool true, .int .i64 pos, .int .i32 (mP s pos).1]) (h.set i (.iter s (pos+(mP s pos).2)))else k (.tuple [.bool false]) h)=some r) :
  Writes P w h c (Instr.next a' true ty) k r:=by
 have hi:=aN.gK hit (by simp);have ho:=wf.obj i hi;rw[hit]at ho;obtain ⟨b,bs,g1,g2,g3,g4⟩:=ho;cases ra with
 | ptr hu hv =>
  obtain ⟨b',rfl,pX⟩:=hv;have:=pX (by rw[hit]; simp);rw[g1]at this; cases this;have hlen:s.length=bs.size:=by rw[←g3,size_data]
  have hbs:bs=⟨s.toArray⟩:=uX (by rw[g3]);have hdec:Utf8.decode bs pos=mP s pos:=by rw[hbs]; rfl
  have Iz:(getObj b).run P w = .ok (.stringIter bs pos) w:=by simp[getObj,Sem.run,g2]
  by_cases hp:pos<s.length
  ·have hc:decide (pos<s.length)=true:=by simpa using hp
   rw[hc]at hk;have Xe:(setObj b (.stringIter bs (pos+(mP s pos).2))).run P w = .ok () { w with heap:=w.heap.setIfInBounds b (.stringIter bs (pos+(mP s pos).2)) }:=by
    simp[setObj,Sem.run,g2]
   have jz:b<w.heap.size:=FM g2;have hrune:=(Xd bs pos).1;rw[hdec]at hrune;have wR:(h.at i).from_ (c.off i)=some 0:=by rw[hit]; rfl
   have zA:(h.at i).iS (.iter s (pos+(mP s pos).2)):=by rw[hit]; trivial
   obtain ⟨q1,q2⟩:=put_obj wf (o' := .iter s (pos+(mP s pos).2)) (o2 := .stringIter bs (pos+(mP s pos).2)) g1 g2 rfl wR rfl zA
    (fun _=>⟨b,bs,g1,by simp[Array.getElem?_setIfInBounds,jz],g3,g4⟩)
   refine ⟨_,_, .tuple #[.bool true,goInt pos, .int .i32 (mP s pos).1],_,c,?_,q1,q2,?_,hk⟩
   ·simp only[Instr.next,Sem.run_bind,Iz,Result.andThen_ok];rw[if_pos (by omega),hdec];simp only[Sem.run_bind,Xe,Result.andThen_ok,Sem.run_pure]
   ·refine .tuple rfl fun j v d hv hd => ?_
    match j,hv,hd with
    | 0,hv,hd=>simp at hv hd; subst hv; subst hd; exact .bool _
    | 1,hv,hd=>simp[goInt]at hv hd; subst hv; subst hd; exact .int (Nj _ (by omega))
    | 2,hv,hd=>simp at hv hd; subst hv; subst hd; exact .int (has_rune _ hrune)
    | j+3,hv,_=>simp at hv
  ·have hc:decide (pos<s.length)=false:=by simpa using hp
   rw[hc]at hk;refine ⟨_,_, .tuple #[.bool false],w,c,?_,wf, .refl _ _ _,?_,hk⟩
   ·simp only[Instr.next,Sem.run_bind,Iz,Result.andThen_ok];rw[if_neg (by omega)];rfl
   ·refine .tuple rfl fun j v d hv hd => ?_
    match j,hv,hd with
    | 0,hv,hd=>simp at hv hd; subst hv; subst hd; exact .bool _
    | j+1,hv,_=>simp at hv
end
end Go.aA
namespace Go.aA
open Go.RowKit Go.MapKept
section
variable {P:Program} {tt:dn} {w w':World} {h:aN} {c:j8} {R:Type}
theorem Vp (T:CU P tt) (wf:WF w h c) {t kt vt i:Nat} {K V':Ty} {l:List (K.den×V'.den)} (ht:(tt.at t).d = .map kt vt) {m d y:Value} (rm:dx w h c (.map i) m) (hm:h.at i = .Bs K V' l)
  (hf:(CW tt kt K&&GL tt vt V')=true) {v u:V} (rk:dx w h c v d) (ru:dx w h c u y) {kx:K.den} {vx:V'.den} (hx:elD K v=some kx) (hy:elD V' u=some vx) :
  ∃w',(Instr.mapUpdate t m d y).run P w = .ok () w'∧WF w' (h.set i (.Bs K V' (CV K V' kx vx l))) c∧Ext w h c w' (h.set i (.Bs K V' (CV K V' kx vx l))) c:=by
 simp only[Bool.and_eq_true]at hf;obtain ⟨hf1,hf2⟩:=hf;have hi:=aN.gK hm (by simp);have ho:=wf.obj i hi;rw[hm]at ho;obtain ⟨b,es,clock,g1,g2,g3,g4,g5,g6⟩:=ho;cases rm with
 | map hu hv =>
  obtain ⟨b',rfl,pX⟩:=hv;have:=pX (by rw[hm]; simp);rw[g1]at this; cases this;have hut:P.underlying t=some (.map kt vt):=ez T ht;have e:=elD_eq hx (fits_one hf1).1;subst e;have e:=elD_eq hy (elFits_one hf2);subst e;have hl:es.toList.length=l.length:=by simpa using g5
  have hr:∀(j:Nat) (x:K.den×V'.den) (e:MapEntry),l[j]? = some x→es.toList[j]? = some e→dx w h c (elV K x.1) e.key:=fun j x e hx he=>(g6 j x e hx (by simpa using he)).1
  obtain ⟨u,hu',hik,_⟩:=Vf T hf1 rk rk;have Vg:=run_findKey (w:=w) hu' (find_run T hf1 rk hu' l es.toList 0 hl hr);have hchk:=run_checkKey (w:=w) hu' hik false 9999;have Iz:=Go.MapKept.run_getObj_map (P:=P) g2;have jz:b<w.heap.size:=FM g2;have wR:(h.at i).from_ (c.off i)=some 0:=by rw[hm]; rfl
  have zA:∀l':List (K.den×V'.den),(h.at i).iS (.Bs K V' l'):=fun l'=>by rw[hm]; exact ⟨rfl,rfl⟩
  rcases W7 (K:=K) (T:=V') (k:=kx) l es.toList 0 hl with ⟨h1,h2,h3,h4⟩|⟨j,x,e,h1,h2,h3,h4,h5,h6,h7⟩
  ·rw[h1]at Vg;rw[h4 vx];have Xe:=Go.MapKept.run_setObj_map (P:=P) (.map (es.push { key:=d,val:=y,born:=clock }) (clock+1)) g2;obtain ⟨q1,q2⟩:=put_obj wf (o' := .Bs K V' (l ++ [(kx,vx)])) (o2 := .map (es.push { key:=d,val:=y,born:=clock }) (clock+1)) g1 g2 rfl wR rfl (zA _) (fun x=>by
    refine ⟨b,es.push { key:=d,val:=y,born:=clock },clock+1,g1,by simp[Array.getElem?_setIfInBounds,jz],g3,g4,by simp[g5],fun j q e hq he => ?_⟩;by_cases hj:j<l.length
    ·rw[List.getElem?_append_left hj]at hq;rw[Array.getElem?_push,if_neg (by omega)]at he;exact ⟨(g6 j q e hq he).1.mono x,(g6 j q e hq he).2.mono x⟩
    ·have hj2:j=l.length:=by
      have:=(List.getElem?_eq_some_iff.1 hq).1;simp at this; omega
     subst hj2;rw[List.getElem?_append_right (Nat.le_refl _)]at hq;simp at hq; subst hq;rw[Array.getElem?_push,if_pos g5.symm]at he;cases he;exact ⟨rk.mono x,ru.mono x⟩)
   refine ⟨_,?_,q1,q2⟩;simp[Instr.mapUpdate,run_underlying hut,Iz,hchk,Vg,Xe]
  ·rw[Nat.zero_add]at h1;rw[h1]at Vg;rw[h7 vx];have hej:es[j]? = some e:=by simpa using h3
   have hsame:e.key=d:=by
    obtain ⟨u2,_,_,_,_,q⟩:=Vf T hf1 rk (g6 j x e h2 hej).1;exact q h4
   have hget2:((es[j]?).map (·.key)).getD d=d:=by rw[hej]; simpa using hsame
   have hstay:=run_keyThatStays (P:=P) (w:=w) hik;have Xe:=Go.MapKept.run_setObj_map (P:=P) (.map (es.modify j fun e => { e with key:=d,val:=y }) clock) g2;obtain ⟨q1,q2⟩:=put_obj wf (o' := .Bs K V' (l.set j (kx,vx))) (o2 := .map (es.modify j fun e => { e with key:=d,val:=y }) clock) g1 g2 rfl wR rfl (zA _) (fun x'=>by
    refine ⟨b,es.modify j fun e => { e with key:=d,val:=y },clock,g1,by simp[Array.getElem?_setIfInBounds,jz],g3,g4,by simp[g5],fun j' q e' hq he => ?_⟩;rw[Array.getElem?_modify]at he;rw[List.getElem?_set]at hq;by_cases hj:j=j'
    ·subst hj;rw[if_pos rfl]at hq he;rw[hej]at he;simp at he; subst he;split at hq
     ·cases hq; exact ⟨rk.mono x',ru.mono x'⟩
     ·cases hq
    ·rw[if_neg hj]at hq he;exact ⟨(g6 j' q e' hq he).1.mono x',(g6 j' q e' hq he).2.mono x'⟩)
   refine ⟨_,?_,q1,q2⟩;simp only[Instr.mapUpdate,Sem.run_bind,run_underlying hut,Result.andThen_ok,Iz,hchk,Vg,hget2,hstay,Xe]
end
end Go.aA
namespace Go.aA
open Go.RowKit
section
variable {P:Program} {tt:dn} {w w':World} {h:aN} {c:j8} {R:Type}
theorem sliceArr_sound (T:CU P tt) (wf:WF w h c) {t:Nat} {v:V} {a':Value} (ra:dx w h c v a') {k:V→aN→Option R} {r:R} (hk:L0 tt t v h k=some r) :
  ∃u h' d,(Instr.sliceAt t a' none none none).run P w = .ok d w∧WF w h' c∧Ext w h c w h' c∧dx w h' c u d∧k u h'=some r:=by
 unfold L0 at hk;split at hk <;> (try cases hk);rename_i m e i hd;split at hk <;> (try cases hk);rename_i cs FN;split at hk <;> (try cases hk);rename_i T' hT;split at hk <;> (try cases hk);rename_i hc;simp only[Bool.and_eq_true,decide_eq_true_eq]at hc;obtain ⟨⟨⟨⟨rV,sR⟩,hlen⟩,hm0⟩,hm⟩:=hc;split at hk <;> (try cases hk);rename_i l hl;have hu:P.underlying t=some (.array m e):=ez T hd;have Nq:=T.sizeOf (w:=w) sR;have hi:i<h.length:=aN.gK FN (by simp);have ho:=wf.obj i hi;rw[FN]at ho;obtain ⟨b,arr,el,g1,g2,g3⟩:=ho;cases ra with
 | ptr hi' hv =>
  obtain ⟨b',rfl,pX⟩:=hv;have hbb:=pX (by rw[FN]; simp);rw[g1]at hbb;cases hbb;have hll:l.length=m:=by
   rw[E3 hl];exact E2 _ _ _
  have hae:P.arrayLen t=m∧P.elem t=e:=by
   unfold Program.arrayLen Program.elem;rw[hu];exact ⟨rfl,rfl⟩
  have rr:=decAll_rep hlen g3 hl;have nG:=run_sliceAt_array_all (P:=P) w t ⟨b,0,none⟩ (by rw[hae.1,hae.2]; exact hu);rw[hae.1,hae.2,Nq]at nG;have jW:¬m=0:=hm0;refine ⟨.sl T' l .no,h.set i .dead, .slice (some ⟨b,0,none⟩) l.length m,?_,ZM wf i,IA i,?_,hk⟩
  ·rw[nG,hll];simp[slicedAt,jW,sV]
  ·refine F6 (rr.mono (IA i)) (by omega) (by unfold mx; omega) (fun _ => ?_) (fun h=>by cases h) (fun _ h=>by cases h);refine ⟨b,0,rfl,fun j d hj => ?_,fun x _ _ => ?_⟩
   ·rw[Nat.zero_add];have e:w.cell? ⟨b,j,none⟩=arr[j]? :=by simp[World.cell?,g2]
    rw[e];simpa using hj
   ·have mz:yt h c b x:=⟨i,0,g1,by rw[FN]; rfl,Nat.zero_le _⟩;refine ⟨fun hq => ?_,wf.Ev b x mz⟩;obtain ⟨j,f,q1,q2,q3⟩:=hq;rw[mR]at q2;split at q2
    ·cases q2
    ·rename_i B7;have:=wf.inj i j b (by rw[FN]; trivial) (wi q2) g1 q1;exact B7 ⟨this,hi⟩
theorem opW_sound (T:CU P tt) (wf:WF w h c) {o:Oper} {ρ:Operand→V} {ρ':Operand→Value} (hρ:∀x,dx w h c (ρ x) (ρ' x)) {id:Nat} (hid:id<h.length) (hf:h.at id = .free) {k:V→aN→Option R} {r:R}
  (hk:opW tt o.op ρ h id k=some r) :
  ∃v h' v' w' c' nx,(execOp ρ' o).run P w = .ok nx w'∧(nx = .value v'∨nx = .skip∧v'=undef)∧WF w' h' c'∧Ext w h c w' h' c'∧dx w' h' c' v v'∧k v h'=some r:=by
 obtain ⟨dst,op,type,pos,after,guard⟩:=o;cases op <;> (try simp only[opW]at hk) <;> (try cases hk)
 case store t x y =>
  split at hk <;> (try cases hk);rename_i vs hvs;obtain ⟨rv,h1,_⟩:=P6 (hρ y) hvs;split at hk <;> (try cases hk);rename_i sC;simp only[Bool.and_eq_true,decide_eq_true_eq]at sC;obtain ⟨sR,rV⟩:=sC;have rx:=hρ x;split at hk <;> (try cases hk)
  ·rename_i i o hx;rw[hx]at rx;split at hk <;> (try cases hk)
   ·rename_i cs FN;split at hk <;> (try cases hk);rename_i jz;obtain ⟨w',g1,g2,g3⟩:=store_cells (P:=P) wf T rx FN rv h1 sR rV jz;exact ⟨_,_,undef,w',c, .skip,by simp[execOp,g1], .inr ⟨rfl,rfl⟩,g2,g3, .undef _,hk⟩
   rename_i u FN;split at hk <;> (try cases hk);rename_i v;obtain ⟨w',g1,g2,g3⟩:=store_bld (P:=P) wf T rx FN rv h1 sR (by simpa using rV);exact ⟨_,_,undef,w',c, .skip,by simp[execOp,g1], .inr ⟨rfl,rfl⟩,g2,g3, .undef _,hk⟩
  ·rename_i i sz j o hx;rw[hx]at rx;split at hk <;> (try cases hk);rename_i T' l F5;split at hk <;> (try cases hk);rename_i hn;split at hk <;> (try cases hk);rename_i jz;split at hk <;> (try cases hk);rename_i z hz;obtain ⟨hj,hk⟩:=bY hk;simp only[decide_eq_true_eq]at hj;obtain ⟨w',g1,g2,g3⟩:=store_row (P:=P) wf T rx F5 rv h1 sR hn rV hj jz hz;exact ⟨_,_,undef,w',c, .skip,by simp[execOp,g1], .inr ⟨rfl,rfl⟩,g2,g3, .undef _,hk⟩
 case slice t x lo hi mx =>
  cases lo <;> cases hi <;> cases mx <;> simp only[Option.isNone,Bool.and_true,Bool.and_false,Bool.false_and,cond_true,cond_false]at hk <;> (try cases hk);obtain ⟨u,h',d,g1,g2,g3,g4,g5⟩:=sliceArr_sound T wf (hρ x) hk;exact ⟨u,h',d,w,c, .value d,by simp[execOp,g1], .inl rfl,g2,g3,g4,g5⟩
 case mapUpdate t m x y =>
  have rm:=hρ m;split at hk <;> (try cases hk);rename_i kt vt i ht hx;rw[hx]at rm;split at hk <;> (try cases hk);rename_i K V' l hm;split at hk <;> (try cases hk);rename_i hf;split at hk <;> (try cases hk);rename_i kx vx hkx hvx;obtain ⟨w',g1,g2,g3⟩:=Vp (P:=P) T wf ht rm hm hf (hρ x) (hρ y) hkx hvx;exact ⟨_,_,undef,w',c, .skip,by simp[execOp,g1], .inr ⟨rfl,rfl⟩,g2,g3, .undef _,hk⟩
 case insert t m x y =>
  have rm:=hρ m;split at hk <;> (try cases hk);rename_i kt vt i ht hx;rw[hx]at rm;split at hk <;> (try cases hk);rename_i K V' l hm;split at hk <;> (try cases hk);rename_i hf;split at hk <;> (try cases hk);rename_i kx vx hkx hvx;obtain ⟨w',g1,g2,g3⟩:=Vp (P:=P) T wf ht rm hm hf (hρ x) (hρ y) hkx hvx;exact ⟨_,_,undef,w',c, .skip,by simp[execOp,g1], .inr ⟨rfl,rfl⟩,g2,g3, .undef _,hk⟩
 case next x str =>
  have rx:=hρ x;split at hk <;> (try cases hk);rename_i i hx;rw[hx]at rx;split at hk <;> (try cases hk);rename_i s pos hit;obtain ⟨v,h',v',w',c',g1,g2,g3,g4,g5⟩:=next_sound (P:=P) wf rx hit type hk;exact ⟨v,h',v',w',c', .value v',by simp[execOp,g1], .inl rfl,g2,g3,g4,g5⟩
 case call cl =>
  obtain ⟨callee,args,argTypes⟩:=cl;simp only at hk;split at hk <;> (try cases hk);rename_i s x t xt ha ZO;obtain rfl:args = #[s,x]:=by cases args; simp_all
  obtain rfl:argTypes = #[t,xt]:=by cases argTypes; simp_all
  split at hk <;> (try cases hk)
  ·rename_i e e' ht hxt;have hu:=ez T hxt;simp only[TD.Is]at hu;obtain ⟨v,h',v',w',c',g1,g2,g3,g4,g5⟩:=Vo T wf ht (.inl ⟨_,hu⟩) (hρ s) (hρ x) hid hf type hk;exact ⟨v,h',v',w',c', .value v',by simp[execOp,resolve,invoke,builtin,g1], .inl rfl,g2,g3,g4,g5⟩
  ·rename_i e ht hxt;have hu:=ez T hxt;simp only[TD.Is]at hu;obtain ⟨v,h',v',w',c',g1,g2,g3,g4,g5⟩:=Vo T wf ht (.inr hu) (hρ s) (hρ x) hid hf type hk;exact ⟨v,h',v',w',c', .value v',by simp[execOp,resolve,invoke,builtin,g1], .inl rfl,g2,g3,g4,g5⟩
end
section
variable {w w':World} {h h2:aN} {c c2:j8}
theorem ZP (ρ:Nat→Option Nat):∀l:List V,V.EY ρ l=l.map (V.sU ρ)
 | []=>rfl
 | v::l=>by simp only[V.EY,List.map_cons,ZP ρ l]
theorem Av (ρ:Nat→Option Nat) (l:List V):(V.EY ρ l).length=l.length:=by simp[ZP]
theorem IC (ρ:Nat→Option Nat) (l:List V) (j:Nat):(V.EY ρ l)[j]? = (l[j]?).map (V.sU ρ):=by simp[ZP]
structure RenOK (ρ:Nat→Option Nat) (h:aN) (c:j8) (h2:aN) (c2:j8):Prop where
 used:∀i j,ρ i=some j→Used h i→Used h2 j
 obj:∀i j,ρ i=some j→h2.at j ≠ .dead→h.at i ≠ .dead∧c2.wO j=c.wO i∧c2.off j=c.off i
 tok:∀i j,ρ i=some j→h2.at j = .tok→h.at i = .tok
 row:∀i j,ρ i=some j→∀(T:Ty) (l:List T.den),h2.at j = .row T l→h.at i = .row T l
 free:∀b x,Sv h c b x→Sv h2 c2 b x
theorem dx.sU {ρ:Nat→Option Nat} (k:RenOK ρ h c h2 c2) {v:V} {d:Value} (r:dx w h c v d):dx w h2 c2 (v.sU ρ) d:=by
 induction r with
 | undef v=>exact .undef v
 | int hn=>exact .int hn
 | bool b=>exact .bool b
 | str hl=>exact .str hl
 | iJ=>exact .iJ
 | bB=>exact .bB
 | fG=>exact .fG
 | ql=>exact .ql
 | dK=>exact .dK
 | iface t v=>exact .iface t v
 | TA hn=>exact .TA hn
 | Su b=>exact .Su b
 | @ptr i o v hi hv =>
  obtain ⟨b,hv,hb⟩:=hv;simp only[V.sU];cases e:ρ i with
  | none=>exact .undef _
  | some j=>exact .ptr (k.used i j e hi) ⟨b,hv,fun hd=>by obtain ⟨h1,h2,_⟩:=k.obj i j e hd; rw[h2]; exact hb h1⟩
 | @map i v hi hv =>
  obtain ⟨b,hv,hb⟩:=hv;simp only[V.sU];cases e:ρ i with
  | none=>exact .undef _
  | some j=>exact .map (k.used i j e hi) ⟨b,hv,fun hd=>by obtain ⟨h1,h2,_⟩:=k.obj i j e hd; rw[h2]; exact hb h1⟩
 | @Br cs b o f hc _ ih =>
  simp only[V.sU];refine .Br f (fun j hj => ?_) (fun j v hv => ?_)
  ·rw[Av]at hj;exact ⟨(hc j hj).1,k.free _ _ (hc j hj).2⟩
  ·rw[IC]at hv;cases e:cs[j]? with
   | none=>rw[e]at hv; cases hv
   | some u=>rw[e]at hv; simp at hv; subst hv; exact ih j u e
 | @sl T l t A cap f jd uP hc hr E0 mz ih =>
  simp only[V.sU];refine .sl f jd uP (fun i j hi hj => ?_) (fun i j x v hx hv => ?_) (fun ht => ?_) (fun j ht => ?_)
  ·obtain ⟨b,o,hA,h1,h2⟩:=hc i j hi hj;exact ⟨b,o,hA,h1,k.free _ _ h2⟩
  ·have:=ih i j x v hx hv;have e:v.sU ρ=v:=by
    have P1:∀(T:Ty) (x:T.den) (j:Nat) (v:V),(T.cells x)[j]? = some v→v.sU ρ=v:=by
     intro T x;have:∀v∈T.cells x,v.sU ρ=v:=by
      cases T <;> simp[Ty.cells,V.sU,Tok.sU]
     intro j v hv;exact this v (List.mem_of_getElem? hv)
    exact P1 T x j v hv
   rw[e]at this; exact this
  ·cases t with
   | no=>cases ht
   | nil=>exact E0 rfl
   | own i=>simp only[Tok.sU]at ht; split at ht <;> cases ht
  ·cases t with
   | no=>cases ht
   | nil=>cases ht
   | own i =>
    simp only[Tok.sU]at ht;split at ht
    ·rename_i j' e;cases ht;obtain ⟨hu,ho⟩:=mz i rfl;refine ⟨k.used i j e hu,fun htok => ?_⟩;obtain ⟨_,e1,e2⟩:=k.obj i j e (by rw[htok]; simp);rw[e1,e2];exact ho (k.tok i j e htok)
    ·cases ht
 | @YZ n sz cs A hn uP f hc _ ih =>
  simp only[V.sU];refine .YZ (sz:=sz) (by rw[Av]; exact hn) uP f (fun j hj => ?_) (fun j v hv => ?_)
  ·rw[Av]at hj;obtain ⟨b,o,hA,h1,h2⟩:=hc j hj;exact ⟨b,o,hA,h1,k.free _ _ h2⟩
  ·rw[IC]at hv;cases e:cs[j]? with
   | none=>rw[e]at hv; cases hv
   | some u=>rw[e]at hv; simp at hv; subst hv; exact ih j u e
 | @row i n v hi hn hv =>
  simp only[V.sU];cases e:ρ i with
  | none=>exact .undef _
  | some j =>
   obtain ⟨A,cap,hv1,hA,hv⟩:=hv;refine .row (k.used i j e hi) hn ⟨A,cap,hv1,hA,fun T l he => ?_⟩;obtain ⟨_,e1,e2⟩:=k.obj i j e (by rw[he]; simp);rw[e1,e2];exact hv T l (k.row i j e T l he)
 | @xx i z q n v hi hn hv =>
  simp only[V.sU];cases e:ρ i with
  | none=>exact .undef _
  | some j =>
   obtain ⟨A,cap,hv1,hA,hv⟩:=hv;refine .xx (k.used i j e hi) hn ⟨A,cap,hv1,hA,fun T l he hz hq => ?_⟩;obtain ⟨_,e1,e2⟩:=k.obj i j e (by rw[he]; simp);rw[e1,e2];exact hv T l (k.row i j e T l he) hz hq
 | @yq i n q o v hi hv =>
  simp only[V.sU];cases e:ρ i with
  | none=>exact .undef _
  | some j =>
   obtain ⟨a,ha,hv⟩:=hv;refine .yq (k.used i j e hi) ⟨a,ha,fun T l he hn hj => ?_⟩;obtain ⟨_,e1,e2⟩:=k.obj i j e (by rw[he]; simp);rw[e1,e2];exact hv T l (k.row i j e T l he) hn hj
 | @func f a b x y ha hb _ _ iha ihb =>
  simp only[V.sU];refine .func (by rw[Av]; exact ha) (by rw[Av]; exact hb) (fun j v d hv hd => ?_) (fun j v d hv hd => ?_)
  ·rw[IC]at hv;cases e:a[j]? with
   | none=>rw[e]at hv; cases hv
   | some u=>rw[e]at hv; simp at hv; subst hv; exact iha j u d e hd
  ·rw[IC]at hv;cases e:b[j]? with
   | none=>rw[e]at hv; cases hv
   | some u=>rw[e]at hv; simp at hv; subst hv; exact ihb j u d e hd
 | @agg cs x hl _ ih =>
  simp only[V.sU];refine .agg (by rw[Av]; exact hl) (fun j v d hv hd => ?_);rw[IC]at hv;cases e:cs[j]? with
  | none=>rw[e]at hv; cases hv
  | some u=>rw[e]at hv; simp at hv; subst hv; exact ih j u d e hd
 | @tuple cs x hl _ ih =>
  simp only[V.sU];refine .tuple (by rw[Av]; exact hl) (fun j v d hv hd => ?_);rw[IC]at hv;cases e:cs[j]? with
  | none=>rw[e]at hv; cases hv
  | some u=>rw[e]at hv; simp at hv; subst hv; exact ih j u d e hd
theorem cz.sU {ρ:Nat→Option Nat} (k:RenOK ρ h c h2 c2) {cs:List V} {ds:List Value} (r:cz w h c cs ds):cz w h2 c2 (V.EY ρ cs) ds:=by
 refine ⟨by rw[Av]; exact r.1,fun j v d hv hd => ?_⟩;rw[IC]at hv;cases e:cs[j]? with
 | none=>rw[e]at hv; cases hv
 | some u=>rw[e]at hv; simp at hv; subst hv; exact (r.2 j u d e hd).sU k
theorem cells_ren (ρ:Nat→Option Nat) (T:Ty) (x:T.den):∀v∈T.cells x,v.sU ρ=v:=by cases T <;> simp[Ty.cells,V.sU,Tok.sU]
theorem pa.sU {ρ:Nat→Option Nat} (k:RenOK ρ h c h2 c2) {i j:Nat} {o:cb} (e1:c2.wO j=c.wO i) (e2:c2.off j=c.off i) (ho:pa w h c i o):pa w h2 c2 j (o.sU ρ):=by
 cases o <;> simp only[pa,cb.sU]at ho ⊢
 ·obtain ⟨b,arr,e,h1,h2',h3⟩:=ho;exact ⟨b,arr,e,e1▸h1,h2',h3.sU k⟩
 ·rw[e1,e2];rcases ho with h1|⟨b,arr,e,fz,h1,h2',h3,h4,h5⟩
  ·exact .inl h1
  ·refine .inr ⟨b,arr,e,fz,h1,h2',h3,h4,fun n q x v hx hv => ?_⟩;obtain ⟨d,g1,g2⟩:=h5 n q x v hx hv;refine ⟨d,g1,?_⟩;have:=g2.sU k;rw[cells_ren ρ _ x v (List.mem_of_getElem? hv)]at this;exact this
 ·rw[e1,e2]; exact ho
 ·rw[e1]; exact ho
 ·rw[e1];obtain ⟨b,p,d,h1,h2',h3,h4⟩:=ho;exact ⟨b,p,d,h1,h2',h3,h4.sU k⟩
 ·rw[e1];obtain ⟨b,es,cl,h1,h2',h3,h4,h5,h6⟩:=ho;refine ⟨b,es,cl,h1,h2',h3,h4,h5,fun j q e hq he => ?_⟩;obtain ⟨g1,g2⟩:=h6 j q e hq he;have g1':=g1.sU k;have g2':=g2.sU k;have key:∀(T:Ty) (x:T.den),(ZJ T=true∨T.one=true)→(elV T x).sU ρ=elV T x:=by
   intro T x hT;cases T <;> first|(simp[elV,Ty.one,Ty.cells,V.sU]; done)|(simp[elV,Ty.one,Ty.cells,V.sU,V.EY]; done)|(simp[ZJ,Ty.one]at hT)
  rw[key _ _ (.inl h3)]at g1';rw[key _ _ (.inr h4)]at g2';exact ⟨g1',g2'⟩
def j8.pick (c:j8) (ord:List Nat) (ext:ExtT):j8 :=
 ⟨fun j=>(ord[j]?).bind c.wO,fun j=>c.off (ord.getD j 0),ext⟩
theorem ID {ord:List Nat} {i j:Nat} (e:EL ord i=some j):ord[j]? = some i:=by
 unfold EL at e;simp only at e;split at e
 ·rename_i jz;cases e;rw[List.getElem?_eq_getElem jz,List.getElem_idxOf jz]
 ·cases e
theorem wS (h:aN) (ord:List Nat) (j:Nat):aN.at (h.pick ord) j=match ord[j]? with|some i=>(h.at i).sU (EL ord)|none => .dead:=by
 unfold aN.at aN.pick;simp only[List.getD,List.getElem?_map];cases ord[j]? <;> rfl
theorem Vq {ρ:Nat→Option Nat} {o:cb}:o.sU ρ = .dead↔o = .dead:=by cases o <;> simp[cb.sU]
theorem IE {ρ:Nat→Option Nat} {o:cb}:o.sU ρ = .free↔o = .free:=by cases o <;> simp[cb.sU]
theorem ren_tok {ρ:Nat→Option Nat} {o:cb}:o.sU ρ = .tok↔o = .tok:=by cases o <;> simp[cb.sU]
theorem ren_row {ρ:Nat→Option Nat} {o:cb} {T:Ty} {l:List T.den}:o.sU ρ = .row T l↔o = .row T l:=by cases o <;> simp[cb.sU]
theorem ren_from {ρ:Nat→Option Nat} {o:cb} {f:Nat}:(o.sU ρ).from_ f=o.from_ f:=by cases o <;> rfl
theorem L6 {ρ:Nat→Option Nat} {o:cb}:(o.sU ρ).live↔o.live:=by cases o <;> simp[cb.sU,cb.live]
theorem L7 {ord:List Nat} {ext:ExtT} {b x:Nat} (ho:yt (h.pick ord) (c.pick ord ext) b x):∃i∈ord,∃f,c.wO i=some b∧(h.at i).from_ (c.off i)=some f∧f≤x:=by
 obtain ⟨j,f,g1,g2,g3⟩:=ho;rw[wS]at g2;cases e:ord[j]? with
 | none=>rw[e]at g2; cases g2
 | some i =>
  rw[e]at g2;simp only[j8.pick,e,Option.bind_some]at g1;simp only[ren_from,j8.pick,List.getD,e,Option.getD_some]at g2;exact ⟨i,List.mem_of_getElem? e,f,g1,g2,g3⟩
theorem pick_ren {ord:List Nat} {ext:ExtT} (hfree:∀b x,Sv h c b x→¬ext b x):RenOK (EL ord) h c (h.pick ord) (c.pick ord ext) where
 used:=fun i j e hu=>by
  have hj:=ID e;refine ⟨?_,?_⟩
  ·have:=(List.getElem?_eq_some_iff.1 hj).1;simpa [aN.pick]using this
  ·rw[wS,hj];simp only[ne_eq,IE];exact hu.2
 obj:=fun i j e hd=>by
  have hj:=ID e;rw[wS,hj]at hd;simp only[ne_eq,Vq]at hd;exact ⟨hd,by simp[j8.pick,hj],by simp[j8.pick,List.getD,hj]⟩
 tok:=fun i j e ht=>by
  rw[wS,ID e]at ht;exact ren_tok.1 ht
 row:=fun i j e T l ht=>by
  rw[wS,ID e]at ht;exact ren_row.1 ht
 free:=fun b x hf=>⟨fun ho=>by
  obtain ⟨i,_,f,g1,g2,g3⟩:=L7 ho;exact hf.1 ⟨i,f,g1,g2,g3⟩,hfree b x hf⟩
theorem pick_wf (wf:WF w h c) {ord:List Nat} (Na:ord.Nodup) {ext:ExtT} (hfree:∀b x,Sv h c b x→¬ext b x) (jz:∀b x,ext b x→b<w.heap.size)
  (hdis:∀b x,(∃i∈ord,∃f,c.wO i=some b∧(h.at i).from_ (c.off i)=some f∧f≤x)→¬ext b x):WF w (h.pick ord) (c.pick ord ext) where
 lay:=⟨wf.lay.1,fun b hb=>⟨(wf.lay.2 b hb).1,fun x ho=>by
  obtain ⟨i,_,f,g1,g2,g3⟩:=L7 ho;exact (wf.lay.2 b hb).2 x ⟨i,f,g1,g2,g3⟩⟩⟩
 Ev:=fun b x ho=>hdis b x (L7 ho)
 sB:=jz
 obj:=fun j hj=>by
  rw[wS];cases e:ord[j]? with
  | none=>trivial
  | some i =>
   by_cases hl:(h.at i).live
   ·exact (wf.obj i (aN.gK rfl (CZ hl))).sU (pick_ren hfree) (by simp[j8.pick,e]) (by simp[j8.pick,List.getD,e])
   ·have h0:h.at i = .free∨h.at i = .dead:=by revert hl; cases h.at i <;> simp[cb.live]
    rcases h0 with h0|h0 <;> simp only[h0,cb.sU] <;> trivial
 inj:=fun j k b hj hk h1 h2=>by
  rw[wS]at hj hk;cases e1:ord[j]? with
  | none=>rw[e1]at hj; exact hj.elim
  | some i1 =>
   cases e2:ord[k]? with
   | none=>rw[e2]at hk; exact hk.elim
   | some i2 =>
    rw[e1]at hj; rw[e2]at hk;simp only[j8.pick,e1,e2,Option.bind_some]at h1 h2;have:=wf.inj i1 i2 b (L6.1 hj) (L6.1 hk) h1 h2;subst this;obtain ⟨hj',e1'⟩:=List.getElem?_eq_some_iff.1 e1;obtain ⟨vH,e2'⟩:=List.getElem?_eq_some_iff.1 e2;have hp:=List.pairwise_iff_getElem.1 Na;rcases Nat.lt_trichotomy j k with jz|rfl|jz
    ·exact (hp j k hj' vH jz (e1'.trans e2'.symm)).elim
    ·rfl
    ·exact (hp k j vH hj' jz (e2'.trans e1'.symm)).elim
theorem Ke (h:aN):∀(n:Nat) (todo seen:List Nat),seen.Nodup→(reach h n todo seen).Nodup
 | 0,_,_,hn=>hn
 | n+1, [],_,hn=>hn
 | n+1,i::todo,seen,hn=>by
  simp only[reach];split
  ·exact Ke h n _ _ hn
  ·rename_i hc;refine Ke h n _ _ ?_;rw[List.nodup_append];refine ⟨hn,by simp,fun a ha b hb => ?_⟩;simp at hb; subst hb
   rintro rfl
   simp at hc;exact hc ha
end
end Go.aA
end
