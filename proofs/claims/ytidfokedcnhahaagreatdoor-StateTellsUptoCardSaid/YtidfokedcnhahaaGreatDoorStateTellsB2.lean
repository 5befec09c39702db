/-
  StateTells, part 2 of 10.
-/
import Derived.Laws.StructEq
import Derived.WalkKit
import Derived.MapKept
import Derived.Laws.BytesString
import Derived.Laws.Cover4
import Derived.Laws.Rows
import Derived.Laws.MakeOwn
import Derived.Laws.Append
import Derived.Test.YtidfokedcnhahaaGreatDoorStateTellsB1
set_option linter.unusedSimpArgs false
set_option linter.unusedVariables false
open Array renaming length_toList->gP,toList_map->ZN
open BitVec renaming ofInt->aJ
open Bool renaming and_eq_true->bF,and_false->xB,and_true->qD,eq_iff_iff->FQ,false_and->lu,false_eq_true->jy,not_eq_false->ZL,not_eq_true'->xx,or_eq_true->je
open Go renaming isAgg->Jb
open Go.Builtin renaming append_->Bd,firstCells->zn,lenOf->Dl,len_->ZM,zeroCells->ZS
open Go.Instr renaming fieldAt->Pm,indexAt->Je,loadAt->Jg,slice->Pn,sliceAt->FP,sliceBounds->Pl,storeAt->Jh,sureAddr->u0
open Go.IntKind renaming bits->kv,has->mV,i32->eI,i64->ae,max->nP,min->nO,signed->ku,u8->aM,wrap->FM
open Go.Obj renaming cells->xu
open Go.Op renaming equal->tu,equalIn->uY,intCmp->Jc,maxDepth->uZ,stringOp->FN
open Go.Question renaming appendCap->Pp,cut->ZQ
open Go.Result renaming andThen_ok->hG
open Go.RowKit.Below renaming refl->oI
open Go.Sem renaming run_bind->gZ,run_pure->px
open Go.Utf8 renaming decode->FK
open Go.Value renaming int->u4
open Go.World renaming freeze->Pq
open Int renaming fdiv_eq_ediv_of_nonneg->Pg,le_of_lt->Ph,pow_pos->Pf
open List renaming all_eq_true->gF,append_assoc->gG,cons_append->gg,drop_drop->py,drop_eq_nil_of_le->gQ,drop_succ_cons->Pr,eq_nil_of_length_eq_zero->gH,flatten_cons->ZP,foldl_cons->FO,foldl_nil->ZR,getD->ca,getElem_mem->jd,length->av,length_append->bf,length_cons->bj,length_drop->ct,length_map->oH,length_nil->cu,length_pos_iff->Ba,length_set->ZK,length_take->eP,mapM_cons->Po,map_append->ZO,map_congr_left->xy,map_cons->kz,map_map->Jf,mem_append->fU,mem_map->Dj,nil_append->jf,nodup_cons->Ps,range->jZ,replicate->jx,take_append_drop->Dk,take_of_length_le->sk,take_succ_cons->FT
open List.cons renaming injEq->Jd
open Nat renaming add_assoc->zm,add_mul->qC,add_sub_cancel_left->Ji,add_zero->zk,le_mul_of_pos_right->FR,le_of_not_lt->FL,le_refl->cD,le_trans->pw,lt_of_lt_of_le->xw,lt_or_ge->mo,lt_trichotomy->ZT,mod_eq_of_lt->u6,mod_lt->xA,mul_comm->u7,mul_le_mul_right->iP,succ_mul->oG,zero_add->mq,zero_le->nQ
open Ne renaming symm->dX
open Option renaming bind_some->sj,getD_some->Bb,map_some->Bc
open Option.some renaming inj->aok,injEq->ij
open Prod renaming fst->Pj,snd->Pk
open UInt8 renaming ofNat->bl,toNat_lt->fa
noncomputable section
namespace Go.ak
open Go.RowKit
def TD.Is (P:Program) (t:Nat):TD->Prop
 | .bool=>P.underlying t=some .bool
 | .int k=>P.underlying t=some (.int k)
 | .string=>P.underlying t=some .string
 | .ptr e=>P.underlying t=some (.pointer e)
 | .slice e=>P.underlying t=some (.slice e)
 | .arr n e=>P.underlying t=some (.array n e)
 | .map k e=>P.underlying t=some (.map k e)
 | .struct fs=>∃F,P.underlying t=some (.struct F)/\F.toList.map (fun f=>(f.offset,f.type))=fs
 | .func=>∃a b c,P.underlying t=some (.func a b c)
 | .iface=>∃a,P.underlying t=some (.interface a)
 | .other=>True
structure cF (P:Program) (tt:aZ):Prop where
 Gh:∀t,(tt.at t).d.Is P t
 info:∀t,tt.ok t=true->∃i z,P.info? t=some i/\i.size=(tt.at t).size/\i.bytes=(tt.at t).bytes/\i.zero=some z/\z.cells.size=i.size /\
  ∀(w:World) (h:aq) (c:bh),aQ w h c (tt.at t).zero z.cells.toList
 eqs:∀t,∀(w:World) (h:aq) (c:bh) (cs ds:List V) (xs ys:Array Value) (b:Bool),xI (tt.at t) cs ds=true->aQ w h c cs xs.toList->aQ w h c ds ys.toList ->
  kD cs ds=some b->P.eqGuardType P.depth t=false/\(uY 10000 t (.agg xs) (.agg ys)).run P w=.ok b w
 Jz:∀e,(tt.at e).ty=some (.int .u8)->e=dL.u8
 QB:∀t,(tt.at t).bA=true->t=dL.bA/\(tt.at t).zero=[.fp,.bk]/\tt.ok t=true
 QC:∀t,tt.ok t=true->∀i z,P.info? t=some i->i.zero=some z->z.oneCell'=!tt.isAgg t
section
variable {P:Program} {tt:aZ} {w:World}
theorem cF.isAgg (T:cF P tt) {t:Nat} (h:tt.ok t=true):(isAgg t).run P w=.ok (tt.isAgg t) w:=by
 have hu:=T.Gh t;unfold aZ.ok at h;unfold aZ.isAgg;cases hd:(tt.at t).d<;>rw[hd]at hu h<;>simp only[TD.Is]at hu
 case struct fs=>obtain ⟨F,hF,_⟩:=hu; simp[Jb,run_underlying hF]
 case func=>obtain ⟨a,b,c,hF⟩:=hu; simp[Jb,run_underlying hF]
 case iface=>obtain ⟨a,hF⟩:=hu; simp[Jb,run_underlying hF]
 case other=>cases h
 all_goals simp[Jb,run_underlying hu]
theorem cF.sizeOf (T:cF P tt) {t:Nat} (h:tt.ok t=true):(sizeOf t).run P w=.ok (tt.at t).size w:=by
 obtain ⟨i,z,hi,hs,_⟩:=T.info t h;simp[Go.sizeOf,typeInfo,hi,hs]
theorem cF.zero (T:cF P tt) {t:Nat} (h:tt.ok t=true):∃z,(zeroValue t).run P w=.ok z w/\z.cells.size=(tt.at t).size /\
  ∀(w:World) (h:aq) (c:bh),aQ w h c (tt.at t).zero z.cells.toList:=by
 obtain ⟨i,z,hi,hs,_,hz,vN,hr⟩:=T.info t h;exact⟨z,by simp[Go.zeroValue,typeInfo,hi,hz],by omega,hr⟩
theorem cR (T:cF P tt) {t:Nat} {d:TD} (h:(tt.at t).d=d):d.Is P t:=h▸T.Gh t
theorem aae (T:cF P tt) {t f off ty:Nat} {fs:List (Nat×Nat)} (h:(tt.at t).d=.struct fs) (hf:fs[f]? = some (off,ty)) :
  ∃F fd,P.underlying t=some (.struct F)/\F[f]? = some fd/\fd.offset=off/\fd.type=ty:=by
 obtain ⟨F,hF,e⟩:=cR T h;subst e;rw[List.getElem?_map]at hf;cases hx:F.toList[f]? with
 | none=>rw[hx]at hf; cases hf
 | some fd=>
  rw[hx]at hf;simp at hf;exact⟨F,fd,hF,by simpa using hx,hf.1,hf.2⟩
variable {h:aq} {c:bh} {R:Type}
theorem aaf (T:cF P tt) {t off:Nat} {cs:List V} {x:Array Value} (hr:aQ w h c cs x.toList) {k:V->Option R} {r:R} (hk:jA tt t cs off k=some r) :
  ∃v v',(part t x off).run P w=.ok v' w/\ay w h c v v'/\k v=some r:=by
 unfold jA at hk;split at hk
 ·rename_i bP;have hlen:cs.length=x.size:=by have:=hr.1; simpa using this
  split at hk
  ·rename_i tL;split at hk
   ·rename_i bL;refine⟨_,.agg (x.extract off (off+(tt.at t).size)),?_,?_,hk⟩
    ·simp[part,T.isAgg bP,tL,T.sizeOf bP]
    ·have pG:=(hr.drop off).take (tt.at t).size;refine .agg ?_ fun j v d hv hd=>pG.2 j v d hv ?_
     ·simp[hlen]; omega
     ·simp only[Array.getElem?_extract]at hd;rw[List.getElem?_take,List.getElem?_drop];split at hd
      ·rename_i hj;have lB:j<(tt.at t).size:=by omega
       simp only[lB,if_true]; simpa using hd
      ·cases hd
   ·cases hk
  ·rename_i tL;split at hk
   ·rename_i v hv;have aX:off<cs.length:=(List.getElem?_eq_some_iff.1 hv).1;have hx:x[off]? = some (x[off]'(by omega)):=Array.getElem?_eq_getElem (by omega);refine⟨v,x[off]'(by omega),?_,hr.2 off v _ hv (by simp),hk⟩;simp[part,T.isAgg bP,tL,hx]
   ·cases hk
 ·cases hk
end
section
variable {P:Program} {tt:aZ} {w:World} {h:aq} {c:bh} {R:Type}
theorem QD (k:IntKind) (n:Int):k.has (k.wrap n):=by
 unfold mV;cases k<;>simp only[FM,nO,nP,ku,kv]<;>simp<;>omega
theorem cz {b:Bool} {k:Option R} {r:R} (hk:ag b k=some r):b=true/\k=some r:=by
 unfold ag at hk; cases b<;>simp_all
theorem ay.fi {k:IntKind} {n:Int} {v:Value} (r:ay w h c (.int k n) v):v=.int k n/\k.has n:=by cases r; exact⟨rfl, ‹_›⟩
theorem ay.DL {b:Bool} {v:Value} (r:ay w h c (.bool b) v):v=.bool b:=by cases r; rfl
theorem ay.gJ {s:ad} {v:Value} (r:ay w h c (.str s) v):∃t,v=.string t/\t.data.toList=s/\t.size<=mx:=by cases r; exact⟨_,rfl,rfl, ‹_›⟩
theorem QE (n:Nat) (hn:n<256):aM.has (n:Int):=by unfold mV; simp[nO,nP,ku,kv]; omega
theorem Bz (n:Nat) (hn:n<=mx):ae.has (n:Int):=by unfold mV; unfold mx at hn; simp[nO,nP,ku,kv]; omega
theorem aag (v:Value):ay w h c (F4 v) v:=by
 unfold F4;split
 ·exact .bool _
 ·split
  ·rename_i hk; unfold inK at hk; simp at hk; exact .int hk
  ·exact .undef _
 ·split
  ·exact .str ‹_›
  ·exact .undef _
 ·exact .fp
 ·exact .bk
 ·exact .fy
 ·exact .kB
 ·exact .eR
 ·exact .undef _
theorem aah (v:Value):ay w h c (ofConst v) v:=by
 unfold ofConst;split
 ·refine .agg (by simp) fun j v d hv hd => ?_
  rw[List.getElem?_map,Array.getElem?_toList,hd]at hv;cases hv;exact aag d
 ·exact aag v
theorem xP {a b:ByteArray} (h:a.data.toList=b.data.toList):a=b:=by
 obtain ⟨⟨x⟩⟩:=a; obtain ⟨⟨y⟩⟩:=b; simp at h; subst h; rfl
theorem toList_data (a:ByteArray):a.toList=a.data.toList:=ByteArray.toList_eq a
theorem size_data (a:ByteArray):a.data.toList.length=a.size:=by rw[gP]; rfl
theorem xQ {s:ad} (t:ByteArray) (e:t.data.toList=s) (hl:s.length<=mx):ay w h c (.str s) (.string t):=by
 subst e; rw[size_data]at hl; exact .str hl
theorem aai:∀a b:ad,Op.bytesLess a b=zT a b
 | [],[]=>rfl
 | [],_::_=>rfl
 | _::_,[]=>rfl
 | a::x,b::y=>by simp[Op.bytesLess,zT,aai x y]
def gS (P:Program) (w:World) (h:aq) (c:bh) (s:Sem Value) (k:V->Option R) (r:R):Prop:=∃v v',s.run P w=.ok v' w/\ay w h c v v'/\k v=some r
theorem aot (a b:Int):(0<=a->0<=a.tmod b/\a.tmod b<=a)/\(a<=0->a<=a.tmod b/\a.tmod b<=0):=by
 have key:∀m:Nat,∀b:Int,0<=(m:Int).tmod b/\(m:Int).tmod b<=m:=fun m b=>by
  cases b with
  | ofNat n=>
   have:((m:Int).tmod (Int.ofNat n))=((m%n:Nat):Int):=rfl;have h:=Nat.mod_le m n;rw[this]; omega
  | negSucc n=>
   have:((m:Int).tmod (Int.negSucc n))=((m%(n+1):Nat):Int):=rfl;have h:=Nat.mod_le m (n+1);rw[this]; omega
 constructor
 ·intro h;obtain ⟨m,rfl⟩:=Int.eq_ofNat_of_zero_le h;exact key m b
 ·intro h;obtain ⟨m,hm⟩:=Int.eq_ofNat_of_zero_le (show 0 <= -a by omega);have e:a = -(m:Int):=by omega
  subst e;rw[Int.neg_tmod];have:=key m b;omega
theorem aou {op:BinOp} {i j:IntKind} {a b:Int} (hb:j.has b) (t:TypeId) (x y:Operand) {k:V->Option R} {r:R} (hk:hJ op (.int i a) (.int j b) k=some r) (ha:i.has a) :
  gS P w h c (do eqGuard op t x y (.int i a) (.int j b); binOp op t (.int i a) (.int j b)) k r:=by
 have hg:∀op:BinOp,(eqGuard op t x y (.int i a) (.int j b)).run P w=.ok () w:=fun op=>by cases op<;>simp[eqGuard]
 unfold gS;simp only[gZ,hg,hG];have hw:=fun n=>QD i n
 by_cases Ae:op=.shl\/op=.shr
 ·rcases Ae with rfl|rfl
  ·simp only[hJ]at hk;obtain ⟨h0,hk⟩:=cz hk;simp at h0;exact⟨_,_,by simp[binOp,Op.shift]; intro hn; omega,.int (hw _),hk⟩
  ·simp only[hJ]at hk;obtain ⟨h0,hk⟩:=cz hk;simp at h0;refine⟨_,_,by simp[binOp,Op.shift]; intro hn; omega,.int ?_,hk⟩;have hp:(0:Int)<2 ^ (min b.toNat i.bits):=Pf (by decide);have h1:(1:Int)<=2 ^ (min b.toNat i.bits):=hp;unfold mV at ha ⊢;have aov:i.min<=0:=by cases i<;>simp[nO,ku,kv]
   have aow:0<=i.max:=by cases i<;>simp[nP,ku,kv]
   rw[Pg _ (Ph hp)];constructor
   ·rcases Int.lt_or_le a 0 with hn|hn
    ·have:a<=a / 2 ^ (min b.toNat i.bits):=by
      refine(Int.le_ediv_iff_mul_le hp).2 ?_;have h2:=Int.mul_nonneg (show 0 <= -a by omega) (show 0<=(2:Int) ^ (min b.toNat i.bits) - 1 by omega);rw[Int.mul_sub,Int.neg_mul]at h2;omega
     omega
    ·have:=Int.ediv_nonneg hn (Ph hp); omega
   ·rcases Int.lt_or_le a 0 with hn|hn
    ·have:=Int.ediv_neg_of_neg_of_pos hn hp; omega
    ·have:=Int.ediv_le_self (2 ^ (min b.toNat i.bits)) hn; omega
 ·have bY:(if i=j then(match op with
    | .add=>k (.int i (i.wrap (a+b)))
    | .sub=>k (.int i (i.wrap (a - b)))
    | .mul=>k (.int i (i.wrap (a*b)))
    | .quo=>ag (!decide (b=0)) (k (.int i (i.wrap (a.tdiv b))))
    | .rem=>ag (!decide (b=0)) (k (.int i (a.tmod b)))
    | .and=>k (.int i (i.wrap (aJ i.bits a&&&aJ i.bits b).toNat))
    | .or=>k (.int i (i.wrap (aJ i.bits a ||| aJ i.bits b).toNat))
    | .xor=>k (.int i (i.wrap (aJ i.bits a^^^aJ i.bits b).toNat))
    | .eql=>k (.bool (a==b))
    | .neq=>k (.bool (a != b))
    | .lss=>k (.bool (decide (a<b)))
    | .leq=>k (.bool (decide (a<=b)))
    | .gtr=>k (.bool (decide (a>b)))
    | .geq=>k (.bool (decide (a>=b)))
    | _=>none)else none)=some r:=by
   cases op<;>first|exact absurd (.inl rfl) Ae|exact absurd (.inr rfl) Ae|exact hk
  clear hk;split at bY
  ·rename_i cG;subst cG;cases op<;>simp only at bY<;>try (first|exact absurd (.inl rfl) Ae|exact absurd (.inr rfl) Ae|cases bY)
   case add=>exact⟨_,_,by simp[binOp,Op.intArith],.int (hw _),bY⟩
   case sub=>exact⟨_,_,by simp[binOp,Op.intArith],.int (hw _),bY⟩
   case mul=>exact⟨_,_,by simp[binOp,Op.intArith],.int (hw _),bY⟩
   case quo=>
    obtain ⟨h0,bY⟩:=cz bY;simp at h0;exact⟨_,_,by simp[binOp,Op.intDiv,h0],.int (hw _),bY⟩
   case rem=>
    obtain ⟨h0,bY⟩:=cz bY;simp at h0;refine⟨_,_,by simp[binOp,Op.intDiv,h0],.int ?_,bY⟩;unfold mV at ha ⊢;have aov:i.min<=0:=by cases i<;>simp[nO,ku,kv]
    have aow:0<=i.max:=by cases i<;>simp[nP,ku,kv]
    have hb:=aot a b;rcases Int.lt_or_le a 0 with hn|hn
    ·have:=hb.2 (by omega); omega
    ·have:=hb.1 hn; omega
   case and=>exact⟨_,_,by simp[binOp,Op.intBits],.int (hw _),bY⟩
   case or=>exact⟨_,_,by simp[binOp,Op.intBits],.int (hw _),bY⟩
   case xor=>exact⟨_,_,by simp[binOp,Op.intBits],.int (hw _),bY⟩
   case eql=>exact⟨_,_,by simp[binOp,Jc],.bool _,bY⟩
   case neq=>exact⟨_,_,by simp[binOp,Jc],.bool _,bY⟩
   case lss=>exact⟨_,_,by simp[binOp,Jc],.bool _,bY⟩
   case leq=>exact⟨_,_,by simp[binOp,Jc],.bool _,bY⟩
   case gtr=>exact⟨_,_,by simp[binOp,Jc],.bool _,bY⟩
   case geq=>exact⟨_,_,by simp[binOp,Jc],.bool _,bY⟩
  ·cases bY
end
section
variable {P:Program} {tt:aZ} {w:World} {h:aq} {c:bh} {R:Type}
theorem aox (a b:ByteArray):(a.toList==b.toList)=(a.data.toList==b.data.toList):=by rw[toList_data,toList_data]
theorem size_append (a b:ByteArray):(a++b).size=a.size+b.size:=ByteArray.size_append
theorem aoy {op:BinOp} {a b:ByteArray} (t:TypeId) (x y:Operand) {k:V->Option R} {r:R}
  (hk:hJ op (.str a.data.toList) (.str b.data.toList) k=some r) :
  gS P w h c (do eqGuard op t x y (.string a) (.string b); binOp op t (.string a) (.string b)) k r:=by
 have hg:∀op:BinOp,(eqGuard op t x y (.string a) (.string b)).run P w=.ok () w:=fun op=>by cases op<;>simp[eqGuard]
 have he:(a.toList==b.toList)=(a.data.toList==b.data.toList):=aox a b;have hl:Op.bytesLess a.toList b.toList=zT a.data.toList b.data.toList:=by rw[toList_data,toList_data,aai]
 unfold gS;simp only[gZ,hg,hG];cases op<;>simp only[hJ]at hk<;>(try cases hk)
 case add=>
  obtain ⟨h0,hk⟩:=cz hk;simp at h0;refine⟨_,.string (a++b),?_,xQ (a++b) (by simp) (by simp; exact h0),hk⟩;have:¬(((a.size+b.size:Nat):Int)>ae.max):=by
   have e:ae.max=9223372036854775807:=by decide
   rw[e]; omega
  simp only[binOp,FN];rw[if_neg this]; rfl
 case eql=>exact⟨_,.bool _,by simp only[binOp,FN,he]; rfl,.bool _,hk⟩
 case neq=>exact⟨_,.bool _,by simp only[binOp,FN,he]; rfl,.bool _,hk⟩
 case lss=>exact⟨_,.bool _,by simp only[binOp,FN,hl]; rfl,.bool _,hk⟩
 case leq=>exact⟨_,.bool _,by simp only[binOp,FN,hl,he]; rfl,.bool _,hk⟩
 case gtr=>exact⟨_,.bool _,by simp only[binOp,FN,hl,he]; rfl,.bool _,hk⟩
 case geq=>exact⟨_,.bool _,by simp only[binOp,FN,hl]; rfl,.bool _,hk⟩
theorem aoz (T:cF P tt) {op:BinOp} {a b:Bool} {t:TypeId} (ht:(tt.at t).d=.bool) (x y:Operand) {k:V->Option R} {r:R}
  (hk:hJ op (.bool a) (.bool b) k=some r):gS P w h c (do eqGuard op t x y (.bool a) (.bool b); binOp op t (.bool a) (.bool b)) k r:=by
 have hu:P.underlying t=some .bool:=cR T ht;have hg:∀op:BinOp,(eqGuard op t x y (.bool a) (.bool b)).run P w=.ok () w:=fun op=>by cases op<;>simp[eqGuard]
 have hq:=run_equalIn_bool w 9999 t a b hu;unfold gS;simp only[gZ,hg,hG];cases op<;>simp only[hJ,Jr]at hk<;>(try cases hk)
 case eql=>exact⟨_,.bool (a==b),by simp[binOp,tu,uZ,hq],.bool _,hk⟩
 case neq=>exact⟨_,.bool (!(a==b)),by simp[binOp,tu,uZ,hq],.bool _,hk⟩
theorem aoA (T:cF P tt) {op:BinOp} {cs ds:List V} {xs ys:Array Value} {t:TypeId} (ht:xI (tt.at t) cs ds=true) (rx:aQ w h c cs xs.toList) (ry:aQ w h c ds ys.toList)
  (x y:Operand) {k:V->Option R} {r:R} (hk:hJ op (.agg cs) (.agg ds) k=some r) :
  gS P w h c (do eqGuard op t x y (.agg xs) (.agg ys); binOp op t (.agg xs) (.agg ys)) k r:=by
 cases op<;>simp only[hJ,Jr]at hk<;>(try cases hk)
 all_goals
  split at hk
  ·rename_i b hb;obtain ⟨hg,hq⟩:=T.eqs t w h c cs ds xs ys b ht rx ry hb;have BA:=fun op=>run_eqGuard_agg (P:=P) (w:=w) op t x y xs ys hg
   unfold gS;simp only[gZ,BA,hG]
   first
    | exact⟨_,.bool b,by simp only[binOp]; unfold tu uZ; simp[hq],.bool _,hk⟩
    | exact⟨_,.bool (!b),by simp only[binOp]; unfold tu uZ; simp[hq],.bool _,hk⟩
  ·cases hk
theorem aoB (d:Nat) (t e:TypeId) (q:Option Addr) (hu:P.underlying t=some (.pointer e)) :
  (uY (d+1) t (.pointer q) (.pointer none)).run P w=.ok q.isNone w:=by
 cases q<;>simp[uY,run_underlying hu]
theorem aaj (t e:TypeId) (q:Option Addr) (hu:P.underlying t=some (.pointer e)) :
  (tu t (.pointer q) (.pointer none)).run P w=.ok q.isNone w:=aoB 9999 t e q hu
theorem aoC (T:cF P tt) {op:BinOp} {a b:V} {u v:Value} {t e:TypeId} (ht:(tt.at t).d=.ptr e) (ra:ay w h c a u) (rb:ay w h c b v) (x y:Operand)
  {k:V->Option R} {r:R} (hk:xG op a b k=some r):gS P w h c (do eqGuard op t x y u v; binOp op t u v) k r:=by
 have hu:P.underlying t=some (.pointer e):=cR T ht;unfold xG at hk;split at hk
 ·cases rb;have key:∀r,Qp a=some r->∃q:Option Addr,u=.pointer q/\r=q.isNone:=by
   intro r hr;unfold Qp at hr;split at hr<;>try cases hr
   ·cases ra; exact⟨none,rfl,rfl⟩
   ·cases ra with|ptr _ hv=>obtain ⟨b,hv,_⟩:=hv; exact⟨_,hv,rfl⟩
   ·cases ra; exact⟨_,rfl,rfl⟩
   ·cases ra with|fH _ hv=>obtain ⟨b,hv,_⟩:=hv; exact⟨_,hv,rfl⟩
  split at hk
  ·rename_i q hq;obtain ⟨q,rfl,rfl⟩:=key _ hq;refine⟨_,.bool q.isNone,?_,.bool _,hk⟩;have hq:=aaj (w:=w) t e q hu;cases q<;>simp[eqGuard,binOp,hq]
  ·rename_i q hq;obtain ⟨q,rfl,rfl⟩:=key _ hq;refine⟨_,.bool (!q.isNone),?_,.bool _,hk⟩;have hq:=aaj (w:=w) t e q hu;cases q<;>simp[eqGuard,binOp,hq]
  ·cases hk
 ·cases hk
theorem ay.QF {t:Nat} {k:IntKind} {n:Int} {v:Value} (r:ay w h c (.gh t k n) v):v=.iface t (.int k n)/\k.has n:=by cases r; exact⟨rfl, ‹_›⟩
theorem aoD (T:cF P tt) {op:BinOp} {a b:V} {u v:Value} {t:TypeId} (ht:(tt.at t).d=.iface) (ra:ay w h c a u) (rb:ay w h c b v) (x y:Operand)
  {k:V->Option R} {r:R} (hk:zS op y a b k=some r):gS P w h c (do eqGuard op t x y u v; binOp op t u v) k r:=by
 obtain ⟨ms,hu⟩:=cR T ht;have hq:∀(d:Nat) (u:Value),(u=.nilIface\/∃t x,u=.iface t x)->(uY (d+1) t u .nilIface).run P w=.ok (match u with | .nilIface=>true|_=>false) w:=by
  rintro d u (rfl|⟨t',x',rfl⟩)<;>simp[uY,run_underlying hu]
 have hq1:=hq 9999 .nilIface (.inl rfl);unfold zS at hk;split at hk<;>(try cases hk)
 ·cases ra; cases rb;refine⟨_,.bool true,?_,.bool _,hk⟩;simp[eqGuard,binOp,tu,uZ,hq1]
 ·cases ra; cases rb;refine⟨_,.bool false,?_,.bool _,hk⟩;simp[eqGuard,binOp,tu,uZ,hq1]
 ·cases ra with
  | iface t' v'=>
   cases rb;have oP:=hq 9999 (.iface t' v') (.inr ⟨_,_,rfl⟩);refine⟨_,.bool false,?_,.bool _,hk⟩;simp[eqGuard,binOp,tu,uZ,oP]
 ·cases ra with
  | iface t' v'=>
   cases rb;have oP:=hq 9999 (.iface t' v') (.inr ⟨_,_,rfl⟩);refine⟨_,.bool true,?_,.bool _,hk⟩;simp[eqGuard,binOp,tu,uZ,oP]
 ·obtain ⟨rfl,_⟩:=ra.QF;cases rb;refine⟨_,.bool false,?_,.bool _,hk⟩;simp[eqGuard,binOp,tu,uZ,hq 9999 (.iface _ (.int _ _)) (.inr ⟨_,_,rfl⟩)]
 ·obtain ⟨rfl,_⟩:=ra.QF;cases rb;refine⟨_,.bool true,?_,.bool _,hk⟩;simp[eqGuard,binOp,tu,uZ,hq 9999 (.iface _ (.int _ _)) (.inr ⟨_,_,rfl⟩)]
theorem Ty.aoE (T:Ty):0<T.sz:=by cases T<;>simp[Ty.sz]
theorem aak (d:Nat) (t e:TypeId) (A:Option Addr) (n cap:Nat) (hu:P.underlying t=some (.slice e)) :
  (uY (d+1) t (.slice A n cap) (.slice none 0 0)).run P w=.ok A.isNone w:=by
 cases A<;>simp[uY,run_underlying hu]
theorem aoF (T:cF P tt) {op:BinOp} {a b:V} {u v:Value} {t e:TypeId} (ht:(tt.at t).d=.slice e) (ra:ay w h c a u) (rb:ay w h c b v) (x y:Operand)
  {k:V->Option R} {r:R} (hk:xH op a b k=some r):gS P w h c (do eqGuard op t x y u v; binOp op t u v) k r:=by
 have hu:P.underlying t=some (.slice e):=cR T ht;unfold xH at hk;split at hk
 ·cases rb;have key:∀(neg:Bool) (k:V->Option R),su a (fun r=>k (F5 neg r))=some r->∃A n cap,u=.slice A n cap/\∃z,ay w h c z (.bool (bif neg then !A.isNone else A.isNone))/\k z=some r:=by
   intro neg k hk;unfold su at hk;split at hk<;>try cases hk
   ·cases ra; exact⟨none,0,0,rfl,.bool (bif neg then false else true),by cases neg<;>exact .bool _,by cases neg<;>exact hk⟩
   ·rename_i T l tk _;cases ra with
    | @sl _ _ _ A cap f cv bQ hc hr iw cQ=>
     refine⟨A,_,cap,rfl,?_⟩;cases hl:l.isEmpty with
     | true=>rw[hl]at hk; exact⟨.nS,.nS _,hk⟩
     | false=>
      rw[hl]at hk;have mX:0<l.length:=Ba.2 (by intro e; rw[e]at hl; cases hl);obtain ⟨b,o,rfl,_⟩:=hc 0 0 mX (Ty.aoE T);exact⟨_,.bool _,hk⟩
   ·rename_i i n _;cases ra with
    | row hi hn hv=>
     obtain ⟨A,cap,rfl,⟨_,_,hA⟩,_⟩:=hv;refine⟨A,n,cap,rfl,?_⟩;cases hl:decide (n=0)with
     | true=>rw[hl]at hk; exact⟨.nS,.nS _,hk⟩
     | false=>
      rw[hl]at hk;obtain ⟨q,rfl⟩:=hA (Nat.pos_of_ne_zero (by simpa using hl));exact⟨_,.bool _,hk⟩
  split at hk
  ·obtain ⟨A,n,cap,rfl,z,rz,hk⟩:=key false k hk;refine⟨_,.bool A.isNone,?_,rz,hk⟩;have hq:=aak (w:=w) 9999 t e A n cap hu;simp[eqGuard,binOp,tu,uZ,hq]
  ·obtain ⟨A,n,cap,rfl,z,rz,hk⟩:=key true k hk;refine⟨_,.bool (!A.isNone),?_,rz,hk⟩;have hq:=aak (w:=w) 9999 t e A n cap hu;simp[eqGuard,binOp,tu,uZ,hq]
  ·cases hk
 ·cases hk
end
section
variable {P:Program} {tt:aZ} {w:World} {h:aq} {c:bh} {R:Type}
theorem aal {v:V} {d:Value} (r:ay w h c v d) (h1:v.one=true):d.oneCell'=true/\d.cells = #[d]:=by
 cases r<;>simp_all [V.one,Value.oneCell',Value.cells]
 case ptr hi hv=>obtain ⟨b,rfl,_⟩:=hv; simp
 case fH hi hv=>obtain ⟨b,rfl,_⟩:=hv; simp
 case row hi _ hv=>obtain ⟨A,cap,rfl,_,_⟩:=hv; simp
 case j0 hi _ hv=>obtain ⟨A,cap,rfl,_,_⟩:=hv; simp
 case map hi hv=>obtain ⟨b,rfl,_⟩:=hv; simp
def BB (ds:List Value):Prop:=∀d∈ds,d.oneCell'=true
theorem aam {cs:List V} {ds:List Value} (r:aQ w h c cs ds) (h1:cs.all V.one=true):BB ds:=by
 intro d hd;obtain ⟨j,hj,rfl⟩:=List.mem_iff_getElem.1 hd;have lB:j<cs.length:=by have:=r.1; omega
 have:=r.2 j cs[j] ds[j] (List.getElem?_eq_getElem lB) (List.getElem?_eq_getElem hj);exact(aal this (by simpa using gF.1 h1 _ (jd lB))).1
theorem QG {v:V} {d:Value} (r:ay w h c v d) {cs:List V} (hf:Dv v=some cs):aQ w h c cs d.cells.toList/\BB d.cells.toList/\cs.all V.one=true:=by
 unfold Dv at hf;split at hf
 ·split at hf
  ·rename_i fK;cases hf;cases r with
   | @agg _ x hl hr=>
    have Af:aQ w h c cs x.toList:=⟨by rw[hl,gP],fun j v d hv hd=>hr j v d hv (by simpa using hd)⟩;exact⟨Af,aam Af fK,fK⟩
  ·cases hf
 ·split at hf
  ·rename_i h1;cases hf;obtain ⟨ho,hc⟩:=aal r h1;rw[hc];refine⟨.cons r .nil,fun d' hd => ?_,by simp[h1]⟩;simp at hd; subst hd; exact ho
  ·cases hf
theorem aan (xs:List Value):∀(k off:Nat) (a:Array Value),off+k+xs.length<=a.size ->
  ((xs.zipIdx k).foldl (fun cs (p:Value×Nat)=>cs.setIfInBounds (off+p.2) p.1) a).toList=a.toList.take (off+k)++xs++a.toList.drop (off+k+xs.length):=by
 induction xs with
 | nil=>intro k off a hs; simp
 | cons x xs ih=>
  intro k off a hs;simp only[bj]at hs;simp only[List.zipIdx_cons,FO];rw[ih (k+1) off _ (by simp; omega)];simp only[Array.toList_setIfInBounds];have aX:off+k<a.toList.length:=by simp; omega
  apply List.ext_getElem?;intro i;simp only[List.getElem?_append,eP,ZK,List.getElem?_take,List.getElem?_drop,List.getElem?_set,bj,bf,List.getElem?_cons];simp only[gP]at aX ⊢;by_cases h1:i<off+k
  ·have e1:off+k≠i:=by omega
   have e2:i<off+(k+1):=by omega
   have e3:i<min (off+(k+1)) a.size:=by omega
   have e4:i<min (off+k) a.size:=by omega
   have e5:i<min (off+(k+1)) a.size+xs.length:=by omega
   have e6:i<min (off+k) a.size+(xs.length+1):=by omega
   simp[h1,e1,e2,e3,e4,e5,e6]
  ·by_cases h2:i=off+k
   ·subst h2;have m1:min (off+(k+1)) a.size=off+k+1:=by omega
    have m2:min (off+k) a.size=off+k:=by omega
    have e2:off+k<off+(k+1):=by omega
    have e3:off+k<a.size:=by omega
    rw[m1,m2];simp[e2,e3];intro h7; omega
   ·have m1:min (off+(k+1)) a.size=off+k+1:=by omega
    have m2:min (off+k) a.size=off+k:=by omega
    rw[m1,m2];by_cases h3:i<off+k+1+xs.length
    ·have e1:¬i<off+k+1:=by omega
     have e2:¬i<off+k:=by omega
     have e4:i<off+k+(xs.length+1):=by omega
     have e5:¬(i - (off+k)=0):=by omega
     have e6:i - (off+k) - 1=i - (off+k+1):=by omega
     simp[h3,e1,e2,e4,e5,e6]
    ·have e1:¬i<off+k+1:=by omega
     have e4:¬i<off+k+(xs.length+1):=by omega
     have e8:off+(k+1)+xs.length+(i - (off+k+1+xs.length))=off+k+(xs.length+1)+(i - (off+k+(xs.length+1))):=by omega
     simp[h3,e4,e8];intro hh; omega
theorem putCells (cells:Array Value) (d:Value) (off:Nat) (hs:off+d.cells.size<=cells.size) :
  (d.cells.zipIdx.foldl (fun cs (p:Value×Nat)=>cs.setIfInBounds (off+p.2) p.1) cells).toList=cells.toList.take off++d.cells.toList++cells.toList.drop (off+d.cells.size):=by
 have h:=aan d.cells.toList 0 off cells (by simpa using hs);simp only[zk,gP]at h;rw[<-h,<-Array.foldl_toList,Array.toList_zipIdx]
theorem aQ.len {cs:List V} {ds:List Value} (r:aQ w h c cs ds):cs.length=ds.length:=r.1
theorem JA (place:Nat->Option (Nat×Nat)):∀(parts:List (Nat×V)) (BC:List (Nat×Value)) (cs:List V) (cells:Array Value) (out:List V),
  (parts.map Pj=BC.map Pj)->aQ w h c (parts.map Pk) (BC.map Pk)->aQ w h c cs cells.toList ->
  vH cs (parts.map fun p=>(((place p.1).getD (0,1000000)).1,((place p.1).getD (0,1000000)).2,p.2))=some out->cells.size<1000000 ->
  ∃qM,Instr.fill place cells BC=some qM/\aQ w h c out qM.toList/\qM.size=cells.size
 | [],BC,cs,cells,out,he,_,rc,hf,_=>by
  cases BC with
  | nil=>simp[vH]at hf; subst hf; exact⟨cells,rfl,rc,rfl⟩
  | cons p ps=>simp at he
 | (i,v)::parts,BC,cs,cells,out,he,rp,rc,hf,hno=>by
  cases BC with
  | nil=>simp at he
  | cons p ps=>
   obtain ⟨i',d⟩:=p;simp only[kz,Jd]at he;obtain ⟨rfl,he⟩:=he;simp only[kz]at rp hf;simp only[vH]at hf;split at hf
   ·rename_i vs Gi;split at hf
    ·rename_i ji;simp only[bF,decide_eq_true_eq]at ji;obtain ⟨hlen,bL⟩:=ji;obtain ⟨rv,_,_⟩:=QG rp.head Gi;have Ag:=rv.len;have jB:=rc.len;simp only[gP]at Ag jB;cases pH:place i with
     | none=>
      rw[pH]at bL;simp at bL; omega
     | some q=>
      obtain ⟨off,size⟩:=q;simp only[pH,Bb]at hlen bL hf;have vO:=putCells cells d off (by omega);have pG:aQ w h c (cs.take off++vs++cs.drop (off+size)) (d.cells.zipIdx.foldl (fun cs (p:Value×Nat)=>cs.setIfInBounds (off+p.2) p.1) cells).toList:=by
       rw[vO];have hd:d.cells.size=size:=by omega
       rw[hd];exact((rc.take off).append rv).append (rc.drop _)
      obtain ⟨qM,h1,h2,h3⟩:=JA place parts ps _ _ out he rp.tail pG hf (by rw[<-gP,vO]; simp; omega);refine⟨qM,?_,h2,?_⟩
      ·simp only[Instr.fill,pH];rw[if_neg]
       ·exact h1
       ·simp; omega
      ·rw[h3,<-gP,vO]; simp; omega
    ·cases hf
   ·cases hf
end
section
variable {P:Program} {tt:aZ} {w:World} {h:aq} {c:bh} {R:Type}
theorem mY (b o n:Nat):(⟨b,o,none⟩:Addr).add n=⟨b,o+n,none⟩:=by unfold Addr.add; split<;>simp_all
theorem aao {T:Ty} {l:List T.den} {t:Tok} {A:Option Addr} {n cap:Nat} (r:ay w h c (.sl T l t) (.slice A n cap)) (lo hi:Nat) (h1:lo<=hi) (h2:hi<=l.length) :
  ay w h c (.sl T ((l.drop lo).take (hi - lo)) .no) (.slice (if cap=lo then A else A.map (·.add (lo*T.sz))) (hi - lo) (cap - lo)):=by
 cases r with
 | sl f cv bQ hc hr iw cQ=>
  have hlen:((l.drop lo).take (hi - lo)).length=hi - lo:=by simp; omega
  have key:=ay.sl (w:=w) (h:=h) (c:=c) (T:=T) (l:=(l.drop lo).take (hi - lo)) (t:=.no) (A:=if cap=lo then A else A.map (·.add (lo*T.sz))) (cap:=cap - lo)
   (fun i j=>f (lo+i) j) (by omega) (by omega) ?_ ?_ (by simp) (by simp)
  ·rw[hlen]at key; exact key
  ·intro i j hi' hj;rw[hlen]at hi';obtain ⟨b,o,hA,mA,QH⟩:=hc (lo+i) j (by omega) hj;rw[if_neg (by omega)];refine⟨b,o+lo*T.sz,by rw[hA]; simp[mY],?_⟩;have e:o+lo*T.sz+i*T.sz+j=o+(lo+i)*T.sz+j:=by rw[qC]; omega
   rw[e];exact⟨mA,QH⟩
  ·intro i j x v hx hv;rw[List.getElem?_take,List.getElem?_drop]at hx;split at hx
   ·exact hr _ j x v hx hv
   ·cases hx
theorem vP {T:Ty} {l:List T.den} {t:Tok} {v:Value} (r:ay w h c (.sl T l t) v):∃A cap,v=.slice A l.length cap/\l.length<=cap/\cap<=mx:=by
 cases r with
 | sl f cv bQ hc hr iw cQ=>exact⟨_,_,rfl,cv,bQ⟩
theorem Ty.xR (T:Ty):0<T.sz:=by cases T<;>simp[Ty.sz]
theorem Ty.lR (T:Ty) (x:T.den):(T.cells x).length=T.sz:=by cases T<;>rfl
theorem Ah {v:Option V} {v':Option Value} (hv:match v,v' with|none,none=>True|some a,some b=>ay w h c a b|_,_=>False) {d:Int} {k:Int->Option R} {r:R}
  (hk:kZ v d k=some r):∃n,k n=some r/\((v'=none/\n=d)\/∃i,v'=some (.int i n)):=by
 unfold kZ at hk;split at hk
 ·split at hv<;>simp_all
 ·rename_i i n;cases v' with
  | none=>exact hv.elim
  | some b=>exact⟨n,hk,.inr ⟨_,by rw[(show ay w h c (.int i n) b from hv).fi.1]⟩⟩
 ·cases hk
theorem BD {ρ:Operand->V} {ρ':Operand->Value} (hρ:∀x,ay w h c (ρ x) (ρ' x)) (o:Option Operand) :
  match o.map ρ,o.map ρ' with|none,none=>True|some a,some b=>ay w h c a b|_,_=>False:=by
 cases o<;>simp[hρ]
theorem Gj (isSlice:Bool) (len cap:Nat) (lo hi:Option Value) (l hh:Int) (vQ:(lo=none/\l=0)\/∃k,lo=some (.int k l))
  (vR:(hi=none/\hh=len)\/∃k,hi=some (.int k hh)) (h0:0<=l) (h1:l<=hh) (h2:hh<=cap) :
  (Pl isSlice len cap lo hi none).run P w=.ok (l.toNat,hh.toNat,cap) w:=by
 have hb:∀(k:IntKind) (n:Int) (y:Nat) (code:BoundsCode),0<=n->n<=y->(Instr.sliceBound (.int k n) y code).run P w=.ok n.toNat w:=by
  intro k n y code h0 h1;simp[Instr.sliceBound,asIntOf,h0,h1]
 rcases vQ with ⟨rfl,rfl⟩|⟨k,rfl⟩<;>rcases vR with ⟨rfl,rfl⟩|⟨k',rfl⟩
 ·simp[Pl]
 ·simp[Pl,hb _ _ _ _ (show 0<=hh by omega) h2]
 ·simp[Pl,hb _ _ _ _ h0 h1]
 ·simp only[Pl];have e:((hh.toNat:Nat):Int)=hh:=by omega
  simp[hb _ _ _ _ (show 0<=hh by omega) h2,hb k l hh.toNat .sliceB h0 (by omega)]
theorem aap {v:V} {d:Value} (r0:ay w h c v d) {k:Int->Option R} {r:R} (hk:idxOf v k=some r):∃i n,d=.int i n/\k n=some r:=by
 unfold idxOf at hk;split at hk
 ·exact⟨_,_,r0.fi.1,hk⟩
 ·cases hk
theorem aoG (T:cF P tt) {t:Nat} {a i:V} {a' i':Value} (ra:ay w h c a a') (ri:ay w h c i i') {k:V->Option R} {r:R}
  (hk:(idxOf i fun n=>
   match (generalizing:=false) (tt.at t).d,a with
   | .slice e,.sl T l _=>if T.sz=(tt.at e).size&&tt.ok e then ag (decide (0<=n)&&decide (n<l.length)) (k (.fg (T.cells (l.getD n.toNat T.az))))else none
   | .slice e,.row id m=>if tt.ok e then ag (decide (0<=n)&&decide (n<m)) (k (.fH id (tt.at e).size n.toNat 0))else none
   | .arr m e,.ptr id o=>if tt.ok e then ag (decide (0<=n)&&decide (n<m)) (k (.ptr id (o+n.toNat*(tt.at e).size)))else none
   | .slice e,.jg m cs=>if tt.ok e&&decide ((tt.at e).size≠0)&&decide (cs.length=m*(tt.at e).size)then ag (decide (0<=n)&&decide (n<m)) (k (.fg (cs.drop (n.toNat*(tt.at e).size))))else none
   | .arr m e,.fg cs=>if tt.ok e&&decide ((tt.at e).size≠0)&&decide (m*(tt.at e).size<=cs.length)then ag (decide (0<=n)&&decide (n<m)) (k (.fg (cs.drop (n.toNat*(tt.at e).size))))else none
   | _,_=>none)=some r):gS P w h c (Je t a' i') k r:=by
 obtain ⟨ik,n,rfl,fj⟩:=aap ri hk;clear hk;split at fj
 ·rename_i e T' l tk hd;split at fj
  ·rename_i ji;simp only[bF,decide_eq_true_eq]at ji;obtain ⟨bL,bP⟩:=ji;obtain ⟨hb,hk⟩:=cz fj;simp only[bF,decide_eq_true_eq]at hb;have hu:P.underlying t=some (.slice e):=cR T hd;have k7:=T.sizeOf (w:=w) bP;cases ra with
   | @sl _ _ _ A cap f cv bQ hc hr iw cQ=>
    have iz:n.toNat<l.length:=by omega
    have hxd:l.getD n.toNat T'.az=l[n.toNat]:=by simp[ca,List.getElem?_eq_getElem iz]
    have hx:l[n.toNat]? = some l[n.toNat]:=List.getElem?_eq_getElem iz;obtain ⟨b,o,rfl,_,_⟩:=hc n.toNat 0 iz T'.xR;refine⟨_,.pointer (some ⟨b,o+n.toNat*T'.sz,none⟩),?_,?_,hk⟩
    ·simp[Je,asIntOf,run_underlying hu,hb.1,hb.2,k7,<-bL,mY]
    ·refine .fg (fun j=>f n.toNat j) (fun j hj => ?_) (fun j v hv=>hr n.toNat j _ v hx (by rw[hxd]at hv; exact hv));rw[Ty.lR]at hj;obtain ⟨b',o',e',h1,h2⟩:=hc n.toNat j iz hj;cases e';exact⟨h1,h2⟩
  ·cases fj
 ·rename_i e id m hd;split at fj
  ·rename_i bP;obtain ⟨hb,hk⟩:=cz fj;simp only[bF,decide_eq_true_eq]at hb;have hu:P.underlying t=some (.slice e):=cR T hd;have k7:=T.sizeOf (w:=w) bP;cases ra with
   | row hi _ hv=>
    obtain ⟨A,cap,rfl,⟨_,_,hA⟩,hv⟩:=hv;obtain ⟨a,rfl⟩:=hA (by omega);refine⟨_,.pointer (some (a.add (n.toNat*(tt.at e).size))),?_,?_,hk⟩
    ·simp[Je,asIntOf,run_underlying hu,hb.1,hb.2,k7]
    ·refine .fH hi ⟨_,rfl,fun T' l' he bL hj => ?_⟩;obtain ⟨_,_,_,h3⟩:=hv T' l' he;rcases h3 with ⟨_,h3,_⟩|⟨b,arr,el,fz,g1,g2,_,_⟩
     ·cases h3
     ·cases g2;exact⟨b,g1,by rw[bL,mY]; rfl⟩
  ·cases fj
 ·rename_i m e id o hd;split at fj
  ·rename_i bP;obtain ⟨hb,hk⟩:=cz fj;simp only[bF,decide_eq_true_eq]at hb;have hu:P.underlying t=some (.array m e):=cR T hd;have k7:=T.sizeOf (w:=w) bP;cases ra with
   | ptr hi hv=>
    obtain ⟨b,rfl,hv⟩:=hv;refine⟨_,.pointer (some (Addr.add ⟨b,o,none⟩ (n.toNat*(tt.at e).size))),?_,?_,hk⟩
    ·simp[Je,asIntOf,run_underlying hu,hb.1,hb.2,k7,u0]
    ·exact .ptr hi ⟨b,by rw[mY],hv⟩
  ·cases fj
 ·rename_i e m cs hd;split at fj
  ·rename_i ji;simp only[bF,decide_eq_true_eq]at ji;obtain ⟨⟨bP,h0⟩,hlen⟩:=ji;obtain ⟨hb,hk⟩:=cz fj;simp only[bF,decide_eq_true_eq]at hb;have hu:P.underlying t=some (.slice e):=cR T hd;have k7:=T.sizeOf (w:=w) bP;have aX:n.toNat*(tt.at e).size+(tt.at e).size<=cs.length:=by
    rw[hlen,<-oG];exact iP _ (by omega)
   cases ra with
   | @jg _ sz _ A hn bQ f hc hr=>
    obtain ⟨b,o,rfl,_,_⟩:=hc (n.toNat*(tt.at e).size) (by omega);refine⟨_,.pointer (some ⟨b,o+n.toNat*(tt.at e).size,none⟩),?_,?_,hk⟩
    ·simp[Je,asIntOf,run_underlying hu,hb.1,hb.2,k7,mY]
    ·refine .fg (fun j=>f (n.toNat*(tt.at e).size+j)) (fun j hj => ?_) (fun j v hv=>hr _ v (by rw[List.getElem?_drop]at hv; exact hv));rw[ct]at hj;obtain ⟨b',o',e',h1,h2⟩:=hc (n.toNat*(tt.at e).size+j) (by omega);cases e';rw[zm];exact⟨h1,h2⟩
  ·cases fj
 ·rename_i m e cs hd;split at fj
  ·rename_i ji;simp only[bF,decide_eq_true_eq]at ji;obtain ⟨⟨bP,h0⟩,hlen⟩:=ji;obtain ⟨hb,hk⟩:=cz fj;simp only[bF,decide_eq_true_eq]at hb;have hu:P.underlying t=some (.array m e):=cR T hd;have k7:=T.sizeOf (w:=w) bP;have aX:n.toNat*(tt.at e).size+(tt.at e).size<=cs.length:=by
    refine pw ?_ hlen;rw[<-oG];exact iP _ (by omega)
   cases ra with
   | @fg _ b o f hc hr=>
    refine⟨_,.pointer (some ⟨b,o+n.toNat*(tt.at e).size,none⟩),?_,?_,hk⟩
    ·simp[Je,asIntOf,run_underlying hu,hb.1,hb.2,k7,u0,mY]
    ·refine .fg (fun j=>f (n.toNat*(tt.at e).size+j)) (fun j hj => ?_) (fun j v hv=>hr _ v (by rw[List.getElem?_drop]at hv; exact hv));rw[ct]at hj;have:=hc (n.toNat*(tt.at e).size+j) (by omega);rw[zm];exact this
  ·cases fj
 ·cases fj
end
section
variable {P:Program} {tt:aZ} {w:World} {h:aq} {c:bh} {R:Type}
theorem aaq {t off:Nat} {cs:List V} {k:V->Option R} {r:R} (hk:jA tt t cs off k=some r):tt.ok t=true:=by
 unfold jA at hk;split at hk
 ·assumption
 ·cases hk
theorem aoH (T:cF P tt) {s f:Nat} {a:V} {a':Value} (ra:ay w h c a a') {k:V->Option R} {r:R}
  (hk:(match (generalizing:=false) (tt.at s).d with
  | .struct fs=>
   (match (generalizing:=false) fs[f]? with
    | some (off,t)=>
     if(tt.at t).size=0||!tt.ok t then none else
     (match (generalizing:=false) a with
     | .ptr i o=>k (.ptr i (o+off))
     | .fg cs=>k (.fg (cs.drop off))
     | .fH i n j o=>k (.fH i n j (o+off))
     | _=>none)
    | none=>none)
  | _=>none)=some r):gS P w h c (Pm s a' f) k r:=by
 split at hk
 ·rename_i fs hd;split at hk
  ·rename_i off t hf;split at hk
   ·cases hk
   ·rename_i fL;simp only[je,decide_eq_true_eq,xx,not_or,ZL]at fL;obtain ⟨bL,bP⟩:=fL;obtain ⟨F,fd,hu,JB,rfl,rfl⟩:=aae T hd hf;have hs:=T.sizeOf (w:=w) bP;have run:∀b o,(Pm s (.pointer (some ⟨b,o,none⟩)) f).run P w=.ok (.pointer (some ⟨b,o+fd.offset,none⟩)) w:=by
     intro b o;simp[Pm,run_underlying hu,JB,u0,fieldPlace,hs,bL,mY]
    have run':∀a:Addr,(Pm s (.pointer (some a)) f).run P w=.ok (.pointer (some (a.add fd.offset))) w:=by
     intro a;simp[Pm,run_underlying hu,JB,u0,fieldPlace,hs,bL]
    split at hk
    ·rename_i ra;cases ra with
     | ptr hi hv=>
      obtain ⟨b,rfl,hb⟩:=hv;exact⟨_,_,run _ _,.ptr hi ⟨b,rfl,hb⟩,hk⟩
    ·rename_i ra;cases ra with
     | fg g hc hr=>
      refine⟨_,_,run _ _,.fg (fun j=>g (fd.offset+j)) (fun j hj => ?_) (fun j v hv => ?_),hk⟩
      ·simp at hj;have:=hc (fd.offset+j) (by omega);rw[zm]; exact this
      ·rw[List.getElem?_drop]at hv;exact hr _ v hv
    ·rename_i ra;cases ra with
     | fH hi hv=>
      obtain ⟨a,rfl,hv⟩:=hv;refine⟨_,_,run' a,.fH hi ⟨_,rfl,fun T' l he hn hj => ?_⟩,hk⟩;obtain ⟨b,hb,rfl⟩:=hv T' l he hn hj;exact⟨b,hb,by rw[mY,zm]⟩
    ·cases hk
  ·cases hk
 ·cases hk
theorem aoI (T:cF P tt) {s f:Nat} {a:V} {a':Value} (ra:ay w h c a a') {k:V->Option R} {r:R}
  (hk:(match (generalizing:=false) (tt.at s).d,a with
  | .struct fs,.agg cs=>(match (generalizing:=false) fs[f]? with|some (off,t)=>jA tt t cs off k|none=>none)
  | _,_=>none)=some r):gS P w h c (Instr.field s a' f) k r:=by
 split at hk
 ·have hd := ‹(tt.at s).d=.struct _›;have ra := ‹ay w h c (.agg _) a'›;split at hk
  ·rename_i off t hf;obtain ⟨F,fd,hu,JB,rfl,rfl⟩:=aae T hd hf;cases ra with
   | @agg _ x hl hr=>
    obtain ⟨v,v',h1,h2,h3⟩:=aaf (x:=x) T ⟨by rw[hl,gP],fun j v d hv hd=>hr j v d hv (by simpa using hd)⟩ hk;exact⟨v,v',by simp[Instr.field,run_underlying hu,JB,asAgg,h1],h2,h3⟩
  ·cases hk
 ·cases hk
theorem aoJ {s:ByteArray} {n:Int} (h0:0<=n) (h1:n<s.data.toList.length):(if 0<=n then s[n.toNat]? else none)=some (s.data.toList.getD n.toNat 0):=by
 have aX:n.toNat<s.size:=by rw[<-size_data]; omega
 have e:s[n.toNat]? = some (s[n.toNat]'aX):=getElem?_pos s n.toNat aX;rw[if_pos h0,e];have:s[n.toNat]'aX=s.data.toList.getD n.toNat 0:=by
  have hl:n.toNat<s.data.toList.length:=by omega
  simp only[ca,List.getElem?_eq_getElem hl,Bb];rfl
 rw[this]
theorem aoK (T:cF P tt) {t:Nat} {a i:V} {a' i':Value} (ra:ay w h c a a') (ri:ay w h c i i') {k:V->Option R} {r:R}
  (hk:(idxOf i fun n=>
  match (generalizing:=false) (tt.at t).d,a with
  | .string,.str s=>ag (decide (0<=n)&&decide (n<s.length)) (k (.int .u8 (s.getD n.toNat 0).toNat))
  | .arr m e,.agg cs=>ag (decide (0<=n)&&decide (n<m)) (jA tt e cs (n.toNat*(tt.at e).size) k)
  | _,_=>none)=some r):gS P w h c (Instr.index t a' i') k r:=by
 obtain ⟨ik,n,rfl,fj⟩:=aap ri hk;clear hk;split at fj
 ·have hd := ‹(tt.at t).d=.string›;have ra := ‹ay w h c (.str _) a'›;obtain ⟨hb,hk⟩:=cz fj;simp only[bF,decide_eq_true_eq]at hb;have hu:P.underlying t=some .string:=cR T hd;obtain ⟨t',rfl,rfl,_⟩:=ra.gJ;refine⟨_,_,?_,.int (QE _ (fa _)),hk⟩;have:=aoJ hb.1 hb.2;simp only[Instr.index,gZ,asIntOf,px,hG,run_underlying hu,this]
 ·have hd := ‹(tt.at t).d=.arr _ _›;have ra := ‹ay w h c (.agg _) a'›;obtain ⟨hb,hk⟩:=cz fj;simp only[bF,decide_eq_true_eq]at hb;have hu:=cR T hd;simp only[TD.Is]at hu;have bP:=aaq hk;have hs:=T.sizeOf (w:=w) bP;cases ra with
  | @agg _ x hl hr=>
   obtain ⟨v,v',h1,h2,h3⟩:=aaf (x:=x) T ⟨by rw[hl,gP],fun j v d hv hd=>hr j v d hv (by simpa using hd)⟩ hk;exact⟨v,v',by simp[Instr.index,asIntOf,run_underlying hu,hb.1,hb.2,hs,h1],h2,h3⟩
 ·cases fj
theorem aoL {s:ByteArray} {l hh:Nat}:(s.extract l hh).data.toList=(s.data.toList.drop l).take (hh - l):=by
 simp[ByteArray.data_extract,List.extract]
theorem aoM {i n sz:Nat} {A:Option Addr} {cap:Nat} (hu:Used h i) (hn:n<=mx) (cv:n<=cap) (bQ:cap<=mx) (hA:0<n->∃a,A=some a)
  (hv:∀T l,h.at i=.row T l->n=l.length/\n<=cap/\cap<=mx /\
    ((c.cf i=none/\A=none/\cap=0)\/∃b arr e fz,c.cf i=some b/\A=some ⟨b,c.off i,none⟩/\w.heap[b]? = some (xu arr e fz)/\c.off i+cap*T.sz<=arr.size)) (lo hi:Nat) (h1:lo<=hi) (h2:hi<=n) :
  ay w h c (.j0 i sz lo (hi - lo)) (.slice (if cap=lo then A else A.map (·.add (lo*sz))) (hi - lo) (cap - lo)):=by
 refine .j0 hu (by omega) ⟨_,_,rfl,⟨by omega,by omega,fun hp => ?_⟩,fun T l he hz hq => ?_⟩
 ·obtain ⟨a,ha⟩:=hA (by omega);rw[if_neg (by omega),ha];exact⟨_,rfl⟩
 ·obtain ⟨g1,_,_,g4⟩:=hv T l he;refine⟨by omega,fun aX => ?_⟩;rcases g4 with ⟨_,_,g⟩|⟨b,arr,e,fz,k1,k2,k3,k4⟩
  ·omega
  ·subst hz;refine⟨b,arr,e,fz,k1,?_,k3,?_⟩
   ·rw[if_neg (by omega),k2];simp[mY]
   ·rw[show lo+(cap - lo)=cap by omega]; exact k4
theorem aoN (T:cF P tt) {t:Nat} {a:V} {a':Value} (ra:ay w h c a a') {ρ:Operand->V} {ρ':Operand->Value} (hρ:∀x,ay w h c (ρ x) (ρ' x)) (lo hi:Option Operand)
  {k:V->Option R} {r:R}
  (hk:(match (generalizing:=false) (tt.at t).d,a with
    | .string,.str s=>
     kZ (hi.map ρ) s.length fun h=>kZ (lo.map ρ) 0 fun l=>
     ag (decide (0<=h)&&decide (h<=s.length)) (ag (decide (0<=l)&&decide (l<=h)) (k (.str ((s.drop l.toNat).take (h.toNat - l.toNat)))))
    | .slice e,.sl T s _=>
     if T.sz=(tt.at e).size&&tt.ok e then
     kZ (lo.map ρ) 0 fun l=>
     (match (generalizing:=false) hi with
     | none=>ag (decide (0<=l)&&decide (l<=s.length)) (k (.sl T (s.drop l.toNat) .no))
     | some hi=>
      kZ (some (ρ hi)) 0 fun h=>
      ag (decide (0<=h)&&decide (h<=s.length)) (ag (decide (0<=l)&&decide (l<=h)) (k (.sl T ((s.drop l.toNat).take (h.toNat - l.toNat)) .no))))
     else none
    | .slice e,.bk=>
     if !tt.ok e then none else
     kZ (hi.map ρ) 0 fun h=>kZ (lo.map ρ) 0 fun l=>ag (decide (h=0)&&decide (l=0)) (k .bk)
    | .slice e,.row i n=>
     if !tt.ok e then none else
     kZ (hi.map ρ) n fun h=>kZ (lo.map ρ) 0 fun l=>ag (decide (0<=h)&&decide (h<=n)) (ag (decide (0<=l)&&decide (l<=h)) (k (.j0 i (tt.at e).size l.toNat (h.toNat - l.toNat))))
    | _,_=>none)=some r):gS P w h c (FP t a' (lo.map ρ') (hi.map ρ') none) k r:=by
 split at hk
 ·have hd := ‹(tt.at t).d=.string›;have ra := ‹ay w h c (.str _) a'›;have hu:P.underlying t=some .string:=cR T hd;obtain ⟨hh,hk,vR⟩:=Ah (BD hρ hi) hk;obtain ⟨l,hk,vQ⟩:=Ah (BD hρ lo) hk;obtain ⟨hb,hk⟩:=cz hk;obtain ⟨bI,hk⟩:=cz hk;simp only[bF,decide_eq_true_eq]at hb bI;obtain ⟨t',rfl,rfl,bQ⟩:=ra.gJ;rw[size_data]at hb vR;have cS:=Gj (P:=P) (w:=w) false t'.size t'.size (lo.map ρ') (hi.map ρ') l hh vQ vR bI.1 bI.2 hb.2;refine⟨_,.string (t'.extract l.toNat hh.toNat),?_,xQ _ aoL ?_,hk⟩
  ·simp[FP,Pn,run_underlying hu,cS]
  ·simp; omega
 ·have hd := ‹(tt.at t).d=.slice _›;have ra := ‹ay w h c (.sl _ _ _) a'›;rename_i s _ _ _;split at hk
  ·rename_i ji;simp only[bF,decide_eq_true_eq]at ji;obtain ⟨bL,bP⟩:=ji;have hu:=cR T hd;simp only[TD.Is]at hu;have hs:=T.sizeOf (w:=w) bP;obtain ⟨A,cap,rfl,cv,bQ⟩:=vP ra;obtain ⟨l,hk,vQ⟩:=Ah (BD hρ lo) hk;cases hi with
   | none=>
    obtain ⟨hb,hk⟩:=cz hk;simp only[bF,decide_eq_true_eq]at hb;have cS:=Gj (P:=P) (w:=w) true s.length cap (lo.map ρ') none l s.length vQ (.inl ⟨rfl,rfl⟩) hb.1 hb.2 (by omega);have hc:=aao ra l.toNat s.length (by omega) (cD _);rw[sk (by simp)]at hc;refine⟨_,_,?_,hc,hk⟩;simp[FP,Pn,run_underlying hu,cS,hs,<-bL]
   | some hi=>
    obtain ⟨hh,hk,vR⟩:=Ah (v':=some (ρ' hi)) (hρ hi) hk;obtain ⟨hb,hk⟩:=cz hk;obtain ⟨bI,hk⟩:=cz hk;simp only[bF,decide_eq_true_eq]at hb bI;have cS:=Gj (P:=P) (w:=w) true s.length cap (lo.map ρ') (some (ρ' hi)) l hh vQ (vR.imp (fun x=>by cases x.1) id) bI.1 bI.2 (by omega);have hc:=aao ra l.toNat hh.toNat (by omega) (by omega);refine⟨_,_,?_,hc,hk⟩;simp[FP,Pn,run_underlying hu,cS,hs,<-bL]
  ·cases hk
 ·have hd := ‹(tt.at t).d=.slice _›;have ra := ‹ay w h c .bk a'›;split at hk
  ·cases hk
  ·rename_i bP;simp at bP;have hu:=cR T hd;simp only[TD.Is]at hu;have hs:=T.sizeOf (w:=w) bP;obtain ⟨hh,hk,vR⟩:=Ah (BD hρ hi) hk;obtain ⟨l,hk,vQ⟩:=Ah (BD hρ lo) hk;obtain ⟨hb,hk⟩:=cz hk;simp only[bF,decide_eq_true_eq]at hb;obtain ⟨rfl,rfl⟩:=hb;have cS:=Gj (P:=P) (w:=w) true 0 0 (lo.map ρ') (hi.map ρ') 0 0 vQ vR (by omega) (by omega) (by omega);cases ra;refine⟨_,.slice none 0 0,?_,.bk,hk⟩;simp[FP,Pn,run_underlying hu,cS,hs]
 ·have hd := ‹(tt.at t).d=.slice _›;have ra := ‹ay w h c (.row _ _) a'›;split at hk
  ·cases hk
  ·rename_i bP;simp at bP;have hu:=cR T hd;simp only[TD.Is]at hu;have hs:=T.sizeOf (w:=w) bP;obtain ⟨hh,hk,vR⟩:=Ah (BD hρ hi) hk;obtain ⟨l,hk,vQ⟩:=Ah (BD hρ lo) hk;obtain ⟨hb,hk⟩:=cz hk;obtain ⟨bI,hk⟩:=cz hk;simp only[bF,decide_eq_true_eq]at hb bI;cases ra with
   | row sF hn hv=>
    obtain ⟨A,cap,rfl,⟨cv,bQ,hA⟩,hv⟩:=hv;have cS:=Gj (P:=P) (w:=w) true _ cap (lo.map ρ') (hi.map ρ') l hh vQ vR bI.1 bI.2 (by omega);refine⟨_,_,?_,aoM sF hn cv bQ hA hv l.toNat hh.toNat (by omega) (by omega),hk⟩;simp[FP,Pn,run_underlying hu,cS,hs]
 ·cases hk
end
section
variable {P:Program} {tt:aZ} {w:World} {h:aq} {c:bh} {R:Type}
theorem sG {s:Sem Value} {k:V->Option R} {r:R} (hm:gS P w h c s k r) :
  ∃v v',((do pure (Next.value (<-s))):Sem Next).run P w=.ok (.value v') w/\ay w h c v v'/\k v=some r:=by
 obtain ⟨v,v',h1,h2,h3⟩:=hm;exact⟨v,v',by simp[h1],h2,h3⟩
theorem aoO (T:cF P tt) {op:BinOp} {t:Nat} (x y:Operand) {a b:V} {a' b':Value} (ra:ay w h c a a') (rb:ay w h c b b') {k:V->Option R} {r:R}
  (hk:(match (generalizing:=false) a,b with
  | .agg a,.agg b=>if xI (tt.at t) a b then hJ op (.agg a) (.agg b) k else none
  | .bool a,.bool b=>(match (generalizing:=false) (tt.at t).d with | .bool=>hJ op (.bool a) (.bool b) k|_=>none)
  | .int i a,.int j b=>hJ op (.int i a) (.int j b) k
  | .str a,.str b=>hJ op (.str a) (.str b) k
  | a,b=>(match (generalizing:=false) (tt.at t).d with | .ptr _=>xG op a b k | .slice _=>xH op a b k | .iface=>zS op y a b k|_=>none))=some r) :
  gS P w h c (do eqGuard op t x y a' b'; binOp op t a' b') k r:=by
 split at hk
 ·have ra := ‹ay w h c (.agg _) a'›;have rb := ‹ay w h c (.agg _) b'›;split at hk
  ·rename_i heq;cases ra with
   | @agg _ u hl hr=>
    cases rb with
    | @agg _ v pI Af=>
     exact aoA T heq ⟨by rw[hl,gP],fun j v d hv hd=>hr j v d hv (by simpa using hd)⟩
      ⟨by rw[pI,gP],fun j v d hv hd=>Af j v d hv (by simpa using hd)⟩ x y hk
  ·cases hk
 ·have ra := ‹ay w h c (.bool _) a'›;have rb := ‹ay w h c (.bool _) b'›;split at hk
  ·rename_i hd;rw[ra.DL,rb.DL];exact aoz T hd x y hk
  ·cases hk
 ·have ra := ‹ay w h c (.int _ _) a'›;have rb := ‹ay w h c (.int _ _) b'›;rename_i i m j n _ _;have e1:=ra.fi;have e2:=rb.fi;rw[e1.1,e2.1];exact aou e2.2 t x y hk e1.2
 ·have ra := ‹ay w h c (.str _) a'›;have rb := ‹ay w h c (.str _) b'›;obtain ⟨s,rfl,rfl,_⟩:=ra.gJ;obtain ⟨u,rfl,rfl,_⟩:=rb.gJ;exact aoy t x y hk
 ·split at hk
  ·rename_i hd;exact aoC T hd ra rb x y hk
  ·rename_i hd;exact aoF T hd ra rb x y hk
  ·rename_i hd;exact aoD T hd ra rb x y hk
  ·cases hk
theorem aoP (T:cF P tt) {s d:Nat} {a:V} {a':Value} (ra:ay w h c a a') {k:V->Option R} {r:R}
  (hk:(match (generalizing:=false) (tt.at d).d,a with
  | .int i,.int _ n=>k (.int i (i.wrap n))
  | .string,.str t=>(match (generalizing:=false) (tt.at s).d with | .string=>k (.str t)|_=>none)
  | _,_=>none)=some r)
  (hs:tt.ok s=true):gS P w h c (convert s d a') k r:=by
 split at hk
 ·have hd := ‹(tt.at d).d=.int _›;have ra := ‹ay w h c (.int _ _) a'›;have hu:=cR T hd;simp only[TD.Is]at hu;obtain ⟨rfl,_⟩:=ra.fi;have DM:=T.Gh s;refine⟨_,_,?_,.int (QD _ _),hk⟩;unfold aZ.ok at hs;cases qN:(tt.at s).d<;>rw[qN]at DM hs<;>simp only[TD.Is]at DM
  case struct fs=>obtain ⟨F,hF,_⟩:=DM; simp[convert,run_underlying hu,run_underlying hF,Conv.intToInt]
  case func=>obtain ⟨x,y,z,hF⟩:=DM; simp[convert,run_underlying hu,run_underlying hF,Conv.intToInt]
  case iface=>obtain ⟨x,hF⟩:=DM; simp[convert,run_underlying hu,run_underlying hF,Conv.intToInt]
  case other=>cases hs
  all_goals simp[convert,run_underlying hu,run_underlying DM,Conv.intToInt]
 ·have hd := ‹(tt.at d).d=.string›;have ra := ‹ay w h c (.str _) a'›;have hu:=cR T hd;simp only[TD.Is]at hu;split at hk
  ·have JC := ‹(tt.at s).d=.string›;have nX:=cR T JC;simp only[TD.Is]at nX;have ra':=ra;obtain ⟨t,rfl,rfl,hl⟩:=ra.gJ;exact⟨_,_,by simp[convert,run_underlying hu,run_underlying nX],ra',hk⟩
  ·cases hk
 ·cases hk
theorem aoQ (T:cF P tt) {t:Nat} {o:Nat} {a:V} {a':Value} (ra:ay w h c a a') {k:V->Option R} {r:R}
  (hk:(match (generalizing:=false) (tt.at t).d,a with
     | .string,.str s=>k (.int .i64 s.length)
     | .slice _,.sl _ l _=>k (.int .i64 l.length)
     | .slice _,.jg n _=>k (.int .i64 n)
     | .slice _,.row _ n=>k (.int .i64 n)
     | .slice _,.bk=>k (.int .i64 0)
     | _,_=>none)=some r):gS P w h c (ZM #[t] o #[a']) k r:=by
 have key:∀(e:TypeId) (A:Option Addr) (n m:Nat),P.underlying t=some (.slice e)->(ZM #[t] o #[.slice A n m]).run P w=.ok (.int .i64 n) w:=by
  intro e A n m hu; simp[ZM,run_underlying hu,goInt]
 split at hk
 ·have hu:P.underlying t=some .string:=cR T ‹(tt.at t).d=.string›;have ra := ‹ay w h c (.str _) a'›;obtain ⟨s,rfl,rfl,hl⟩:=ra.gJ;refine⟨_,.int .i64 s.size,by simp[ZM,run_underlying hu,goInt],?_,hk⟩;rw[size_data]; exact .int (Bz _ hl)
 ·have hu:=cR T ‹(tt.at t).d=.slice _›;simp only[TD.Is]at hu;have ra := ‹ay w h c (.sl _ _ _) a'›;obtain ⟨A,cap,rfl,h1,h2⟩:=vP ra;exact⟨_,_,key _ _ _ _ hu,.int (Bz _ (by omega)),hk⟩
 ·have hu:=cR T ‹(tt.at t).d=.slice _›;simp only[TD.Is]at hu;have ra := ‹ay w h c (.jg _ _) a'›;cases ra with
  | jg hn bQ f hc hr=>exact⟨_,_,key _ _ _ _ hu,.int (Bz _ bQ),hk⟩
 ·have hu:=cR T ‹(tt.at t).d=.slice _›;simp only[TD.Is]at hu;have ra := ‹ay w h c (.row _ _) a'›;cases ra with
  | row hi hn hv=>
   obtain ⟨A,cap,rfl,_,_⟩:=hv;exact⟨_,_,key _ _ _ _ hu,.int (Bz _ hn),hk⟩
 ·have hu:=cR T ‹(tt.at t).d=.slice _›;simp only[TD.Is]at hu;have ra := ‹ay w h c .bk a'›;cases ra;exact⟨_,_,key _ _ 0 0 hu,.int (Bz 0 (by unfold mx; omega)),hk⟩
 ·cases hk
theorem aoR (T:cF P tt) (F:Array Field) (bP:∀f∈F.toList,tt.ok f.type=true) :
  (F.mapM (m:=Sem) fun f=>do pure (f.offset,<-Go.sizeOf f.type)).run P w=.ok (F.map fun f=>(f.offset,(tt.at f.type).size)) w:=by
 rw[Array.mapM_eq_mapM_toList];have key:∀l:List Field,(∀f∈l,tt.ok f.type=true)->(l.mapM (m:=Sem) fun f=>do pure (f.offset,<-Go.sizeOf f.type)).run P w=.ok (l.map fun f=>(f.offset,(tt.at f.type).size)) w:=by
  intro l
  induction l with
  | nil=>intro _; simp
  | cons f l ih=>
   intro h;have hs:=T.sizeOf (w:=w) (h f (by simp));have:=ih fun g hg=>h g (by simp[hg])
   simp only[Po,gZ,hs,hG,px,this,kz]
 simp only[Sem.run_map,key _ bP,hG];congr 1;apply Array.ext';simp
theorem aoS {fs:List (Nat×Nat)} {F:Array Field} (e:F.toList.map (fun f=>(f.offset,f.type))=fs) (fK:fs.all (fun f=>tt.ok f.2)=true):∀f∈F.toList,tt.ok f.type=true:=by
 intro f hf;have:(f.offset,f.type)∈fs:=by rw[<-e]; exact Dj.2 ⟨f,hf,rfl⟩
 exact gF.1 fK _ this
theorem aar (T:cF P tt) {t:Nat} (h:tt.ok t=true):(tt.at t).zero.length=(tt.at t).size:=by
 obtain ⟨z,_,h2,h3⟩:=T.zero (w:=default) h;have:=(h3 default [] ⟨fun _=>none,fun _=>0,⟨fun _ _=>False⟩⟩).1;simp at this; omega
theorem aas {ρ:Operand->V} {ρ':Operand->Value} (hρ:∀x,ay w h c (ρ x) (ρ' x)) (parts:List (Nat×Operand)) :
  (parts.map fun p=>(p.1,ρ p.2)).map Pj=(parts.map fun p=>(p.1,ρ' p.2)).map Pj /\
  aQ w h c ((parts.map fun p=>(p.1,ρ p.2)).map Pk) ((parts.map fun p=>(p.1,ρ' p.2)).map Pk):=by
 refine⟨by simp[Function.comp_def],?_⟩;simp only[Jf];exact aQ.map parts fun p _=>hρ p.2
theorem aoT (T:cF P tt) {t:Nat} {parts:Array (Nat×Operand)} {ρ:Operand->V} {ρ':Operand->Value} (hρ:∀x,ay w h c (ρ x) (ρ' x)) {k:V->Option R} {r:R}
  (hk:(match (generalizing:=false) (tt.at t).d with
  | .struct fs=>
   if !fs.all (fun f=>tt.ok f.2)||!tt.ok t||decide (1000000<=(tt.at t).zero.length)then none else
   (match (generalizing:=false) vH (tt.at t).zero (parts.toList.map fun(i,x)=>((fs.getD i (0,0)).1,if i<fs.length then(tt.at (fs.getD i (0,0)).2).size else 1000000,ρ x))with
    | some cs=>k (.agg cs)|none=>none)
  | .arr _ e=>
   if !tt.ok e||!tt.ok t||decide (1000000<=(tt.at t).zero.length)then none else
   (match (generalizing:=false) vH (tt.at t).zero (parts.toList.map fun(i,x)=>(i*(tt.at e).size,(tt.at e).size,ρ x))with
    | some cs=>k (.agg cs)|none=>none)
  | _=>none)=some r):gS P w h c (Instr.build t (parts.map fun(i,x)=>(i,ρ' x))) k r:=by
 have xS:=aas hρ parts.toList;split at hk
 ·rename_i fs hd;split at hk
  ·cases hk
  ·rename_i fL;simp only[je,xx,decide_eq_true_eq,not_or,ZL,Nat.not_le]at fL;obtain ⟨⟨fK,bP⟩,hsm⟩:=fL;obtain ⟨F,hu,he⟩:=cR T hd;obtain ⟨z,hz,vN,j7⟩:=T.zero (w:=w) bP;split at hk
   ·rename_i cs hf;have aoU:=aoR (w:=w) T F (aoS he fK);have hl:=aar T bP;obtain ⟨qM,h1,h2,h3⟩:=JA (w:=w) (h:=h) (c:=c) (fun i=>(F.map fun f=>(f.offset,(tt.at f.type).size))[i]?) (parts.toList.map fun p=>(p.1,ρ p.2)) (parts.toList.map fun p=>(p.1,ρ' p.2))
     (tt.at t).zero z.cells cs xS.1 xS.2 (j7 w h c) (by
      rw[<-hf,Jf];congr 1;apply xy;intro p _;obtain ⟨i,x⟩:=p;subst he;simp only[Function.comp,oH,gP,Array.getElem?_map];by_cases hi:i<F.size
      ·simp[hi,ca]
      ·simp[hi,ca]) (by omega)
    have pJ:ay w h c (.agg cs) (.agg qM):=.agg (by have:=h2.1; simpa using this) (fun j v d hv hd=>h2.2 j v d hv (by simpa using hd));refine⟨.agg cs,.agg qM,?_,pJ,hk⟩;simp only[Instr.build,gZ,hz,hG,run_underlying hu,aoU,ZN];rw[h1];rfl
   ·cases hk
 ·rename_i n e hd;split at hk
  ·cases hk
  ·rename_i fL;simp only[je,xx,decide_eq_true_eq,not_or,ZL,Nat.not_le]at fL;obtain ⟨⟨aoV,bP⟩,hsm⟩:=fL;have hu:=cR T hd;simp only[TD.Is]at hu;obtain ⟨z,hz,vN,j7⟩:=T.zero (w:=w) bP;have QI:=T.sizeOf (w:=w) aoV;split at hk
   ·rename_i cs hf;have hl:=aar T bP;obtain ⟨qM,h1,h2,h3⟩:=JA (w:=w) (h:=h) (c:=c) (fun i=>some (i*(tt.at e).size,(tt.at e).size)) (parts.toList.map fun p=>(p.1,ρ p.2)) (parts.toList.map fun p=>(p.1,ρ' p.2))
     (tt.at t).zero z.cells cs xS.1 xS.2 (j7 w h c) (by
      rw[<-hf,Jf];congr 1) (by omega)
    have pJ:ay w h c (.agg cs) (.agg qM):=.agg (by have:=h2.1; simpa using this) (fun j v d hv hd=>h2.2 j v d hv (by simpa using hd));refine⟨.agg cs,.agg qM,?_,pJ,hk⟩;simp[Instr.build,hz,run_underlying hu,QI,h1]
   ·cases hk
 ·cases hk
end
section
variable {P:Program} {tt:aZ} {w:World} {h:aq} {c:bh} {R:Type}
theorem aoW {ρ:Operand->V} {ρ':Operand->Value} (hρ:∀x,ay w h c (ρ x) (ρ' x)) (l:List Operand):aQ w h c (l.map ρ) (l.map ρ'):=aQ.map l fun x _=>hρ x
theorem aat {ρ:Operand->V} {ρ':Operand->Value} (hρ:∀x,ay w h c (ρ x) (ρ' x)) (l:Array Operand) :
  (l.toList.map ρ).length=(l.map ρ').size/\∀(j:Nat) (v:V) (d:Value),(l.toList.map ρ)[j]? = some v->(l.map ρ')[j]? = some d->ay w h c v d:=by
 have:=aoW hρ l.toList;exact⟨by simp,fun j v d hv hd=>this.2 j v d hv (by simpa using hd)⟩
theorem aoX {ts:Array TypeId} {o:Nat} {x y:V} {x' y':Value} (rx:ay w h c x x') (ry:ay w h c y y') {k:V->Option R} {r:R}
  (hk:(match (generalizing:=false) x,y with | .int i a,.int j b=>if i=j then k (.int i (min a b))else none|_,_=>none)=some r):gS P w h c (Builtin.min_ ts o #[x',y']) k r:=by
 split at hk
 ·rename_i i a j b';split at hk
  ·rename_i cG;subst cG;obtain ⟨rfl,ha⟩:=rx.fi;obtain ⟨rfl,hb⟩:=ry.fi;refine⟨_,.int i (min a b'),?_,.int (by unfold mV at *; omega),hk⟩;rw[run_min_int2];congr 2;split<;>omega
  ·cases hk
 ·cases hk
theorem aoY {ts:Array TypeId} {o:Nat} {x y:V} {x' y':Value} (rx:ay w h c x x') (ry:ay w h c y y') {k:V->Option R} {r:R}
  (hk:(match (generalizing:=false) x,y with | .int i a,.int j b=>if i=j then k (.int i (max a b))else none|_,_=>none)=some r):gS P w h c (Builtin.max_ ts o #[x',y']) k r:=by
 split at hk
 ·rename_i i a j b';split at hk
  ·rename_i cG;subst cG;obtain ⟨rfl,ha⟩:=rx.fi;obtain ⟨rfl,hb⟩:=ry.fi;refine⟨_,.int i (max a b'),?_,.int (by unfold mV at *; omega),hk⟩;rw[run_max_int2];congr 2;split<;>omega
  ·cases hk
 ·cases hk
theorem aoZ (T:cF P tt) {o:Oper} {ρ:Operand->V} {ρ':Operand->Value} (hρ:∀x,ay w h c (ρ x) (ρ' x)) {k:V->Option R} {r:R}
  (hk:vI tt o.op ρ k=some r):∃v v',(execOp ρ' o).run P w=.ok (.value v') w/\ay w h c v v'/\k v=some r:=by
 obtain ⟨dst,op,type,pos,after,guard⟩:=o;cases op<;>simp only[vI]at hk<;>(try cases hk)
 case move x=>exact⟨_,_,by simp[execOp],hρ x,hk⟩
 case assign x=>exact⟨_,_,by simp[execOp],hρ x,hk⟩
 case pick cc a b=>
  have rc:=hρ cc;have ra:=hρ a;have rb:=hρ b;split at hk
  ·rename_i t ht;rw[ht]at rc;have ec:=rc.DL;have run:(execOp ρ' ⟨dst,.pick cc a b,type,pos,after,guard⟩).run P w=.ok (.value (if t then ρ' a else ρ' b)) w:=by
    simp[execOp,ec,asBool]
   split at hk
   ·rename_i u v hu hv;rw[hu]at ra; rw[hv]at rb;refine⟨_,_,run,?_,hk⟩;rw[ra.DL,rb.DL];cases t<;>exact .bool _
   ·cases t
    ·exact⟨_,_,run,rb,hk⟩
    ·exact⟨_,_,run,ra,hk⟩
  ·cases hk
 case nilCheck x=>
  have rx:=hρ x;split at hk<;>(try cases hk)
  ·rename_i i o hx;rw[hx]at rx;have BE:=rx;cases rx with
   | ptr hi hv=>obtain ⟨b,hv,_⟩:=hv; exact⟨_,ρ' x,by simp[execOp,hv],BE,hk⟩
  ·rename_i cs hx;rw[hx]at rx;have BE:=rx;generalize hy:ρ' x=y at rx;cases rx with
   | fg f hc hr=>exact⟨_,ρ' x,by simp[execOp,hy],BE,hk⟩
  ·rename_i i n j o hx;rw[hx]at rx;have BE:=rx;cases rx with
   | fH hi hv=>obtain ⟨b,hv,_⟩:=hv; exact⟨_,ρ' x,by simp[execOp,hv],BE,hk⟩
  ·rename_i f a b hx;rw[hx]at rx;have BE:=rx;generalize hy:ρ' x=y at rx;cases rx with
   | func ha hb DI DJ=>exact⟨_,ρ' x,by simp[execOp,hy],BE,hk⟩
 case binOp op t x y ty=>
  exact sG (aoO T x y (hρ x) (hρ y) hk)
 case unOp op t x=>
  have rx:=hρ x;split at hk<;>(try cases hk)
  ·rename_i i n hx;rw[hx]at rx;exact⟨_,.int i (i.wrap (0 - n)),by simp[execOp,Op.unary,rx.fi.1,Op.intArith],.int (QD _ _),hk⟩
  ·rename_i b hx;rw[hx]at rx;exact⟨_,_,by simp[execOp,Op.unary,rx.DL],.bool _,hk⟩
 case convert s d x=>
  split at hk
  ·cases hk
  ·rename_i hs;exact sG (aoP T (hρ x) hk (by simpa using hs))
 case makeInterface t x=>
  have rx:=hρ x;split at hk<;>(try cases hk);rename_i k0 i n hd hx;rw[hx]at rx;have hu:=cR T hd;simp only[TD.Is]at hu;exact⟨_,.iface t (.int i n),by simp[execOp,Instr.makeInterface,run_underlying hu,rx.fi.1],.gh rx.fi.2,hk⟩
 case fieldAddr s x f=>exact sG (aoH T (hρ x) hk)
 case field s x f=>exact sG (aoI T (hρ x) hk)
 case indexAddr t x i=>exact sG (aoG T (hρ x) (hρ i) hk)
 case index t x i=>exact sG (aoK T (hρ x) (hρ i) hk)
 case slice t x lo hi mx=>
  split at hk
  ·cases hk
  ·exact sG (aoN T (hρ x) hρ lo hi hk)
 case makeFunc fn first cap=>
  cases fn<;>simp only at hk<;>(try cases hk);rename_i f;obtain ⟨l1,r1⟩:=aat hρ first
  obtain ⟨l2,r2⟩:=aat hρ cap;exact⟨_,.func (.func f) (first.map ρ') (cap.map ρ'),by simp[execOp,Instr.makeFunc],.func l1 l2 r1 r2,hk⟩
 case extract t i=>
  have rt:=hρ t;split at hk<;>(try cases hk);rename_i vs ht;rw[ht]at rt;split at hk
  ·rename_i v hv;generalize hy:ρ' t=y at rt;cases rt with
   | @tuple _ x hl hr=>
    have aX:i<vs.length:=(List.getElem?_eq_some_iff.1 hv).1;have hx:x[i]? = some (x[i]'(by omega)):=Array.getElem?_eq_getElem (by omega);exact⟨v,_,by simp[execOp,hy,Instr.extract,hx],hr i v _ hv hx,hk⟩
  ·cases hk
 case build t parts=>exact sG (aoT T hρ hk)
 case call cl=>
  obtain ⟨callee,args,argTypes⟩:=cl;simp only at hk;split at hk<;>(try cases hk)
  ·rename_i x ha;obtain rfl:args = #[x]:=by cases args; simp_all
   split at hk<;>(try cases hk);rename_i t ht;obtain rfl:argTypes = #[t]:=by cases argTypes; simp_all
   have:=sG (aoQ (P:=P) (o:=type) T (hρ x) hk);simpa [execOp,resolve,invoke,builtin]using this
  ·rename_i x y ha;obtain rfl:args = #[x,y]:=by cases args; simp_all
   have:=sG (aoX (P:=P) (ts:=argTypes) (o:=type) (hρ x) (hρ y) hk);simpa [execOp,resolve,invoke,builtin]using this
  ·rename_i x y ha;obtain rfl:args = #[x,y]:=by cases args; simp_all
   have:=sG (aoY (P:=P) (ts:=argTypes) (o:=type) (hρ x) (hρ y) hk);simpa [execOp,resolve,invoke,builtin]using this
end
end Go.ak
namespace Go.ak
open Go.RowKit Go.MapKept
section
variable {P:Program} {tt:aZ} {w w':World} {h:aq} {c:bh} {R:Type}
def xT (K T:Ty) (k:K.den):List (K.den×T.den)->List MapEntry->Nat->Option (Nat×Value)
 | x::l,e::es,i=>if mr K k x.1 then some (i,e.val)else xT K T k l es (i+1)
 | _,_,_=>none
theorem QJ {K T:Ty} {k:K.den}:∀(l:List (K.den×T.den)) (es:List MapEntry) (i:Nat),es.length=l.length ->
  (xT K T k l es i=none/\xF K T k l=false/\iu K T k l=T.az/\∀v,pD K T k v l=l++[(k,v)]) \/
  ∃j x e,xT K T k l es i=some (i+j,e.val)/\l[j]? = some x/\es[j]? = some e/\mr K k x.1=true/\xF K T k l=true/\iu K T k l=x.2/\∀v,pD K T k v l=l.set j (k,v)
 | [],[],_,_=>.inl ⟨rfl,rfl,rfl,fun _=>rfl⟩
 | [],_::_,_,hl=>by cases hl
 | _::_,[],_,hl=>by cases hl
 | x::l,e::es,i,hl=>by
  cases hk:mr K k x.1 with
  | true=>exact .inr ⟨0,x,e,by simp[xT,hk],rfl,rfl,hk,by simp[xF,hk],by simp[iu,hk],fun v=>by simp[pD,hk]⟩
  | false=>
   rcases QJ (T:=T) (k:=k) l es (i+1) (by simpa using hl)with ⟨h1,h2,h3,h4⟩|⟨j,y,f,h1,h2,h3,h4,h5,h6,h7⟩
   ·exact .inl ⟨by simp[xT,hk,h1],by simp[xF,hk,h2],by simp[iu,hk,h3],fun v=>by simp[pD,hk,h4 v]⟩
   ·exact .inr ⟨j+1,y,f,by simp[xT,hk,h1]; omega,by simpa using h2,by simpa using h3,h4,by simp[xF,hk,h5],by simp[iu,hk,h6],fun v=>by simp[pD,hk,h7 v]⟩
theorem aau {kx:ad} {d:Value} (r:ay w h c (kC .str kx) d):∃s,d=.string s/\s.data.toList=kx:=by
 obtain ⟨s,h1,h2,_⟩:=ay.gJ (s:=kx) r;exact⟨s,h1,h2⟩
theorem aav {k:IntKind} {n:Int} {d:Value} (r:ay w h c (kC (.int k) n) d):d=.int k n:=(ay.fi (n:=n) r).1
theorem ao0 {a b:ByteArray}:(a==b)=(a.data.toList==b.data.toList):=by
 rw[FQ];rw[bytes_beq];simp only[beq_iff_eq];exact⟨fun e=>by rw[e],fun e=>xP e⟩
theorem JD {kt:Nat} (T:cF P tt) {K:Ty} (hk:tG tt kt K=true) {kx ky:K.den} {d e:Value} (rk:ay w h c (kC K kx) d) (re:ay w h c (kC K ky) e) :
  ∃u,P.underlying kt=some u/\IsKey u d/\IsKey u e/\Instr.sameNow u d e=some (mr K kx ky)/\(mr K kx ky=true->e=d):=by
 unfold tG at hk;split at hk
 ·split at hk
  ·rename_i hd;have hu:P.underlying kt=some .string:=cR T hd;obtain ⟨s,rfl,hs⟩:=aau rk;obtain ⟨t,rfl,ht⟩:=aau re;subst hs; subst ht;refine⟨_,hu,by simp[IsKey],by simp[IsKey],?_,fun he => ?_⟩
   ·simp only[Instr.sameNow,mr,ao0]
   ·have:s.data.toList=t.data.toList:=by simpa [mr]using he
    rw[xP this]
  ·cases hk
 ·rename_i k;split at hk
  ·rename_i k' hd;have e:k'=k:=by simpa using hk
   subst e;have hu:P.underlying kt=some (.int k'):=cR T hd;have e1:=aav rk;have e2:=aav re;subst e1; subst e2;refine⟨_,hu,by simp[IsKey],by simp[IsKey],?_,fun he => ?_⟩
   ·simp[Instr.sameNow,mr]
   ·have h' : @BEq.beq Int _ kx ky=true:=he;have:kx=ky := @eq_of_beq Int _ _ kx ky h';rw[this]
  ·cases hk
 ·cases hk
theorem QK {kt:Nat} (T:cF P tt) {K V':Ty} (hk:tG tt kt K=true) {kx:K.den} {d:Value} (rk:ay w h c (kC K kx) d) {u:TypeDesc} (hu:P.underlying kt=some u) :
  ∀(l:List (K.den×V'.den)) (es:List MapEntry) (i:Nat),es.length=l.length->(∀(j:Nat) (x:K.den×V'.den) (e:MapEntry),l[j]? = some x->es[j]? = some e->ay w h c (kC K x.1) e.key) ->
   Instr.findNow u d es i=some (xT K V' kx l es i)
 | [],[],_,_,_=>rfl
 | [],_::_,_,hl,_=>by cases hl
 | _::_,[],_,hl,_=>by cases hl
 | x::l,e::es,i,hl,hr=>by
  obtain ⟨u',sF,_,_,hs,_⟩:=JD T hk rk (hr 0 x e rfl rfl);rw[hu]at sF; cases sF;have ih:=QK T hk rk hu l es (i+1) (by simpa using hl) fun j y f hy hf=>hr (j+1) y f (by simpa using hy) (by simpa using hf)
  simp only[Instr.findNow,hs];cases hb:mr K kx x.1 with
  | true=>simp[xT,hb]
  | false=>simp[xT,hb,ih]
theorem QL {kt:Nat} {K:Ty} (hk:tG tt kt K=true):K.one=true/\Jq K=true:=by
 cases K<;>first|exact⟨rfl,rfl⟩|(simp[tG]at hk)
theorem aaw {kt:Nat} {K:Ty} (hk:sw tt kt K=true):K.one=true:=by
 cases K<;>first|rfl|(simp[sw]at hk)
theorem QM {k:IntKind} {v:V} {x:Int} (h:iQ k [v]=some x):v=.int k x:=by
 unfold iQ at h;split at h
 ·rename_i e;simp only[Jd,and_true]at e;split at h
  ·rename_i e2; cases h; subst e2; exact e
  ·cases h
 ·cases h
theorem ao1 {v:V} {x:Bool} (h:F2 [v]=some x):v=.bool x:=by
 unfold F2 at h;split at h
 ·rename_i e;simp only[Jd,and_true]at e;cases h; exact e
 ·cases h
theorem ao2 {v:V} {x:ad} (h:F3 [v]=some x):v=.str x:=by
 unfold F3 at h;split at h
 ·rename_i e;simp only[Jd,and_true]at e;cases h; exact e
 ·cases h
theorem QN {K:Ty} {v:V} {x:K.den} (hx:vG K v=some x) (ho:K.one=true):v=kC K x:=by
 have hd:K.dec [v]=some x:=by
  unfold vG at hx;split at hx<;>simp only[ho,cond_true]at hx
  ·cases hx
  ·exact hx
 cases K<;>simp only[Ty.one]at ho<;>(try cases ho)
 ·exact QM hd
 ·exact ao1 hd
 ·exact ao2 hd
theorem ao3 {vt:Nat} {V':Ty} (hv:sw tt vt V'=true):tt.ok vt=true/\tt.isAgg vt=false:=by
 unfold sw at hv;unfold aZ.ok aZ.isAgg;split at hv
 ·split at hv
  ·rename_i hd _; rw[hd]; exact⟨rfl,rfl⟩
  ·cases hv
 ·split at hv
  ·rename_i hd _; rw[hd]; exact⟨rfl,rfl⟩
  ·cases hv
 ·cases hv
theorem ao4 {z:Value} (h:z.oneCell'=true):z.cells.toList=[z]:=by
 cases z<;>simp_all [Value.oneCell',Value.cells]
theorem ao5 (T:cF P tt) {vt:Nat} {V':Ty} (hv:sw tt vt V'=true):∃z,(zeroValue vt).run P w=.ok z w/\ay w h c (kC V' V'.az) z:=by
 obtain ⟨bP,hag⟩:=ao3 hv;obtain ⟨i,z,hi,hs,DN,hz,vN,hr⟩:=T.info vt bP;have h1:=T.QC vt bP i z hi hz;rw[hag]at h1;have h3:=hr w h c;rw[ao4 h1]at h3;refine⟨z,by simp[Go.zeroValue,typeInfo,hi,hz],?_⟩;unfold sw at hv;split at hv
 ·split at hv
  ·rename_i hd QO;rw[QO]at h3;exact h3.head
  ·cases hv
 ·split at hv
  ·rename_i hd QO;have e:_=_:=of_decide_eq_true hv;subst e;rw[QO]at h3;exact h3.head
  ·cases hv
 ·cases hv
theorem ao6 (T:cF P tt) (wf:WF w h c) {t kt vt i:Nat} {K V':Ty} {l:List (K.den×V'.den)} (ht:(tt.at t).d=.map kt vt) {m d:Value} (rm:ay w h c (.map i) m) (hm:h.at i=.gi K V' l)
  (hf:(tG tt kt K&&sw tt vt V')=true) {v:V} (rk:ay w h c v d) {kx:K.den} (hx:vG K v=some kx) (ok:Bool) :
  ∃r,(Instr.lookup t m d ok).run P w=.ok r w/\ay w h c (bif ok then .tuple [kC V' (iu K V' kx l),.bool (xF K V' kx l)]else kC V' (iu K V' kx l)) r:=by
 simp only[bF]at hf;obtain ⟨mZ,QP⟩:=hf;have hi:i<h.length:=by
  unfold aq.at at hm;rcases mo i (av h)with hi|hi
  ·exact hi
  ·simp[ca,List.getElem?_eq_none hi]at hm
 have ho:=wf.obj i hi;rw[hm]at ho;obtain ⟨b,es,clock,g1,g2,g3,g4,g5,g6⟩:=ho;cases rm with
 | map hu hv=>
  obtain ⟨b',rfl,bI⟩:=hv;have:=bI (by rw[hm]; simp);rw[g1]at this; cases this;have Gk:P.underlying t=some (.map kt vt):=cR T ht;have e:=QN hx (QL mZ).1;subst e;have hl:es.toList.length=l.length:=by simpa using g5
  have hr:∀(j:Nat) (x:K.den×V'.den) (e:MapEntry),l[j]? = some x->es.toList[j]? = some e->ay w h c (kC K x.1) e.key:=fun j x e hx he=>(g6 j x e hx (by simpa using he)).1
  obtain ⟨z,hz,rz⟩:=ao5 (w:=w) (h:=h) (c:=c) T QP;have ao7:∃u,P.underlying kt=some u/\IsKey u d:=by
   obtain ⟨u,q1,q2,_⟩:=JD T mZ rk rk;exact⟨u,q1,q2⟩
  obtain ⟨u,sF,JE⟩:=ao7;have xU:=run_findKey (w:=w) sF (QK T mZ rk sF l es.toList 0 hl hr);have BF:=run_checkKey (w:=w) sF JE es.isEmpty 9999;have ka:=Go.MapKept.run_getObj_map (P:=P) g2;rcases QJ (K:=K) (T:=V') (k:=kx) l es.toList 0 hl with ⟨h1,h2,h3,_⟩|⟨j,x,e,h1,h2,h3,h4,h5,h6,_⟩
  ·rw[h1]at xU;rw[h2,h3];refine⟨if ok then .tuple #[z,.bool false]else z,?_,?_⟩
   ·simp[Instr.lookup,run_underlying Gk,ka,BF,xU,hz]
   ·cases ok with
    | true=>
     refine .tuple rfl fun j v d hv hd => ?_
     match j,hv,hd with
     | 0,hv,hd=>simp at hv hd; subst hv; subst hd; exact rz
     | 1,hv,hd=>simp at hv hd; subst hv; subst hd; exact .bool _
     | j+2,hv,_=>simp at hv
    | false=>exact rz
  ·rw[h1]at xU;rw[h5,h6];have re:=(g6 j x e h2 (by simpa using h3)).2;refine⟨if ok then .tuple #[e.val,.bool true]else e.val,?_,?_⟩
   ·simp[Instr.lookup,run_underlying Gk,ka,BF,xU]
   ·cases ok with
    | true=>
     refine .tuple rfl fun j v d hv hd => ?_
     match j,hv,hd with
     | 0,hv,hd=>simp at hv hd; subst hv; subst hd; exact re
     | 1,hv,hd=>simp at hv hd; subst hv; subst hd; exact .bool _
     | j+2,hv,_=>simp at hv
    | false=>exact re
end
end Go.ak
namespace Go.ak
open Go.RowKit
section
variable {P:Program} {tt:aZ} {w:World} {h:aq} {c:bh} {R:Type}
def pK (w:World) (b o:Nat) (ds:List Value):Prop:=∀(j:Nat) (d:Value),ds[j]? = some d->w.cell? ⟨b,o+j,none⟩=some d
theorem JF (T:cF P tt) {t b o off:Nat} {cs:List V} {ds:List Value} (hr:aQ w h c cs ds) (hc:pK w b o ds) {k:V->Option R} {r:R} (hk:jA tt t cs off k=some r) :
  gS P w h c (loadVar t ⟨b,o+off,none⟩) k r:=by
 have bP:=aaq hk;unfold jA at hk;rw[if_pos bP]at hk;split at hk
 ·rename_i tL;split at hk
  ·rename_i bL;have hlen:((ds.drop off).take (tt.at t).size).length=(tt.at t).size:=by have:=hr.1; simp; omega
   have pG:=(hr.drop off).take (tt.at t).size;have vO:=run_loadCells_list (P:=P) w ⟨b,o+off,none⟩ ((ds.drop off).take (tt.at t).size) (fun j v hv=>by
    rw[List.getElem?_take]at hv;split at hv
    ·rw[List.getElem?_drop]at hv;rw[mY,zm];exact hc _ v hv
    ·cases hv)
   rw[hlen]at vO;refine⟨_,.agg ((ds.drop off).take (tt.at t).size).toArray,?_,.agg (by have:=pG.1; simpa using this) (fun j v d hv hd=>pG.2 j v d hv (by simpa using hd)),hk⟩;simp[loadVar,T.isAgg bP,tL,T.sizeOf bP,vO]
  ·cases hk
 ·rename_i tL;split at hk
  ·rename_i v hv;have aX:off<cs.length:=(List.getElem?_eq_some_iff.1 hv).1;have hd:ds[off]? = some (ds[off]'(by have:=hr.1; omega)):=List.getElem?_eq_getElem _;refine⟨v,_,?_,hr.2 off v _ hv hd,hk⟩;simp[loadVar,T.isAgg bP,tL,hc off _ hd]
  ·cases hk
theorem aq.gb {i:Nat} {o:aI} (e:h.at i=o) (hl:o≠.dead):i<h.length:=by
 unfold aq.at at e;rcases mo i (av h)with hi|hi
 ·exact hi
 ·simp[ca,List.getElem?_eq_none hi]at e;exact absurd e.symm hl
theorem foldl_push (ns:List Int):∀s:ByteArray,(ns.foldl (fun(r:ByteArray) n=>r.push (bl n.toNat)) s).data.toList=s.data.toList++ns.map fun n=>bl n.toNat:=by
 induction ns with
 | nil=>intro s; simp
 | cons n ns ih=>intro s; simp only[FO]; rw[ih]; simp[ByteArray.push]
theorem ao8 (wf:WF w h c) {i:Nat} {T':Ty} {l:List T'.den} (he:h.at i=.row T' l) {j:Nat} (hj:j<l.length) :
  ∃b ds,c.cf i=some b/\pK w b (c.off i+j*T'.sz) ds/\aQ w h c (T'.cells l[j]) ds:=by
 have hi:=aq.gb he (by simp);have ho:=wf.obj i hi;rw[he]at ho;rcases ho with ⟨_,rfl⟩|⟨b,arr,e,fz,h1,h2,h3,h4,h5⟩
 ·simp at hj
 ·have hlen:=T'.lR l[j];have hm:(j+1)*T'.sz<=l.length*T'.sz:=iP _ hj;rw[qC]at hm;refine⟨b,(arr.toList.drop (c.off i+j*T'.sz)).take T'.sz,h1,fun x d hd => ?_,?_,fun x v d hv hd => ?_⟩
  ·rw[List.getElem?_take]at hd;split at hd
   ·rw[List.getElem?_drop]at hd;rw[cell_of_row w b _ arr e fz h2];simpa using hd
   ·cases hd
  ·rw[hlen]; simp; omega
  ·obtain ⟨d',g1,g2⟩:=h5 j x l[j] v (List.getElem?_eq_getElem hj) hv;rw[List.getElem?_take]at hd;split at hd
   ·rw[List.getElem?_drop]at hd;have:d'=d:=by
     have e1:arr[c.off i+j*T'.sz+x]? = some d:=by simpa using hd
     rw[g1]at e1; exact aok e1
    subst this;exact g2
   ·cases hd
theorem getD_eq {T':Ty} {l:List T'.den} {j:Nat} (hj:j<l.length):l.getD j T'.az=l[j]:=by simp[ca,List.getElem?_eq_getElem hj]
theorem aax (T:cF P tt) (wf:WF w h c) {t:Nat} {a:V} {a':Value} (ra:ay w h c a a') {lim:Option Nat} {k:V->Option R} {r:R}
  (hk:(match (generalizing:=false) a with
  | .ptr i o=>
   if sA lim i then
    match (generalizing:=false) h.at i with
    | .cells cs=>jA tt t cs o k
    | .bA v=>jA tt t [.undef,v] o k
    | _=>none
   else none
  | .fg cs=>jA tt t cs 0 k
  | .fH i sz j o=>
   if sA lim i then
    match (generalizing:=false) h.at i with
    | .row T l=>if sz=T.sz then ag (decide (j<l.length)) (jA tt t (T.cells (l.getD j T.az)) o k)else none
    | _=>none
   else none
  | _=>none)=some r):gS P w h c (Jg t a') k r:=by
 split at hk
 ·rename_i i o;split at hk
  ·split at hk
   ·rename_i cs he;have hi:=aq.gb he (by simp);have ho:=wf.obj i hi;rw[he]at ho;obtain ⟨b,arr,e,h1,h2,h3⟩:=ho;cases ra with
    | ptr hu hv=>
     obtain ⟨b',rfl,hb⟩:=hv;have bI:=hb (by rw[he]; simp);rw[h1]at bI;cases bI;have:=JF (w:=w) (b:=b) (o:=0) T h3 (fun j d hd=>by
      rw[cell_of_row w b _ arr e _ h2]; simpa using hd) hk
     simpa [gS,Jg,u0]using this
   ·rename_i v he;have hi:=aq.gb he (by simp);have ho:=wf.obj i hi;rw[he]at ho;obtain ⟨b,p,d,h1,h2,_,h3⟩:=ho;cases ra with
    | ptr hu hv=>
     obtain ⟨b',rfl,hb⟩:=hv;have bI:=hb (by rw[he]; simp);rw[h1]at bI;cases bI;have:=JF (w:=w) (b:=b) (o:=0) T (aQ.cons (.undef p) (aQ.cons h3 .nil)) (fun j d hd=>by
      rw[cell_of_row w b _ _ _ _ h2]
      match j,hd with
      | 0,hd=>simpa using hd
      | 1,hd=>simpa using hd
      | j+2,hd=>simp at hd) hk
     simpa [gS,Jg,u0]using this
   ·cases hk
  ·cases hk
 ·rename_i cs;cases ra with
  | @fg _ b o f hc hr=>
   have Af:aQ w h c cs ((jZ cs.length).map f):=by
    refine⟨by simp,fun j v d hv hd => ?_⟩;simp only[List.getElem?_map]at hd;have aX:j<cs.length:=(List.getElem?_eq_some_iff.1 hv).1;rw[List.getElem?_range aX]at hd;simp at hd; subst hd;exact hr j v hv
   have:=JF (w:=w) (b:=b) (o:=o) (off:=0) T Af (fun j d hd=>by
    simp only[List.getElem?_map]at hd;by_cases aX:j<cs.length
    ·rw[List.getElem?_range aX]at hd;simp at hd; subst hd;exact(hc j aX).1
    ·rw[List.getElem?_eq_none (by simp; omega)]at hd; cases hd) hk
   simpa [gS,Jg,u0]using this
 ·rename_i i sz j o;split at hk
  ·split at hk
   ·rename_i T' l he;split at hk
    ·rename_i bL;obtain ⟨hj,hk⟩:=cz hk;simp at hj;rw[getD_eq hj]at hk;obtain ⟨b,ds,h1,h2,h3⟩:=ao8 wf he hj;cases ra with
     | fH hu hv=>
      obtain ⟨a,rfl,hv⟩:=hv;obtain ⟨b',bI,rfl⟩:=hv T' l he bL hj;rw[h1]at bI;cases bI;have:=JF T h3 h2 hk;simpa [gS,Jg,u0]using this
    ·cases hk
   ·cases hk
  ·cases hk
 ·cases hk
theorem ao9 (wf:WF w h c) {i:Nat} {ik:IntKind} {l:List Int} (hl:h.at i=.row (.int ik) l) (aT:l≠[]) :
  ∃b,c.cf i=some b/\pK w b (c.off i) (l.map (u4 ik)):=by
 have hi:=aq.gb hl (by simp);have ho:=wf.obj i hi;rw[hl]at ho;rcases ho with ⟨_,rfl⟩|⟨b,arr,el,fz,p1,p2,p3,p4,p5⟩
 ·exact absurd rfl aT
 ·have p5':∀(n:Nat) (z:Int),l[n]? = some z->arr[c.off i+n]? = some (.int ik z):=fun n z hz=>by
   obtain ⟨d,t1,t2⟩:=p5 n 0 z (.int ik z) hz rfl;rw[t2.fi.1]at t1;simpa [Ty.sz]using t1
  refine⟨b,p1,fun j d hd => ?_⟩;simp only[List.getElem?_map]at hd;cases vS:l[j]? with
  | none=>rw[vS]at hd; cases hd
  | some z=>
   rw[vS]at hd; simp at hd; subst hd;rw[cell_of_row w b _ arr el fz p2];exact p5' j z vS
theorem aay {ik:IntKind} {l:List Int} {t:Tok} {A:Option Addr} {n cap:Nat} (r:ay w h c (.sl (.int ik) l t) (.slice A n cap)) (aT:l≠[]) :
  ∃b o,A=some ⟨b,o,none⟩/\n=l.length/\pK w b o (l.map (u4 ik)):=by
 cases r with
 | sl f cv bQ hc hr iw cQ=>
  have mX:0<l.length:=Ba.2 aT;obtain ⟨b,o,rfl,_⟩:=hc 0 0 mX (by simp[Ty.sz]);refine⟨b,o,rfl,rfl,fun j d hd => ?_⟩;simp only[List.getElem?_map]at hd;cases vS:l[j]? with
  | none=>rw[vS]at hd; cases hd
  | some z=>
   rw[vS]at hd; simp at hd; subst hd;have aX:j<l.length:=(List.getElem?_eq_some_iff.1 vS).1;obtain ⟨b',o',e',g1,_⟩:=hc j 0 aX (by simp[Ty.sz]);cases e';have:=hr j 0 z (.int ik z) vS rfl;rw[this.fi.1]at g1;simpa [Ty.sz]using g1
theorem QQ {s d e:TypeId} (us:P.underlying s=some (.slice e)) (ue:P.underlying e=some (.int .u8)) (ud:P.underlying d=some .string) {l:List Int} {A:Option Addr} {n cap:Nat}
  (hn:n=l.length) (mA:l≠[]->∃b o,A=some ⟨b,o,none⟩/\pK w b o (l.map (u4 .u8))) :
  ∃t,(convert s d (.slice A n cap)).run P w=.ok (.string t) w/\t.data.toList=l.map fun n=>bl n.toNat:=by
 rw[run_convert_bytes_string w s d e A n cap us ue ud];by_cases iT:l=[]
 ·subst iT;subst hn;refine⟨.empty,?_,rfl⟩;cases A with
  | none=>simp[Conv.bytesToString]
  | some a=>
   have xV:=run_loadCells_list (P:=P) w a [] (fun j v hv=>by simp at hv);exact run_bytesToString (P:=P) w a 0 cap [] (by simpa using xV)
 ·obtain ⟨b,o,rfl,hc⟩:=mA iT;have xV:=run_loadCells_list (P:=P) w ⟨b,o,none⟩ (l.map (u4 .u8)) (fun j v hv=>by rw[mY]; exact hc j v hv);rw[oH,<-hn]at xV;exact⟨_,run_bytesToString (P:=P) w ⟨b,o,none⟩ n cap l xV,by rw[foldl_push]; rfl⟩
theorem apa (l:List Int):∀s:ByteArray,(l.foldl (fun r n=>r++Utf8.encode n) s).data.toList=s.data.toList++Dx l:=by
 induction l with
 | nil=>intro s; simp[Dx]
 | cons n l ih=>intro s; simp only[FO]; rw[ih]; simp[Dx]
theorem apb (l:List Int):(Go.runesBytes l).data.toList=Dx l:=by
 unfold Go.runesBytes;rw[apa];simp
theorem apc {s d e:TypeId} (us:P.underlying s=some (.slice e)) (ue:P.underlying e=some (.int .i32)) (ud:P.underlying d=some .string) {l:List Int} {A:Option Addr} {n cap:Nat}
  (hn:n=l.length) (mA:l≠[]->∃b o,A=some ⟨b,o,none⟩/\pK w b o (l.map (u4 .i32))) :
  ∃t,(convert s d (.slice A n cap)).run P w=.ok (.string t) w/\t.data.toList=Dx l/\t.size<=4*l.length:=by
 have hcv:(convert s d (.slice A n cap)).run P w=(Conv.runesToString (.slice A n cap)).run P w:=by
  unfold convert;simp[run_underlying us,run_underlying ue,run_underlying ud]
 rw[hcv];by_cases iT:l=[]
 ·subst iT;subst hn;refine⟨.empty,?_,rfl,by simp⟩;cases A with
  | none=>simp[Conv.runesToString]
  | some a=>
   have xV:=run_loadCells_list (P:=P) w a [] (fun j v hv=>by simp at hv);exact Go.run_runesToString (P:=P) w a 0 cap [] (by simpa using xV)
 ·obtain ⟨b,o,rfl,hc⟩:=mA iT;have xV:=run_loadCells_list (P:=P) w ⟨b,o,none⟩ (l.map (u4 .i32)) (fun j v hv=>by rw[mY]; exact hc j v hv);rw[oH,<-hn]at xV;exact⟨_,Go.run_runesToString (P:=P) w ⟨b,o,none⟩ n cap l xV,apb l,Go.runesBytes_size_le l⟩
theorem apd (T:cF P tt) (wf:WF w h c) {o:Oper} {ρ:Operand->V} {ρ':Operand->Value} (hρ:∀x,ay w h c (ρ x) (ρ' x)) {lim:Option Nat} {k:V->Option R} {r:R}
  (hk:qG tt o.op ρ h lim k=some r):∃v v',(execOp ρ' o).run P w=.ok (.value v') w/\ay w h c v v'/\k v=some r:=by
 obtain ⟨dst,op,type,pos,after,guard⟩:=o;cases op<;>simp only[qG]at hk<;>(try cases hk)
 case load t x=>exact sG (aax T wf (hρ x) hk)
 case lookup t x ix ok=>
  have rx:=hρ x;split at hk<;>(try cases hk);rename_i kt vt i ht hx;rw[hx]at rx;split at hk<;>(try cases hk);split at hk<;>(try cases hk);rename_i K V' l hm;split at hk<;>(try cases hk);rename_i hf;split at hk<;>(try cases hk);rename_i kx xW;obtain ⟨v',g1,g2⟩:=ao6 T wf ht rx hm hf (hρ ix) xW ok;refine⟨_,v',by simp[execOp,g1],g2,?_⟩;cases ok<;>exact hk
 case convert s d x=>
  have rx:=hρ x;split at hk<;>(try cases hk)
  ·rename_i e i n hd hs hx;rw[hx]at rx;split at hk
   ·split at hk<;>(try cases hk);rename_i l he hl;have ud:=cR T hd;have us:=cR T hs;have ue:=cR T he;simp only[TD.Is]at ud us ue;cases rx with
    | row hu hn hv=>
     obtain ⟨A,cap,BG,hA,hv⟩:=hv;obtain ⟨g1,g2,g3,g4⟩:=hv _ _ hl;obtain ⟨t,h1,h2⟩:=QQ (w:=w) (A:=A) (cap:=cap) (l:=l) us ue ud g1 (fun aT=>by
      obtain ⟨b,hb,hc⟩:=ao9 wf hl aT;rcases g4 with ⟨q0,_⟩|⟨b',arr,el,fz,q1,rfl,q2,q3⟩
      ·rw[hb]at q0; cases q0
      ·rw[hb]at q1; cases q1;exact⟨b,_,rfl,hc⟩)
     refine⟨_,.string t,?_,xQ t h2 ?_,hk⟩
     ·simp only[execOp,gZ,BG,h1,hG,px]
     ·refine pw (Nat.le_of_eq (@oH Int UInt8 (l:List Int) _)) ?_;exact(show l.length<=mx from g1▸hn)
   ·cases hk
  ·rename_i e T' l tk hd hs hx;rw[hx]at rx;split at hk<;>(try cases hk)
   ·rename_i l he;have ud:=cR T hd;have us:=cR T hs;have ue:=cR T he;simp only[TD.Is]at ud us ue;obtain ⟨A,cap,hv,cv,bQ⟩:=vP rx;rw[hv]at rx;obtain ⟨t,h1,h2⟩:=QQ (w:=w) (A:=A) (cap:=cap) (l:=l) (n:=av l) us ue ud rfl (fun aT=>by
     obtain ⟨b,o,e1,_,e3⟩:=aay rx aT;exact⟨b,o,e1,e3⟩)
    refine⟨_,.string t,?_,xQ t h2 ?_,hk⟩
    ·simp only[execOp,gZ,hv,h1,hG,px]
    ·refine pw (Nat.le_of_eq (@oH Int UInt8 (l:List Int) _)) ?_;exact pw cv bQ
   ·rename_i l he;obtain ⟨hb,hk⟩:=cz hk;have ud:=cR T hd;have us:=cR T hs;have ue:=cR T he;simp only[TD.Is]at ud us ue;obtain ⟨A,cap,hv,cv,bQ⟩:=vP rx;rw[hv]at rx;obtain ⟨t,h1,h2,h3⟩:=apc (w:=w) (A:=A) (cap:=cap) (l:=l) (n:=av l) us ue ud rfl (fun aT=>by
     obtain ⟨b,o,e1,_,e3⟩:=aay rx aT;exact⟨b,o,e1,e3⟩)
    refine⟨_,.string t,?_,xQ t h2 ?_,hk⟩
    ·simp only[execOp,gZ,hv,h1,hG,px]
    ·rw[<-h2];have bI:4*av (l:List Int)<=9223372036854775807:=of_decide_eq_true hb;refine pw ?_ bI;exact h3
  ·rename_i e hd hs hx;rw[hx]at rx;split at hk<;>(try cases hk);rename_i he;have ud:=cR T hd;have us:=cR T hs;have ue:=cR T he;simp only[TD.Is]at ud us ue;generalize hv:ρ' x=xv at rx;cases rx;obtain ⟨t,h1,h2⟩:=QQ (w:=w) (A:=none) (cap:=0) (l:=[]) (n:=0) us ue ud rfl (fun aT=>(aT rfl).elim);refine⟨_,.string t,?_,xQ t h2 (nQ _),hk⟩;simp only[execOp,gZ,hv,h1,hG,px]
end
end Go.ak
namespace Go.ak
def Wk (u v:V):Prop:=u=v\/∃(T:Ty) (l:List T.den),v=.sl T l .no/\ly T u=some l
inductive fM:List V->List V->Prop where
 | nil:fM [] []
 | cons {u v:V} {us vs:List V} (h:Wk u v) (t:fM us vs):fM (u::us) (v::vs)
theorem Wk.rfl {u:V}:Wk u u:=.inl _root_.rfl
theorem Wk.sl {T:Ty} {u:V} {l:List T.den} (h:ly T u=some l):Wk u (.sl T l .no):=.inr ⟨T,l,_root_.rfl,h⟩
theorem ape (k:IntKind) {cs:List V} {x:Int} (h:iQ k cs=some x):fM cs (Ty.cells (.int k) x):=by
 unfold iQ at h;split at h
 ·split at h
  ·rename_i e; subst e; cases h; exact .cons .rfl .nil
  ·cases h
 ·cases h
theorem apf  {cs:List V} {x:Bool} (h:F2 cs=some x):fM cs (Ty.cells (.bool) x):=by
 unfold F2 at h;split at h
 ·cases h; exact .cons .rfl .nil
 ·cases h
theorem apg  {cs:List V} {x:ad} (h:F3 cs=some x):fM cs (Ty.cells (.str) x):=by
 unfold F3 at h;split at h
 ·cases h; exact .cons .rfl .nil
 ·cases h
theorem aph  {cs:List V} {x:au} (h:P0 cs=some x):fM cs (Ty.cells (.xD) x):=by
 unfold P0 at h;split at h
 ·cases h; exact .cons .rfl (.cons .rfl .nil)
 ·cases h
theorem api  {cs:List V} {x:Json} (h:P1 cs=some x):fM cs (Ty.cells (.json) x):=by
 unfold P1 at h;split at h
 ·split at h
  ·cases h; exact .cons .rfl (.cons .rfl (.cons .rfl (.cons .rfl (.cons (.sl ‹_›) (.cons (.sl ‹_›) .nil)))))
  ·cases h
 ·cases h
theorem apj  {cs:List V} {x:Raw} (h:P2 cs=some x):fM cs (Ty.cells (.raw) x):=by
 unfold P2 at h;split at h
 ·split at h
  ·cases h; exact .cons .rfl (.cons .rfl (.cons .rfl (.cons (.sl ‹_›) (.cons (.sl ‹_›) .nil))))
  ·cases h
 ·cases h
theorem apk  {cs:List V} {x:vn} (h:P3 cs=some x):fM cs (Ty.cells (.zG) x):=by
 unfold P3 at h;split at h
 ·split at h
  ·cases h; exact .cons .rfl (.cons .rfl (.cons .rfl (.cons (.sl ‹_›) .nil)))
  ·cases h
 ·cases h
theorem apl  {cs:List V} {x:vo} (h:P4 cs=some x):fM cs (Ty.cells (.zH) x):=by
 unfold P4 at h;split at h
 ·cases h; exact .cons .rfl (.cons .rfl (.cons .rfl (.cons .rfl (.cons .rfl .nil))))
 ·cases h
theorem apm  {cs:List V} {x:vp} (h:P5 cs=some x):fM cs (Ty.cells (.xE) x):=by
 unfold P5 at h;split at h
 ·cases h; exact .cons .rfl (.cons .rfl (.cons .rfl .nil))
 ·cases h
theorem apn  {cs:List V} {x:Token} (h:P6 cs=some x):fM cs (Ty.cells (.token) x):=by
 unfold P6 at h;split at h
 ·cases h; exact .cons .rfl (.cons .rfl (.cons .rfl (.cons .rfl (.cons .rfl .nil))))
 ·cases h
theorem apo  {cs:List V} {x:Stop} (h:P7 cs=some x):fM cs (Ty.cells (.stop) x):=by
 unfold P7 at h;split at h
 ·cases h; exact .cons .rfl (.cons .rfl (.cons .rfl .nil))
 ·cases h
theorem apq  {cs:List V} {x:Way} (h:P8 cs=some x):fM cs (Ty.cells (.oM) x):=by
 unfold P8 at h;split at h
 ·cases h; exact .cons .rfl (.cons .rfl (.cons .rfl .nil))
 ·cases h
theorem apr  {cs:List V} {x:Order} (h:P9 cs=some x):fM cs (Ty.cells (.order) x):=by
 unfold P9 at h;split at h
 ·split at h
  ·cases h; exact .cons .rfl (.cons .rfl (.cons .rfl (.cons .rfl (.cons (.sl ‹_›) (.cons (.sl ‹_›) .nil)))))
  ·cases h
 ·cases h
theorem aps  {cs:List V} {x:Edge} (h:Qa cs=some x):fM cs (Ty.cells (.pB) x):=by
 unfold Qa at h;split at h
 ·cases h; exact .cons .rfl (.cons .rfl (.cons .rfl .nil))
 ·cases h
theorem apt  {cs:List V} {x:vq} (h:Qb cs=some x):fM cs (Ty.cells (.layout) x):=by
 unfold Qb at h;split at h
 ·split at h
  ·cases h; exact .cons .rfl (.cons (.sl ‹_›) .nil)
  ·cases h
 ·cases h
theorem apu  {cs:List V} {x:vu} (h:Qc cs=some x):fM cs (Ty.cells (.topic) x):=by
 unfold Qc at h;split at h
 ·cases h; exact .cons .rfl (.cons .rfl (.cons .rfl .nil))
 ·cases h
theorem apv  {cs:List V} {x:State} (h:Qd cs=some x):fM cs (Ty.cells (.state) x):=by
 unfold Qd at h;split at h
 ·cases h; exact .cons .rfl (.cons .rfl (.cons .rfl (.cons .rfl (.cons .rfl (.cons .rfl (.cons .rfl (.cons .rfl (.cons .rfl (.cons .rfl .nil)))))))))
 ·cases h
theorem apw  {cs:List V} {x:vv} (h:Qe cs=some x):fM cs (Ty.cells (.zI) x):=by
 unfold Qe at h;split at h
 ·split at h
  ·cases h; exact .cons .rfl (.cons .rfl (.cons .rfl (.cons .rfl (.cons .rfl (.cons .rfl (.cons (.sl ‹_›) (.cons .rfl (.cons .rfl (.cons .rfl (.cons .rfl (.cons .rfl (.cons .rfl (.cons .rfl (.cons .rfl (.cons (.sl ‹_›) (.cons (.sl ‹_›) .nil))))))))))))))))
  ·cases h
 ·cases h
theorem apx  {cs:List V} {x:vw} (h:Qf cs=some x):fM cs (Ty.cells (.zJ) x):=by
 unfold Qf at h;split at h
 ·cases h; exact .cons .rfl (.cons .rfl (.cons .rfl (.cons .rfl (.cons .rfl .nil))))
 ·cases h
theorem apy  {cs:List V} {x:sr} (h:Qg cs=some x):fM cs (Ty.cells (.zK) x):=by
 unfold Qg at h;split at h
 ·split at h
  ·cases h; exact .cons .rfl (.cons .rfl (.cons .rfl (.cons .rfl (.cons .rfl (.cons .rfl (.cons (.sl ‹_›) .nil))))))
  ·cases h
 ·cases h
theorem apz  {cs:List V} {x:vy} (h:Qh cs=some x):fM cs (Ty.cells (.zM) x):=by
 unfold Qh at h;split at h
 ·split at h
  ·cases h; exact .cons .rfl (.cons .rfl (.cons .rfl (.cons .rfl (.cons .rfl (.cons .rfl (.cons .rfl (.cons (.sl ‹_›) (.cons .rfl .nil))))))))
  ·cases h
 ·cases h
theorem apA  {cs:List V} {x:vz} (h:Qi cs=some x):fM cs (Ty.cells (.zN) x):=by
 unfold Qi at h;split at h
 ·split at h
  ·cases h; exact .cons .rfl (.cons .rfl (.cons (.sl ‹_›) .nil))
  ·cases h
 ·cases h
theorem apB  {cs:List V} {x:vA} (h:Qj cs=some x):fM cs (Ty.cells (.zO) x):=by
 unfold Qj at h;split at h
 ·cases h; exact .cons .rfl (.cons .rfl (.cons .rfl .nil))
 ·cases h
theorem apC  {cs:List V} {x:ss} (h:Qk cs=some x):fM cs (Ty.cells (.vF) x):=by
 unfold Qk at h;split at h
 ·cases h; exact .cons .rfl (.cons .rfl .nil)
 ·cases h
theorem apD  {cs:List V} {x:vB} (h:Ql cs=some x):fM cs (Ty.cells (.zP) x):=by
 unfold Ql at h;split at h
 ·cases h; exact .cons .rfl (.cons .rfl (.cons .rfl (.cons .rfl .nil)))
 ·cases h
theorem apE  {cs:List V} {x:vC} (h:Qm cs=some x):fM cs (Ty.cells (.post) x):=by
 unfold Qm at h;split at h
 ·cases h; exact .cons .rfl (.cons .rfl .nil)
 ·cases h
theorem apF  {cs:List V} {x:vD} (h:Qn cs=some x):fM cs (Ty.cells (.zQ) x):=by
 unfold Qn at h;split at h
 ·cases h; exact .cons .rfl (.cons .rfl (.cons .rfl (.cons .rfl .nil)))
 ·cases h
theorem apG  {cs:List V} {x:vE} (h:Qo cs=some x):fM cs (Ty.cells (.record) x):=by
 unfold Qo at h;split at h
 ·split at h
  ·cases h; exact .cons .rfl (.cons (.sl ‹_›) (.cons .rfl .nil))
  ·cases h
 ·cases h
theorem apH:∀(T:Ty) {cs:List V} {x:T.den},T.dec cs=some x->fM cs (T.cells x)
 | .int k,_,_,h=>ape k h
 | .bool,_,_,h=>apf h
 | .str,_,_,h=>apg h
 | .xD,_,_,h=>aph h
 | .json,_,_,h=>api h
 | .raw,_,_,h=>apj h
 | .zG,_,_,h=>apk h
 | .zH,_,_,h=>apl h
 | .xE,_,_,h=>apm h
 | .token,_,_,h=>apn h
 | .stop,_,_,h=>apo h
 | .oM,_,_,h=>apq h
 | .order,_,_,h=>apr h
 | .pB,_,_,h=>aps h
 | .layout,_,_,h=>apt h
 | .topic,_,_,h=>apu h
 | .state,_,_,h=>apv h
 | .zI,_,_,h=>apw h
 | .zJ,_,_,h=>apx h
 | .zK,_,_,h=>apy h
 | .zM,_,_,h=>apz h
 | .zN,_,_,h=>apA h
 | .zO,_,_,h=>apB h
 | .vF,_,_,h=>apC h
 | .zP,_,_,h=>apD h
 | .post,_,_,h=>apE h
 | .zQ,_,_,h=>apF h
 | .record,_,_,h=>apG h
end Go.ak
namespace Go.ak
open Go.RowKit
section
variable {P:Program} {tt:aZ} {w w':World} {h h':aq} {c c':bh}
theorem iU (h:aq) (i j:Nat) (o:aI):aq.at (h.set i o) j=if i=j/\i<h.length then o else h.at j:=by
 unfold aq.at;simp only[ca,List.getElem?_set];by_cases cG:i=j
 ·subst cG;by_cases hl:i<h.length
  ·simp[hl]
  ·simp[hl]
 ·simp[cG]
theorem dR {i j:Nat} (o:aI) (cG:i≠j):aq.at (h.set i o) j=h.at j:=by rw[iU]; simp[cG]
theorem oQ {i:Nat} (o:aI) (hi:i<h.length):aq.at (h.set i o) i=o:=by rw[iU]; simp[hi]
def bh.put (c:bh) (i:Nat) (b:Option Nat) (o:Nat):bh:=⟨fun j=>if j=i then b else c.cf j,fun j=>if j=i then o else c.off j,c.ext⟩
theorem xX {i j:Nat} (b:Option Nat) (o:Nat) (h:j≠i):(c.put i b o).cf j=c.cf j:=by simp[bh.put,h]
theorem DO {i j:Nat} (b:Option Nat) (o:Nat) (h:j≠i):(c.put i b o).off j=c.off j:=by simp[bh.put,h]
theorem fB (i:Nat) (b:Option Nat) (o:Nat):(c.put i b o).cf i=b:=by simp[bh.put]
theorem iV (i:Nat) (b:Option Nat) (o:Nat):(c.put i b o).off i=o:=by simp[bh.put]
theorem DP {o:aI} (h1:o≠.free) (h2:o≠.dead):o.live:=by cases o<;>simp_all [aI.live]
theorem Gl {o:aI} (h:o.live):o≠.dead:=by rintro rfl; exact h
theorem vT {b:Nat} {o:Obj} (h:w.heap[b]? = some o):b<w.heap.size:=(Array.getElem?_eq_some_iff.1 h).1
theorem gl.lt {i b:Nat} {o:aI} (ho:gl w h c i o) (hl:o.live) (hb:c.cf i=some b):b<w.heap.size:=by
 cases o<;>simp only[aI.live]at hl<;>simp only[gl]at ho
 ·obtain ⟨b',arr,e,h1,h2,_⟩:=ho;rw[h1]at hb; cases hb; exact vT h2
 ·rcases ho with ⟨h1,_⟩|⟨b',arr,e,fz,h1,h2,_⟩
  ·rw[h1]at hb; cases hb
  ·rw[h1]at hb; cases hb; exact vT h2
 ·rcases ho with h1|⟨b',arr,e,fz,h1,h2,_⟩
  ·rw[h1]at hb; cases hb
  ·rw[h1]at hb; cases hb; exact vT h2
 ·obtain ⟨b',bs,h1,h2,_⟩:=ho;rw[h1]at hb; cases hb; exact vT h2
 ·obtain ⟨b',p,d,h1,h2,_⟩:=ho;rw[h1]at hb; cases hb; exact vT h2
 ·obtain ⟨b',es,cl,h1,h2,_⟩:=ho;rw[h1]at hb; cases hb; exact vT h2
theorem gl.eQ (x:Ext w h c w' h' c') {i:Nat} {o:aI} (ho:gl w h c i o) (hb:∀b,c.cf i=some b->w'.heap[b]? = w.heap[b]?) (e1:c'.cf i=c.cf i) (e2:c'.off i=c.off i) :
  gl w' h' c' i o:=by
 have nY:∀b x,c.cf i=some b->w'.frozen? ⟨b,x,none⟩=w.frozen? ⟨b,x,none⟩:=fun b x h=>by simp only[World.frozen?,hb b h]
 cases o<;>simp only[gl]at ho ⊢
 ·obtain ⟨b,arr,e,h1,h2,h3⟩:=ho;exact⟨b,arr,e,e1▸h1,(hb b h1).trans h2,h3.mono x⟩
 ·rcases ho with ⟨h1,h2⟩|⟨b,arr,e,fz,h1,h2,h3,h4,h5⟩
  ·exact .inl ⟨e1▸h1,h2⟩
  ·refine .inr ⟨b,arr,e,fz,e1▸h1,(hb b h1).trans h2,by rw[e2]; exact h3,fun x hx=>by rw[nY b x h1]; exact h4 x hx,fun n j y v hy hv => ?_⟩;obtain ⟨d,g1,g2⟩:=h5 n j y v hy hv;exact⟨d,by rw[e2]; exact g1,g2.mono x⟩
 ·rcases ho with h1|⟨b,arr,e,fz,h1,h2,h3,h4⟩
  ·exact .inl (e1▸h1)
  ·exact .inr ⟨b,arr,e,fz,e1▸h1,(hb b h1).trans h2,by rw[e2]; exact h3,by rw[e2]; exact h4⟩
 ·obtain ⟨b,bs,h1,h2,h3⟩:=ho;exact⟨b,bs,e1▸h1,(hb b h1).trans h2,h3⟩
 ·obtain ⟨b,p,d,h1,h2,h3,h4⟩:=ho;exact⟨b,p,d,e1▸h1,(hb b h1).trans h2,h3,h4.mono x⟩
 ·obtain ⟨b,es,cl,h1,h2,h3,h4,h5,h6⟩:=ho;exact⟨b,es,cl,e1▸h1,(hb b h1).trans h2,h3,h4,h5,fun j q e hq he=>⟨(h6 j q e hq he).1.mono x,(h6 j q e hq he).2.mono x⟩⟩
theorem BH {b x:Nat} (h:w'.heap[b]? = w.heap[b]?):w'.cell? ⟨b,x,none⟩=w.cell? ⟨b,x,none⟩:=by simp only[World.cell?,h]
theorem qO (hb:Below w.heap.size w w') {id:Nat} (hf:h.at id=.free) (ob:aI) {nb:Option Nat} {no:Nat} (hn:∀b,nb=some b->w.heap.size<=b) :
  Ext w h c w' (h.set id ob) (c.put id nb no) where
 os:=hb.os
 tape:=hb.tape
 output:=hb.output
 size:=hb.size
 used:=fun i hi=>by
  have aT:id≠i:=by rintro rfl; exact hi.2 hf
  exact⟨by simpa using hi.1,by rw[dR _ aT]; exact hi.2⟩
 same:=fun i hi hd=>by
  have aT:id≠i:=by rintro rfl; exact hi.2 hf
  rw[dR _ aT]at hd ⊢;refine⟨?_,xX _ _ (dX aT),DO _ _ (dX aT)⟩;have h2:=hi.2
  revert hd h2
  cases h.at i<;>simp[aI.aW]
 cell:=fun b x hx _=>BH (hb.block b hx)
 block:=fun b hx _=>hb.block b hx
 gI:=fun b x hx ho=>by
  obtain ⟨i,f,h1,h2,h3⟩:=ho;by_cases aT:id=i
  ·subst aT;rw[fB]at h1;have:=hn b h1;omega
  ·rw[xX _ _ (dX aT)]at h1;rw[dR _ aT,DO _ _ (dX aT)]at h2;exact⟨i,f,h1,h2,h3⟩
 ext:=rfl
 arr:=fun b arr e fz hx=>⟨arr,fz,by rw[hb.block b (vT hx)]; exact hx,rfl⟩
theorem WF.pL (wf:WF w h c) {h':aq} {c':bh} (x:Ext w h c w' h' c'):Laid w' h' c':=
 ⟨dL.eQ w w' (fun b hb=>x.block b (wf.lay.2 b hb).1 (wf.lay.2 b hb).2) wf.lay.1,
  fun b hb=>⟨xw (wf.lay.2 b hb).1 x.size,fun y ho=>(wf.lay.2 b hb).2 y (x.gI b y (wf.lay.2 b hb).1 ho)⟩⟩
theorem sH (wf:WF w h c) (hb:Below w.heap.size w w') {id:Nat} (hid:id<h.length) (hf:h.at id=.free) {ob:aI} {nb:Option Nat} {no:Nat} (hn:∀b,nb=some b->w.heap.size<=b)
  (dm:gl w' (h.set id ob) (c.put id nb no) id ob):WF w' (h.set id ob) (c.put id nb no):=by
 have x:=qO (h:=h) (c:=c) hb hf ob (no:=no) hn;constructor
 ·intro b y ho he;have aX:b<w.heap.size:=wf.hP b y he;exact wf.hM b y (x.gI b y aX ho) he
 ·intro b y he;exact xw (wf.hP b y he) hb.size
 ·intro i hi;by_cases aT:id=i
  ·subst aT; rw[oQ _ hid]; exact dm
  ·rw[dR _ aT];by_cases hl:(h.at i).live
   ·have ho:=wf.obj i (by simpa using hi);exact ho.eQ x (fun b pM=>hb.block b (ho.lt hl pM)) (xX _ _ (dX aT)) (DO _ _ (dX aT))
   ·revert hl; cases h.at i<;>simp[aI.live,gl]
 ·intro i j b hi hj h1 h2;have aX:∀k,id≠k->(aq.at (h.set id ob) k).live->(c.put id nb no).cf k=some b->b<w.heap.size:=by
   intro k aT hl pM;rw[dR _ aT]at hl;rw[xX _ _ (dX aT)]at pM;exact(wf.obj k (aq.gb rfl (Gl hl))).lt hl pM
  by_cases h3:id=i<;>by_cases h4:id=j
  ·exact h3.symm.trans h4
  ·subst h3;rw[fB]at h1;have:=hn b h1;have:=aX j h4 hj h2;omega
  ·subst h4;rw[fB]at h2;have:=hn b h2;have:=aX i h3 hi h1;omega
  ·rw[dR _ h3]at hi;rw[dR _ h4]at hj;rw[xX _ _ (dX h3)]at h1;rw[xX _ _ (dX h4)]at h2;exact wf.inj i j b hi hj h1 h2
 ·exact wf.pL x
theorem aaz {T:Ty} {v:V} {d:Value} (r:ay w h c v d) {l:List T.den} (hs:ly T v=some l):ay w h c (.sl T l .no) d:=by
 unfold ly at hs;split at hs
 ·cases hs;cases r;exact .sl (fun _ _=>undef) (cD _) (by unfold mx; exact nQ _) (fun i j hi=>by simp at hi) (fun i j x v hx=>by simp at hx) (by simp) (by simp)
 ·rename_i T' l' t;split at hs
  ·rename_i e;subst e;cases hs;cases r with
   | sl f cv bQ hc hr iw cQ=>exact .sl f cv bQ hc hr (by simp) (by simp)
  ·cases hs
 ·cases hs
theorem Wk.rep {u v:V} {d:Value} (k:Wk u v) (r:ay w h c u d):ay w h c v d:=by
 rcases k with rfl|⟨T,l,rfl,e⟩
 ·exact r
 ·exact aaz r e
theorem fM.rep {us vs:List V} (k:fM us vs):∀ {ds:List Value},aQ w h c us ds->aQ w h c vs ds:=by
 induction k with
 | nil=>exact fun r=>r
 | cons a _ ih=>
  intro ds r;cases ds with
  | nil=>have:=r.1; simp at this
  | cons d ds=>exact .cons (a.rep r.head) (ih r.tail)
theorem DQ {T:Ty} {cs:List V} {x:T.den} (hx:T.dec cs=some x) {ds:List Value} (r:aQ w h c cs ds):aQ w h c (T.cells x) ds:=(apH T hx).rep r
end
section
variable {P:Program} {tt:aZ} {w:World} {h:aq} {c:bh} {R:Type}
def BI (P:Program) (w:World) (h:aq) (c:bh) (s:Sem Value) (ob:aI) (mk:Nat->V):Prop:=
 ∀id,id<h.length->h.at id=.free->∃v' w' c',s.run P w=.ok v' w'/\WF w' (h.set id ob) c'/\Ext w h c w' (h.set id ob) c'/\ay w' (h.set id ob) c' (mk id) v'
theorem xY (w:World) (o:Obj):Below w.heap.size w (w.alloc o):=(oI _ _).alloc (cD _) o
theorem tM {id:Nat} (hid:id<h.length) {ob:aI} (ho:ob≠.free):Used (h.set id ob) id:=⟨by simpa using hid,by rw[oQ _ hid]; exact ho⟩
theorem aaA (wf:WF w h c) {cs:List V} {ds:Array Value} (r:aQ w h c cs ds.toList) (e:TypeId) {s:Sem Value} (cS:s.run P w=.ok (.pointer (some ⟨w.heap.size,0,none⟩)) (w.alloc (.cells ds e))) :
  BI P w h c s (.cells cs) fun i=>.ptr i 0:=by
 intro id hid hf;have hb:=xY w (.cells ds e);have hn:∀b,some w.heap.size=some b->w.heap.size<=b:=by intro b hb; cases hb; exact cD _
 have x:=qO (h:=h) (c:=c) hb hf (.cells cs) (no:=0) hn;have dm:gl (w.alloc (.cells ds e)) (h.set id (.cells cs)) (c.put id (some w.heap.size) 0) id (.cells cs):=by
  refine⟨w.heap.size,ds,e,fB _ _ _,heap_alloc_new w _,r.mono x⟩
 exact⟨_,_,_,cS,sH wf hb hid hf hn dm,x,.ptr (tM hid (by simp)) ⟨w.heap.size,rfl,fun _=>fB _ _ _⟩⟩
theorem aaB (n:Nat):∀(m:Nat) (l:List V) (i:Nat),i<m->(chunks n m l)[i]? = some ((l.drop (i*n)).take n)
 | m+1,l,0,_=>by simp[chunks]
 | m+1,l,i+1,h=>by
  simp only[chunks,List.getElem?_cons_succ];rw[aaB n m (l.drop n) i (by omega),py];congr 3;rw[qC]; omega
theorem DR (n:Nat):∀(m:Nat) (l:List V),(chunks n m l).length=m
 | 0,_=>rfl
 | m+1,l=>by simp[chunks,DR n m]
theorem DS {T:Ty}:∀ {Gm:List (List V)} {l:List T.den},nT T Gm=some l->l.length=Gm.length
 | [],l,hd=>by simp[nT]at hd; subst hd; rfl
 | c::cs,l,hd=>by
  simp only[nT]at hd;split at hd
  ·cases hd; rename_i h1 h2; simp[DS h2]
  ·cases hd
theorem aaC {T:Ty}:∀ {Gm:List (List V)} {l:List T.den},nT T Gm=some l->∀(i:Nat) (x:T.den),l[i]? = some x->∃cs,Gm[i]? = some cs/\T.dec cs=some x
 | [],l,hd,i,x,hx=>by simp[nT]at hd; subst hd; simp at hx
 | c::cs,l,hd,i,x,hx=>by
  simp only[nT]at hd;split at hd
  ·cases hd;rename_i y ys h1 h2;cases i with
   | zero=>simp at hx; subst hx; exact⟨c,rfl,h1⟩
   | succ i=>simp at hx; exact aaC h2 i x hx
  ·cases hd
theorem aaD {T:Ty} {n:Nat} {cs:List V} {ds:List Value} (r:aQ w h c cs ds) {l:List T.den} (hd:nT T (chunks T.sz n cs)=some l) :
  ∀(i j:Nat) (x:T.den) (v:V),l[i]? = some x->(T.cells x)[j]? = some v->ay w h c v (ds.getD (i*T.sz+j) undef):=by
 intro i j x v hx hv;have hl:=DS hd;rw[DR]at hl;have hi:i<l.length:=(List.getElem?_eq_some_iff.1 hx).1;obtain ⟨cs',h1,h2⟩:=aaC hd i x hx;rw[aaB _ _ _ _ (by omega)]at h1;cases h1;have rr:=DQ h2 ((r.drop (i*T.sz)).take T.sz);have hj:j<(T.cells x).length:=(List.getElem?_eq_some_iff.1 hv).1;rw[T.lR]at hj;have hlen:=rr.1;rw[T.lR]at hlen;have qN:((ds.drop (i*T.sz)).take T.sz)[j]? = some (((ds.drop (i*T.sz)).take T.sz)[j]'(by omega)):=List.getElem?_eq_getElem _;have:=rr.2 j v _ hv qN;have e:ds.getD (i*T.sz+j) undef=((ds.drop (i*T.sz)).take T.sz)[j]'(by omega):=by
  rw[List.getElem?_take,if_pos hj,List.getElem?_drop]at qN;simp[ca,qN]
 rw[e]; exact this
theorem apI (z:Array Value) (m:Nat):(madeCells z (z.size+m)).toList=z.toList++(madeCells z m).toList:=by
 simp only[madeCells,ZN,Array.toList_range,List.range_add,ZO,Jf];congr 1
 ·apply List.ext_getElem
  ·simp
  ·intro i h1 h2;simp only[oH,List.length_range]at h1;simp[u6 h1,getElem!_pos z i h1]
 ·apply xy;intro k _;simp
theorem aaE {zs:List V} {z:Array Value} (r:aQ w h c zs z.toList):∀n:Nat,aQ w h c (jx n zs).flatten (madeCells z (n*z.size)).toList
 | 0=>by simp[madeCells]; exact .nil
 | n+1=>by
  have e:(n+1)*z.size=z.size+n*z.size:=by rw[qC]; omega
  rw[e,apI z _,List.replicate_succ,ZP];exact r.append (aaE r n)
theorem QR (wf:WF w h c) {id:Nat} (ob:aI) (no x:Nat) (hx:∀f,ob.from_ no=some f->¬f<=x) (hid:id<h.length):nW (h.set id ob) (c.put id (some w.heap.size) no) w.heap.size x:=by
 refine⟨?_,fun he=>Nat.lt_irrefl _ (wf.hP _ _ he)⟩
 rintro ⟨i,f,h1,h2,h3⟩
 by_cases aT:id=i
 ·subst aT;rw[oQ _ hid,iV]at h2;exact hx f h2 h3
 ·rw[dR _ aT,DO _ _ (dX aT)]at h2;rw[xX _ _ (dX aT)]at h1;have hl:(h.at i).live:=by revert h2; cases h.at i<;>simp[aI.from_,aI.live]
  have:=(wf.obj i (aq.gb rfl (Gl hl))).lt hl h1;omega
theorem apJ (wf:WF w h c) {T:Ty} {n:Nat} {cs:List V} {ds:Array Value} (r:aQ w h c cs ds.toList) {l:List T.den} (hd:nT T (chunks T.sz n cs)=some l) (bL:ds.size=n*T.sz) (hn:n<=mx)
  (e:TypeId) (oR:By T 0 e) {s:Sem Value} (cS:s.run P w=.ok (.slice (some ⟨w.heap.size,0,none⟩) n n) (w.alloc (.cells ds e))) :
  BI P w h c s .tok fun i=>.sl T l (.own i):=by
 intro id hid hf;have hb:=xY w (.cells ds e);have gm:∀b,some w.heap.size=some b->w.heap.size<=b:=by intro b hb; cases hb; exact cD _
 have x:=qO (h:=h) (c:=c) hb hf .tok (no:=n*T.sz) gm;have hl:l.length=n:=by rw[DS hd,DR]
 have hQ:=heap_alloc_new w (.cells ds e);have dm:gl (w.alloc (.cells ds e)) (h.set id .tok) (c.put id (some w.heap.size) (n*T.sz)) id .tok:=by
  refine .inr ⟨w.heap.size,ds,e,(0,0),fB _ _ _,hQ,by rw[iV]; omega,.inl rfl⟩
 have Ai:=aaD (r.mono x) hd;refine⟨_,_,_,cS,sH wf hb hid hf gm dm,x,?_⟩;subst hl;refine .sl (fun i j=>ds.toList.getD (i*T.sz+j) undef) (cD _) hn (fun i j hi hj=>⟨w.heap.size,0,rfl,?_,?_⟩) Ai (by simp) (fun i he => ?_)
 ·have aX:i*T.sz+j<ds.size:=by
   have:=iP T.sz hi;rw[oG]at this; omega
  rw[mq,cell_of_row _ _ _ _ _ _ hQ];simp[ca,aX]
 ·refine QR wf _ _ _ (fun f qP => ?_) hid;simp[aI.from_]at qP;have:=iP T.sz hi;rw[oG]at this; omega
 ·cases he;refine⟨tM hid (by simp),fun _=>.inr ⟨w.heap.size,0,ds,e,(0,0),fB _ _ _,rfl,by rw[iV,mq],hQ,by omega,oR⟩⟩
theorem aaF (wf:WF w h c) {n sz:Nat} {cs:List V} {ds:Array Value} (r:aQ w h c cs ds.toList) (bL:cs.length=n*sz) (hn:n<=mx)
  (e:TypeId) {s:Sem Value} (cS:s.run P w=.ok (.slice (some ⟨w.heap.size,0,none⟩) n n) (w.alloc (.cells ds e))) :
  BI P w h c s .dead fun _=>.jg n cs:=by
 intro id hid hf;have hb:=xY w (.cells ds e);have gm:∀b,some w.heap.size=some b->w.heap.size<=b:=by intro b hb; cases hb; exact cD _
 have x:=qO (h:=h) (c:=c) hb hf .dead (no:=0) gm;have hQ:=heap_alloc_new w (.cells ds e);refine⟨_,_,_,cS,sH wf hb hid hf gm trivial,x,?_⟩;have r':=r.mono x;have hl:=r.1;refine .jg bL hn (fun j=>ds.toList.getD j undef) (fun j hj=>⟨w.heap.size,0,rfl,?_,?_⟩) (fun j v hv => ?_)
 ·rw[mq,cell_of_row _ _ _ _ _ _ hQ];have aX:j<ds.size:=by simp at hl; omega
  simp[ca,aX]
 ·exact QR wf _ _ _ (fun f qP=>by simp[aI.from_]at qP) hid
 ·have hj:j<cs.length:=(List.getElem?_eq_some_iff.1 hv).1;have aX:j<ds.toList.length:=by omega
  refine r'.2 j v _ hv ?_;simp only[ca,List.getElem?_eq_getElem aX,Bb]
end
section
variable {P:Program} {tt:aZ} {w:World} {h:aq} {c:bh} {R:Type}
theorem BJ {w:World} {b:Nat} {arr:Array Value} {e:TypeId} (hb:w.heap[b]? = some (.cells arr e (0,0))) (x:Nat):w.frozen? ⟨b,x,none⟩=false:=by
 simp[World.frozen?,hb]
theorem apK (wf:WF w h c) {T:Ty} {l:List T.den} {ds:Array Value} {w':World} (hb:Below w.heap.size w w') {e:TypeId} {fz:Nat×Nat} (hQ:w'.heap[w.heap.size]? = some (.cells ds e fz))
  (nY:∀x,(x<ds.size\/T.zR=true)->w'.frozen? ⟨w.heap.size,x,none⟩=false) {cap:Nat} (cv:l.length<=cap) (bQ:cap<=mx) (bL:cap*T.sz<=ds.size)
  (hr:∀(n j:Nat) (x:T.den) (v:V),l[n]? = some x->(T.cells x)[j]? = some v->∃d,ds[n*T.sz+j]? = some d/\ay w h c v d)
  {s:Sem Value} (cS:s.run P w=.ok (.slice (some ⟨w.heap.size,0,none⟩) l.length cap) w') :
  BI P w h c s (.row T l) fun i=>.row i l.length:=by
 intro id hid hf;have gm:∀b,some w.heap.size=some b->w.heap.size<=b:=by intro b hb; cases hb; exact cD _
 have x:=qO (h:=h) (c:=c) hb hf (.row T l) (no:=0) gm;have hm:l.length*T.sz<=cap*T.sz:=iP _ cv;have dm:gl w' (h.set id (.row T l)) (c.put id (some w.heap.size) 0) id (.row T l):=by
  refine .inr ⟨w.heap.size,ds,e,fz,fB _ _ _,hQ,by rw[iV]; omega,nY,fun n j y v hy hv => ?_⟩;obtain ⟨d,h1,h2⟩:=hr n j y v hy hv;exact⟨d,by rw[iV,mq]; exact h1,h2.mono x⟩
 refine⟨_,_,_,cS,sH wf hb hid hf gm dm,x,?_⟩;refine .row (tM hid (by simp)) (by omega) ⟨_,_,rfl,⟨cv,bQ,fun _=>⟨_,rfl⟩⟩,fun T' l' he => ?_⟩;rw[oQ _ hid]at he;cases he;exact⟨rfl,cv,bQ,.inr ⟨w.heap.size,ds,e,fz,fB _ _ _,by rw[iV],hQ,by rw[iV]; omega⟩⟩
theorem QS (wf:WF w h c) {T:Ty} {l:List T.den} {ds:Array Value} {w':World} (hb:Below w.heap.size w w') {e:TypeId} {fz:Nat×Nat} (hQ:w'.heap[w.heap.size]? = some (.cells ds e fz))
  (nY:∀x,(x<ds.size\/T.zR=true)->w'.frozen? ⟨w.heap.size,x,none⟩=false) {cap:Nat} (cv:l.length<=cap) (bQ:cap<=mx) (bL:cap*T.sz<=ds.size)
  (hr:∀(n j:Nat) (x:T.den) (v:V),l[n]? = some x->(T.cells x)[j]? = some v->∃d,ds[n*T.sz+j]? = some d/\∀(w:World) (h:aq) (c:bh),ay w h c v d)
  {s:Sem Value} (cS:s.run P w=.ok (.slice (some ⟨w.heap.size,0,none⟩) l.length cap) w') :
  BI P w h c s (.row T l) fun i=>.row i l.length:=by
 intro id hid hf;have gm:∀b,some w.heap.size=some b->w.heap.size<=b:=by intro b hb; cases hb; exact cD _
 have x:=qO (h:=h) (c:=c) hb hf (.row T l) (no:=0) gm;have hm:l.length*T.sz<=cap*T.sz:=iP _ cv;have dm:gl w' (h.set id (.row T l)) (c.put id (some w.heap.size) 0) id (.row T l):=by
  refine .inr ⟨w.heap.size,ds,e,fz,fB _ _ _,hQ,by rw[iV]; omega,nY,fun n j y v hy hv => ?_⟩;obtain ⟨d,h1,h2⟩:=hr n j y v hy hv;exact⟨d,by rw[iV,mq]; exact h1,h2 _ _ _⟩
 refine⟨_,_,_,cS,sH wf hb hid hf gm dm,x,?_⟩;refine .row (tM hid (by simp)) (by omega) ⟨_,_,rfl,⟨cv,bQ,fun _=>⟨_,rfl⟩⟩,fun T' l' he => ?_⟩;rw[oQ _ hid]at he;cases he;exact⟨rfl,cv,bQ,.inr ⟨w.heap.size,ds,e,fz,fB _ _ _,by rw[iV],hQ,by rw[iV]; omega⟩⟩
theorem apL (T:cF P tt) (wf:WF w h c) {t len:Nat} {parts:Array (Nat×Operand)} {ρ:Operand->V} {ρ':Operand->Value} (hρ:∀x,ay w h c (ρ x) (ρ' x)) {k:aI->(Nat->V)->Option R} {r:R}
  (hk:sB tt (.buildSlice t len parts) ρ k=some r):∃ob mk,k ob mk=some r/\ob≠.free/\BI P w h c (Instr.buildSlice t len (parts.map fun(i,x)=>(i,ρ' x))) ob mk:=by
 simp only[sB]at hk;split at hk
 ·rename_i e hd;split at hk
  ·cases hk
  ·rename_i fL;simp only[je,xx,decide_eq_true_eq,not_or,ZL,Nat.not_lt]at fL;obtain ⟨⟨bL,hsm⟩,bP⟩:=fL;have hu:=cR T hd;simp only[TD.Is]at hu;have QI:=T.sizeOf (w:=w) bP;obtain ⟨z,hz,vN,j7⟩:=T.zero (w:=w) bP;have xS:=aas hρ parts.toList;have aaG:=aaE (w:=w) (h:=h) (c:=c) (j7 w h c) len;rw[vN]at aaG;have key:∀cs,vH ((jx len (tt.at e).zero).flatten) (parts.toList.map fun(i,x)=>(i*(tt.at e).size,(tt.at e).size,ρ x))=some cs ->
     ∃ds:Array Value,aQ w h c cs ds.toList/\ds.size=len*(tt.at e).size /\
      (Instr.buildSlice t len (parts.map fun(i,x)=>(i,ρ' x))).run P w=.ok (.slice (some ⟨w.heap.size,0,none⟩) len len) (w.alloc (.cells ds e)):=by
    intro cs hf;obtain ⟨qM,h1,h2,h3⟩:=JA (w:=w) (h:=h) (c:=c) (fun i=>some (i*(tt.at e).size,(tt.at e).size)) (parts.toList.map fun p=>(p.1,ρ p.2)) (parts.toList.map fun p=>(p.1,ρ' p.2))
     ((jx len (tt.at e).zero).flatten) (madeCells z.cells (len*(tt.at e).size)) cs xS.1 xS.2 aaG (by
      rw[<-hf,Jf];congr 1) (by rw[size_madeCells]; omega)
    rw[size_madeCells]at h3;refine⟨qM,h2,h3,?_⟩;have xZ:¬(len*(tt.at e).size>2 ^ 24):=by omega
    simp only[Instr.buildSlice,gZ,run_underlying hu,hG,QI,if_neg xZ];by_cases iT:len*(tt.at e).size=0
    ·simp only[iT,if_true,ZN];have e0:madeCells z.cells (len*(tt.at e).size) = #[]:=by rw[iT]; simp[madeCells]
     rw[e0]at h1;simp only[Array.range_zero',Array.map_empty];rw[h1];simp[newRow]
    ·simp only[if_neg iT,gZ,hz,hG,px,ZN];have e1:(Array.range (len*(tt.at e).size)).map (z.cells[· % z.cells.size]!)=madeCells z.cells (len*(tt.at e).size):=rfl;rw[e1,h1];simp[newRow]
   split at hk
   ·rename_i cs T' hf Gn;split at hk
    ·rename_i hT;obtain ⟨ds,g1,g2,g3⟩:=key cs hf;split at hk
     ·rename_i iW;simp only[bF,decide_eq_true_eq]at iW;obtain ⟨_,rfl⟩:=iW;have DT:ds.size=0:=by omega
      have hQ:=heap_alloc_new w (.cells ds e);exact⟨_,_,hk,by simp,QS (T:=T') (l:=[]) (cap:=0) wf (xY w _) hQ (fun x _=>BJ hQ x) (cD _) (by unfold mx; omega) (by omega) (fun n j x v hx=>by simp at hx) g3⟩
     split at hk
     ·split at hk<;>(try cases hk);rename_i l hl;rw[<-hT]at hl g2;have hlen:l.length=len:=by rw[DS hl,DR]
      have hQ:=heap_alloc_new w (.cells ds e);have bQ:len<=mx:=by unfold mx; have:len<=len*(tt.at e).size:=FR _ (by omega); omega
      have Ai:=aaD g1 hl;exact⟨_,_,hk,by simp,apK (T:=T') (l:=l) (cap:=l.length) wf (xY w _) hQ (fun x _=>BJ hQ x) (cD _) (by omega) (by rw[hlen]; omega) (fun n j x v hx hv=>by
       have hn:n<l.length:=(List.getElem?_eq_some_iff.1 hx).1;have hj:j<T'.sz:=by rw[<-T'.lR x]; exact(List.getElem?_eq_some_iff.1 hv).1
       have aX:n*T'.sz+j<ds.size:=by
        have:=iP T'.sz (show n+1<=len by omega);rw[oG]at this; omega
       have:=Ai n j x v hx hv;refine⟨_,?_,this⟩;simp[ca,aX]) (by rw[hlen]; exact g3)⟩
     split at hk
     ·rename_i l hl;rw[<-hT]at hl g2;exact⟨_,_,hk,by simp,apJ wf g1 hl g2 (by unfold mx; have:len<=len*(tt.at e).size:=FR _ (by omega); omega) e (fun hT'=>⟨rfl,T.Jz e (by rw[Gn,hT'])⟩) g3⟩
     ·exact⟨_,_,hk,by simp,aaF wf (sz:=(tt.at e).size) g1 (by have:=g1.1; simp at this; omega) (by unfold mx; have:len<=len*(tt.at e).size:=FR _ (by omega); omega) e g3⟩
    ·cases hk
   ·rename_i cs hf Gn;obtain ⟨ds,g1,g2,g3⟩:=key cs hf;exact⟨_,_,hk,by simp,aaF wf (sz:=(tt.at e).size) g1 (by have:=g1.1; simp at this; omega) (by unfold mx; have:len<=len*(tt.at e).size:=FR _ (by omega); omega) e g3⟩
   ·cases hk
 ·cases hk
theorem DU {o:Oper} {ρ':Operand->Value} {s:Sem Value} {ob:aI} {mk:Nat->V} (he:execOp ρ' o=(do pure (.value (<-s)))) (ha:BI P w h c s ob mk) :
  ∀id,id<h.length->h.at id=.free->∃v' w' c',(execOp ρ' o).run P w=.ok (.value v') w'/\WF w' (h.set id ob) c'/\Ext w h c w' (h.set id ob) c'/\ay w' (h.set id ob) c' (mk id) v':=by
 intro id hid hf;obtain ⟨v',w',c',h1,h2⟩:=ha id hid hf;exact⟨v',w',c',by rw[he]; simp[h1],h2⟩
theorem apM (T:cF P tt) {t e:Nat} (hd:(tt.at t).d=.slice e) (bP:tt.ok e=true) {i j:IntKind} {a:Int} (h0:0<=a) (hb:a*(tt.at e).bytes<=140737488355328) (bQ:a<=9223372036854775807) :
  ∃z:Value,z.cells.size=(tt.at e).size/\(∀(w:World) (h:aq) (c:bh),aQ w h c (tt.at e).zero z.cells.toList) /\
   (Instr.makeSlice t (.int i a) (.int j a)).run P w=.ok (.slice (some ⟨w.heap.size,0,none⟩) a.toNat a.toNat) (w.alloc (.cells (madeCells z.cells (a.toNat*(tt.at e).size)) e)):=by
 have hu:=cR T hd;simp only[TD.Is]at hu;obtain ⟨inf,z,hi,hs,DN,hz,vN,hr⟩:=T.info e bP;have cS:=run_make (P:=P) w t e inf z hu hi hz i j a a h0 (Int.le_refl _) (by rw[DN,Int.mul_comm]; omega) bQ;rw[hs]at cS;exact⟨z,by omega,hr,cS⟩
theorem apN {z:Array Value} (n:Nat) {i j:Nat} (hi:i<n) (hj:j<z.size):(madeCells z (n*z.size))[i*z.size+j]? = some (z[j]):=by
 have aX:i*z.size+j<n*z.size:=by
  have:=iP z.size hi;rw[oG]at this; omega
 simp only[madeCells,Array.getElem?_map];rw[Array.getElem?_eq_getElem (by simpa using aX)];simp only[Array.getElem_range,Bc];congr 1;rw[u7,Nat.mul_add_mod,u6 hj,getElem!_pos z j hj]
theorem apO (e:TypeId) (s:ByteArray):∃(cap:Nat) (w':World),(Conv.stringToBytes e s).run P w=.ok (.slice (some ⟨w.heap.size,0,none⟩) s.size cap) w'/\Below w.heap.size w w'/\s.size<=cap/\(s.size<=mx->cap<=mx) /\
  ∃ds:Array Value,w'.heap[w.heap.size]? = some (.cells ds e (ds.size,ds.size+1))/\ds.size=cap/\∀(i:Nat) (b:UInt8),s.data.toList[i]? = some b->ds[i]? = some (.int .u8 b.toNat):=by
 let cap:=(Pp s.size 0 e).cut (w.tape w.drawn (.appendCap s.size 0 e))
 have cv:s.size<=cap:=by simp only[cap,ZQ]; omega
 let ds:Array Value:=(s.data.map fun b=>u4 .u8 b.toNat)++Array.replicate (cap - s.size) (.int .u8 0)
 have DT:ds.size=cap:=by
  simp only[ds,Array.size_append,Array.size_map,Array.size_replicate];have:s.data.size=s.size:=rfl;omega
 refine⟨cap,(w.drew.alloc (.cells ds e)).freeze ⟨w.heap.size,ds.size,none⟩ 1,?_,?_,cv,fun hs => ?_,ds,?_,DT,fun i b hb => ?_⟩
 ·have hf:(Pp s.size 0 e).forced=false:=rfl;simp only[Conv.stringToBytes,gZ,run_choose,hf];simp only[jy,if_false,hG,newRow,gZ,run_newObj,px];have Ae:(w.drew.alloc (.cells ds e)).shape? w.heap.size=some (e,ds.size):=by
   have:=heap_alloc_new w.drew (.cells ds e);simp only[World.shape?];rw[show(w.drew.alloc (.cells ds e)).heap[w.heap.size]? = some (.cells ds e)from this]
  show((markStringish ⟨w.heap.size,0,none⟩).run P (w.drew.alloc (.cells ds e))).andThen _=_;simp only[markStringish,gZ,run_shape,Ae,hG,run_freeze];rfl
 ·refine⟨rfl,rfl,rfl,?_,fun k hk => ?_⟩
  ·have:((w.drew.alloc (.cells ds e)).freeze ⟨w.heap.size,ds.size,none⟩ 1).heap.size=w.heap.size+1:=by simp[Pq]
   omega
  ·simp only[Pq];rw[if_neg (by decide)];simp only[Array.getElem?_modify];rw[if_neg (by show ¬w.heap.size=k; omega)];exact Below.heap_alloc w.drew _ k hk
 ·have aX:w.tape w.drawn (Pp s.size 0 e)%(2 ^ 63 - s.size)<2 ^ 63 - s.size:=xA _ (by unfold mx at hs; omega);simp only[cap,ZQ];unfold mx at hs ⊢;omega
 ·simp only[Pq];rw[if_neg (by decide)];simp only[Array.getElem?_modify];have:=heap_alloc_new w.drew (.cells ds e);rw[show(w.drew.alloc (.cells ds e)).heap[w.heap.size]? = some (.cells ds e)from this];simp
 ·have aX:i<s.data.size:=by
   have:=(List.getElem?_eq_some_iff.1 hb).1;simpa using this
  simp only[ds];rw[Array.getElem?_append_left (by simpa using aX)];simp only[Array.getElem?_map];have:s.data[i]? = some b:=by simpa using hb
  rw[this]; rfl
theorem apP (T:cF P tt) (wf:WF w h c) {o:Oper} {ρ:Operand->V} {ρ':Operand->Value} (hρ:∀x,ay w h c (ρ x) (ρ' x)) {k:aI->(Nat->V)->Option R} {r:R}
  (hk:sB tt o.op ρ k=some r):∃ob mk,k ob mk=some r/\ob≠.free/\∀id,id<h.length->h.at id=.free ->
   ∃v' w' c',(execOp ρ' o).run P w=.ok (.value v') w'/\WF w' (h.set id ob) c'/\Ext w h c w' (h.set id ob) c'/\ay w' (h.set id ob) c' (mk id) v':=by
 obtain ⟨dst,op,type,pos,after,guard⟩:=o;cases op<;>(try simp only[sB]at hk)<;>(try cases hk)
 case alloc t=>
  split at hk
  ·rename_i hb;obtain ⟨rfl,hz0,bP⟩:=T.QB t hb;obtain ⟨z,hz,vN,j7⟩:=T.zero (w:=w) bP;refine⟨_,_,hk,by simp,DU (s:=Instr.alloc dL.bA true (.tuple #[])) rfl ?_⟩;have j7:=j7 w h c;rw[hz0]at j7;have cT:z.cells = #[.pointer none,.slice none 0 0]:=by
    generalize z.cells=q at j7;obtain ⟨l⟩:=q
    match l,j7 with
    | [p,d],j7=>
     have r0:=j7.head;have r1:=j7.tail.head;cases r0; cases r1; rfl
    | [],j7=>have:=j7.1; simp at this
    | [_],j7=>have:=j7.1; simp at this
    | _::_::_::_,j7=>have:=j7.1; simp at this
   intro id hid hf;have aaH:=xY w (.cells #[.pointer none,.slice none 0 0] dL.bA);have hn:∀b,some w.heap.size=some b->w.heap.size<=b:=by intro b hb; cases hb; exact cD _
   have x:=qO (h:=h) (c:=c) aaH hf (.bA .bk) (no:=0) hn;have dm:gl (w.alloc (.cells #[.pointer none,.slice none 0 0] dL.bA)) (h.set id (.bA .bk)) (c.put id (some w.heap.size) 0) id (.bA .bk):=
    ⟨w.heap.size,_,_,fB _ _ _,heap_alloc_new w _,.inl rfl,.bk⟩
   exact⟨_,_,_,by simp[Instr.alloc,hz,newVar,newRow,cT],sH wf aaH hid hf hn dm,x,.ptr (tM hid (by simp)) ⟨w.heap.size,rfl,fun _=>fB _ _ _⟩⟩
  split at hk
  ·rename_i bP;obtain ⟨z,hz,vN,j7⟩:=T.zero (w:=w) bP;exact⟨_,_,hk,by simp,DU (s:=Instr.alloc t true (.tuple #[])) rfl (aaA wf (j7 w h c) t (by simp[Instr.alloc,hz,newVar,newRow]))⟩
  ·cases hk
 case box t x=>
  split at hk
  ·rename_i cs cT;split at hk
   ·obtain ⟨rv,_,_⟩:=QG (hρ x) cT;exact⟨_,_,hk,by simp,DU (s:=Instr.box t (ρ' x)) rfl (aaA wf rv t (by simp[Instr.box,newVar,newRow]))⟩
   ·cases hk
  ·cases hk
 case buildSlice t len parts=>
  obtain ⟨ob,mk,h1,h0,h2⟩:=apL T wf hρ hk;exact⟨ob,mk,h1,h0,DU rfl h2⟩
 case makeSlice t n cc=>
  split at hk
  ·rename_i e i a j b hd hn hc;split at hk
   ·rename_i T' Gn;split at hk
    ·rename_i z hz;split at hk
     ·rename_i ji;simp only[bF,decide_eq_true_eq]at ji;obtain ⟨bL,bP⟩:=ji;obtain ⟨hb,fj⟩:=cz hk;clear hk;simp only[bF,decide_eq_true_eq]at hb;obtain ⟨⟨⟨h0,rfl⟩,DN⟩,bQ⟩:=hb;have rn:=hρ n;have rc:=hρ cc;rw[hn]at rn; rw[hc]at rc;obtain ⟨en,DV,hn2⟩:=rn.fi;obtain ⟨ec,QT,hc2⟩:=rc.fi;obtain ⟨zv,g1,g2,g3⟩:=apM (w:=w) (i:=i) (j:=j) T hd bP h0 DN (by omega);have hQ:=heap_alloc_new w (.cells (madeCells zv.cells (a.toNat*(tt.at e).size)) e);have hs:(Instr.makeSlice t (ρ' n) (ρ' cc)).run P w=.ok (.slice (some ⟨w.heap.size,0,none⟩) (jx a.toNat z).length a.toNat) (w.alloc (.cells (madeCells zv.cells (a.toNat*(tt.at e).size)) e)):=by
       rw[en,ec,g3]; simp
      have:=QS (T:=T') (l:=jx a.toNat z) wf (xY w _) hQ (fun x _=>BJ hQ x) (by simp) (by unfold mx; omega) (by rw[size_madeCells,bL]; exact cD _) (fun n' j' x v hx hv=>by
       simp only[List.getElem?_replicate]at hx;split at hx
       ·rename_i aX;cases hx;have hj:j'<T'.sz:=by rw[<-T'.lR z]; exact(List.getElem?_eq_some_iff.1 hv).1
        have lB:j'<zv.cells.size:=by omega
        have hm:=apN (z:=zv.cells) a.toNat aX lB;rw[g1]at hm;rw[bL];refine⟨_,hm,fun w h c => ?_⟩;exact(DQ hz (g2 w h c)).2 j' v _ hv (by simp[lB])
       ·cases hx) hs
      have e2:(jx a.toNat z).length=a.toNat:=List.length_replicate;rw[e2]at this;exact⟨_,_,fj,by simp,DU (o:=⟨dst,.makeSlice t n cc,type,pos,after,guard⟩) rfl this⟩
     ·cases hk
    ·cases hk
   ·cases hk
  ·cases hk
 case convert s d x=>
  split at hk
  ·rename_i e t hs hd hx;split at hk
   ·rename_i he;have rx:=hρ x;rw[hx]at rx;obtain ⟨bs,hv,rfl,hl⟩:=rx.gJ;have us:=cR T hs;have ud:=cR T hd;have ue:=cR T he;simp only[TD.Is]at us ud ue;obtain ⟨cap,w',g1,g2,g3,g4,ds,g5,g6,g7⟩:=apO (P:=P) (w:=w) e bs;obtain ⟨l,pI⟩:∃l:List Int,l=bs.data.toList.map fun b=>(b.toNat:Int):=⟨_,rfl⟩
    have hlen:l.length=bs.size:=by rw[pI,oH,size_data]
    have ka:∀(n:Nat) (z:Int),l[n]? = some z->∃b:UInt8,bs.data.toList[n]? = some b/\z=b.toNat:=fun n z hz=>by
     rw[pI,List.getElem?_map]at hz;cases hb:bs.data.toList[n]? with
     | none=>rw[hb]at hz; cases hz
     | some b=>rw[hb]at hz; simp at hz; exact⟨b,rfl,hz.symm⟩
    have cS:(convert s d (ρ' x)).run P w=.ok (.slice (some ⟨w.heap.size,0,none⟩) l.length cap) w':=by
     rw[hv,hlen];simp only[convert,gZ,run_underlying us,run_underlying ud,run_underlying ue,hG,g1]
    have:=QS (T:=.int .u8) (l:=l) wf g2 g5 (fun y hy=>by
      have hy:y<_:=hy.resolve_right (by simp[Ty.zR]);simp only[World.frozen?,g5];simp; omega) (cap:=cap) (by show l.length<=cap; omega) (g4 hl) (by simp[Ty.sz]; omega) (fun n j y v hy hv=>by
      obtain ⟨b,h1,rfl⟩:=ka n y hy;have hj:j<1:=by
       have:=(List.getElem?_eq_some_iff.1 hv).1;simpa [Ty.cells]using this
      obtain rfl:j=0:=by omega
      simp[Ty.cells]at hv;subst hv;exact⟨_,by simpa [Ty.sz]using g7 n b h1,fun w h c=>.int (QE _ (fa b))⟩) cS
    have e2:av (α:=Int) l=bs.data.toList.length:=by rw[hlen,size_data]
    refine⟨.row (.int .u8) l,fun i=>.row i (av (α:=Int) l),?_,by simp,DU (o:=⟨dst,.convert s d x,type,pos,after,guard⟩) rfl this⟩;rw[e2,pI]; exact hk
   ·cases hk
  ·cases hk
 case makeMap t zU=>
  split at hk<;>(try cases hk);rename_i BK;split at hk<;>(try cases hk);rename_i kt vt hd;split at hk<;>(try cases hk);rename_i K V' hK hV;split at hk<;>(try cases hk);rename_i hf;simp only[bF]at hf;have hu:=cR T hd;simp only[TD.Is]at hu;refine⟨_,_,hk,by simp,fun id hid JG => ?_⟩;have hb:=xY w (.map #[] 0);have gm:∀b,some w.heap.size=some b->w.heap.size<=b:=by intro b hb; cases hb; exact cD _
  have x':=qO (h:=h) (c:=c) hb JG (.gi K V' []) (no:=0) gm;have dm:gl (w.alloc (.map #[] 0)) (h.set id (.gi K V' [])) (c.put id (some w.heap.size) 0) id (.gi K V' []):=
   ⟨w.heap.size,#[],0,fB _ _ _,heap_alloc_new w _,(QL hf.1).2,aaw hf.2,rfl,fun j q e hq=>by simp at hq⟩
  refine⟨.map (some w.heap.size),_,_,?_,sH wf hb hid JG gm dm,x',.map (tM hid (by simp)) ⟨w.heap.size,rfl,fun _=>fB _ _ _⟩⟩;cases zU with
  | none=>simp[execOp,Instr.makeMap]
  | some x=>
   have rx:=hρ x;unfold F6 at BK;simp only at BK;split at BK
   ·rename_i i n hx;rw[hx]at rx;simp[execOp,Instr.makeMap,run_underlying hu,rx.fi.1,asInt,asIntOf]
   ·cases BK
 case range t x=>
  split at hk
  ·rename_i s hd hx;have rx:=hρ x;rw[hx]at rx;obtain ⟨bs,hv,rfl,hl⟩:=rx.gJ;have hu:=cR T hd;simp only[TD.Is]at hu;refine⟨_,_,hk,by simp,fun id hid hf => ?_⟩;have hb:=xY w (.stringIter bs 0);have gm:∀b,some w.heap.size=some b->w.heap.size<=b:=by intro b hb; cases hb; exact cD _
   have x':=qO (h:=h) (c:=c) hb hf (.iter bs.data.toList 0) (no:=0) gm;have dm:gl (w.alloc (.stringIter bs 0)) (h.set id (.iter bs.data.toList 0)) (c.put id (some w.heap.size) 0) id (.iter bs.data.toList 0):=
    ⟨w.heap.size,bs,fB _ _ _,heap_alloc_new w _,rfl,hl⟩
   refine⟨.pointer (some ⟨w.heap.size,0,none⟩),_,_,?_,sH wf hb hid hf gm dm,x',.ptr (tM hid (by simp)) ⟨w.heap.size,rfl,fun _=>fB _ _ _⟩⟩;simp[execOp,hv,Instr.range,run_underlying hu]
  ·cases hk
end
section
variable {P:Program} {tt:aZ} {w w':World} {h:aq} {c:bh} {R:Type}
structure BL (w w':World) (b:Nat) (cur:Array Value) (e:TypeId) (fz:Nat×Nat):Prop where
 os:w'.os=w.os
 tape:w'.tape=w.tape
 output:w'.output=w.output
 size:w'.heap.size=w.heap.size
 other:∀k,k≠b->w'.heap[k]? = w.heap[k]?
 here:w'.heap[b]? = some (.cells cur e fz)
theorem Gp {w:World} {b:Nat} {arr:Array Value} {e:TypeId} {lo hi:Nat} (hb:w.heap[b]? = some (.cells arr e (lo,hi))) (x:Nat):w.frozen? ⟨b,x,none⟩=(decide (lo<=x)&&decide (x<hi)):=by
 simp[World.frozen?,hb]
theorem apQ {w:World} {b:Nat} {arr:Array Value} {e:TypeId} {fz:Nat×Nat} (hb:w.heap[b]? = some (.cells arr e fz)) {o x:Nat} (hf:fz.1=fz.2\/fz.2<=o) (hx:o<=x):w.frozen? ⟨b,x,none⟩=false:=by
 obtain ⟨lo,hi⟩:=fz;rw[Gp hb];simp only at hf;rcases hf with rfl|hf
 ·by_cases h:lo<=x
  ·simp[h]
  ·simp[h]
 ·have:¬x<hi:=by omega
  simp[this]
theorem Gq (b o:Nat) (e:TypeId) (fz:Nat×Nat):∀(vs:List Value) (i:Nat) (cur:Array Value) (w:World),w.heap[b]? = some (.cells cur e fz)->o+i+vs.length<=cur.size ->
  (∀x,o+i<=x->x<o+i+vs.length->w.frozen? ⟨b,x,none⟩=false)->BB vs ->
  ∃(w':World) (dx:Array Value),(storeCells ⟨b,o,none⟩ vs i).run P w=.ok () w'/\BL w w' b dx e fz/\dx.toList=cur.toList.take (o+i)++vs++cur.toList.drop (o+i+vs.length)
 | [],i,cur,w,hb,_,_,_=>⟨w,cur,by simp[storeCells],⟨rfl,rfl,rfl,rfl,fun _ _=>rfl,hb⟩,by simp⟩
 | v::vs,i,cur,w,hb,hs,hf,h1=>by
  simp only[bj]at hs hf;have hv:v.oneCell'=true:=h1 v (by simp);have aX:o+i<cur.size:=by omega
  have mA:w.cell? ⟨b,o+i,none⟩=some cur[o+i]:=by rw[cell_of_row w b _ cur e fz hb]; exact Array.getElem?_eq_getElem aX
  have nY:=hf (o+i) (cD _) (by omega);have apR:(store ((⟨b,o,none⟩:Addr).add i) v).run P w=.ok () (w.setCell ⟨b,o+i,none⟩ v):=by
   rw[mY,run_store P w _ v _ hv,mA];simp[nY]
  have bI:(w.setCell ⟨b,o+i,none⟩ v).heap[b]? = some (.cells (cur.setIfInBounds (o+i) v) e fz):=by
   simp[World.setCell,Array.getElem?_modify,hb]
  obtain ⟨w',dx,g1,g2,g3⟩:=Gq b o e fz vs (i+1) (cur.setIfInBounds (o+i) v) (w.setCell ⟨b,o+i,none⟩ v) bI (by simp; omega)
   (fun x Gr Gs=>by rw[World.frozen?_setCell]; exact hf x (by omega) (by omega)) (fun d hd=>h1 d (by simp[hd]))
  refine⟨w',dx,?_,⟨g2.os,g2.tape,g2.output,by rw[g2.size]; simp,fun k hk => ?_,g2.here⟩,?_⟩
  ·simp only[storeCells,gZ,apR,hG,g1]
  ·rw[g2.other k hk]; exact heap_setCell_other w _ k v hk
  ·rw[g3];have:=aan [v] 0 (o+i) cur (by simp; omega);simp only[List.zipIdx_cons,List.zipIdx_nil,FO,ZR,zk,List.length_singleton]at this;rw[this];have e1:o+(i+1)=o+i+1:=by omega
   have l1:(cur.toList.take (o+i)++[v]).length=o+i+1:=by simp; omega
   rw[e1,List.take_append_of_le_length (by omega),sk (by omega)];have e2:o+i+1+vs.length=(cur.toList.take (o+i)++[v]).length+vs.length:=by omega
   rw[e2,List.drop_append];have e3:(cur.toList.take (o+i)++[v]).length+vs.length - (cur.toList.take (o+i)++[v]).length=vs.length:=by omega
   rw[e3,gQ (by omega),jf,py];simp only[gG,bj,gg];rw[jf,show o+i+1+vs.length=o+i+(vs.length+1)from by omega]
theorem Gt {i b:Nat} {o':aI} {cur dx:Array Value} {e:TypeId} {fz:Nat×Nat} (hb:c.cf i=some b) (pN:w.heap[b]? = some (.cells cur e fz)) (hw:BL w w' b dx e fz) (bL:dx.size=cur.size)
  (jC:(h.at i).from_ (c.off i)=some 0) (Gu:o'.from_ (c.off i)=some 0) (fW:(h.at i).aW o'):Ext w h c w' (h.set i o') c:=by
 have hi:i<h.length:=aq.gb rfl (aI.DK fW).1;have cQ:∀x,fJ h c b x:=fun x=>⟨i,0,hb,jC,nQ _⟩
 constructor
 ·exact hw.os
 ·exact hw.tape
 ·exact hw.output
 ·rw[hw.size]; exact cD _
 ·intro j hj;by_cases cG:i=j
  ·subst cG;refine⟨by simpa using hj.1,?_⟩;rw[oQ _ hi];intro he; subst he; simp[aI.from_]at Gu
  ·exact⟨by simpa using hj.1,by rw[dR _ cG]; exact hj.2⟩
 ·intro j hj hd;refine⟨?_,rfl,rfl⟩;by_cases cG:i=j
  ·subst cG; rw[oQ _ hi]; exact fW
  ·rw[dR _ cG]at hd ⊢;have h2:=hj.2
   revert hd h2
   cases h.at j<;>simp[aI.aW]
 ·intro b' x hx ho;have aT:b'≠b:=by rintro rfl; exact ho (cQ x)
  exact BH (hw.other b' aT)
 ·intro b' hx ho;have aT:b'≠b:=by rintro rfl; exact ho 0 (cQ 0)
  exact hw.other b' aT
 ·rintro b' x hx ⟨j,f,g1,g2,g3⟩
  by_cases cG:i=j
  ·subst cG;rw[hb]at g1; cases g1;exact cQ x
  ·rw[dR _ cG]at g2;exact⟨j,f,g1,g2,g3⟩
 ·rfl
 ·intro b' arr el fA ha;by_cases aT:b'=b
  ·subst aT;rw[pN]at ha; cases ha;exact⟨dx,fz,hw.here,bL⟩
  ·exact⟨arr,fA,by rw[hw.other b' aT]; exact ha,rfl⟩
theorem vU {o:aI} {f g:Nat} (hf:o.from_ f=some g):o.live:=by revert hf; cases o<;>simp[aI.from_,aI.live]
theorem JH (wf:WF w h c) {i b:Nat} {o':aI} {cur dx:Array Value} {e:TypeId} {fz:Nat×Nat} (hb:c.cf i=some b) (pN:w.heap[b]? = some (.cells cur e fz)) (hw:BL w w' b dx e fz) (bL:dx.size=cur.size)
  (jC:(h.at i).from_ (c.off i)=some 0) (Gu:o'.from_ (c.off i)=some 0) (fW:(h.at i).aW o') (dm:gl w' (h.set i o') c i o'):WF w' (h.set i o') c:=by
 have hi:i<h.length:=aq.gb rfl (aI.DK fW).1;have x:=Gt hb pN hw bL jC Gu fW;have BM:=vU jC;have Gv:∀j,(aq.at (h.set i o') j).live->(h.at j).live:=fun j hj=>by
  by_cases cG:i=j
  ·subst cG; exact BM
  ·rw[dR _ cG]at hj; exact hj
 constructor
 ·intro b' y ho he;exact wf.hM b' y (x.gI b' y (wf.hP b' y he) ho) he
 ·intro b' y he;rw[hw.size]; exact wf.hP b' y he
 ·intro j hj;by_cases cG:i=j
  ·subst cG; rw[oQ _ hi]; exact dm
  ·rw[dR _ cG];by_cases hl:(h.at j).live
   ·refine(wf.obj j (by simpa using hj)).eQ x (fun b' bI=>hw.other b' ?_) rfl rfl
    rintro rfl
    exact cG (wf.inj i j b' BM hl hb bI)
   ·revert hl; cases h.at j<;>simp[aI.live,gl]
 ·intro j k b' hj hk h1 h2;exact wf.inj j k b' (Gv j hj) (Gv k hk) h1 h2
 ·exact wf.pL x
theorem apS {cs vs:List V} {o:Nat} (h:o+vs.length<=cs.length):(sC cs o vs).length=cs.length:=by simp[sC]; omega
theorem aaI {cs vs:List V} {ds us:List Value} (r:aQ w h c cs ds) (s:aQ w h c vs us) (o:Nat):aQ w h c (sC cs o vs) (ds.take o++us++ds.drop (o+us.length)):=by
 unfold sC;rw[s.1];exact((r.take o).append s).append (r.drop _)
theorem apT (wf:WF w h c) {t:Nat} (T:cF P tt) {i o:Nat} {cs vs:List V} {a' y':Value} (ra:ay w h c (.ptr i o) a') (cT:h.at i=.cells cs) (rv:aQ w h c vs y'.cells.toList) (h1:BB y'.cells.toList)
  (bP:tt.ok t=true) (bL:vs.length=(tt.at t).size) (aX:o+vs.length<=cs.length) :
  ∃w',(Jh t a' y').run P w=.ok () w'/\WF w' (h.set i (.cells (sC cs o vs))) c/\Ext w h c w' (h.set i (.cells (sC cs o vs))) c:=by
 have hi:=aq.gb cT (by simp);have ho:=wf.obj i hi;rw[cT]at ho;obtain ⟨b,arr,e,g1,g2,g3⟩:=ho;cases ra with
 | ptr hu hv=>
  obtain ⟨b',rfl,bI⟩:=hv;have:=bI (by rw[cT]; simp);rw[g1]at this; cases this;have hl:=g3.1;simp only[gP]at hl;have vV:=rv.1;obtain ⟨w',dx,k1,k2,k3⟩:=Gq (P:=P) b o e (0,0) y'.cells.toList 0 arr w g2 (by omega) (fun x _ _=>BJ g2 x) h1;have k7:dx.size=arr.size:=by
   rw[<-gP,k3]; simp only[gP,bf,eP,ct]at *; omega
  have jC:(h.at i).from_ (c.off i)=some 0:=by rw[cT]; rfl
  have fW:(h.at i).aW (.cells (sC cs o vs)):=by rw[cT]; exact(apS aX).symm
  have x:=Gt g1 g2 k2 k7 jC rfl fW;refine⟨w',?_,JH wf g1 g2 k2 k7 jC rfl fW ⟨b,dx,e,g1,k2.here,?_⟩,x⟩
  ·simp only[Jh,u0,gZ,px,hG,storeVar,T.sizeOf bP];rw[if_neg (by simp only[gP]at vV; omega)];simp only[k1]
  ·rw[k3];exact aaI (g3.mono x) (rv.mono x) _
theorem apU (wf:WF w h c) {t:Nat} (T:cF P tt) {i:Nat} {u v:V} {a' y':Value} (ra:ay w h c (.ptr i 1) a') (cT:h.at i=.bA u) (rv:aQ w h c [v] y'.cells.toList) (h1:BB y'.cells.toList)
  (bP:tt.ok t=true) (bL:1=(tt.at t).size) :
  ∃w',(Jh t a' y').run P w=.ok () w'/\WF w' (h.set i (.bA v)) c/\Ext w h c w' (h.set i (.bA v)) c:=by
 have hi:=aq.gb cT (by simp);have ho:=wf.obj i hi;rw[cT]at ho;obtain ⟨b,p,d,g1,g2,g3,g4⟩:=ho;cases ra with
 | ptr hu hv=>
  obtain ⟨b',rfl,bI⟩:=hv;have:=bI (by rw[cT]; simp);rw[g1]at this; cases this;have vV:=rv.1;simp only[bj,cu]at vV;obtain ⟨w',dx,k1,k2,k3⟩:=Gq (P:=P) b 1 dL.bA (0,0) y'.cells.toList 0 #[p,d] w g2 (by simp at vV ⊢; omega) (fun x _ _=>BJ g2 x) h1;have k7:dx.size=(#[p,d]:Array Value).size:=by
   rw[<-gP,k3]; simp at vV ⊢; omega
  have jC:(h.at i).from_ (c.off i)=some 0:=by rw[cT]; rfl
  have fW:(h.at i).aW (.bA v):=by rw[cT]; trivial
  have x:=Gt g1 g2 k2 k7 jC rfl fW;refine⟨w',?_,JH wf g1 g2 k2 k7 jC rfl fW ?_,x⟩
  ·simp only[Jh,u0,gZ,px,hG,storeVar,T.sizeOf bP];rw[if_neg (by simp at vV; omega)];simp only[k1]
  ·match hy:y'.cells.toList,vV with
   | [q],_=>
    rw[hy]at k3 rv;have jz:dx = #[p,q]:=by
     apply Array.ext';rw[k3]; rfl
    exact⟨b,p,q,g1,by rw[<-jz]; exact k2.here,g3,rv.head.mono x⟩
theorem apV {T':Ty} (l:List T'.den) (j:Nat) (y:T'.den):(aI.row T' l).aW (.row T' (l.set j y)):=⟨rfl,by simp⟩
theorem apW (wf:WF w h c) {t:Nat} (T:cF P tt) {i n j o:Nat} {T':Ty} {l:List T'.den} {vs:List V} {a' y':Value} (ra:ay w h c (.fH i n j o) a') (iW:h.at i=.row T' l) (rv:aQ w h c vs y'.cells.toList) (h1:BB y'.cells.toList)
  (bP:tt.ok t=true) (hn:n=T'.sz) (bL:vs.length=(tt.at t).size) (hj:j<l.length) (aX:o+vs.length<=(T'.cells (l.getD j T'.az)).length) {y:T'.den} (hy:T'.dec (sC (T'.cells (l.getD j T'.az)) o vs)=some y) :
  ∃w',(Jh t a' y').run P w=.ok () w'/\WF w' (h.set i (.row T' (l.set j y))) c/\Ext w h c w' (h.set i (.row T' (l.set j y))) c:=by
 have hi:=aq.gb iW (by simp);have ho:=wf.obj i hi;rw[iW]at ho;rw[getD_eq hj]at aX hy;have apX:=T'.lR l[j];rcases ho with ⟨_,rfl⟩|⟨b,arr,e,fz,g1,g2,g3,g4,g5⟩
 ·simp at hj
 ·cases ra with
  | fH hu hv=>
   obtain ⟨a,rfl,hv⟩:=hv;obtain ⟨b',bI,rfl⟩:=hv T' l iW hn hj;rw[g1]at bI; cases bI;have vV:=rv.1;have hm:=iP T'.sz hj;rw[oG]at hm;obtain ⟨w',dx,k1,k2,k3⟩:=Gq (P:=P) b (c.off i+j*T'.sz+o) e fz y'.cells.toList 0 arr w g2 (by omega) (fun x _ hx=>g4 x (.inl (by omega))) h1;have k7:dx.size=arr.size:=by
    rw[<-gP,k3]; simp only[gP,bf,eP,ct]at *; omega
   have jC:(h.at i).from_ (c.off i)=some 0:=by rw[iW]; rfl
   have fW:(h.at i).aW (.row T' (l.set j y)):=by rw[iW]; exact apV l j y
   have x:=Gt g1 g2 k2 k7 jC rfl fW;obtain ⟨fl,fh⟩:=fz;refine⟨w',?_,JH wf g1 g2 k2 k7 jC rfl fW (.inr ⟨b,dx,e,(fl,fh),g1,k2.here,by rw[k7]; simpa using g3,fun x hx => ?_,fun n' q z v hz BG => ?_⟩),x⟩
   ·simp only[Jh,u0,gZ,px,hG,storeVar,T.sizeOf bP];rw[if_neg (by simp only[gP]at vV; omega)];simp only[k1]
   ·have:=g4 x (hx.imp (fun h=>by omega) fun h=>h);rw[Gp g2]at this;rw[Gp k2.here]; exact this
   ·have hq:q<T'.sz:=by rw[<-T'.lR z]; exact(List.getElem?_eq_some_iff.1 BG).1
    rw[List.getElem?_set]at hz;have ka:∀p:Nat,dx[p]? = dx.toList[p]? :=fun p=>Array.getElem?_toList.symm
    rw[ka,k3];by_cases hjn:j=n'
    ·subst hjn;rw[if_pos rfl,if_pos hj]at hz;cases hz
     
     have base:aQ w h c (T'.cells l[j]) ((arr.toList.drop (c.off i+j*T'.sz)).take T'.sz):=by
      refine⟨by rw[apX]; simp; omega,fun x v d hv hd => ?_⟩;obtain ⟨d',p1,p2⟩:=g5 j x l[j] v (List.getElem?_eq_getElem hj) hv;rw[List.getElem?_take]at hd;split at hd
      ·rw[List.getElem?_drop]at hd;have e1:arr[c.off i+j*T'.sz+x]? = some d:=by simpa using hd
       rw[p1]at e1; cases e1; exact p2
      ·cases hd
     have sp:=(DQ hy (aaI base rv o)).mono x;have DW:=sp.1;have oP:q<(((arr.toList.drop (c.off i+j*T'.sz)).take T'.sz).take o++y'.cells.toList++((arr.toList.drop (c.off i+j*T'.sz)).take T'.sz).drop (o+y'.cells.toList.length)).length:=by
      rw[<-DW,T'.lR]; exact hq
     refine⟨_,?_,sp.2 q v _ BG (List.getElem?_eq_getElem oP)⟩;rw[<-List.getElem?_eq_getElem oP];simp only[List.getElem?_append,bf,eP,ct,List.getElem?_take,List.getElem?_drop,gP,zk]at *;by_cases c1:q<o
     ·have e1:c.off i+j*T'.sz+q<c.off i+j*T'.sz+o:=by omega
      have e2:c.off i+j*T'.sz+q<min (c.off i+j*T'.sz+o) arr.size:=by omega
      have e3:c.off i+j*T'.sz+q<min (c.off i+j*T'.sz+o) arr.size+y'.cells.size:=by omega
      have e4:q<min o (min T'.sz (arr.size - (c.off i+j*T'.sz))):=by omega
      have e5:q<min o (min T'.sz (arr.size - (c.off i+j*T'.sz)))+y'.cells.size:=by omega
      simp only[e1,e2,e3,e4,e5,c1,hq,if_true]
     ·have m1:min (c.off i+j*T'.sz+o) arr.size=c.off i+j*T'.sz+o:=by omega
      have m2:min o (min T'.sz (arr.size - (c.off i+j*T'.sz)))=o:=by omega
      rw[m1,m2];by_cases c2:q<o+y'.cells.size
      ·have e1:c.off i+j*T'.sz+q<c.off i+j*T'.sz+o+y'.cells.size:=by omega
       have e2:¬c.off i+j*T'.sz+q<c.off i+j*T'.sz+o:=by omega
       have e3:c.off i+j*T'.sz+q - (c.off i+j*T'.sz+o)=q - o:=by omega
       simp only[e1,e2,e3,c1,c2,if_true,if_false]
      ·have e1:¬c.off i+j*T'.sz+q<c.off i+j*T'.sz+o+y'.cells.size:=by omega
       have e3:c.off i+j*T'.sz+o+y'.cells.size+(c.off i+j*T'.sz+q - (c.off i+j*T'.sz+o+y'.cells.size))=c.off i+j*T'.sz+(o+y'.cells.size+(q - (o+y'.cells.size))):=by omega
       have e4:o+y'.cells.size+(q - (o+y'.cells.size))<T'.sz:=by omega
       simp only[e1,e3,e4,c2,if_true,if_false]
    ·rw[if_neg hjn]at hz;obtain ⟨d,p1,p2⟩:=g5 n' q z v hz BG;refine⟨d,?_,p2.mono x⟩;have mz:n'<l.length:=(List.getElem?_eq_some_iff.1 hz).1;have p1':arr.toList[c.off i+n'*T'.sz+q]? = some d:=by simpa using p1
     simp only[gP]at vV;simp only[List.getElem?_append,bf,eP,List.getElem?_take,List.getElem?_drop,gP,zk];rcases mo n' j with apY|hge
     ·have sI:=iP T'.sz apY;rw[oG]at sI;have e1:c.off i+n'*T'.sz+q<c.off i+j*T'.sz+o:=by omega
      have e2:c.off i+n'*T'.sz+q<min (c.off i+j*T'.sz+o) arr.size:=by omega
      have e3:c.off i+n'*T'.sz+q<min (c.off i+j*T'.sz+o) arr.size+y'.cells.size:=by omega
      simp only[e1,e2,e3,if_true]; exact p1'
     ·have sI:=iP T'.sz (show j+1<=n' by omega);rw[oG]at sI;have m1:min (c.off i+j*T'.sz+o) arr.size=c.off i+j*T'.sz+o:=by omega
      have e1:¬c.off i+n'*T'.sz+q<c.off i+j*T'.sz+o+y'.cells.size:=by omega
      have e3:c.off i+j*T'.sz+o+y'.cells.size+(c.off i+n'*T'.sz+q - (c.off i+j*T'.sz+o+y'.cells.size))=c.off i+n'*T'.sz+q:=by omega
      rw[m1];simp only[e1,e3,if_false]; exact p1'
end
section
variable {P:Program} {tt:aZ} {w w':World} {h:aq} {c:bh} {R:Type}
def eh (T:Ty):List T.den->List V
 | []=>[]
 | x::l=>T.cells x++eh T l
theorem pO (T:Ty):∀l:List T.den,(eh T l).length=l.length*T.sz
 | []=>by simp[eh]
 | x::l=>by simp only[eh,bf,T.lR,pO T l,bj,oG]; omega
theorem Gw (T:Ty):∀l m:List T.den,eh T (l++m)=eh T l++eh T m
 | [],m=>rfl
 | x::l,m=>by simp only[gg,eh,Gw T l m,gG]
theorem DX (T:Ty):∀(l:List T.den) (i j:Nat) (x:T.den),l[i]? = some x->j<T.sz->(eh T l)[i*T.sz+j]? = (T.cells x)[j]?
 | [],i,j,x,hx,_=>by simp at hx
 | y::l,0,j,x,hx,hj=>by
  simp at hx; subst hx;simp only[eh,Nat.zero_mul,mq];rw[List.getElem?_append_left (by rw[T.lR]; exact hj)]
 | y::l,i+1,j,x,hx,hj=>by
  simp at hx;simp only[eh];rw[List.getElem?_append_right (by rw[T.lR,oG]; omega),T.lR];rw[show(i+1)*T.sz+j - T.sz=i*T.sz+j from by rw[oG]; omega];exact DX T l i j x hx hj
theorem apZ (T:Ty) (x:T.den):(T.cells x).all V.one=true:=by cases T<;>rfl
theorem aaJ (T:Ty):∀l:List T.den,(eh T l).all V.one=true
 | []=>rfl
 | x::l=>by simp only[eh,List.all_append,apZ,aaJ T l,qD]
theorem aaK {T:Ty} {n:Nat}:∀ {cs:List V} {ds:List Value} {l:List T.den},cs.length=n*T.sz->aQ w h c cs ds->nT T (chunks T.sz n cs)=some l->aQ w h c (eh T l) ds:=by
 induction n with
 | zero=>
  intro cs ds l hl r hd;simp[chunks,nT]at hd;subst hd;have h0:cs=[]:=gH (by simpa using hl);subst h0;exact r
 | succ n ih=>
  intro cs ds l hl r hd;simp only[chunks,nT]at hd;split at hd
  ·rename_i x xs h1 h2;cases hd;rw[oG]at hl;have r1:=DQ h1 (r.take T.sz);have r2:=ih (by simp; omega) (r.drop T.sz) h2;have:=r1.append r2;rw[Dk]at this;exact this
  ·cases hd
theorem aaL {T:Ty} {l:List T.den} {t:Tok} {A:Option Addr} {n cap:Nat} (r:ay w h c (.sl T l t) (.slice A n cap)) :
  ∃ds,aQ w h c (eh T l) ds/\(l≠[]->∃b o,A=some ⟨b,o,none⟩/\pK w b o ds/\∀x,o<=x->x<o+l.length*T.sz->nW h c b x):=by
 cases r with
 | sl f cv bQ hc hr iw cQ=>
  refine⟨(jZ (l.length*T.sz)).map fun k=>f (k / T.sz) (k%T.sz),⟨by simp[pO],fun k v d hv hd => ?_⟩,fun aT => ?_⟩
  ·have hk:k<l.length*T.sz:=by rw[<-pO]; exact(List.getElem?_eq_some_iff.1 hv).1
   have mX:=T.xR;have hi:k / T.sz<l.length:=(Nat.div_lt_iff_lt_mul mX).2 hk;have hj:=xA k mX;have e:k / T.sz*T.sz+k%T.sz=k:=by rw[u7]; exact Nat.div_add_mod _ _
   have:=DX T l (k / T.sz) (k%T.sz) _ (List.getElem?_eq_getElem hi) hj;rw[e]at this;rw[this]at hv;simp only[List.getElem?_map,List.getElem?_range hk,Bc,ij]at hd;subst hd;exact hr _ _ _ v (List.getElem?_eq_getElem hi) hv
  ·have mX:0<l.length:=Ba.2 aT;obtain ⟨b,o,rfl,_⟩:=hc 0 0 mX T.xR;have all:∀k,k<l.length*T.sz->w.cell? ⟨b,o+k,none⟩=some (f (k / T.sz) (k%T.sz))/\nW h c b (o+k):=by
    intro k hk;have hi:k / T.sz<l.length:=(Nat.div_lt_iff_lt_mul T.xR).2 hk;obtain ⟨b',o',e',g1,g2⟩:=hc _ _ hi (xA k T.xR);cases e';have e:k / T.sz*T.sz+k%T.sz=k:=by rw[u7]; exact Nat.div_add_mod _ _
    rw[zm,e]at g1 g2;exact⟨g1,g2⟩
   refine⟨b,o,rfl,fun k d hd => ?_,fun x h1 h2 => ?_⟩
   ·simp only[List.getElem?_map]at hd;by_cases hk:k<l.length*T.sz
    ·rw[List.getElem?_range hk]at hd;simp at hd; subst hd;exact(all k hk).1
    ·rw[List.getElem?_eq_none (by simp; omega)]at hd; cases hd
   ·have:=(all (x - o) (by omega)).2;rw[show o+(x - o)=x from by omega]at this;exact this
theorem Gx {T:Ty} {l:List T.den} {t:Tok} {A:Option Addr} {cap:Nat} {ds:List Value} (r:aQ w h c (eh T l) ds) (cv:l.length<=cap) (bQ:cap<=mx)
  (hA:l≠[]->∃b o,A=some ⟨b,o,none⟩/\pK w b o ds/\∀x,o<=x->x<o+l.length*T.sz->nW h c b x) (iw:t=.nil->A=none/\cap=0)
  (cQ:∀i,t=.own i->Used h i/\(h.at i=.tok ->
    (c.cf i=none/\A=none/\cap=0)\/∃b o arr e fz,c.cf i=some b/\A=some ⟨b,o,none⟩/\c.off i=o+l.length*T.sz /\
     w.heap[b]? = some (.cells arr e fz)/\o+cap*T.sz<=arr.size/\By T o e)):ay w h c (.sl T l t) (.slice A l.length cap):=by
 have hlen:=r.1;rw[pO]at hlen;refine .sl (fun i j=>ds.getD (i*T.sz+j) undef) cv bQ (fun i j hi hj => ?_) (fun i j x v hx hv => ?_) iw cQ
 ·have hk:i*T.sz+j<l.length*T.sz:=by
   have:=iP T.sz hi;rw[oG]at this; omega
  obtain ⟨b,o,e,h1,h2⟩:=hA (by intro e; subst e; simp at hi);refine⟨b,o,e,?_,h2 _ (by omega) (by omega)⟩;rw[zm];refine h1 _ _ ?_;rw[List.getElem?_eq_getElem (by omega)];simp[ca,List.getElem?_eq_getElem (show i*T.sz+j<ds.length by omega)]
 ·have hj:j<T.sz:=by rw[<-T.lR x]; exact(List.getElem?_eq_some_iff.1 hv).1
  have hi:i<l.length:=(List.getElem?_eq_some_iff.1 hx).1;have hk:i*T.sz+j<ds.length:=by
   have:=iP T.sz hi;rw[oG]at this; omega
  have:=DX T l i j x hx hj;refine r.2 (i*T.sz+j) v _ (this.trans hv) ?_;rw[List.getElem?_eq_getElem hk];simp[ca,List.getElem?_eq_getElem hk]
theorem aaM {b o n sz:Nat} {cap:Nat} {ds:List Value} (hl:ds.length=n*sz) (hc:pK w b o ds):(zn sz n (.slice (some ⟨b,o,none⟩) n cap)).run P w=.ok ds.toArray w:=by
 have:=run_loadCells_list (P:=P) w ⟨b,o,none⟩ ds (fun j v hv=>by rw[mY]; exact hc j v hv);rw[hl]at this;simpa [zn]using this
theorem QU {A:Option Addr} {n sz cap:Nat} (hn:n*sz=0):(zn sz n (.slice A n cap)).run P w=.ok #[] w:=by
 cases A with
 | none=>simp[zn]
 | some a=>
  simp only[zn,hn];exact run_loadCells_list (P:=P) w a [] (fun j v hv=>by simp at hv)
theorem JI (T:cF P tt) {t xt e:Nat} (ht:(tt.at t).d=.slice e) (bP:tt.ok e=true) (na:(∃e',P.underlying xt=some (.slice e'))\/P.underlying xt=some .string)
  {A:Option Addr} {n cap m:Nat} {x:Value} {olds news:List Value} (ty:Nat)
  (QV:(Dl x).run P w=.ok m w) (QW:∀W:World,W.heap=w.heap->(zn (tt.at e).size m x).run P W=.ok news.toArray W) (iz:news.length=m*(tt.at e).size) (h1:BB news)
  (holds:olds.length=n*(tt.at e).size) (hold:n≠0->∃b o,A=some ⟨b,o,none⟩/\pK w b o olds) (aJe:n<=cap) (aJf:cap<=mx)
  (hA:(A=none/\cap=0)\/∃b o arr el fz,A=some ⟨b,o,none⟩/\w.heap[b]? = some (.cells arr el fz)/\o+cap*(tt.at e).size<=arr.size/\∀y,o+n*(tt.at e).size<=y->y<arr.size->w.frozen? ⟨b,y,none⟩=false)
  (pP:(n+m)*(tt.at e).bytes<=140737488355328) (bQ:n+m<=mx) :
  (n+m<=cap/\A=none/\m=0/\(Bd #[t,xt] ty #[.slice A n cap,x]).run P w=.ok (.slice A (n+m) cap) w) \/
  (n+m<=cap/\∃b o arr el fz w' dx,A=some ⟨b,o,none⟩/\w.heap[b]? = some (.cells arr el fz)/\o+cap*(tt.at e).size<=arr.size /\
   (Bd #[t,xt] ty #[.slice A n cap,x]).run P w=.ok (.slice A (n+m) cap) w'/\BL w w' b dx el fz /\
   dx.toList=arr.toList.take (o+n*(tt.at e).size)++news++arr.toList.drop (o+n*(tt.at e).size+news.length)) \/
  (∃nZ ds,n+m<=nZ/\nZ<=mx/\ds.size=nZ*(tt.at e).size/\ds.toList.take ((n+m)*(tt.at e).size)=olds++news /\
   (Bd #[t,xt] ty #[.slice A n cap,x]).run P w=.ok (.slice (some ⟨w.heap.size,0,none⟩) (n+m) nZ) (w.drew.alloc (.cells ds e))):=by
 have hu:=cR T ht;simp only[TD.Is]at hu;have hs:=T.sizeOf (w:=w) bP;obtain ⟨inf,z,hi,hsi,DN,hzv,vN,j7⟩:=T.info e bP;have hx:∃d,P.underlying xt=some d/\((∃e',d=.slice e')\/d=.string):=by
  rcases na with ⟨e',hx⟩|hx
  ·exact⟨_,hx,.inl ⟨e',rfl⟩⟩
  ·exact⟨_,hx,.inr rfl⟩
 by_cases Aj:n+m<=cap
 ·rcases hA with ⟨rfl,rfl⟩|⟨b,o,arr,el,fz,rfl,hb,bL,nY⟩
  ·have tN:m=0:=by omega
   subst tN;refine .inl ⟨Aj,rfl,rfl,?_⟩;have JJ:news=[]:=gH (by simpa using iz);have hf:=QW w rfl;subst JJ;rcases na with ⟨e',hx⟩|hx <;>
    simp[Bd,run_underlying hu,run_underlying hx,hs,QV,hf,show n=0 from by omega]
  ·refine .inr (.inl ⟨Aj,b,o,arr,el,fz,?_⟩);have hf:=QW w rfl;obtain ⟨w',dx,k1,k2,k3⟩:=Gq (P:=P) b (o+n*(tt.at e).size) el fz news 0 arr w hb (by
    have:(n+m)*(tt.at e).size<=cap*(tt.at e).size:=iP _ Aj;rw[qC]at this; omega) (fun y h1 h2=>nY y h1 (by
    have:(n+m)*(tt.at e).size<=cap*(tt.at e).size:=iP _ Aj;rw[qC]at this; omega)) h1
   refine⟨w',dx,rfl,hb,bL,?_,k2,by simpa using k3⟩;rcases na with ⟨e',hx⟩|hx <;>
    simp[Bd,run_underlying hu,run_underlying hx,hs,QV,hf,Aj,mY,k1]
 ·refine .inr (.inr ?_)
  let nZ:=(Pp (n+m) cap e).cut (w.tape w.drawn (.appendCap (n+m) cap e))
  have hge:n+m<=nZ:=by simp only[nZ,ZQ]; omega
  have aX:nZ<=mx:=by
   have aX:w.tape w.drawn (Pp (n+m) cap e)%(2 ^ 63 - (n+m))<2 ^ 63 - (n+m):=xA _ (by unfold mx at bQ; omega);simp only[nZ,ZQ];unfold mx at bQ ⊢;omega
  let ds:Array Value:=olds.toArray++news.toArray++ZS z.cells (nZ - (n+m))
  have hzl:(ZS z.cells (nZ - (n+m))).size=(nZ - (n+m))*(tt.at e).size:=by
   simp[ZS]; rw[vN,hsi]
  have DT:ds.size=nZ*(tt.at e).size:=by
   simp only[ds,Array.size_append,List.size_toArray,holds,iz,hzl];rw[<-qC,<-qC];congr 1; omega
  refine⟨nZ,ds,hge,aX,DT,?_,?_⟩
  ·have:ds.toList=(olds++news)++(ZS z.cells (nZ - (n+m))).toList:=by simp[ds]
   rw[this,List.take_append_of_le_length (by simp[holds,iz,qC]),sk (by simp[holds,iz,qC])]
  ·have JK:(zn (tt.at e).size n (.slice A n cap)).run P w.drew=.ok olds.toArray w.drew:=by
    by_cases JJ:n=0
    ·subst JJ;have:olds=[]:=gH (by simpa using holds);subst this;exact QU (by simp)
    ·obtain ⟨b,o,rfl,hc⟩:=hold JJ;exact aaM holds hc
   have hf:=QW w.drew rfl;have ap0:¬(281474976710656<Builtin.nextslicecap (n+m) cap*(tt.at e).bytes):=by
    have:=growslice_fits (need:=n+m) (old:=cap) (by omega) pP;omega
   have ap1:¬(9223372036854775807<((n:Int)+(m:Int))):=by unfold mx at bQ; omega
   have hsd:(sizeOf e).run P w.drew=.ok (tt.at e).size w.drew:=T.sizeOf bP;rcases na with ⟨e',hx⟩|hx <;>
    simp[Bd,run_underlying hu,run_underlying hx,hs,QV,Aj,ap1,typeInfo,hi,DN,ap0,Question.forced,JK,hf,zeroValue,hzv,newRow,ds,nZ]
end
section
variable {P:Program} {tt:aZ} {w w':World} {h:aq} {c:bh} {R:Type}
theorem aaN {i b x:Nat} (ho:fJ (h.set i .dead) c b x):fJ h c b x:=by
 obtain ⟨j,f,g1,g2,g3⟩:=ho;rw[iU]at g2;split at g2
 ·simp[aI.from_]at g2
 ·exact⟨j,f,g1,g2,g3⟩
theorem BN (i:Nat):Ext w h c w (h.set i .dead) c where
 os:=rfl
 tape:=rfl
 output:=rfl
 size:=cD _
 used:=fun j hj=>⟨by simpa using hj.1,by rw[iU]; split; simp; exact hj.2⟩
 same:=fun j hj hd=>by
  rw[iU]at hd ⊢;split
  ·rename_i hc; rw[if_pos hc]at hd; exact absurd rfl hd
  ·rename_i hc;rw[if_neg hc]at hd;refine⟨?_,rfl,rfl⟩;have h2:=hj.2
   revert hd h2
   cases h.at j<;>simp[aI.aW]
 cell:=fun _ _ _ _=>rfl
 block:=fun _ _ _=>rfl
 gI:=fun b x _ ho=>aaN ho
 ext:=rfl
 arr:=fun b arr e fz hb=>⟨arr,fz,hb,rfl⟩
theorem JL (wf:WF w h c) (i:Nat):WF w (h.set i .dead) c where
 lay:=wf.pL (BN i)
 hM:=fun b x ho=>wf.hM b x (aaN ho)
 hP:=wf.hP
 obj:=fun j hj=>by
  rw[iU];split
  ·trivial
  ·exact(wf.obj j (by simpa using hj)).eQ (BN i) (fun _ _=>rfl) rfl rfl
 inj:=fun j k b hj hk h1 h2=>by
  have key:∀j,(aq.at (h.set i .dead) j).live->(h.at j).live:=fun j hj=>by
   rw[iU]at hj;split at hj
   ·exact hj.elim
   ·exact hj
  exact wf.inj j k b (key j hj) (key k hk) h1 h2
theorem QX (w:World) (o:Obj):Below w.heap.size w (w.drew.alloc o):=((oI _ _).drew).alloc (cD _) o
theorem aaO (wf:WF w h c) {id:Nat} (hid:id<h.length) (hf:h.at id=.free) {T:Ty} {l:List T.den} {us:List Value} (r:aQ w h c (eh T l) us) {ds:Array Value} {e:TypeId} (oR:By T 0 e) {cap:Nat}
  (DT:ds.size=cap*T.sz) (QY:ds.toList.take (l.length*T.sz)=us) (cv:l.length<=cap) (bQ:cap<=mx) :
  ∃c',WF (w.drew.alloc (.cells ds e)) (h.set id .tok) c'/\Ext w h c (w.drew.alloc (.cells ds e)) (h.set id .tok) c'/\ay (w.drew.alloc (.cells ds e)) (h.set id .tok) c' (.sl T l (.own id)) (.slice (some ⟨w.heap.size,0,none⟩) l.length cap):=by
 have hb:=QX w (.cells ds e);have gm:∀b,some w.heap.size=some b->w.heap.size<=b:=by intro b hb; cases hb; exact cD _
 have hQ:(w.drew.alloc (.cells ds e)).heap[w.heap.size]? = some (.cells ds e (0,0)):=heap_alloc_new w.drew (.cells ds e);have x:=qO (h:=h) (c:=c) hb hf .tok (no:=l.length*T.sz) gm;have hm:l.length*T.sz<=cap*T.sz:=iP _ cv;have dm:gl (w.drew.alloc (.cells ds e)) (h.set id .tok) (c.put id (some w.heap.size) (l.length*T.sz)) id .tok:=
  .inr ⟨w.heap.size,ds,e,(0,0),fB _ _ _,hQ,by rw[iV]; omega,.inl rfl⟩
 refine⟨_,sH wf hb hid hf gm dm,x,Gx (r.mono x) cv bQ (fun _=>⟨w.heap.size,0,rfl,fun j d hd => ?_,fun y _ hy => ?_⟩) (by simp) (fun i hi => ?_)⟩
 ·rw[mq,cell_of_row _ _ _ _ _ _ hQ];rw[<-QY,List.getElem?_take]at hd;split at hd
  ·simpa using hd
  ·cases hd
 ·refine QR wf _ _ _ (fun f qP => ?_) hid;simp[aI.from_]at qP;omega
 ·cases hi;exact⟨tM hid (by simp),fun _=>.inr ⟨w.heap.size,0,ds,e,(0,0),fB _ _ _,rfl,by rw[iV,mq],hQ,by omega,oR⟩⟩
theorem aaP (wf:WF w h c) {id:Nat} (hid:id<h.length) (hf:h.at id=.free) {T:Ty} {l:List T.den} {us:List Value} (r:aQ w h c (eh T l) us) {ds:Array Value} {e:TypeId} {cap:Nat}
  (DT:ds.size=cap*T.sz) (QY:ds.toList.take (l.length*T.sz)=us) (cv:l.length<=cap) (bQ:cap<=mx) :
  ∃c',WF (w.drew.alloc (.cells ds e)) (h.set id (.row T l)) c'/\Ext w h c (w.drew.alloc (.cells ds e)) (h.set id (.row T l)) c' /\
   ay (w.drew.alloc (.cells ds e)) (h.set id (.row T l)) c' (.row id l.length) (.slice (some ⟨w.heap.size,0,none⟩) l.length cap):=by
 have hb:=QX w (.cells ds e);have gm:∀b,some w.heap.size=some b->w.heap.size<=b:=by intro b hb; cases hb; exact cD _
 have hQ:(w.drew.alloc (.cells ds e)).heap[w.heap.size]? = some (.cells ds e (0,0)):=heap_alloc_new w.drew (.cells ds e);have x:=qO (h:=h) (c:=c) hb hf (.row T l) (no:=0) gm;have hm:l.length*T.sz<=cap*T.sz:=iP _ cv;have r':=r.mono x;have dm:gl (w.drew.alloc (.cells ds e)) (h.set id (.row T l)) (c.put id (some w.heap.size) 0) id (.row T l):=by
  refine .inr ⟨w.heap.size,ds,e,(0,0),fB _ _ _,hQ,by rw[iV]; omega,fun y _=>BJ hQ y,fun n j z v hz hv => ?_⟩;have hj:j<T.sz:=by rw[<-T.lR z]; exact(List.getElem?_eq_some_iff.1 hv).1
  have hn:n<l.length:=(List.getElem?_eq_some_iff.1 hz).1;have aX:n*T.sz+j<l.length*T.sz:=by
   have:=iP T.sz hn;rw[oG]at this; omega
  have hl:=r.1;rw[pO]at hl;have hg:=List.getElem?_eq_getElem (show n*T.sz+j<us.length by omega);refine⟨us[n*T.sz+j]'(by omega),?_,r'.2 _ v _ ((DX T l n j z hz hj).trans hv) hg⟩;rw[iV,mq,<-hg,<-QY,List.getElem?_take,if_pos aX];simp
 refine⟨_,sH wf hb hid hf gm dm,x,.row (tM hid (by simp)) (by omega) ⟨_,_,rfl,⟨cv,bQ,fun _=>⟨_,rfl⟩⟩,fun T' l' he => ?_⟩⟩;rw[oQ _ hid]at he;cases he;exact⟨rfl,cv,bQ,.inr ⟨w.heap.size,ds,e,(0,0),fB _ _ _,by rw[iV],hQ,by rw[iV]; omega⟩⟩
theorem JM (wf:WF w h c) {id:Nat} (hid:id<h.length) (hf:h.at id=.free) {T:Ty} :
  ∃c',WF w (h.set id .tok) c'/\Ext w h c w (h.set id .tok) c'/\ay w (h.set id .tok) c' (.sl T [] (.own id)) (.slice none 0 0):=by
 have gm:∀b,(none:Option Nat)=some b->w.heap.size<=b:=by intro b hb; cases hb
 have x:=qO (h:=h) (c:=c) (oI w.heap.size w) hf .tok (no:=0) gm;refine⟨_,sH wf (oI _ _) hid hf gm (.inl (fB _ _ _)),x,?_⟩;exact Gx (l:=[]) (ds:=[]) aQ.nil (cD _) (by unfold mx; omega) (fun h=>absurd rfl h) (by simp) (fun i hi=>by
  cases hi; exact⟨tM hid (by simp),fun _=>.inl ⟨fB _ _ _,rfl,rfl⟩⟩)
theorem QZ (wf:WF w h c) {id:Nat} (hid:id<h.length) (hf:h.at id=.free) {T:Ty} :
  ∃c',WF w (h.set id (.row T [])) c'/\Ext w h c w (h.set id (.row T [])) c'/\ay w (h.set id (.row T [])) c' (.row id 0) (.slice none 0 0):=by
 have gm:∀b,(none:Option Nat)=some b->w.heap.size<=b:=by intro b hb; cases hb
 have x:=qO (h:=h) (c:=c) (oI w.heap.size w) hf (.row T []) (no:=0) gm;refine⟨_,sH wf (oI _ _) hid hf gm (.inl ⟨fB _ _ _,rfl⟩),x,?_⟩;refine .row (tM hid (by simp)) (by unfold mx; omega) ⟨none,0,rfl,⟨cD _,by unfold mx; omega,fun h=>by omega⟩,fun T' l' he => ?_⟩;rw[oQ _ hid]at he;cases he;exact⟨rfl,cD _,by unfold mx; omega,.inl ⟨fB _ _ _,rfl,rfl⟩⟩
theorem Q0 (s:ad):(Bm s).length=s.length := @oH UInt8 Int s _
theorem aaQ:∀s:ad,eh (.int .u8) (Bm s)=s.map fun b=>V.int .u8 b.toNat
 | []=>rfl
 | b::s=>by
  show V.int .u8 b.toNat::eh (.int .u8) (Bm s)=_;rw[aaQ s]; rfl
theorem JN (wf:WF w h c) {i:Nat} {T:Ty} {l:List T.den} (he:h.at i=.row T l) :
  ∃ds,aQ w h c (eh T l) ds/\(l≠[]->∃b,c.cf i=some b/\pK w b (c.off i) ds):=by
 have hi:=aq.gb he (by simp);have ho:=wf.obj i hi;rw[he]at ho;rcases ho with ⟨_,rfl⟩|⟨b,arr,e,fz,h1,h2,h3,h4,h5⟩
 ·exact⟨[],.nil,fun h=>absurd rfl h⟩
 ·refine⟨(arr.toList.drop (c.off i)).take (l.length*T.sz),⟨by rw[pO]; simp; omega,fun k v d hv hd => ?_⟩,fun _=>⟨b,h1,fun k d hd => ?_⟩⟩
  ·have hk:k<l.length*T.sz:=by rw[<-pO]; exact(List.getElem?_eq_some_iff.1 hv).1
   have hq:k / T.sz<l.length:=(Nat.div_lt_iff_lt_mul T.xR).2 hk;have hj:=xA k T.xR;have e:k / T.sz*T.sz+k%T.sz=k:=by rw[u7]; exact Nat.div_add_mod _ _
   have hg:=DX T l (k / T.sz) (k%T.sz) _ (List.getElem?_eq_getElem hq) hj;rw[e]at hg;rw[hg]at hv;obtain ⟨d',p1,p2⟩:=h5 _ _ _ v (List.getElem?_eq_getElem hq) hv;rw[zm,e]at p1;rw[List.getElem?_take,if_pos hk,List.getElem?_drop]at hd;have e1:arr[c.off i+k]? = some d:=by simpa using hd
   rw[p1]at e1; cases e1; exact p2
  ·rw[List.getElem?_take]at hd;split at hd
   ·rw[List.getElem?_drop]at hd;rw[cell_of_row w b _ arr e fz h2]; simpa using hd
   ·cases hd
theorem aaR (T:Ty):∀(l:List T.den) (n:Nat),eh T (l.take n)=(eh T l).take (n*T.sz)
 | [],n=>by simp[eh]
 | x::l,0=>by simp[eh]
 | x::l,n+1=>by
  have hl:(T.cells x).length=T.sz:=T.lR x;rw[FT];simp only[eh];rw[aaR T l n,show(n+1)*T.sz=(T.cells x).length+n*T.sz by rw[hl,qC]; omega,List.take_append,sk (Nat.le_add_right _ _),Ji]
theorem aaS (T:Ty):∀(l:List T.den) (n:Nat),eh T (l.drop n)=(eh T l).drop (n*T.sz)
 | [],n=>by simp[eh]
 | x::l,0=>by simp[eh]
 | x::l,n+1=>by
  have hl:(T.cells x).length=T.sz:=T.lR x;rw[Pr];simp only[eh];rw[aaS T l n,show(n+1)*T.sz=(T.cells x).length+n*T.sz by rw[hl,qC]; omega,List.drop_append];simp
theorem ap2 {cs:List V} {ds:List Value} (r:aQ w h c cs ds) (n:Nat):aQ w h c (cs.take n) (ds.take n):=
 ⟨by rw[eP,eP,r.1],fun j v d hv hd=>by
  rw[List.getElem?_take]at hv hd;split at hv
  ·rename_i hj;rw[if_pos hj]at hd;exact r.2 j v d hv hd
  ·cases hv⟩
theorem ap3 {cs:List V} {ds:List Value} (r:aQ w h c cs ds) (n:Nat):aQ w h c (cs.drop n) (ds.drop n):=
 ⟨by rw[ct,ct,r.1],fun j v d hv hd=>by
  rw[List.getElem?_drop]at hv hd;exact r.2 _ v d hv hd⟩
theorem ap4 (wf:WF w h c) {T:Ty} {sz:Nat} (bL:T.sz=sz) {v:V} {v':Value} (rv:ay w h c v v') {m:List T.den} (bP:Dy h v=true) (hs:zV T h v=some m) :
  ∃news,(Dl v').run P w=.ok m.length w/\(∀W:World,W.heap=w.heap->(zn sz m.length v').run P W=.ok news.toArray W)/\aQ w h c (eh T m) news/\m.length<=mx:=by
 subst bL;have mA:∀(W:World) (b x:Nat),W.heap=w.heap->W.cell? ⟨b,x,none⟩=w.cell? ⟨b,x,none⟩:=fun W b x hW=>by simp only[World.cell?,hW]
 have key:∀(A:Option Addr) (cap:Nat) (news:List Value),aQ w h c (eh T m) news->(m≠[]->∃b o,A=some ⟨b,o,none⟩/\pK w b o news) ->
   ∀W:World,W.heap=w.heap->(zn T.sz m.length (.slice A m.length cap)).run P W=.ok news.toArray W:=by
  intro A cap news hr hA W hW;have hl:=hr.1;rw[pO]at hl;by_cases hm:m=[]
  ·subst hm;have:news=[]:=gH (by simpa using hl.symm);subst this;exact QU (by simp)
  ·obtain ⟨b,o,rfl,hc⟩:=hA hm;exact aaM hl.symm (fun j d hd=>by rw[mA W _ _ hW]; exact hc j d hd)
 unfold zV at hs;split at hs
 ·cases hs;cases rv;exact⟨[],by simp[Dl],fun W hW=>QU (by simp),.nil,by simp⟩
 ·rename_i T' l t;split at hs
  ·rename_i e;subst e;obtain rfl:l=m:=by simpa using hs
   obtain ⟨A,cap,rfl,h1,h2⟩:=vP rv;obtain ⟨ds,g1,g2⟩:=aaL rv;exact⟨ds,by simp[Dl],key A cap ds g1 (fun aT=>by obtain ⟨b,o,q1,q2,_⟩:=g2 aT; exact⟨b,o,q1,q2⟩),g1,by omega⟩
  ·cases hs
 ·rename_i i n;split at hs
  ·rename_i T' l iW;split at hs
   ·rename_i e;subst e;obtain rfl:l=m:=by simpa using hs
    cases rv with
    | row hu hn hv=>
     obtain ⟨A,cap,rfl,hA,hv⟩:=hv;obtain ⟨g1,g2,g3,g4⟩:=hv _ _ iW;obtain ⟨ds,k1,k2⟩:=JN wf iW;subst g1;exact⟨ds,by simp[Dl],key A cap ds k1 (fun aT=>by
      obtain ⟨b,q1,q2⟩:=k2 aT;rcases g4 with ⟨p1,_⟩|⟨b',arr,el,fz,p1,p2,_⟩
      ·rw[q1]at p1; cases p1
      ·rw[q1]at p1; cases p1;exact⟨b,_,p2,q2⟩),k1,hn⟩
   ·cases hs
  ·cases hs
 ·rename_i i z q n;split at hs
  ·rename_i T' l iW;split at hs
   ·rename_i e;subst e
    ·simp only[Dy,iW,bF,decide_eq_true_eq]at bP;obtain ⟨hz,hq⟩:=bP;obtain rfl:(l.drop q).take n=m:=by simpa using hs
     cases rv with
     | j0 hu hn hv=>
      obtain ⟨A,cap,rfl,hA,hv⟩:=hv;obtain ⟨g1,g4⟩:=hv _ _ iW hz (by omega);obtain ⟨ds,k1,k2⟩:=JN wf iW;have tO:((l.drop q).take n).length=n:=by rw[eP,ct]; omega
      have k3:aQ w h c (eh T' ((l.drop q).take n)) ((ds.drop (q*T'.sz)).take (n*T'.sz)):=by
       rw[aaR,aaS];exact ap2 (ap3 k1 _) _
      refine⟨(ds.drop (q*T'.sz)).take (n*T'.sz),by simp[Dl,tO],?_,k3,by omega⟩;have:=key A cap _ k3 (fun aT=>by
       have mX:=Ba.2 aT;obtain ⟨b,q1,q2⟩:=k2 (by rintro rfl; simp at aT);obtain ⟨b',arr,el,fz,p1,p2,_⟩:=g4 (by omega);rw[q1]at p1; cases p1;refine⟨b,_,p2,fun j d hd => ?_⟩;rw[List.getElem?_take]at hd;split at hd
       ·rw[List.getElem?_drop]at hd;rw[zm];exact q2 _ _ hd
       ·cases hd)
      rw[tO]at this ⊢;exact this
   ·cases hs
  ·cases hs
 ·rename_i n cs;split at hs
  ·rename_i fq;cases rv with
   | @jg _ sz' _ A hn bQ f hc hr=>
    have Af:aQ w h c cs ((jZ cs.length).map f):=by
     refine⟨by simp,fun j v d hv hd => ?_⟩;have aX:j<cs.length:=(List.getElem?_eq_some_iff.1 hv).1;simp only[List.getElem?_map,List.getElem?_range aX,Bc,ij]at hd;subst hd;exact hr j v hv
    have pG:=aaK fq Af hs;have tO:m.length=n:=by rw[DS hs,DR]
    rw[<-tO];exact⟨_,by simp[Dl],key A m.length _ pG (fun aT=>by
     have mX:0<cs.length:=by
      have:=Ba.2 aT;rw[fq,<-tO];exact Nat.mul_pos this T.xR
     obtain ⟨b,o,rfl,_⟩:=hc 0 mX;refine⟨b,o,rfl,fun j d hd => ?_⟩;simp only[List.getElem?_map]at hd;by_cases aX:j<cs.length
     ·rw[List.getElem?_range aX]at hd;simp at hd; subst hd;obtain ⟨b',o',e',q1,_⟩:=hc j aX;cases e';exact q1
     ·rw[List.getElem?_eq_none (by simp; omega)]at hd; cases hd),pG,by omega⟩
  ·cases hs
 ·rename_i s;split at hs
  ·rename_i e;subst e;obtain ⟨t,rfl,rfl,hl⟩:=rv.gJ;obtain rfl:Bm t.data.toList=m:=by simpa using hs
   refine⟨t.data.toList.map fun b=>u4 .u8 b.toNat,?_,fun W hW => ?_,?_,?_⟩
   ·rw[Q0,size_data]; simp[Dl]
   ·rw[Q0,size_data];simp only[zn,px];congr 1;apply Array.ext';simp
   ·rw[aaQ]; exact aQ.map _ fun b _=>.int (QE _ (fa b))
   ·rw[Q0,size_data]; exact hl
  ·cases hs
 ·cases hs
theorem ap5 (wf:WF w h c) {i id:Nat} (hi:h.at i=.tok) (hid:id<h.length) (hf:h.at id=.free) {b o:Nat} (hb:c.cf i=some b) {T:Ty} {l m:List T.den} (ap6:c.off i=o+l.length*T.sz)
  {arr dx:Array Value} {el:TypeId} (oR:By T o el) {fz:Nat×Nat} (kb:w.heap[b]? = some (.cells arr el fz)) (hw:BL w w' b dx el fz) {cap:Nat} (cv:(l++m).length<=cap) (bQ:cap<=mx) (bL:o+cap*T.sz<=arr.size)
  {olds news:List Value} (ro:aQ w h c (eh T l) olds) (rn:aQ w h c (eh T m) news) (hold:l≠[]->pK w b o olds) (Gy:∀x,o<=x->x<o+l.length*T.sz->nW h c b x)
  (pN:dx.toList=arr.toList.take (o+l.length*T.sz)++news++arr.toList.drop (o+l.length*T.sz+news.length)) :
  ∃c',WF w' ((h.set i .dead).set id .tok) c'/\Ext w h c w' ((h.set i .dead).set id .tok) c'/\ay w' ((h.set i .dead).set id .tok) c' (.sl T (l++m) (.own id)) (.slice (some ⟨b,o,none⟩) (l++m).length cap):=by
 have aT:i≠id:=by rintro rfl; rw[hi]at hf; cases hf
 have nc:=aq.gb hi (by simp);have Gz:=ro.1;have DW:=rn.1;rw[pO]at Gz DW;have hmul:(l++m).length*T.sz<=cap*T.sz:=iP _ cv;have Ak:(l++m).length*T.sz=l.length*T.sz+m.length*T.sz:=by rw[bf,qC]
 have cT:dx.size=arr.size:=by
  rw[<-gP,pN]; simp only[bf,eP,ct,gP]; omega
 have DY:id<(h.set i .dead).length:=by simpa using hid
 have kE:∀j,aq.at ((h.set i .dead).set id .tok) j=if id=j then .tok else if i=j then .dead else h.at j:=by
  intro j;rw[iU,iU];by_cases h1:id=j
  ·simp[h1]; intro h2; subst h1; omega
  ·simp only[h1,false_and,if_false];by_cases h2:i=j
   ·subst h2; simp[nc]
   ·simp[h2]
 have jz:∀j,j≠id->(c.put id (some b) (o+(l++m).length*T.sz)).cf j=c.cf j/\(c.put id (some b) (o+(l++m).length*T.sz)).off j=c.off j:=fun j hj=>⟨xX _ _ hj,DO _ _ hj⟩
 have qQ:∀j,j≠i->(h.at j).live->c.cf j≠some b:=fun j hj hl DZ=>hj (wf.inj j i b hl (by rw[hi]; trivial) DZ hb)
 have aaT:∀x,x<o+l.length*T.sz->w'.cell? ⟨b,x,none⟩=w.cell? ⟨b,x,none⟩:=by
  intro x hx;rw[cell_of_row w' b x dx el fz hw.here,cell_of_row w b x arr el fz kb,<-Array.getElem?_toList,<-Array.getElem?_toList,pN,gG,
   List.getElem?_append_left (by simp only[eP,gP]; omega),List.getElem?_take,if_pos hx]
 have ya:∀b' x,fJ ((h.set i .dead).set id .tok) (c.put id (some b) (o+(l++m).length*T.sz)) b' x->fJ h c b' x:=by
  rintro b' x ⟨j,f,g1,g2,g3⟩
  rw[kE]at g2;by_cases h1:id=j
  ·subst h1;rw[fB]at g1;cases g1;rw[if_pos rfl,iV]at g2;simp only[aI.from_,ij]at g2;exact⟨i,c.off i,hb,by rw[hi]; rfl,by omega⟩
  ·rw[if_neg h1]at g2;split at g2
   ·simp[aI.from_]at g2
   ·obtain ⟨e1,e2⟩:=jz j (dX h1);rw[e1]at g1; rw[e2]at g2;exact⟨j,f,g1,g2,g3⟩
 have x:Ext w h c w' ((h.set i .dead).set id .tok) (c.put id (some b) (o+(l++m).length*T.sz)):=by
  constructor
  ·exact hw.os
  ·exact hw.tape
  ·exact hw.output
  ·rw[hw.size]; exact cD _
  ·intro j hj;refine⟨by simpa using hj.1,?_⟩;rw[kE];split
   ·simp
   ·split
    ·simp
    ·exact hj.2
  ·intro j hj hd;have BO:id≠j:=by rintro rfl; exact hj.2 hf
   rw[kE,if_neg BO]at hd ⊢;split
   ·rename_i h2; rw[if_pos h2]at hd; exact absurd rfl hd
   ·rename_i h2;rw[if_neg h2]at hd;refine⟨?_,(jz j (dX BO)).1,(jz j (dX BO)).2⟩;have h3:=hj.2
    revert hd h3
    cases h.at j<;>simp[aI.aW]
  ·intro b' y hy ho;by_cases nd:b'=b
   ·subst nd;refine aaT y ?_;rcases mo y (o+l.length*T.sz)with h1|h1
    ·exact h1
    ·exact absurd ⟨i,c.off i,hb,by rw[hi]; rfl,by omega⟩ ho
   ·exact BH (hw.other b' nd)
  ·intro b' bI ho;have nd:b'≠b:=by
    rintro rfl
    exact ho (c.off i) ⟨i,c.off i,hb,by rw[hi]; rfl,cD _⟩
   exact hw.other b' nd
  ·intro b' y _ ho; exact ya b' y ho
  ·rfl
  ·intro b' lQ e' fA ha;by_cases nd:b'=b
   ·subst nd;rw[kb]at ha; cases ha;exact⟨dx,fz,hw.here,cT⟩
   ·exact⟨lQ,fA,by rw[hw.other b' nd]; exact ha,rfl⟩
 obtain ⟨fl,fh⟩:=fz;have GA:=wf.obj i nc;rw[hi]at GA;have nY:fl=fh\/fh<=o+l.length*T.sz:=by
  rcases GA with h0|⟨b',lQ,e',fA,p1,p2,p3,p4⟩
  ·rw[hb]at h0; cases h0
  ·rw[hb]at p1; cases p1;rw[kb]at p2; cases p2;rw[ap6]at p4;exact p4
 have pQ:WF w' ((h.set i .dead).set id .tok) (c.put id (some b) (o+(l++m).length*T.sz)):=by
  constructor
  ·intro b' y ho; exact wf.hM b' y (ya b' y ho)
  ·intro b' y he; rw[hw.size]; exact wf.hP b' y he
  ·intro j hj;rw[kE];by_cases h1:id=j
   ·subst h1;rw[if_pos rfl];refine .inr ⟨b,dx,el,(fl,fh),fB _ _ _,hw.here,by rw[iV]; omega,?_⟩;rw[iV];have:l.length*T.sz<=(l++m).length*T.sz:=iP _ (by simp);exact nY.imp (fun e=>e) fun hh=>pw hh (by omega)
   ·rw[if_neg h1];split
    ·trivial
    ·rename_i h2;by_cases hl:(h.at j).live
     ·refine(wf.obj j (by simpa using hj)).eQ x (fun b' bI=>hw.other b' ?_) (jz j (dX h1)).1 (jz j (dX h1)).2
      rintro rfl
      exact qQ j (dX h2) hl bI
     ·revert hl; cases h.at j<;>simp[aI.live,gl]
  ·intro j k b' hj hk h1 h2;rw[kE]at hj hk;by_cases e1:id=j<;>by_cases e2:id=k
   ·exact e1.symm.trans e2
   ·subst e1;rw[fB]at h1; cases h1;rw[if_neg e2]at hk;rw[(jz k (dX e2)).1]at h2;split at hk
    ·exact hk.elim
    ·rename_i h3; exact absurd h2 (qQ k (dX h3) hk)
   ·subst e2;rw[fB]at h2; cases h2;rw[if_neg e1]at hj;rw[(jz j (dX e1)).1]at h1;split at hj
    ·exact hj.elim
    ·rename_i h3; exact absurd h1 (qQ j (dX h3) hj)
   ·rw[if_neg e1]at hj;rw[if_neg e2]at hk;rw[(jz j (dX e1)).1]at h1;rw[(jz k (dX e2)).1]at h2;split at hj
    ·exact hj.elim
    ·split at hk
     ·exact hk.elim
     ·exact wf.inj j k b' hj hk h1 h2
  ·exact wf.pL x
 refine⟨_,pQ,x,?_⟩;have rr:aQ w' ((h.set i .dead).set id .tok) (c.put id (some b) (o+(l++m).length*T.sz)) (eh T (l++m)) (olds++news):=by
  rw[Gw]; exact(ro.mono x).append (rn.mono x)
 refine Gx rr cv bQ (fun _=>⟨b,o,rfl,fun j d hd => ?_,fun y h1 h2=>⟨fun ho => ?_,fun he => ?_⟩⟩) (by simp) (fun k hk => ?_)
 ·by_cases hj:j<olds.length
  ·rw[List.getElem?_append_left hj]at hd;have Q1:l≠[]:=by rintro rfl; simp at Gz; omega
   rw[aaT (o+j) (by omega)];exact hold Q1 j d hd
  ·rw[List.getElem?_append_right (by omega)]at hd;have Q2:j - olds.length<news.length:=(List.getElem?_eq_some_iff.1 hd).1;have l1:(arr.toList.take (o+l.length*T.sz)).length=o+l.length*T.sz:=by simp only[eP,gP]; omega
   rw[cell_of_row w' b _ dx el (fl,fh) hw.here,<-Array.getElem?_toList,pN,gG,List.getElem?_append_right (by omega),l1,List.getElem?_append_left (by omega)];rw[<-hd]; congr 1; omega
 ·obtain ⟨j,f,g1,g2,g3⟩:=ho;rw[kE]at g2;by_cases e1:id=j
  ·subst e1;rw[if_pos rfl,iV]at g2;simp only[aI.from_,ij]at g2;omega
  ·rw[if_neg e1]at g2;rw[(jz j (dX e1)).1]at g1;split at g2
   ·simp[aI.from_]at g2
   ·rename_i h3; exact qQ j (dX h3) (vU g2) g1
 ·rcases mo y (o+l.length*T.sz)with q|q
  ·exact(Gy y h1 q).2 he
  ·exact wf.hM b y ⟨i,c.off i,hb,by rw[hi]; rfl,by omega⟩ he
 ·cases hk;refine⟨⟨by simpa using hid,by rw[kE,if_pos rfl]; simp⟩,fun _=>.inr ⟨b,o,dx,el,(fl,fh),fB _ _ _,rfl,iV _ _ _,hw.here,by rw[cT]; exact bL,oR⟩⟩
end
section
variable {P:Program} {tt:aZ} {w w':World} {h:aq} {c:bh} {R:Type}
theorem ap7 {T:Ty} {l:List T.den} {us:List Value} (r:aQ w h c (eh T l) us) {arr:Array Value} {off:Nat} (ha:∀(k:Nat) (d:Value),us[k]? = some d->arr[off+k]? = some d) :
  ∀(n j:Nat) (x:T.den) (v:V),l[n]? = some x->(T.cells x)[j]? = some v->∃d,arr[off+n*T.sz+j]? = some d/\ay w h c v d:=by
 intro n j z v hz hv;have hj:j<T.sz:=by rw[<-T.lR z]; exact(List.getElem?_eq_some_iff.1 hv).1
 have hn:n<l.length:=(List.getElem?_eq_some_iff.1 hz).1;have aX:n*T.sz+j<l.length*T.sz:=by
  have:=iP T.sz hn;rw[oG]at this; omega
 have hl:=r.1;rw[pO]at hl;have hg:=List.getElem?_eq_getElem (show n*T.sz+j<us.length by omega);exact⟨_,by rw[zm]; exact ha _ _ hg,r.2 _ v _ ((DX T l n j z hz hj).trans hv) hg⟩
theorem ap8 (wf:WF w h c) {i id:Nat} {T:Ty} {l m:List T.den} (hi:h.at i=.row T l) (hid:id<h.length) (hf:h.at id=.free) {b:Nat} (hb:c.cf i=some b)
  {arr dx:Array Value} {el:TypeId} {fz:Nat×Nat} (kb:w.heap[b]? = some (.cells arr el fz)) (hw:BL w w' b dx el fz) {cap:Nat} (cv:(l++m).length<=cap) (bQ:cap<=mx) (bL:c.off i+cap*T.sz<=arr.size)
  {olds news:List Value} (ro:aQ w h c (eh T l) olds) (rn:aQ w h c (eh T m) news) (hold:l≠[]->pK w b (c.off i) olds)
  (pN:dx.toList=arr.toList.take (c.off i+l.length*T.sz)++news++arr.toList.drop (c.off i+l.length*T.sz+news.length)) :
  ∃c',WF w' ((h.set i .dead).set id (.row T (l++m))) c'/\Ext w h c w' ((h.set i .dead).set id (.row T (l++m))) c' /\
   ay w' ((h.set i .dead).set id (.row T (l++m))) c' (.row id (l++m).length) (.slice (some ⟨b,c.off i,none⟩) (l++m).length cap):=by
 have aT:i≠id:=by rintro rfl; rw[hi]at hf; cases hf
 have nc:=aq.gb hi (by simp);have Gz:=ro.1;have DW:=rn.1;rw[pO]at Gz DW;have hmul:(l++m).length*T.sz<=cap*T.sz:=iP _ cv;have Ak:(l++m).length*T.sz=l.length*T.sz+m.length*T.sz:=by rw[bf,qC]
 have cT:dx.size=arr.size:=by
  rw[<-gP,pN]; simp only[bf,eP,ct,gP]; omega
 have kE:∀j,aq.at ((h.set i .dead).set id (.row T (l++m))) j=if id=j then .row T (l++m)else if i=j then .dead else h.at j:=by
  intro j;rw[iU,iU];by_cases h1:id=j
  ·simp[h1]; intro h2; subst h1; omega
  ·simp only[h1,false_and,if_false];by_cases h2:i=j
   ·subst h2; simp[nc]
   ·simp[h2]
 have jz:∀j,j≠id->(c.put id (some b) (c.off i)).cf j=c.cf j/\(c.put id (some b) (c.off i)).off j=c.off j:=fun j hj=>⟨xX _ _ hj,DO _ _ hj⟩
 have qQ:∀j,j≠i->(h.at j).live->c.cf j≠some b:=fun j hj hl DZ=>hj (wf.inj j i b hl (by rw[hi]; trivial) DZ hb)
 have cQ:∀y,fJ h c b y:=fun y=>⟨i,0,hb,by rw[hi]; rfl,nQ _⟩
 have ya:∀b' x,fJ ((h.set i .dead).set id (.row T (l++m))) (c.put id (some b) (c.off i)) b' x->fJ h c b' x:=by
  rintro b' x ⟨j,f,g1,g2,g3⟩
  rw[kE]at g2;by_cases h1:id=j
  ·subst h1;rw[fB]at g1;cases g1;exact cQ x
  ·rw[if_neg h1]at g2;split at g2
   ·simp[aI.from_]at g2
   ·obtain ⟨e1,e2⟩:=jz j (dX h1);rw[e1]at g1; rw[e2]at g2;exact⟨j,f,g1,g2,g3⟩
 have x:Ext w h c w' ((h.set i .dead).set id (.row T (l++m))) (c.put id (some b) (c.off i)):=by
  constructor
  ·exact hw.os
  ·exact hw.tape
  ·exact hw.output
  ·rw[hw.size]; exact cD _
  ·intro j hj;refine⟨by simpa using hj.1,?_⟩;rw[kE];split
   ·simp
   ·split
    ·simp
    ·exact hj.2
  ·intro j hj hd;have BO:id≠j:=by rintro rfl; exact hj.2 hf
   rw[kE,if_neg BO]at hd ⊢;split
   ·rename_i h2; rw[if_pos h2]at hd; exact absurd rfl hd
   ·rename_i h2;rw[if_neg h2]at hd;refine⟨?_,(jz j (dX BO)).1,(jz j (dX BO)).2⟩;have h3:=hj.2
    revert hd h3
    cases h.at j<;>simp[aI.aW]
  ·intro b' y hy ho;have nd:b'≠b:=by rintro rfl; exact ho (cQ y)
   exact BH (hw.other b' nd)
  ·intro b' bI ho;have nd:b'≠b:=by rintro rfl; exact ho 0 (cQ 0)
   exact hw.other b' nd
  ·intro b' y _ ho; exact ya b' y ho
  ·rfl
  ·intro b' lQ e' fA ha;by_cases nd:b'=b
   ·subst nd;rw[kb]at ha; cases ha;exact⟨dx,fz,hw.here,cT⟩
   ·exact⟨lQ,fA,by rw[hw.other b' nd]; exact ha,rfl⟩
 obtain ⟨fl,fh⟩:=fz;have GA:=wf.obj i nc;rw[hi]at GA;have nY:∀y,(y<arr.size\/T.zR=true)->w.frozen? ⟨b,y,none⟩=false:=by
  rcases GA with ⟨h0,_⟩|⟨b',lQ,e',fA,p1,p2,p3,p4,p5⟩
  ·rw[hb]at h0; cases h0
  ·rw[hb]at p1; cases p1;rw[kb]at p2; cases p2;exact p4
 have rr:aQ w' ((h.set i .dead).set id (.row T (l++m))) (c.put id (some b) (c.off i)) (eh T (l++m)) (olds++news):=by
  rw[Gw]; exact(ro.mono x).append (rn.mono x)
 have vO:∀(k:Nat) (d:Value),(olds++news)[k]? = some d->dx[c.off i+k]? = some d:=by
  intro k d hd;have l1:(arr.toList.take (c.off i+l.length*T.sz)).length=c.off i+l.length*T.sz:=by simp only[eP,gP]; omega
  rw[<-Array.getElem?_toList,pN,gG];by_cases hk:k<olds.length
  ·rw[List.getElem?_append_left hk]at hd;have Q1:l≠[]:=by rintro rfl; simp at Gz; omega
   have QT:=hold Q1 k d hd;rw[cell_of_row w b _ arr el (fl,fh) kb]at QT;rw[List.getElem?_append_left (by omega),List.getElem?_take,if_pos (by omega),Array.getElem?_toList];exact QT
  ·rw[List.getElem?_append_right (by omega)]at hd;have Q2:k - olds.length<news.length:=(List.getElem?_eq_some_iff.1 hd).1;rw[List.getElem?_append_right (by omega),l1,List.getElem?_append_left (by omega)];rw[<-hd]; congr 1; omega
 have pQ:WF w' ((h.set i .dead).set id (.row T (l++m))) (c.put id (some b) (c.off i)):=by
  constructor
  ·intro b' y ho; exact wf.hM b' y (ya b' y ho)
  ·intro b' y he; rw[hw.size]; exact wf.hP b' y he
  ·intro j hj;rw[kE];by_cases h1:id=j
   ·subst h1;rw[if_pos rfl];refine .inr ⟨b,dx,el,(fl,fh),fB _ _ _,hw.here,by rw[iV]; omega,fun y h1 => ?_,?_⟩
    ·have:=nY y (h1.imp (fun h=>by omega) fun h=>h);rw[Gp kb]at this;rw[Gp hw.here]; exact this
    ·rw[iV]; exact ap7 rr vO
   ·rw[if_neg h1];split
    ·trivial
    ·rename_i h2;by_cases hl:(h.at j).live
     ·refine(wf.obj j (by simpa using hj)).eQ x (fun b' bI=>hw.other b' ?_) (jz j (dX h1)).1 (jz j (dX h1)).2
      rintro rfl
      exact qQ j (dX h2) hl bI
     ·revert hl; cases h.at j<;>simp[aI.live,gl]
  ·intro j k b' hj hk h1 h2;rw[kE]at hj hk;by_cases e1:id=j<;>by_cases e2:id=k
   ·exact e1.symm.trans e2
   ·subst e1;rw[fB]at h1; cases h1;rw[if_neg e2]at hk;rw[(jz k (dX e2)).1]at h2;split at hk
    ·exact hk.elim
    ·rename_i h3; exact absurd h2 (qQ k (dX h3) hk)
   ·subst e2;rw[fB]at h2; cases h2;rw[if_neg e1]at hj;rw[(jz j (dX e1)).1]at h1;split at hj
    ·exact hj.elim
    ·rename_i h3; exact absurd h1 (qQ j (dX h3) hj)
   ·rw[if_neg e1]at hj;rw[if_neg e2]at hk;rw[(jz j (dX e1)).1]at h1;rw[(jz k (dX e2)).1]at h2;split at hj
    ·exact hj.elim
    ·split at hk
     ·exact hk.elim
     ·exact wf.inj j k b' hj hk h1 h2
  ·exact wf.pL x
 refine⟨_,pQ,x,.row ⟨by simpa using hid,by rw[kE,if_pos rfl]; simp⟩ (by omega) ⟨_,_,rfl,⟨cv,bQ,fun _=>⟨_,rfl⟩⟩,fun T' l' he => ?_⟩⟩;rw[kE,if_pos rfl]at he;cases he;exact⟨rfl,cv,bQ,.inr ⟨b,dx,el,(fl,fh),fB _ _ _,by rw[iV],hw.here,by rw[iV,cT]; exact bL⟩⟩
def JO (P:Program) (w:World) (h:aq) (c:bh) (s:Sem Value) (k:V->aq->Option R) (r:R):Prop:=
 ∃v h' v' w' c',s.run P w=.ok v' w'/\WF w' h' c'/\Ext w h c w' h' c'/\ay w' h' c' v v'/\k v h'=some r
theorem aaU (T:cF P tt) (wf:WF w h c) {t xt e id:Nat} (ht:(tt.at t).d=.slice e) (na:(∃e',P.underlying xt=some (.slice e'))\/P.underlying xt=some .string) {s x:V} {s' x':Value}
  (rs:ay w h c s s') (rx:ay w h c x x') (hid:id<h.length) (hf:h.at id=.free) (ty:Nat) {k:V->aq->Option R} {r:R} (hk:mv tt e s x h id k=some r) :
  JO P w h c (Bd #[t,xt] ty #[s',x']) k r:=by
 unfold mv at hk;have GB:=cz hk;clear hk;obtain ⟨Al,hk⟩:=GB;unfold vJ at hk;split at hk<;>(try cases hk);rename_i T' Gn;split at hk<;>(try cases hk);rename_i ji;simp only[bF,decide_eq_true_eq,bne_iff_ne,ne_eq]at ji;obtain ⟨⟨bL,hnz⟩,bP⟩:=ji;split at hk<;>(try cases hk);rename_i m ap9;obtain ⟨news,n1,n2,n3,n4⟩:=ap4 (P:=P) wf bL rx Al ap9;clear Al;have iz:=n3.1;rw[pO,bL]at iz;have JP:=aam n3 (aaJ T' m);have aaV:∀n:Nat,(n+m.length)*(tt.at e).bytes<=140737488355328->n+m.length<=mx:=fun n hb=>by
  have:n+m.length<=(n+m.length)*(tt.at e).bytes:=FR _ (by omega);unfold mx; omega
 have oR:∀o:Nat,o=0->By T' o e:=fun o ho hT=>⟨ho,T.Jz e (by rw[Gn,hT])⟩
 have aaW:((0+m.length)*(tt.at e).bytes<=140737488355328)->k (.sl T' m (.own id)) (h.set id .tok)=some r->JO P w h c (Bd #[t,xt] ty #[.slice none 0 0,x']) k r:=by
  intro pP hk;have:=JI (P:=P) (w:=w) (A:=none) (n:=0) (cap:=0) (m:=m.length) (x:=x') (olds:=[]) (news:=news) T ht bP na ty n1 n2 iz.symm JP (by simp) (fun h=>absurd rfl h) (cD _) (by unfold mx; omega) (.inl ⟨rfl,rfl⟩) pP (by omega);rcases this with ⟨h1,_,tN,cS⟩|⟨_,b,o,arr,el,fz,w',dx,hA,_⟩|⟨cap,ds,h1,h2,h3,h4,cS⟩
  ·have hm:m=[]:=gH tN;subst hm;obtain ⟨c',g1,g2,g3⟩:=JM wf hid hf (T:=T');exact⟨_,_,_,w,c',cS,g1,g2,g3,hk⟩
  ·cases hA
  ·rw[mq]at h1 h4 cS;rw[<-bL]at h3 h4;obtain ⟨c',g1,g2,g3⟩:=aaO wf hid hf n3 (oR 0 rfl) h3 (by simpa using h4) h1 h2 (e:=e);exact⟨_,_,_,_,c',cS,g1,g2,g3,hk⟩
 have Ab:((0+m.length)*(tt.at e).bytes<=140737488355328)->k (.row id m.length) (h.set id (.row T' m))=some r->JO P w h c (Bd #[t,xt] ty #[.slice none 0 0,x']) k r:=by
  intro pP hk;have:=JI (P:=P) (w:=w) (A:=none) (n:=0) (cap:=0) (m:=m.length) (x:=x') (olds:=[]) (news:=news) T ht bP na ty n1 n2 iz.symm JP (by simp) (fun h=>absurd rfl h) (cD _) (by unfold mx; omega) (.inl ⟨rfl,rfl⟩) pP (by omega);rcases this with ⟨h1,_,tN,cS⟩|⟨_,b,o,arr,el,fz,w',dx,hA,_⟩|⟨cap,ds,h1,h2,h3,h4,cS⟩
  ·have hm:m=[]:=gH tN;subst hm;obtain ⟨c',g1,g2,g3⟩:=QZ wf hid hf (T:=T');exact⟨_,_,_,w,c',cS,g1,g2,g3,hk⟩
  ·cases hA
  ·rw[mq]at h1 h4 cS;rw[<-bL]at h3 h4;obtain ⟨c',g1,g2,g3⟩:=aaP wf hid hf n3 h3 (by simpa using h4) h1 h2 (e:=e);exact⟨_,_,_,_,c',cS,g1,g2,g3,hk⟩
 split at hk<;>(try cases hk)
 ·obtain ⟨pP,hk⟩:=cz hk;cases rs;split at hk
  ·exact Ab (by simpa using pP) hk
  ·exact aaW (by simpa using pP) hk
 ·rename_i D0 l tk;split at hk<;>(try cases hk);rename_i q;subst q;simp only at hk;split at hk<;>(try cases hk)
  ·obtain ⟨pP,hk⟩:=cz hk;cases rs with
   | sl f cv bQ hc hr iw cQ=>
    obtain ⟨rfl,rfl⟩:=iw rfl;have iT:l=[]:=gH (by omega);subst iT;exact aaW (by simpa using pP) hk
  ·rename_i i;split at hk<;>(try cases hk);rename_i qK;obtain ⟨pP,hk⟩:=cz hk;have GC:(l.length+m.length)*(tt.at e).bytes<=140737488355328:=by simpa using pP
   have aT:i≠id:=by rintro rfl; rw[qK]at hf; cases hf
   have DY:id<(h.set i .dead).length:=by simpa using hid
   have mZ:aq.at (h.set i .dead) id=.free:=by rw[dR _ aT]; exact hf
   obtain ⟨A,cap,rfl,cv,bQ⟩:=vP rs;obtain ⟨olds,ro,ho⟩:=aaL rs;have GD:=ro.1;rw[pO,bL]at GD;have cQ:(c.cf i=none/\A=none/\cap=0)\/∃b o arr e fz,c.cf i=some b/\A=some ⟨b,o,none⟩/\c.off i=o+l.length*D0.sz/\w.heap[b]? = some (.cells arr e fz)/\o+cap*D0.sz<=arr.size/\By D0 o e:=by
    cases rs with
    | sl f cv bQ hc hr iw cQ=>exact(cQ i rfl).2 qK
   have Am:=wf.obj i (aq.gb qK (by simp));rw[qK]at Am;have hA:(A=none/\cap=0)\/∃b o arr el fz,A=some ⟨b,o,none⟩/\w.heap[b]? = some (.cells arr el fz)/\o+cap*(tt.at e).size<=arr.size/\∀y,o+l.length*(tt.at e).size<=y->y<arr.size->w.frozen? ⟨b,y,none⟩=false:=by
    rcases cQ with ⟨_,h1,h2⟩|⟨b,o,arr,el,fz,g1,g2,g3,g4,g5,_⟩
    ·exact .inl ⟨h1,h2⟩
    ·refine .inr ⟨b,o,arr,el,fz,g2,g4,by rw[<-bL]; exact g5,?_⟩;rcases Am with h0|⟨b',lQ,e',fA,p1,p2,p3,p4⟩
     ·rw[g1]at h0; cases h0
     ·rw[g1]at p1; cases p1;rw[g4]at p2; cases p2;intro y h1 h2;exact apQ g4 p4 (by rw[g3,bL]; exact h1)
   have:=JI (P:=P) (w:=w) (n:=l.length) (olds:=olds) T ht bP na ty n1 n2 iz.symm JP GD.symm (fun hn=>by
    obtain ⟨b,o,q1,q2,_⟩:=ho (by rintro rfl; exact hn rfl);exact⟨b,o,q1,q2⟩) cv bQ hA GC (aaV _ GC)
   have k1:=BN (w:=w) (h:=h) (c:=c) i;have k2:=JL wf i;rcases this with ⟨h1,vW,tN,cS⟩|⟨Aj,b,o,arr,el,fz,w',dx,yb,kb,aqa,cS,hw,pN⟩|⟨aqb,ds,h1,h2,h3,h4,cS⟩
   ·have hm:m=[]:=gH tN;subst hm;have iT:l=[]:=by
     rcases cQ with ⟨_,_,fL⟩|⟨b,o,arr,el,fz,_,g2,_⟩
     ·exact gH (by omega)
     ·rw[g2]at vW; cases vW
    subst iT;have fL:cap=0:=by
     rcases cQ with ⟨_,_,fL⟩|⟨b,o,arr,el,fz,_,g2,_⟩
     ·exact fL
     ·rw[g2]at vW; cases vW
    subst fL;subst vW;obtain ⟨c',g1,g2,g3⟩:=JM k2 DY mZ (T:=D0);exact⟨_,_,_,w,c',cS,g1,k1.trans g2,g3,hk⟩
   ·rcases cQ with ⟨_,Q3,_⟩|⟨b',o',lQ,el',fA,g1,g2,g3,g4,g5,g6⟩
    ·rw[Q3]at yb; cases yb
    ·rw[g2]at yb; cases yb;rw[g4]at kb; cases kb;subst g2;have hlen:(l++m).length=l.length+m.length:=bf;obtain ⟨c',q1,q2,q3⟩:=ap5 (l:=l) (m:=m) wf qK hid hf g1 g3 g6 g4 hw (by omega) bQ g5 ro n3 (fun aT=>by
      obtain ⟨b2,o2,p1,p2,_⟩:=ho aT;cases p1; exact p2) (fun y y1 y2=>by
      by_cases aT:l=[]
      ·subst aT; simp at y2; omega
      ·obtain ⟨b2,o2,p1,_,p3⟩:=ho aT;cases p1; exact p3 y y1 y2) (by rw[bL]; exact pN)
     rw[hlen]at q3;exact⟨_,_,_,w',c',cS,q1,q2,q3,hk⟩
   ·have hlen:(l++m).length=l.length+m.length:=bf;obtain ⟨c',q1,q2,q3⟩:=aaO (l:=l++m) k2 DY mZ (by rw[Gw]; exact(ro.mono k1).append (n3.mono k1)) (oR 0 rfl) (by rw[bL]; exact h3) (by rw[hlen,bL]; exact h4) (by omega) h2 (e:=e);rw[hlen]at q3;exact⟨_,_,_,_,c',cS,q1,k1.trans q2,q3,hk⟩
 ·rename_i i n;split at hk<;>(try cases hk);rename_i D0 l iW;split at hk<;>(try cases hk);rename_i q;subst q;obtain ⟨pP,hk⟩:=cz hk;simp only at hk;have GC:(l.length+m.length)*(tt.at e).bytes<=140737488355328:=by simpa using pP
  have aT:i≠id:=by rintro rfl; rw[iW]at hf; cases hf
  have DY:id<(h.set i .dead).length:=by simpa using hid
  have mZ:aq.at (h.set i .dead) id=.free:=by rw[dR _ aT]; exact hf
  obtain ⟨olds,ro,ho⟩:=JN wf iW;have GD:=ro.1;rw[pO,bL]at GD;have Am:=wf.obj i (aq.gb iW (by simp));rw[iW]at Am;cases rs with
  | row hu hn hv=>
   obtain ⟨A,cap,rfl,vW,hv⟩:=hv;obtain ⟨aqc,cv,bQ,cQ⟩:=hv _ _ iW;subst aqc;have hA:(A=none/\cap=0)\/∃b o arr el fz,A=some ⟨b,o,none⟩/\w.heap[b]? = some (.cells arr el fz)/\o+cap*(tt.at e).size<=arr.size/\∀y,o+l.length*(tt.at e).size<=y->y<arr.size->w.frozen? ⟨b,y,none⟩=false:=by
    rcases cQ with ⟨_,h1,h2⟩|⟨b,arr,el,fz,g1,g2,g4,g5⟩
    ·exact .inl ⟨h1,h2⟩
    ·refine .inr ⟨b,c.off i,arr,el,fz,g2,g4,by rw[<-bL]; exact g5,?_⟩;rcases Am with ⟨h0,_⟩|⟨b',lQ,e',fA,p1,p2,p3,p4,_⟩
     ·rw[g1]at h0; cases h0
     ·rw[g1]at p1; cases p1;rw[g4]at p2; cases p2;intro y _ h2;exact p4 y (.inl h2)
   have:=JI (P:=P) (w:=w) (n:=l.length) (olds:=olds) T ht bP na ty n1 n2 iz.symm JP GD.symm (fun hn=>by
    obtain ⟨b,q1,q2⟩:=ho (by rintro rfl; exact hn rfl);rcases cQ with ⟨p1,_⟩|⟨b',arr,el,fz,p1,p2,_⟩
    ·rw[q1]at p1; cases p1
    ·rw[q1]at p1; cases p1;exact⟨b,_,p2,q2⟩) cv bQ hA GC (aaV _ GC)
   have k1:=BN (w:=w) (h:=h) (c:=c) i;have k2:=JL wf i;have hlen:(l++m).length=l.length+m.length:=bf;rcases this with ⟨h1,Q4,tN,cS⟩|⟨Aj,b,o,arr,el,fz,w',dx,yb,kb,aqa,cS,hw,pN⟩|⟨aqb,ds,h1,h2,h3,h4,cS⟩
   ·have hm:m=[]:=gH tN;subst hm;have fL:cap=0:=by
     rcases cQ with ⟨_,_,fL⟩|⟨b,arr,el,fz,_,g2,_⟩
     ·exact fL
     ·rw[g2]at Q4; cases Q4
    have iT:l=[]:=gH (by omega);subst iT;subst fL;subst Q4;obtain ⟨c',g1,g2,g3⟩:=QZ k2 DY mZ (T:=D0);exact⟨_,_,_,w,c',cS,g1,k1.trans g2,g3,hk⟩
   ·rcases cQ with ⟨_,Q3,_⟩|⟨b',lQ,el',fA,g1,g2,g4,g5⟩
    ·rw[Q3]at yb; cases yb
    ·rw[g2]at yb; cases yb;rw[g4]at kb; cases kb;subst g2;obtain ⟨c',q1,q2,q3⟩:=ap8 (l:=l) (m:=m) wf iW hid hf g1 g4 hw (by omega) bQ g5 ro n3 (fun aT=>by
      obtain ⟨b2,p1,p2⟩:=ho aT;rw[g1]at p1; cases p1; exact p2) (by rw[bL]; exact pN)
     rw[hlen]at q3;exact⟨_,_,_,w',c',cS,q1,q2,q3,hk⟩
   ·obtain ⟨c',q1,q2,q3⟩:=aaP (l:=l++m) k2 DY mZ (by rw[Gw]; exact(ro.mono k1).append (n3.mono k1)) (by rw[bL]; exact h3) (by rw[hlen,bL]; exact h4) (by omega) h2 (e:=e);rw[hlen]at q3;exact⟨_,_,_,_,c',cS,q1,k1.trans q2,q3,hk⟩
end
section
variable {P:Program} {tt:aZ} {w w':World} {h:aq} {c:bh} {R:Type}
def Obj.aaX:Obj->Bool
 | .cells _ _ _=>true
 | _=>false
theorem Q5 (wf:WF w h c) {i b:Nat} {o':aI} {o1 o2:Obj} (hb:c.cf i=some b) (h1:w.heap[b]? = some o1) (DV:Obj.aaX o1=false)
  (jC:(h.at i).from_ (c.off i)=some 0) (Gu:o'.from_ (c.off i)=some 0) (fW:(h.at i).aW o')
  (dm:Ext w h c { w with heap:=w.heap.setIfInBounds b o2 } (h.set i o') c->gl { w with heap:=w.heap.setIfInBounds b o2 } (h.set i o') c i o') :
  WF { w with heap:=w.heap.setIfInBounds b o2 } (h.set i o') c/\Ext w h c { w with heap:=w.heap.setIfInBounds b o2 } (h.set i o') c:=by
 have hi:i<h.length:=aq.gb rfl (aI.DK fW).1;have cQ:∀x,fJ h c b x:=fun x=>⟨i,0,hb,jC,nQ _⟩
 have JQ:∀k,k≠b->(w.heap.setIfInBounds b o2)[k]? = w.heap[k]? :=fun k hk=>by
  rw[Array.getElem?_setIfInBounds]; simp[dX hk]
 have BM:=vU jC;have x:Ext w h c { w with heap:=w.heap.setIfInBounds b o2 } (h.set i o') c:=by
  constructor
  ·rfl
  ·rfl
  ·rfl
  ·simp
  ·intro j hj;by_cases cG:i=j
   ·subst cG;refine⟨by simpa using hj.1,?_⟩;rw[oQ _ hi];intro he; subst he; simp[aI.from_]at Gu
   ·exact⟨by simpa using hj.1,by rw[dR _ cG]; exact hj.2⟩
  ·intro j hj hd;refine⟨?_,rfl,rfl⟩;by_cases cG:i=j
   ·subst cG; rw[oQ _ hi]; exact fW
   ·rw[dR _ cG]at hd ⊢;have h2:=hj.2
    revert hd h2
    cases h.at j<;>simp[aI.aW]
  ·intro b' x hx ho;have aT:b'≠b:=by rintro rfl; exact ho (cQ x)
   exact BH (JQ b' aT)
  ·intro b' hx ho;have aT:b'≠b:=by rintro rfl; exact ho 0 (cQ 0)
   exact JQ b' aT
  ·rintro b' x hx ⟨j,f,g1,g2,g3⟩
   by_cases cG:i=j
   ·subst cG;rw[hb]at g1; cases g1;exact cQ x
   ·rw[dR _ cG]at g2;exact⟨j,f,g1,g2,g3⟩
  ·rfl
  ·intro b' arr el fA ha;by_cases aT:b'=b
   ·subst aT;rw[h1]at ha; cases ha;simp[Obj.aaX]at DV
   ·exact⟨arr,fA,by rw[JQ b' aT]; exact ha,rfl⟩
 have Gv:∀j,(aq.at (h.set i o') j).live->(h.at j).live:=fun j hj=>by
  by_cases cG:i=j
  ·subst cG; exact BM
  ·rw[dR _ cG]at hj; exact hj
 refine⟨?_,x⟩;constructor
 ·intro b' y ho he;exact wf.hM b' y (x.gI b' y (wf.hP b' y he) ho) he
 ·intro b' y he;simpa using wf.hP b' y he
 ·intro j hj;by_cases cG:i=j
  ·subst cG; rw[oQ _ hi]; exact dm x
  ·rw[dR _ cG];by_cases hl:(h.at j).live
   ·refine(wf.obj j (by simpa using hj)).eQ x (fun b' bI=>JQ b' ?_) rfl rfl
    rintro rfl
    exact cG (wf.inj i j b' BM hl hb bI)
   ·revert hl; cases h.at j<;>simp[aI.live,gl]
 ·intro j k b' hj hk h1 h2;exact wf.inj j k b' (Gv j hj) (Gv k hk) h1 h2
 ·exact wf.pL x
theorem Q6 (s:ByteArray) (i:Nat):(FK s i).1<2097152/\1<=(FK s i).2/\(FK s i).2<=4:=by
 have hb:∀k,(s.get! k).toNat<256:=fun k=>fa _
 have h0:=hb (i+0);unfold FK;simp only;split
 ·exact⟨by omega,by simp,by simp⟩
 ·split
  ·split
   ·exact⟨by simp only; omega,by simp,by simp⟩
   ·exact⟨by simp[Utf8.runeError],by simp,by simp⟩
  ·split
   ·split
    ·exact⟨by simp only; omega,by simp,by simp⟩
    ·exact⟨by simp[Utf8.runeError],by simp,by simp⟩
   ·split
    ·split
     ·exact⟨by simp only; omega,by simp,by simp⟩
     ·exact⟨by simp[Utf8.runeError],by simp,by simp⟩
    ·exact⟨by simp[Utf8.runeError],by simp,by simp⟩
theorem aaY (n:Nat) (h:n<2097152):eI.has (n:Int):=by
 unfold mV; simp[nO,nP,ku,kv]; omega
theorem aqd (wf:WF w h c) {i:Nat} {s:ad} {pos:Nat} {a':Value} (ra:ay w h c (.ptr i 0) a') (hit:h.at i=.iter s pos) (ty:TypeId) {k:V->aq->Option R} {r:R}
  (hk:(bif decide (pos<s.length)then k (.tuple [.bool true,.int .i64 pos,.int .i32 (iR s pos).1]) (h.set i (.iter s (pos+(iR s pos).2)))else k (.tuple [.bool false]) h)=some r) :
  JO P w h c (Instr.next a' true ty) k r:=by
 have hi:=aq.gb hit (by simp);have ho:=wf.obj i hi;rw[hit]at ho;obtain ⟨b,bs,g1,g2,g3,g4⟩:=ho;cases ra with
 | ptr hu hv=>
  obtain ⟨b',rfl,bI⟩:=hv;have:=bI (by rw[hit]; simp);rw[g1]at this; cases this;have hlen:s.length=bs.size:=by rw[<-g3,size_data]
  have Q7:bs=⟨s.toArray⟩:=xP (by rw[g3]);have aaZ:FK bs pos=iR s pos:=by rw[Q7]; rfl
  have ka:(getObj b).run P w=.ok (.stringIter bs pos) w:=by simp[getObj,Sem.run,g2]
  by_cases hp:pos<s.length
  ·have hc:decide (pos<s.length)=true:=by simpa using hp
   rw[hc]at hk;have yc:(setObj b (.stringIter bs (pos+(iR s pos).2))).run P w=.ok () { w with heap:=w.heap.setIfInBounds b (.stringIter bs (pos+(iR s pos).2)) }:=by
    simp[setObj,Sem.run,g2]
   have aX:b<w.heap.size:=vT g2;have aa0:=(Q6 bs pos).1;rw[aaZ]at aa0;have jC:(h.at i).from_ (c.off i)=some 0:=by rw[hit]; rfl
   have fW:(h.at i).aW (.iter s (pos+(iR s pos).2)):=by rw[hit]; trivial
   obtain ⟨q1,q2⟩:=Q5 wf (o':=.iter s (pos+(iR s pos).2)) (o2:=.stringIter bs (pos+(iR s pos).2)) g1 g2 rfl jC rfl fW
    (fun _=>⟨b,bs,g1,by simp[Array.getElem?_setIfInBounds,aX],g3,g4⟩)
   refine⟨_,_,.tuple #[.bool true,goInt pos,.int .i32 (iR s pos).1],_,c,?_,q1,q2,?_,hk⟩
   ·simp only[Instr.next,gZ,ka,hG];rw[if_pos (by omega),aaZ];simp only[gZ,yc,hG,px]
   ·refine .tuple rfl fun j v d hv hd => ?_
    match j,hv,hd with
    | 0,hv,hd=>simp at hv hd; subst hv; subst hd; exact .bool _
    | 1,hv,hd=>simp[goInt]at hv hd; subst hv; subst hd; exact .int (Bz _ (by omega))
    | 2,hv,hd=>simp at hv hd; subst hv; subst hd; exact .int (aaY _ aa0)
    | j+3,hv,_=>simp at hv
  ·have hc:decide (pos<s.length)=false:=by simpa using hp
   rw[hc]at hk;refine⟨_,_,.tuple #[.bool false],w,c,?_,wf,.refl _ _ _,?_,hk⟩
   ·simp only[Instr.next,gZ,ka,hG];rw[if_neg (by omega)];rfl
   ·refine .tuple rfl fun j v d hv hd => ?_
    match j,hv,hd with
    | 0,hv,hd=>simp at hv hd; subst hv; subst hd; exact .bool _
    | j+1,hv,_=>simp at hv
end
end Go.ak
namespace Go.ak
open Go.RowKit Go.MapKept
section
variable {P:Program} {tt:aZ} {w w':World} {h:aq} {c:bh} {R:Type}
theorem aa1 (T:cF P tt) (wf:WF w h c) {t kt vt i:Nat} {K V':Ty} {l:List (K.den×V'.den)} (ht:(tt.at t).d=.map kt vt) {m d y:Value} (rm:ay w h c (.map i) m) (hm:h.at i=.gi K V' l)
  (hf:(tG tt kt K&&sw tt vt V')=true) {v u:V} (rk:ay w h c v d) (ru:ay w h c u y) {kx:K.den} {vx:V'.den} (hx:vG K v=some kx) (hy:vG V' u=some vx) :
  ∃w',(Instr.mapUpdate t m d y).run P w=.ok () w'/\WF w' (h.set i (.gi K V' (pD K V' kx vx l))) c/\Ext w h c w' (h.set i (.gi K V' (pD K V' kx vx l))) c:=by
 simp only[bF]at hf;obtain ⟨mZ,QP⟩:=hf;have hi:=aq.gb hm (by simp);have ho:=wf.obj i hi;rw[hm]at ho;obtain ⟨b,es,clock,g1,g2,g3,g4,g5,g6⟩:=ho;cases rm with
 | map hu hv=>
  obtain ⟨b',rfl,bI⟩:=hv;have:=bI (by rw[hm]; simp);rw[g1]at this; cases this;have Gk:P.underlying t=some (.map kt vt):=cR T ht;have e:=QN hx (QL mZ).1;subst e;have e:=QN hy (aaw QP);subst e;have hl:es.toList.length=l.length:=by simpa using g5
  have hr:∀(j:Nat) (x:K.den×V'.den) (e:MapEntry),l[j]? = some x->es.toList[j]? = some e->ay w h c (kC K x.1) e.key:=fun j x e hx he=>(g6 j x e hx (by simpa using he)).1
  obtain ⟨u,sF,JE,_⟩:=JD T mZ rk rk;have xU:=run_findKey (w:=w) sF (QK T mZ rk sF l es.toList 0 hl hr);have BF:=run_checkKey (w:=w) sF JE false 9999;have ka:=Go.MapKept.run_getObj_map (P:=P) g2;have aX:b<w.heap.size:=vT g2;have jC:(h.at i).from_ (c.off i)=some 0:=by rw[hm]; rfl
  have fW:∀l':List (K.den×V'.den),(h.at i).aW (.gi K V' l'):=fun l'=>by rw[hm]; exact⟨rfl,rfl⟩
  rcases QJ (K:=K) (T:=V') (k:=kx) l es.toList 0 hl with ⟨h1,h2,h3,h4⟩|⟨j,x,e,h1,h2,h3,h4,h5,h6,h7⟩
  ·rw[h1]at xU;rw[h4 vx];have yc:=Go.MapKept.run_setObj_map (P:=P) (.map (es.push { key:=d,val:=y,born:=clock }) (clock+1)) g2;obtain ⟨q1,q2⟩:=Q5 wf (o':=.gi K V' (l++[(kx,vx)])) (o2:=.map (es.push { key:=d,val:=y,born:=clock }) (clock+1)) g1 g2 rfl jC rfl (fW _) (fun x=>by
    refine⟨b,es.push { key:=d,val:=y,born:=clock },clock+1,g1,by simp[Array.getElem?_setIfInBounds,aX],g3,g4,by simp[g5],fun j q e hq he => ?_⟩;by_cases hj:j<l.length
    ·rw[List.getElem?_append_left hj]at hq;rw[Array.getElem?_push,if_neg (by omega)]at he;exact⟨(g6 j q e hq he).1.mono x,(g6 j q e hq he).2.mono x⟩
    ·have Q2:j=l.length:=by
      have:=(List.getElem?_eq_some_iff.1 hq).1;simp at this; omega
     subst Q2;rw[List.getElem?_append_right (cD _)]at hq;simp at hq; subst hq;rw[Array.getElem?_push,if_pos g5.symm]at he;cases he;exact⟨rk.mono x,ru.mono x⟩)
   refine⟨_,?_,q1,q2⟩;simp[Instr.mapUpdate,run_underlying Gk,ka,BF,xU,yc]
  ·rw[mq]at h1;rw[h1]at xU;rw[h7 vx];have JR:es[j]? = some e:=by simpa using h3
   have Q8:e.key=d:=by
    obtain ⟨u2,_,_,_,_,q⟩:=JD T mZ rk (g6 j x e h2 JR).1;exact q h4
   have aqe:((es[j]?).map (·.key)).getD d=d:=by rw[JR]; simpa using Q8
   have aqf:=run_keyThatStays (P:=P) (w:=w) JE;have yc:=Go.MapKept.run_setObj_map (P:=P) (.map (es.modify j fun e => { e with key:=d,val:=y }) clock) g2;obtain ⟨q1,q2⟩:=Q5 wf (o':=.gi K V' (l.set j (kx,vx))) (o2:=.map (es.modify j fun e => { e with key:=d,val:=y }) clock) g1 g2 rfl jC rfl (fW _) (fun x'=>by
    refine⟨b,es.modify j fun e => { e with key:=d,val:=y },clock,g1,by simp[Array.getElem?_setIfInBounds,aX],g3,g4,by simp[g5],fun j' q e' hq he => ?_⟩;rw[Array.getElem?_modify]at he;rw[List.getElem?_set]at hq;by_cases hj:j=j'
    ·subst hj;rw[if_pos rfl]at hq he;rw[JR]at he;simp at he; subst he;split at hq
     ·cases hq; exact⟨rk.mono x',ru.mono x'⟩
     ·cases hq
    ·rw[if_neg hj]at hq he;exact⟨(g6 j' q e' hq he).1.mono x',(g6 j' q e' hq he).2.mono x'⟩)
   refine⟨_,?_,q1,q2⟩;simp only[Instr.mapUpdate,gZ,run_underlying Gk,hG,ka,BF,xU,aqe,aqf,yc]
end
end Go.ak
namespace Go.ak
open Go.RowKit
section
variable {P:Program} {tt:aZ} {w w':World} {h:aq} {c:bh} {R:Type}
theorem aqg (T:cF P tt) (wf:WF w h c) {t:Nat} {v:V} {a':Value} (ra:ay w h c v a') {k:V->aq->Option R} {r:R} (hk:F7 tt t v h k=some r) :
  ∃u h' d,(FP t a' none none none).run P w=.ok d w/\WF w h' c/\Ext w h c w h' c/\ay w h' c u d/\k u h'=some r:=by
 unfold F7 at hk;split at hk<;>(try cases hk);rename_i m e i hd;split at hk<;>(try cases hk);rename_i cs cT;split at hk<;>(try cases hk);rename_i T' hT;split at hk<;>(try cases hk);rename_i hc;simp only[bF,decide_eq_true_eq]at hc;obtain ⟨⟨⟨⟨bL,bP⟩,hlen⟩,tN⟩,hm⟩:=hc;split at hk<;>(try cases hk);rename_i l hl;have hu:P.underlying t=some (.array m e):=cR T hd;have k7:=T.sizeOf (w:=w) bP;have hi:i<h.length:=aq.gb cT (by simp);have ho:=wf.obj i hi;rw[cT]at ho;obtain ⟨b,arr,el,g1,g2,g3⟩:=ho;cases ra with
 | ptr hi' hv=>
  obtain ⟨b',rfl,bI⟩:=hv;have nd:=bI (by rw[cT]; simp);rw[g1]at nd;cases nd;have hll:l.length=m:=by
   rw[DS hl];exact DR _ _ _
  have JS:P.arrayLen t=m/\P.elem t=e:=by
   unfold Program.arrayLen Program.elem;rw[hu];exact⟨rfl,rfl⟩
  have rr:=aaK hlen g3 hl;have cS:=run_sliceAt_array_all (P:=P) w t ⟨b,0,none⟩ (by rw[JS.1,JS.2]; exact hu);rw[JS.1,JS.2,k7]at cS;have aT:¬m=0:=tN;refine⟨.sl T' l .no,h.set i .dead,.slice (some ⟨b,0,none⟩) l.length m,?_,JL wf i,BN i,?_,hk⟩
  ·rw[cS,hll];simp[slicedAt,aT,mY]
  ·refine Gx (rr.mono (BN i)) (by omega) (by unfold mx; omega) (fun _ => ?_) (fun h=>by cases h) (fun _ h=>by cases h);refine⟨b,0,rfl,fun j d hj => ?_,fun x _ _ => ?_⟩
   ·rw[mq];have e:w.cell? ⟨b,j,none⟩=arr[j]? :=by simp[World.cell?,g2]
    rw[e];simpa using hj
   ·have cQ:fJ h c b x:=⟨i,0,g1,by rw[cT]; rfl,nQ _⟩;refine⟨fun hq => ?_,wf.hM b x cQ⟩;obtain ⟨j,f,q1,q2,q3⟩:=hq;rw[iU]at q2;split at q2
    ·cases q2
    ·rename_i cG;have:=wf.inj i j b (by rw[cT]; trivial) (vU q2) g1 q1;exact cG ⟨this,hi⟩
theorem aqh (T:cF P tt) (wf:WF w h c) {o:Oper} {ρ:Operand->V} {ρ':Operand->Value} (hρ:∀x,ay w h c (ρ x) (ρ' x)) {id:Nat} (hid:id<h.length) (hf:h.at id=.free) {k:V->aq->Option R} {r:R}
  (hk:j4 tt o.op ρ h id k=some r) :
  ∃v h' v' w' c' nx,(execOp ρ' o).run P w=.ok nx w'/\(nx=.value v'\/nx=.skip/\v'=undef)/\WF w' h' c'/\Ext w h c w' h' c'/\ay w' h' c' v v'/\k v h'=some r:=by
 obtain ⟨dst,op,type,pos,after,guard⟩:=o;cases op<;>(try simp only[j4]at hk)<;>(try cases hk)
 case store t x y=>
  split at hk<;>(try cases hk);rename_i vs Gi;obtain ⟨rv,h1,_⟩:=QG (hρ y) Gi;split at hk<;>(try cases hk);rename_i ji;simp only[bF,decide_eq_true_eq]at ji;obtain ⟨bP,bL⟩:=ji;have rx:=hρ x;split at hk<;>(try cases hk)
  ·rename_i i o hx;rw[hx]at rx;split at hk<;>(try cases hk)
   ·rename_i cs cT;split at hk<;>(try cases hk);rename_i aX;obtain ⟨w',g1,g2,g3⟩:=apT (P:=P) wf T rx cT rv h1 bP bL aX;exact⟨_,_,undef,w',c,.skip,by simp[execOp,g1],.inr ⟨rfl,rfl⟩,g2,g3,.undef _,hk⟩
   rename_i u cT;split at hk<;>(try cases hk);rename_i v;obtain ⟨w',g1,g2,g3⟩:=apU (P:=P) wf T rx cT rv h1 bP (by simpa using bL);exact⟨_,_,undef,w',c,.skip,by simp[execOp,g1],.inr ⟨rfl,rfl⟩,g2,g3,.undef _,hk⟩
  ·rename_i i sz j o hx;rw[hx]at rx;split at hk<;>(try cases hk);rename_i T' l iW;split at hk<;>(try cases hk);rename_i hn;split at hk<;>(try cases hk);rename_i aX;split at hk<;>(try cases hk);rename_i z hz;obtain ⟨hj,hk⟩:=cz hk;simp only[decide_eq_true_eq]at hj;obtain ⟨w',g1,g2,g3⟩:=apW (P:=P) wf T rx iW rv h1 bP hn bL hj aX hz;exact⟨_,_,undef,w',c,.skip,by simp[execOp,g1],.inr ⟨rfl,rfl⟩,g2,g3,.undef _,hk⟩
 case slice t x lo hi mx=>
  cases lo<;>cases hi<;>cases mx<;>simp only[Option.isNone,qD,xB,lu,cond_true,cond_false]at hk<;>(try cases hk);obtain ⟨u,h',d,g1,g2,g3,g4,g5⟩:=aqg T wf (hρ x) hk;exact⟨u,h',d,w,c,.value d,by simp[execOp,g1],.inl rfl,g2,g3,g4,g5⟩
 case mapUpdate t m x y=>
  have rm:=hρ m;split at hk<;>(try cases hk);rename_i kt vt i ht hx;rw[hx]at rm;split at hk<;>(try cases hk);rename_i K V' l hm;split at hk<;>(try cases hk);rename_i hf;split at hk<;>(try cases hk);rename_i kx vx xW yd;obtain ⟨w',g1,g2,g3⟩:=aa1 (P:=P) T wf ht rm hm hf (hρ x) (hρ y) xW yd;exact⟨_,_,undef,w',c,.skip,by simp[execOp,g1],.inr ⟨rfl,rfl⟩,g2,g3,.undef _,hk⟩
 case insert t m x y=>
  have rm:=hρ m;split at hk<;>(try cases hk);rename_i kt vt i ht hx;rw[hx]at rm;split at hk<;>(try cases hk);rename_i K V' l hm;split at hk<;>(try cases hk);rename_i hf;split at hk<;>(try cases hk);rename_i kx vx xW yd;obtain ⟨w',g1,g2,g3⟩:=aa1 (P:=P) T wf ht rm hm hf (hρ x) (hρ y) xW yd;exact⟨_,_,undef,w',c,.skip,by simp[execOp,g1],.inr ⟨rfl,rfl⟩,g2,g3,.undef _,hk⟩
 case next x str=>
  have rx:=hρ x;split at hk<;>(try cases hk);rename_i i hx;rw[hx]at rx;split at hk<;>(try cases hk);rename_i s pos hit;obtain ⟨v,h',v',w',c',g1,g2,g3,g4,g5⟩:=aqd (P:=P) wf rx hit type hk;exact⟨v,h',v',w',c',.value v',by simp[execOp,g1],.inl rfl,g2,g3,g4,g5⟩
 case call cl=>
  obtain ⟨callee,args,argTypes⟩:=cl;simp only at hk;split at hk<;>(try cases hk);rename_i s x t xt ha kE;obtain rfl:args = #[s,x]:=by cases args; simp_all
  obtain rfl:argTypes = #[t,xt]:=by cases argTypes; simp_all
  split at hk<;>(try cases hk)
  ·rename_i e e' ht na;have hu:=cR T na;simp only[TD.Is]at hu;obtain ⟨v,h',v',w',c',g1,g2,g3,g4,g5⟩:=aaU T wf ht (.inl ⟨_,hu⟩) (hρ s) (hρ x) hid hf type hk;exact⟨v,h',v',w',c',.value v',by simp[execOp,resolve,invoke,builtin,g1],.inl rfl,g2,g3,g4,g5⟩
  ·rename_i e ht na;have hu:=cR T na;simp only[TD.Is]at hu;obtain ⟨v,h',v',w',c',g1,g2,g3,g4,g5⟩:=aaU T wf ht (.inr hu) (hρ s) (hρ x) hid hf type hk;exact⟨v,h',v',w',c',.value v',by simp[execOp,resolve,invoke,builtin,g1],.inl rfl,g2,g3,g4,g5⟩
end
section
variable {w w':World} {h h2:aq} {c c2:bh}
theorem JT (ρ:Nat->Option Nat):∀l:List V,V.iv ρ l=l.map (V.bO ρ)
 | []=>rfl
 | v::l=>by simp only[V.iv,kz,JT ρ l]
theorem vX (ρ:Nat->Option Nat) (l:List V):(V.iv ρ l).length=l.length:=by simp[JT]
theorem BP (ρ:Nat->Option Nat) (l:List V) (j:Nat):(V.iv ρ l)[j]? = (l[j]?).map (V.bO ρ):=by simp[JT]
structure D1 (ρ:Nat->Option Nat) (h:aq) (c:bh) (h2:aq) (c2:bh):Prop where
 used:∀i j,ρ i=some j->Used h i->Used h2 j
 obj:∀i j,ρ i=some j->h2.at j≠.dead->h.at i≠.dead/\c2.cf j=c.cf i/\c2.off j=c.off i
 tok:∀i j,ρ i=some j->h2.at j=.tok->h.at i=.tok
 row:∀i j,ρ i=some j->∀(T:Ty) (l:List T.den),h2.at j=.row T l->h.at i=.row T l
 free:∀b x,nW h c b x->nW h2 c2 b x
theorem ay.bO {ρ:Nat->Option Nat} (k:D1 ρ h c h2 c2) {v:V} {d:Value} (r:ay w h c v d):ay w h2 c2 (v.bO ρ) d:=by
 induction r with
 | undef v=>exact .undef v
 | int hn=>exact .int hn
 | bool b=>exact .bool b
 | str hl=>exact .str hl
 | fp=>exact .fp
 | bk=>exact .bk
 | fy=>exact .fy
 | kB=>exact .kB
 | eR=>exact .eR
 | iface t v=>exact .iface t v
 | gh hn=>exact .gh hn
 | nS b=>exact .nS b
 | @ptr i o v hi hv=>
  obtain ⟨b,hv,hb⟩:=hv;simp only[V.bO];cases e:ρ i with
  | none=>exact .undef _
  | some j=>exact .ptr (k.used i j e hi) ⟨b,hv,fun hd=>by obtain ⟨h1,h2,_⟩:=k.obj i j e hd; rw[h2]; exact hb h1⟩
 | @map i v hi hv=>
  obtain ⟨b,hv,hb⟩:=hv;simp only[V.bO];cases e:ρ i with
  | none=>exact .undef _
  | some j=>exact .map (k.used i j e hi) ⟨b,hv,fun hd=>by obtain ⟨h1,h2,_⟩:=k.obj i j e hd; rw[h2]; exact hb h1⟩
 | @fg cs b o f hc _ ih=>
  simp only[V.bO];refine .fg f (fun j hj => ?_) (fun j v hv => ?_)
  ·rw[vX]at hj;exact⟨(hc j hj).1,k.free _ _ (hc j hj).2⟩
  ·rw[BP]at hv;cases e:cs[j]? with
   | none=>rw[e]at hv; cases hv
   | some u=>rw[e]at hv; simp at hv; subst hv; exact ih j u e
 | @sl T l t A cap f cv bQ hc hr iw cQ ih=>
  simp only[V.bO];refine .sl f cv bQ (fun i j hi hj => ?_) (fun i j x v hx hv => ?_) (fun ht => ?_) (fun j ht => ?_)
  ·obtain ⟨b,o,hA,h1,h2⟩:=hc i j hi hj;exact⟨b,o,hA,h1,k.free _ _ h2⟩
  ·have:=ih i j x v hx hv;have e:v.bO ρ=v:=by
    have fq:∀(T:Ty) (x:T.den) (j:Nat) (v:V),(T.cells x)[j]? = some v->v.bO ρ=v:=by
     intro T x;have:∀v∈T.cells x,v.bO ρ=v:=by
      cases T<;>simp[Ty.cells,V.bO,Tok.bO]
     intro j v hv;exact this v (List.mem_of_getElem? hv)
    exact fq T x j v hv
   rw[e]at this; exact this
  ·cases t with
   | no=>cases ht
   | nil=>exact iw rfl
   | own i=>simp only[Tok.bO]at ht; split at ht<;>cases ht
  ·cases t with
   | no=>cases ht
   | nil=>cases ht
   | own i=>
    simp only[Tok.bO]at ht;split at ht
    ·rename_i j' e;cases ht;obtain ⟨hu,ho⟩:=cQ i rfl;refine⟨k.used i j e hu,fun qK => ?_⟩;obtain ⟨_,e1,e2⟩:=k.obj i j e (by rw[qK]; simp);rw[e1,e2];exact ho (k.tok i j e qK)
    ·cases ht
 | @jg n sz cs A hn bQ f hc _ ih=>
  simp only[V.bO];refine .jg (sz:=sz) (by rw[vX]; exact hn) bQ f (fun j hj => ?_) (fun j v hv => ?_)
  ·rw[vX]at hj;obtain ⟨b,o,hA,h1,h2⟩:=hc j hj;exact⟨b,o,hA,h1,k.free _ _ h2⟩
  ·rw[BP]at hv;cases e:cs[j]? with
   | none=>rw[e]at hv; cases hv
   | some u=>rw[e]at hv; simp at hv; subst hv; exact ih j u e
 | @row i n v hi hn hv=>
  simp only[V.bO];cases e:ρ i with
  | none=>exact .undef _
  | some j=>
   obtain ⟨A,cap,qL,hA,hv⟩:=hv;refine .row (k.used i j e hi) hn ⟨A,cap,qL,hA,fun T l he => ?_⟩;obtain ⟨_,e1,e2⟩:=k.obj i j e (by rw[he]; simp);rw[e1,e2];exact hv T l (k.row i j e T l he)
 | @j0 i z q n v hi hn hv=>
  simp only[V.bO];cases e:ρ i with
  | none=>exact .undef _
  | some j=>
   obtain ⟨A,cap,qL,hA,hv⟩:=hv;refine .j0 (k.used i j e hi) hn ⟨A,cap,qL,hA,fun T l he hz hq => ?_⟩;obtain ⟨_,e1,e2⟩:=k.obj i j e (by rw[he]; simp);rw[e1,e2];exact hv T l (k.row i j e T l he) hz hq
 | @fH i n q o v hi hv=>
  simp only[V.bO];cases e:ρ i with
  | none=>exact .undef _
  | some j=>
   obtain ⟨a,ha,hv⟩:=hv;refine .fH (k.used i j e hi) ⟨a,ha,fun T l he hn hj => ?_⟩;obtain ⟨_,e1,e2⟩:=k.obj i j e (by rw[he]; simp);rw[e1,e2];exact hv T l (k.row i j e T l he) hn hj
 | @func f a b x y ha hb _ _ Gf Gg=>
  simp only[V.bO];refine .func (by rw[vX]; exact ha) (by rw[vX]; exact hb) (fun j v d hv hd => ?_) (fun j v d hv hd => ?_)
  ·rw[BP]at hv;cases e:a[j]? with
   | none=>rw[e]at hv; cases hv
   | some u=>rw[e]at hv; simp at hv; subst hv; exact Gf j u d e hd
  ·rw[BP]at hv;cases e:b[j]? with
   | none=>rw[e]at hv; cases hv
   | some u=>rw[e]at hv; simp at hv; subst hv; exact Gg j u d e hd
 | @agg cs x hl _ ih=>
  simp only[V.bO];refine .agg (by rw[vX]; exact hl) (fun j v d hv hd => ?_);rw[BP]at hv;cases e:cs[j]? with
  | none=>rw[e]at hv; cases hv
  | some u=>rw[e]at hv; simp at hv; subst hv; exact ih j u d e hd
 | @tuple cs x hl _ ih=>
  simp only[V.bO];refine .tuple (by rw[vX]; exact hl) (fun j v d hv hd => ?_);rw[BP]at hv;cases e:cs[j]? with
  | none=>rw[e]at hv; cases hv
  | some u=>rw[e]at hv; simp at hv; subst hv; exact ih j u d e hd
theorem aQ.bO {ρ:Nat->Option Nat} (k:D1 ρ h c h2 c2) {cs:List V} {ds:List Value} (r:aQ w h c cs ds):aQ w h2 c2 (V.iv ρ cs) ds:=by
 refine⟨by rw[vX]; exact r.1,fun j v d hv hd => ?_⟩;rw[BP]at hv;cases e:cs[j]? with
 | none=>rw[e]at hv; cases hv
 | some u=>rw[e]at hv; simp at hv; subst hv; exact(r.2 j u d e hd).bO k
theorem aqi (ρ:Nat->Option Nat) (T:Ty) (x:T.den):∀v∈T.cells x,v.bO ρ=v:=by cases T<;>simp[Ty.cells,V.bO,Tok.bO]
theorem gl.bO {ρ:Nat->Option Nat} (k:D1 ρ h c h2 c2) {i j:Nat} {o:aI} (e1:c2.cf j=c.cf i) (e2:c2.off j=c.off i) (ho:gl w h c i o):gl w h2 c2 j (o.bO ρ):=by
 cases o<;>simp only[gl,aI.bO]at ho ⊢
 ·obtain ⟨b,arr,e,h1,pJ,h3⟩:=ho;exact⟨b,arr,e,e1▸h1,pJ,h3.bO k⟩
 ·rw[e1,e2];rcases ho with h1|⟨b,arr,e,fz,h1,pJ,h3,h4,h5⟩
  ·exact .inl h1
  ·refine .inr ⟨b,arr,e,fz,h1,pJ,h3,h4,fun n q x v hx hv => ?_⟩;obtain ⟨d,g1,g2⟩:=h5 n q x v hx hv;refine⟨d,g1,?_⟩;have:=g2.bO k;rw[aqi ρ _ x v (List.mem_of_getElem? hv)]at this;exact this
 ·rw[e1,e2]; exact ho
 ·rw[e1]; exact ho
 ·rw[e1];obtain ⟨b,p,d,h1,pJ,h3,h4⟩:=ho;exact⟨b,p,d,h1,pJ,h3,h4.bO k⟩
 ·rw[e1];obtain ⟨b,es,cl,h1,pJ,h3,h4,h5,h6⟩:=ho;refine⟨b,es,cl,h1,pJ,h3,h4,h5,fun j q e hq he => ?_⟩;obtain ⟨g1,g2⟩:=h6 j q e hq he;have g1':=g1.bO k;have JU:=g2.bO k;have key:∀(T:Ty) (x:T.den),(Jq T=true\/T.one=true)->(kC T x).bO ρ=kC T x:=by
   intro T x hT;cases T<;>first|(simp[kC,Ty.one,Ty.cells,V.bO]; done)|(simp[kC,Ty.one,Ty.cells,V.bO,V.iv]; done)|(simp[Jq,Ty.one]at hT)
  rw[key _ _ (.inl h3)]at g1';rw[key _ _ (.inr h4)]at JU;exact⟨g1',JU⟩
def bh.pick (c:bh) (ord:List Nat) (ext:Ad):bh:=
 ⟨fun j=>(ord[j]?).bind c.cf,fun j=>c.off (ord.getD j 0),ext⟩
theorem GF {ord:List Nat} {i j:Nat} (e:mu ord i=some j):ord[j]? = some i:=by
 unfold mu at e;simp only at e;split at e
 ·rename_i aX;cases e;rw[List.getElem?_eq_getElem aX,List.getElem_idxOf aX]
 ·cases e
theorem pR (h:aq) (ord:List Nat) (j:Nat):aq.at (h.pick ord) j=match ord[j]? with|some i=>(h.at i).bO (mu ord)|none=>.dead:=by
 unfold aq.at aq.pick;simp only[ca,List.getElem?_map];cases ord[j]? <;> rfl
theorem JV {ρ:Nat->Option Nat} {o:aI}:o.bO ρ=.dead↔o=.dead:=by cases o<;>simp[aI.bO]
theorem BQ {ρ:Nat->Option Nat} {o:aI}:o.bO ρ=.free↔o=.free:=by cases o<;>simp[aI.bO]
theorem aa2 {ρ:Nat->Option Nat} {o:aI}:o.bO ρ=.tok↔o=.tok:=by cases o<;>simp[aI.bO]
theorem aa3 {ρ:Nat->Option Nat} {o:aI} {T:Ty} {l:List T.den}:o.bO ρ=.row T l↔o=.row T l:=by cases o<;>simp[aI.bO]
theorem aa4 {ρ:Nat->Option Nat} {o:aI} {f:Nat}:(o.bO ρ).from_ f=o.from_ f:=by cases o<;>rfl
theorem D2 {ρ:Nat->Option Nat} {o:aI}:(o.bO ρ).live↔o.live:=by cases o<;>simp[aI.bO,aI.live]
theorem GG {ord:List Nat} {ext:Ad} {b x:Nat} (ho:fJ (h.pick ord) (c.pick ord ext) b x):∃i∈ord,∃f,c.cf i=some b/\(h.at i).from_ (c.off i)=some f/\f<=x:=by
 obtain ⟨j,f,g1,g2,g3⟩:=ho;rw[pR]at g2;cases e:ord[j]? with
 | none=>rw[e]at g2; cases g2
 | some i=>
  rw[e]at g2;simp only[bh.pick,e,sj]at g1;simp only[aa4,bh.pick,ca,e,Bb]at g2;exact⟨i,List.mem_of_getElem? e,f,g1,g2,g3⟩
theorem Q9 {ord:List Nat} {ext:Ad} (Ra:∀b x,nW h c b x->¬ext b x):D1 (mu ord) h c (h.pick ord) (c.pick ord ext) where
 used:=fun i j e hu=>by
  have hj:=GF e;refine⟨?_,?_⟩
  ·have:=(List.getElem?_eq_some_iff.1 hj).1;simpa [aq.pick]using this
  ·rw[pR,hj];simp only[ne_eq,BQ];exact hu.2
 obj:=fun i j e hd=>by
  have hj:=GF e;rw[pR,hj]at hd;simp only[ne_eq,JV]at hd;exact⟨hd,by simp[bh.pick,hj],by simp[bh.pick,ca,hj]⟩
 tok:=fun i j e ht=>by
  rw[pR,GF e]at ht;exact aa2.1 ht
 row:=fun i j e T l ht=>by
  rw[pR,GF e]at ht;exact aa3.1 ht
 free:=fun b x hf=>⟨fun ho=>by
  obtain ⟨i,_,f,g1,g2,g3⟩:=GG ho;exact hf.1 ⟨i,f,g1,g2,g3⟩,Ra b x hf⟩
theorem aa5 (wf:WF w h c) {ord:List Nat} (fk:ord.Nodup) {ext:Ad} (Ra:∀b x,nW h c b x->¬ext b x) (aX:∀b x,ext b x->b<w.heap.size)
  (aqj:∀b x,(∃i∈ord,∃f,c.cf i=some b/\(h.at i).from_ (c.off i)=some f/\f<=x)->¬ext b x):WF w (h.pick ord) (c.pick ord ext) where
 lay:=⟨wf.lay.1,fun b hb=>⟨(wf.lay.2 b hb).1,fun x ho=>by
  obtain ⟨i,_,f,g1,g2,g3⟩:=GG ho;exact(wf.lay.2 b hb).2 x ⟨i,f,g1,g2,g3⟩⟩⟩
 hM:=fun b x ho=>aqj b x (GG ho)
 hP:=aX
 obj:=fun j hj=>by
  rw[pR];cases e:ord[j]? with
  | none=>trivial
  | some i=>
   by_cases hl:(h.at i).live
   ·exact(wf.obj i (aq.gb rfl (Gl hl))).bO (Q9 Ra) (by simp[bh.pick,e]) (by simp[bh.pick,ca,e])
   ·have h0:h.at i=.free\/h.at i=.dead:=by revert hl; cases h.at i<;>simp[aI.live]
    rcases h0 with h0|h0<;>simp only[h0,aI.bO]<;>trivial
 inj:=fun j k b hj hk h1 h2=>by
  rw[pR]at hj hk;cases e1:ord[j]? with
  | none=>rw[e1]at hj; exact hj.elim
  | some i1=>
   cases e2:ord[k]? with
   | none=>rw[e2]at hk; exact hk.elim
   | some i2=>
    rw[e1]at hj; rw[e2]at hk;simp only[bh.pick,e1,e2,sj]at h1 h2;have:=wf.inj i1 i2 b (D2.1 hj) (D2.1 hk) h1 h2;subst this;obtain ⟨lB,qR⟩:=List.getElem?_eq_some_iff.1 e1;obtain ⟨bY,e2'⟩:=List.getElem?_eq_some_iff.1 e2;have hp:=List.pairwise_iff_getElem.1 fk;rcases ZT j k with aX|rfl|aX
    ·exact(hp j k lB bY aX (qR.trans e2'.symm)).elim
    ·rfl
    ·exact(hp k j bY lB aX (e2'.trans qR.symm)).elim
theorem JW (h:aq):∀(n:Nat) (todo seen:List Nat),seen.Nodup->(reach h n todo seen).Nodup
 | 0,_,_,hn=>hn
 | n+1,[],_,hn=>hn
 | n+1,i::todo,seen,hn=>by
  simp only[reach];split
  ·exact JW h n _ _ hn
  ·rename_i hc;refine JW h n _ _ ?_;rw[List.nodup_append];refine⟨hn,by simp,fun a ha b hb => ?_⟩;simp at hb; subst hb
   rintro rfl
   simp at hc;exact hc ha
end
section
variable {w w':World} {h h':aq} {c c':bh}
theorem sJ {i:Nat}:∀ {cs:List V},i∈V.fI cs↔∃(j:Nat) (v:V),cs[j]? = some v/\i∈v.ids
 | []=>by simp[V.fI]
 | v::cs=>by
  simp only[V.fI,fU,sJ (cs:=cs)];constructor
  ·rintro (h|⟨j,u,h1,h2⟩)
   ·exact⟨0,v,rfl,h⟩
   ·exact⟨j+1,u,h1,h2⟩
  ·rintro ⟨j,u,h1,h2⟩
   cases j with
   | zero=>simp at h1; subst h1; exact .inl h2
   | succ j=>exact .inr ⟨j,u,h1,h2⟩
theorem ay.An {v:V} {d:Value} (r:ay w h c v d):∀i∈v.ids,Used h i:=by
 induction r with
 | undef v=>simp[V.ids]
 | int hn=>simp[V.ids]
 | bool b=>simp[V.ids]
 | str hl=>simp[V.ids]
 | fp=>simp[V.ids]
 | bk=>simp[V.ids]
 | fy=>simp[V.ids]
 | kB=>simp[V.ids]
 | eR=>simp[V.ids]
 | iface t v=>simp[V.ids]
 | gh hn=>simp[V.ids]
 | nS b=>simp[V.ids]
 | ptr hi _=>simpa [V.ids]using hi
 | map hi _=>simpa [V.ids]using hi
 | row hi _ _=>simpa [V.ids]using hi
 | j0 hi _ _=>simpa [V.ids]using hi
 | fH hi _=>simpa [V.ids]using hi
 | fg f hc _ ih=>
  intro i hi;simp only[V.ids]at hi;obtain ⟨j,v,h1,h2⟩:=sJ.1 hi;exact ih j v h1 i h2
 | @sl T l t A cap f cv bQ hc hr iw cQ ih=>
  intro i hi;cases t with
  | no=>simp[V.ids]at hi
  | nil=>simp[V.ids]at hi
  | own j=>simp[V.ids]at hi; subst hi; exact(cQ i rfl).1
 | jg hn bQ f hc _ ih=>
  intro i hi;simp only[V.ids]at hi;obtain ⟨j,v,h1,h2⟩:=sJ.1 hi;exact ih j v h1 i h2
 | @func f a b x y ha hb _ _ Gf Gg=>
  intro i hi;simp only[V.ids,fU]at hi;rcases hi with hi|hi
  ·obtain ⟨j,v,h1,h2⟩:=sJ.1 hi;have hj:=(List.getElem?_eq_some_iff.1 h1).1;exact Gf j v _ h1 (Array.getElem?_eq_getElem (by omega)) i h2
  ·obtain ⟨j,v,h1,h2⟩:=sJ.1 hi;have hj:=(List.getElem?_eq_some_iff.1 h1).1;exact Gg j v _ h1 (Array.getElem?_eq_getElem (by omega)) i h2
 | agg hl _ ih=>
  intro i hi;simp only[V.ids]at hi;obtain ⟨j,v,h1,h2⟩:=sJ.1 hi;have hj:=(List.getElem?_eq_some_iff.1 h1).1;exact ih j v _ h1 (Array.getElem?_eq_getElem (by omega)) i h2
 | tuple hl _ ih=>
  intro i hi;simp only[V.ids]at hi;obtain ⟨j,v,h1,h2⟩:=sJ.1 hi;have hj:=(List.getElem?_eq_some_iff.1 h1).1;exact ih j v _ h1 (Array.getElem?_eq_getElem (by omega)) i h2
theorem aQ.An {cs:List V} {ds:List Value} (r:aQ w h c cs ds):∀i∈V.fI cs,Used h i:=by
 intro i hi;obtain ⟨j,v,h1,h2⟩:=sJ.1 hi;have hj:=(List.getElem?_eq_some_iff.1 h1).1;exact(r.2 j v _ h1 (List.getElem?_eq_getElem (by have:=r.1; omega))).An i h2
theorem WF.An (wf:WF w h c) (i:Nat):∀j∈(h.at i).ids,Used h j:=by
 intro j hj;cases e:h.at i with
 | cells cs=>
  rw[e]at hj;have ho:=wf.obj i (aq.gb rfl (by rw[e]; simp));rw[e]at ho;obtain ⟨b,arr,el,_,_,r⟩:=ho;exact r.An j hj
 | bA v=>
  rw[e]at hj;have ho:=wf.obj i (aq.gb rfl (by rw[e]; simp));rw[e]at ho;obtain ⟨b,p,d,_,_,_,r⟩:=ho;exact r.An j hj
 | _=>rw[e]at hj; simp[aI.ids]at hj
theorem Rb (wf:WF w h c):∀(n:Nat) (todo seen:List Nat),(∀i∈todo,Used h i)->(∀i∈seen,Used h i)->∀i∈reach h n todo seen,Used h i
 | 0,_,_,_,hs=>hs
 | n+1,[],_,_,hs=>hs
 | n+1,i::todo,seen,ht,hs=>by
  simp only[reach];split
  ·exact Rb wf n _ _ (fun j hj=>ht j (by simp[hj])) hs
  ·refine Rb wf n _ _ (fun j hj => ?_) (fun j hj => ?_)
   ·rcases fU.1 hj with hj|hj
    ·exact ht j (by simp[hj])
    ·exact wf.An i j hj
   ·rcases fU.1 hj with hj|hj
    ·exact hs j hj
    ·simp at hj; subst hj; exact ht j (by simp)
theorem fJ.lt (wf:WF w h c) {b x:Nat} (ho:fJ h c b x):b<w.heap.size:=by
 obtain ⟨i,f,h1,h2,_⟩:=ho;have hl:(h.at i).live:=by cases e:h.at i<;>rw[e]at h2<;>simp_all [aI.from_,aI.live]
 exact(wf.obj i (aq.gb rfl (Gl hl))).lt hl h1
theorem aqk {o:aI} (h:o.live) (f:Nat):∃g,o.from_ f=some g:=by cases o<;>simp_all [aI.from_,aI.live]
def GH (h:aq) (c:bh) (ord:List Nat) (b x:Nat):Prop:=∃i∈ord,∃f,c.cf i=some b/\(h.at i).from_ (c.off i)=some f/\f<=x
def BR (h:aq) (c:bh) (ord:List Nat):Ad:=⟨fun b x=>c.ext b x\/(fJ h c b x/\¬GH h c ord b x)⟩
theorem GH.gI {ord:List Nat} {b x:Nat} (o:GH h c ord b x):fJ h c b x:=by obtain ⟨i,_,f,h1,h2,h3⟩:=o; exact⟨i,f,h1,h2,h3⟩
theorem aa6 {ord:List Nat}:∀b x,nW h c b x->¬BR h c ord b x:=by
 rintro b x hf (he|he)
 ·exact hf.2 he
 ·exact hf.1 he.1
theorem Rc (wf:WF w h c) {ord:List Nat} (fk:ord.Nodup):WF w (h.pick ord) (c.pick ord (BR h c ord)):=by
 refine aa5 wf fk aa6 ?_ ?_
 ·rintro b x (he|he)
  ·exact wf.hP b x he
  ·exact he.1.lt wf
 ·rintro b x ho (he|he)
  ·exact wf.hM b x (GH.gI ho) he
  ·exact he.2 ho
theorem Rd {ord:List Nat} {cs:List V} {ds:List Value} (r:aQ w h c cs ds):aQ w (h.pick ord) (c.pick ord (BR h c ord)) (V.iv (mu ord) cs) ds:=
 r.bO (Q9 aa6)
theorem oS:∀(l:List (Nat×aI)) (h:aq),(aq.sv h l).length=h.length
 | [],_=>rfl
 | (i,o)::l,h=>by simp[aq.sv,oS l]
theorem JX {i:Nat}:∀(ord:List Nat) (os:List aI) (h:aq),i∉ord->aq.at (aq.sv h (ord.zip os)) i=h.at i
 | [],_,_,_=>rfl
 | _::_,[],_,_=>rfl
 | a::ord,o::os,h,hn=>by
  simp only[List.zip_cons_cons,aq.sv];rw[JX ord os _ (fun hm=>hn (by simp[hm]))];exact dR _ (fun e=>hn (by simp[e]))
theorem Re {i:Nat}:∀(ord:List Nat) (os:List aI) (h:aq) (j:Nat) (o:aI),ord.Nodup->ord[j]? = some i->os[j]? = some o->i<h.length->aq.at (aq.sv h (ord.zip os)) i=o
 | [],_,_,_,_,_,hj,_,_=>by simp at hj
 | _::_,[],_,_,_,_,_,ho,_=>by simp at ho
 | a::ord,p::os,h,j,o,fk,hj,ho,hi=>by
  simp only[List.zip_cons_cons,aq.sv];cases j with
  | zero=>
   simp at hj ho;subst hj; subst ho;rw[JX ord os _ (by simpa using (Ps.1 fk).1)];exact oQ _ hi
  | succ j=>exact Re ord os _ j o (Ps.1 fk).2 (by simpa using hj) (by simpa using ho) (by simpa using hi)
theorem ye {a b:aq} {i:Nat} (hi:i<a.length):aq.at (a++b) i=aq.at a i:=by simp[aq.at,ca,List.getElem?_append_left hi]
theorem yf {a b:aq} {i:Nat} (hi:a.length<=i):aq.at (a++b) i=aq.at b (i - a.length):=by simp[aq.at,ca,List.getElem?_append_right hi]
theorem JY {ord:List Nat} (fk:ord.Nodup) {i j:Nat} (e:ord[j]? = some i):mu ord i=some j:=by
 obtain ⟨hj,rfl⟩:=List.getElem?_eq_some_iff.1 e;have hm:ord[j]∈ord:=jd hj;have aX:ord.idxOf ord[j]<ord.length:=List.idxOf_lt_length_of_mem hm;unfold mu;simp only[aX,if_true];have hg:=List.getElem_idxOf aX;have hp:=List.pairwise_iff_getElem.1 fk;rcases ZT (ord.idxOf ord[j]) j with hl|he|hl
 ·exact(hp _ _ aX hj hl hg).elim
 ·rw[he]
 ·exact(hp _ _ hj aX hl hg.symm).elim
theorem D3 {ord:List Nat} {i:Nat} (h:i∉ord):mu ord i=none:=by
 cases e:mu ord i with
 | none=>rfl
 | some j=>exact(h (List.mem_of_getElem? (GF e))).elim
def bh.back (c:bh) (ord:List Nat) (n:Nat) (c':bh):bh:=
 ⟨fun i=>match mu ord i with|some j=>c'.cf j|none=>if i<n then c.cf i else c'.cf (i - n+ord.length),
  fun i=>match mu ord i with|some j=>c'.off j|none=>if i<n then c.off i else c'.off (i - n+ord.length),c.ext⟩
theorem Ao {ord:List Nat} (fk:ord.Nodup) (aX:∀i∈ord,i<h.length) (hle:ord.length<=h'.length) (i:Nat) :
  (∃j,k6 ord h.length j=i/\j<h'.length/\aq.at (h.back ord h') i=(h'.at j).bO (fun j=>some (k6 ord h.length j))/\(c.back ord h.length c').cf i=c'.cf j/\(c.back ord h.length c').off i=c'.off j) \/
  (i∉ord/\i<h.length/\aq.at (h.back ord h') i=h.at i/\(c.back ord h.length c').cf i=c.cf i/\(c.back ord h.length c').off i=c.off i) \/
  ((h.back ord h').length<=i/\aq.at (h.back ord h') i=.dead):=by
 have hlen:(h.back ord h').length=h.length+(h'.length - ord.length):=by simp[aq.back,oS]
 by_cases hm:i∈ord
 ·obtain ⟨j,hj,e⟩:=List.mem_iff_getElem.1 hm;have e':ord[j]? = some i:=by rw[List.getElem?_eq_getElem hj,e]
  have hi:=aX i hm;refine .inl ⟨j,by simp[k6,hj,ca,e],by omega,?_,by simp[bh.back,JY fk e'],by simp[bh.back,JY fk e']⟩;unfold aq.back;simp only;rw[ye (by rw[oS]; exact hi)];refine Re ord _ h j _ fk e' ?_ hi;have lB:j<h'.length:=by omega
  simp[hj,aq.at,ca,List.getElem?_eq_getElem lB]
 ·by_cases hi:i<h.length
  ·refine .inr (.inl ⟨hm,hi,?_,by simp[bh.back,D3 hm,hi],by simp[bh.back,D3 hm,hi]⟩);unfold aq.back;simp only;rw[ye (by rw[oS]; exact hi)];exact JX ord _ h hm
  ·by_cases hb:i<(h.back ord h').length
   ·rw[hlen]at hb;refine .inl ⟨i - h.length+ord.length,?_,by omega,?_,by simp[bh.back,D3 hm,hi],by simp[bh.back,D3 hm,hi]⟩
    ·have:¬(i - h.length+ord.length<ord.length):=by omega
     simp only[k6,this,if_false];omega
    ·unfold aq.back;simp only;rw[yf (by rw[oS]; omega),oS];have bI:i - h.length+ord.length<h'.length:=by omega
     have hq:ord.length+(i - h.length)=i - h.length+ord.length:=by omega
     simp[aq.at,ca,hq,List.getElem?_eq_getElem bI]
   ·refine .inr (.inr ⟨by omega,?_⟩);simp[aq.at,ca,List.getElem?_eq_none (FL hb)]
theorem JZ {ord:List Nat} (fk:ord.Nodup) (aX:∀i∈ord,i<h.length) (hle:ord.length<=h'.length) (j:Nat) :
  aq.at (h.back ord h') (k6 ord h.length j)=(h'.at j).bO (fun j=>some (k6 ord h.length j))/\(c.back ord h.length c').cf (k6 ord h.length j)=c'.cf j/\(c.back ord h.length c').off (k6 ord h.length j)=c'.off j:=by
 have hlen:(h.back ord h').length=h.length+(h'.length - ord.length):=by simp[aq.back,oS]
 by_cases hj:j<ord.length
 ·have hb:k6 ord h.length j=ord[j]:=by simp[k6,hj,ca]
  have e':ord[j]? = some ord[j]:=List.getElem?_eq_getElem hj;have hi:=aX _ (jd hj);rw[hb];refine⟨?_,by simp[bh.back,JY fk e'],by simp[bh.back,JY fk e']⟩;unfold aq.back;simp only;rw[ye (by rw[oS]; exact hi)];refine Re ord _ h j _ fk e' ?_ hi;have lB:j<h'.length:=by omega
  simp[hj,aq.at,ca,List.getElem?_eq_getElem lB]
 ·have hb:k6 ord h.length j=h.length+(j - ord.length):=by simp[k6,hj]
  have hm:h.length+(j - ord.length)∉ord:=fun hm=>by have:=aX _ hm; omega
  have hn:¬(h.length+(j - ord.length)<h.length):=by omega
  have hs:h.length+(j - ord.length) - h.length+ord.length=j:=by omega
  rw[hb];refine⟨?_,by simp only[bh.back,D3 hm,hn,if_false,hs],by simp only[bh.back,D3 hm,hn,if_false,hs]⟩;unfold aq.back;simp only;rw[yf (by rw[oS]; omega),oS];have hq:h.length+(j - ord.length) - h.length=j - ord.length:=by omega
  have oP:ord.length+(j - ord.length)=j:=by omega
  rw[hq];by_cases lB:j<h'.length
  ·simp[aq.at,ca,oP,List.getElem?_eq_getElem lB]
  ·simp[aq.at,ca,oP,List.getElem?_eq_none (FL lB),aI.bO]
theorem aql {ρ:Nat->Option Nat} {o o':aI}:(o.bO ρ).aW o'↔o.aW o':=by cases o<;>cases o'<;>simp[aI.bO,aI.aW,vX]
theorem aa7 {ρ:Nat->Option Nat} {o o':aI}:o.aW (o'.bO ρ)↔o.aW o':=by cases o<;>cases o'<;>simp[aI.bO,aI.aW,vX]
theorem D4 {o:aI} (h:o.live) (hm:∀K T l,o≠.gi K T l\/True):o.aW o:=by cases o<;>simp_all [aI.aW,aI.live]
theorem aa8 (wf:WF w h c) {ord:List Nat} (fk:ord.Nodup) (hu:∀i∈ord,Used h i) (pQ:WF w' h' c') (x:Ext w (h.pick ord) (c.pick ord (BR h c ord)) w' h' c') :
  WF w' (h.back ord h') (c.back ord h.length c')/\Ext w h c w' (h.back ord h') (c.back ord h.length c')/\D1 (fun j=>some (k6 ord h.length j)) h' c' (h.back ord h') (c.back ord h.length c'):=by
 have aX:∀i∈ord,i<h.length:=fun i hi=>(hu i hi).1
 have Rf:∀j,j<ord.length->Used (h.pick ord) j:=fun j hj=>by
  refine⟨by simpa [aq.pick]using hj,?_⟩;rw[pR,List.getElem?_eq_getElem hj];simp only[ne_eq,BQ];exact(hu _ (jd hj)).2
 have hle:ord.length<=h'.length:=by
  rcases Nat.eq_zero_or_pos ord.length with h0|h0
  ·omega
  ·have:=(x.used _ (Rf (ord.length - 1) (by omega))).1; omega
 have hlen:(h.back ord h').length=h.length+(h'.length - ord.length):=by simp[aq.back,oS]
 
 have ya:∀b y,fJ (h.back ord h') (c.back ord h.length c') b y->fJ h' c' b y\/∃i f,i∉ord/\i<h.length/\c.cf i=some b/\(h.at i).from_ (c.off i)=some f/\f<=y:=by
  rintro b y ⟨i,f,h1,h2,h3⟩
  rcases Ao (c:=c) (c':=c') fk aX hle i with ⟨j,_,_,g1,g2,g3⟩|⟨g0,g1,g2,g3,g4⟩|⟨_,g1⟩
  ·rw[g2]at h1; rw[g1,g3,aa4]at h2;exact .inl ⟨j,f,h1,h2,h3⟩
  ·rw[g3]at h1; rw[g2,g4]at h2;exact .inr ⟨i,f,g0,g1,h1,h2,h3⟩
  ·rw[g1]at h2; cases h2
 have QH:∀i f b y,i∉ord->c.cf i=some b->(h.at i).from_ (c.off i)=some f->f<=y->BR h c ord b y:=by
  intro i f b y hi h1 h2 h3;refine .inr ⟨⟨i,f,h1,h2,h3⟩,?_⟩
  rintro ⟨i2,hm,f2,g1,g2,g3⟩
  have:=wf.inj i i2 b (vU h2) (vU g2) h1 g1;subst this;exact hi hm
 have GI:∀b y,fJ (h.pick ord) (c.pick ord (BR h c ord)) b y->GH h c ord b y:=fun b y ho=>GG ho
 have Rg:c'.ext=BR h c ord:=x.ext;have aa9:D1 (fun j=>some (k6 ord h.length j)) h' c' (h.back ord h') (c.back ord h.length c'):=by
  refine⟨fun i j e hi => ?_,fun i j e hd => ?_,fun i j e ht => ?_,fun i j e T l ht => ?_,fun b y hf=>⟨fun ho => ?_,fun he => ?_⟩⟩
  ·cases e;obtain ⟨g1,_,_⟩:=JZ (c:=c) (c':=c') fk aX hle i;refine⟨?_,by rw[g1]; simp only[ne_eq,BQ]; exact hi.2⟩;rw[hlen];unfold k6;have:=hi.1;split
   ·rename_i hj;have:=aX _ (jd hj);simp only[ca,List.getElem?_eq_getElem hj,Bb];omega
   ·omega
  ·cases e;obtain ⟨g1,g2,g3⟩:=JZ (c:=c) (c':=c') fk aX hle i;rw[g1]at hd;simp only[ne_eq,JV]at hd;exact⟨hd,g2,g3⟩
  ·cases e;rw[(JZ (c:=c) (c':=c') fk aX hle i).1]at ht;exact aa2.1 ht
  ·cases e;rw[(JZ (c:=c) (c':=c') fk aX hle i).1]at ht;exact aa3.1 ht
  ·rcases ya b y ho with ho|⟨i,f,g0,_,g2,g3,g4⟩
   ·exact hf.1 ho
   ·exact hf.2 (by rw[Rg]; exact QH i f b y g0 g2 g3 g4)
  ·exact hf.2 (by rw[Rg]; exact .inl he)
 have hx:Ext w h c w' (h.back ord h') (c.back ord h.length c'):=by
  refine⟨x.os,x.tape,x.output,x.size,fun i hi => ?_,fun i hi hd => ?_,fun b y hb ho=>x.cell b y hb (fun o=>ho (GI b y o).gI),fun b hb ho=>x.block b hb (fun y o=>ho y (GI b y o).gI),fun b y hb ho => ?_,rfl,x.arr⟩
  ·rcases Ao (c:=c) (c':=c') fk aX hle i with ⟨j,g0,gj,g1,g2,g3⟩|⟨g0,g1,g2,g3,g4⟩|⟨g0,_⟩
   ·refine⟨by have:=hi.1; omega,?_⟩;rw[g1]; simp only[ne_eq,BQ];have D5:j<ord.length:=by
     unfold k6 at g0;split at g0
     ·assumption
     ·have:=hi.1; omega
    exact(x.used j (Rf j D5)).2
   ·exact⟨by omega,by rw[g2]; exact hi.2⟩
   ·have:=hi.1; omega
  ·rcases Ao (c:=c) (c':=c') fk aX hle i with ⟨j,g0,gj,g1,g2,g3⟩|⟨g0,g1,g2,g3,g4⟩|⟨g0,_⟩
   ·have D5:j<ord.length:=by
     unfold k6 at g0;split at g0
     ·assumption
     ·have:=hi.1; omega
    have e:ord[j]? = some i:=by
     simp only[k6,D5,if_true,ca,List.getElem?_eq_getElem D5,Bb]at g0;rw[List.getElem?_eq_getElem D5,g0]
    rw[g1]at hd ⊢;simp only[ne_eq,JV]at hd;obtain ⟨s1,s2,s3⟩:=x.same j (Rf j D5) hd;rw[pR,e]at s1;rw[g2,g3,s2,s3];exact⟨aa7.2 (aql.1 s1),by simp[bh.pick,e],by simp[bh.pick,ca,e]⟩
   ·rw[g2]at hd ⊢;exact⟨D4 (DP hi.2 hd) (fun _ _ _=>.inr trivial),g3,g4⟩
   ·have:=hi.1; omega
  ·rcases ya b y ho with ho|⟨i,f,g0,_,g2,g3,g4⟩
   ·exact(GI b y (x.gI b y hb ho)).gI
   ·exact⟨i,f,g2,g3,g4⟩
 refine⟨⟨fun b y ho he => ?_,fun b y he=>xw (wf.hP b y he) x.size,fun i hi => ?_,fun i j b hi hj h1 h2 => ?_,wf.pL hx⟩,hx,aa9⟩
 ·rcases ya b y ho with ho|⟨i,f,g0,_,g2,g3,g4⟩
  ·exact pQ.hM b y ho (by rw[Rg]; exact .inl he)
  ·exact wf.hM b y ⟨i,f,g2,g3,g4⟩ he
 ·rcases Ao (c:=c) (c':=c') fk aX hle i with ⟨j,g0,gj,g1,g2,g3⟩|⟨g0,g1,g2,g3,g4⟩|⟨_,g0⟩
  ·rw[g1];exact(pQ.obj j gj).bO aa9 g2 g3
  ·rw[g2];by_cases hl:(h.at i).live
   ·refine(wf.obj i g1).eQ hx (fun b hb=>x.block b ((wf.obj i g1).lt hl hb) fun y o => ?_) g3 g4;obtain ⟨i2,hm,f2,k1,k2,_⟩:=GI b y o;have:=wf.inj i i2 b hl (vU k2) hb k1;subst this;exact g0 hm
   ·have h0:h.at i=.free\/h.at i=.dead:=by revert hl; cases h.at i<;>simp[aI.live]
    rcases h0 with h0|h0<;>rw[h0]<;>trivial
  ·rw[g0]; trivial
 ·have key:∀i j b,i∉ord->(h.at i).live->c.cf i=some b->(h'.at j).live->c'.cf j=some b->False:=by
   intro i j b hi hl hb pI bI;have lS:=(wf.obj i (aq.gb rfl (Gl hl))).lt hl hb;obtain ⟨f,hf⟩:=aqk pI (c'.off j);obtain ⟨i2,hm,f2,k1,k2,_⟩:=GI b f (x.gI b f lS ⟨j,f,bI,hf,cD _⟩);have:=wf.inj i i2 b hl (vU k2) hb k1;subst this;exact hi hm
  rcases Ao (c:=c) (c':=c') fk aX hle i with ⟨i',a0,_,a1,a2,a3⟩|⟨a0,a1,a2,a3,a4⟩|⟨_,a0⟩
  ·rcases Ao (c:=c) (c':=c') fk aX hle j with ⟨j',b0,_,b1,b2,b3⟩|⟨b0,b1,b2,b3,b4⟩|⟨_,b0⟩
   ·rw[a1,D2]at hi; rw[b1,D2]at hj;rw[a2]at h1; rw[b2]at h2;rw[<-a0,<-b0,pQ.inj i' j' b hi hj h1 h2]
   ·rw[a1,D2]at hi; rw[b2]at hj;rw[a2]at h1; rw[b3]at h2;exact(key j i' b b0 hj h2 hi h1).elim
   ·rw[b0]at hj; exact hj.elim
  ·rcases Ao (c:=c) (c':=c') fk aX hle j with ⟨j',b0,_,b1,b2,b3⟩|⟨b0,b1,b2,b3,b4⟩|⟨_,b0⟩
   ·rw[a2]at hi; rw[b1,D2]at hj;rw[a3]at h1; rw[b2]at h2;exact(key i j' b a0 hi h1 hj h2).elim
   ·rw[a2]at hi; rw[b2]at hj;rw[a3]at h1; rw[b3]at h2;exact wf.inj i j b hi hj h1 h2
   ·rw[b0]at hj; exact hj.elim
  ·rw[a0]at hi; exact hi.elim
end
end Go.ak
end
