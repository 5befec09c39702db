/-
  StateTells, part 3 of 10.
-/
import Derived.Calls
import Derived.Orders
import Derived.ChangeKeysEq
import Derived.Test.YtidfokedcnhahaaGreatDoorStateTellsB2
set_option linter.unusedSimpArgs false
set_option linter.unusedVariables false
open Bool renaming and_assoc->Dn,and_eq_true->bF,and_true->qD,false_and->lu,false_eq_true->jy,false_or->sn,not_eq_true'->xx,not_true->cE,or_eq_true->je,true_and->oJ
open Go renaming isAgg->Jb
open Go.Call renaming operands->Bf
open Go.Calls renaming mono->va
open Go.Instr renaming loadAt->Jg,sureAddr->u0
open Go.Op renaming eqFields->Bh,equalIn->uY,operands->Be
open Go.Oper renaming upon_value->Pt
open Go.Region renaming binds->ZJ,ready->ZV
open Go.Result renaming andThen_ok->hG
open Go.Sem renaming run_bind->gZ,run_pure->px
open List renaming all_eq_true->gF,append_assoc->gG,cons_append->gg,drop_drop->py,drop_succ_cons->Pr,eq_nil_of_length_eq_zero->gH,filter_cons_of_pos->ZU,flatten_cons->ZP,getD->ca,getElem_mem->jd,length_append->bf,length_cons->bj,length_nil->cu,length_set->ZK,length_take->eP,mapM_cons->Po,map_congr_left->xy,map_cons->kz,mem_append->fU,mem_cons->eJ,mem_map->Dj,pairwise_cons->Dm,range->jZ,rec->Ja,replicate->jx,set_comm->FU,sublist_cons_self->Pv,takeWhile_cons->Bg,take_append_drop->Dk,take_succ_cons->FT
open Nat renaming add_zero->zk,beq->kY,blt->xr,eq_of_beq_eq_true->zo,le_of_ble_eq_true->FV,le_of_not_lt->FL,le_refl->cD,lt_of_lt_of_le->xw,lt_or_ge->mo,zero_add->mq,zero_le->nQ
open Ne renaming symm->dX
open Option renaming bind_some->sj,getD_some->Bb,map_some->Bc
open Option.some renaming injEq->ij
open Prod renaming fst->Pj,snd->Pk
open Prod.mk renaming injEq->kA
noncomputable section
namespace Go.ak
open Go.RowKit
section
variable {tt:aZ} {h:aq} {R:Type}
theorem D6 {t off:Nat} {cs:List V} {k0:V->Option R} {r:R} (hk:jA tt t cs off k0=some r) :
  ∃v,k0 v=some r/\∀k:V->Option R,jA tt t cs off k=k v:=by
 unfold jA at hk;split at hk
 ·rename_i bP;split at hk
  ·rename_i tL;split at hk
   ·rename_i bL;exact⟨_,hk,fun k=>by simp[jA,bP,tL,bL]⟩
   ·cases hk
  ·rename_i tL;split at hk
   ·rename_i v hv;exact⟨_,hk,fun k=>by simp[jA,bP,tL,hv]⟩
   ·cases hk
 ·cases hk
theorem J0 {op:BinOp} {x y:V} {k0:V->Option R} {r:R} (hk:hJ op x y k0=some r) :
  ∃v,k0 v=some r/\∀k:V->Option R,hJ op x y k=k v:=by
 unfold hJ at hk;split at hk
 ·obtain ⟨hb,hk⟩:=cz hk;exact⟨_,hk,fun k=>by simp[hJ,ag,hb]⟩
 ·obtain ⟨hb,hk⟩:=cz hk;exact⟨_,hk,fun k=>by simp[hJ,ag,hb]⟩
 ·split at hk
  ·rename_i cG;subst cG;split at hk<;>first
    | (exact⟨_,hk,fun k=>by simp[hJ]⟩)
    | (obtain ⟨hb,hk⟩:=cz hk; exact⟨_,hk,fun k=>by simp only[hJ,hb,ag,cond_true,if_true]⟩)
    | cases hk
  ·cases hk
 ·split at hk<;>first
    | (exact⟨_,hk,fun k=>by simp[hJ]⟩)
    | (obtain ⟨hb,hk⟩:=cz hk; exact⟨_,hk,fun k=>by simp only[hJ,hb,ag,cond_true]⟩)
    | cases hk
 ·split at hk
  ·exact⟨_,hk,fun k=>by simp[hJ, *]⟩
  ·cases hk
 ·split at hk
  ·exact⟨_,hk,fun k=>by simp[hJ, *]⟩
  ·cases hk
 ·cases hk
theorem aqm {op:BinOp} {x y:V} {k0:V->Option R} {r:R} (hk:xG op x y k0=some r) :
  ∃v,k0 v=some r/\∀k:V->Option R,xG op x y k=k v:=by
 unfold xG at hk;split at hk
 ·split at hk
  ·exact⟨_,hk,fun k=>by simp[xG, *]⟩
  ·exact⟨_,hk,fun k=>by simp[xG, *]⟩
  ·cases hk
 ·cases hk
theorem aqn {op:BinOp} {o:Operand} {x y:V} {k0:V->Option R} {r:R} (hk:zS op o x y k0=some r) :
  ∃v,k0 v=some r/\∀k:V->Option R,zS op o x y k=k v:=by
 unfold zS at hk;split at hk<;>first|(exact⟨_,hk,fun k=>by simp[zS]⟩)|cases hk
theorem abb {a:V} {neg:Bool} {k0:V->Option R} {r:R} (hk:su a (fun r=>k0 (F5 neg r))=some r) :
  ∃v,k0 v=some r/\∀k:V->Option R,su a (fun r=>k (F5 neg r))=k v:=by
 unfold su at hk;split at hk<;>try cases hk
 ·exact⟨_,hk,fun k=>by simp[su]⟩
 ·rename_i l _;cases hl:l.isEmpty with
  | true=>rw[hl]at hk; exact⟨_,hk,fun k=>by simp only[su,hl]; rfl⟩
  | false=>rw[hl]at hk; exact⟨_,hk,fun k=>by simp only[su,hl]; rfl⟩
 ·rename_i n;cases hl:decide (n=0)with
  | true=>rw[hl]at hk; exact⟨_,hk,fun k=>by simp only[su,hl]; rfl⟩
  | false=>rw[hl]at hk; exact⟨_,hk,fun k=>by simp only[su,hl]; rfl⟩
theorem aqo {op:BinOp} {x y:V} {k0:V->Option R} {r:R} (hk:xH op x y k0=some r) :
  ∃v,k0 v=some r/\∀k:V->Option R,xH op x y k=k v:=by
 unfold xH at hk;split at hk
 ·split at hk
  ·obtain ⟨v,h1,h2⟩:=abb hk;exact⟨v,h1,fun k=>by simp[xH,h2]⟩
  ·obtain ⟨v,h1,h2⟩:=abb hk;exact⟨v,h1,fun k=>by simp[xH,h2]⟩
  ·cases hk
 ·cases hk
theorem Ap {v:Option V} {d:Int} {k0:Int->Option R} {r:R} (hk:kZ v d k0=some r) :
  ∃n,k0 n=some r/\∀k:Int->Option R,kZ v d k=k n:=by
 unfold kZ at hk;split at hk
 ·exact⟨_,hk,fun k=>rfl⟩
 ·exact⟨_,hk,fun k=>rfl⟩
 ·cases hk
theorem aqp {o:Op} {ρ:Operand->V} {k0:V->Option R} {r:R} (hk:vI tt o ρ k0=some r) :
  ∃v,k0 v=some r/\∀k:V->Option R,vI tt o ρ k=k v:=by
 cases o<;>simp only[vI]at hk ⊢ <;> (try cases hk)
 case move x=>exact⟨_,hk,fun k=>rfl⟩
 case assign x=>exact⟨_,hk,fun k=>rfl⟩
 case pick c a b=>
  split at hk
  ·rename_i t ht;split at hk
   ·rename_i u v hu hv;exact⟨_,hk,fun k=>by simp[ht,hu,hv]⟩
   ·rename_i u v hn;refine⟨bif t then ρ a else ρ b,by cases t<;>exact hk,fun k => ?_⟩;cases t<;>rfl
  ·cases hk
 case nilCheck x=>
  split at hk<;>first|(exact⟨_,hk,fun k=>by simp[*]⟩)|cases hk
 case binOp op t x y _=>
  split at hk
  ·split at hk
   ·obtain ⟨v,h1,h2⟩:=J0 hk;exact⟨v,h1,fun k=>by simp[*]⟩
   ·cases hk
  ·split at hk
   ·obtain ⟨v,h1,h2⟩:=J0 hk;exact⟨v,h1,fun k=>by simp[*]⟩
   ·cases hk
  ·obtain ⟨v,h1,h2⟩:=J0 hk;exact⟨v,h1,fun k=>by simp[*]⟩
  ·obtain ⟨v,h1,h2⟩:=J0 hk;exact⟨v,h1,fun k=>by simp[*]⟩
  ·rename_i n1 n2 n3 n4;split at hk
   ·rename_i hd;obtain ⟨v,h1,h2⟩:=aqm hk;exact⟨v,h1,fun k=>by simp[*]⟩
   ·rename_i hd;obtain ⟨v,h1,h2⟩:=aqo hk;exact⟨v,h1,fun k=>by simp[*]⟩
   ·rename_i hd;obtain ⟨v,h1,h2⟩:=aqn hk;exact⟨v,h1,fun k=>by simp[*]⟩
   ·cases hk
 case unOp op _ x=>
  split at hk<;>first|(exact⟨_,hk,fun k=>by simp[*]⟩)|cases hk
 case makeInterface t x=>
  split at hk<;>first|(exact⟨_,hk,fun k=>by simp[*]⟩)|cases hk
 case convert s d x=>
  split at hk
  ·cases hk
  ·split at hk
   ·exact⟨_,hk,fun k=>by simp[*]⟩
   ·split at hk
    ·exact⟨_,hk,fun k=>by simp[*]⟩
    ·cases hk
   ·cases hk
 case fieldAddr s x f=>
  split at hk<;>(try cases hk);split at hk<;>(try cases hk);split at hk<;>(try cases hk);split at hk<;>first|(exact⟨_,hk,fun k=>by simp_all⟩)|cases hk
 case field s x f=>
  split at hk<;>(try cases hk);split at hk<;>(try cases hk);obtain ⟨v,h1,h2⟩:=D6 hk;exact⟨v,h1,fun k=>by simp[*]⟩
 case indexAddr t x i=>
  unfold idxOf at hk ⊢;split at hk<;>(try cases hk);split at hk<;>(try cases hk)
  ·split at hk<;>(try cases hk);obtain ⟨hb,hk⟩:=cz hk;exact⟨_,hk,fun k=>by simp_all [ag]⟩
  ·split at hk<;>(try cases hk);obtain ⟨hb,hk⟩:=cz hk;exact⟨_,hk,fun k=>by simp_all [ag]⟩
  ·split at hk<;>(try cases hk);obtain ⟨hb,hk⟩:=cz hk;exact⟨_,hk,fun k=>by simp_all [ag]⟩
  ·split at hk<;>(try cases hk);rename_i hc;obtain ⟨hb,hk⟩:=cz hk;exact⟨_,hk,fun k=>by simp only[*,if_true,ag,cond_true]⟩
  ·split at hk<;>(try cases hk);rename_i hc;obtain ⟨hb,hk⟩:=cz hk;exact⟨_,hk,fun k=>by simp only[*,if_true,ag,cond_true]⟩
 case index t x i=>
  unfold idxOf at hk ⊢;split at hk<;>(try cases hk);split at hk<;>(try cases hk)
  ·obtain ⟨hb,hk⟩:=cz hk;exact⟨_,hk,fun k=>by simp_all [ag]⟩
  ·obtain ⟨hb,hk⟩:=cz hk;obtain ⟨v,h1,h2⟩:=D6 hk;exact⟨v,h1,fun k=>by simp_all [ag]⟩
 case slice t x lo hi mx=>
  split at hk<;>(try cases hk);split at hk<;>(try cases hk)
  ·rename_i hd hx;obtain ⟨n,hk,e1⟩:=Ap hk;obtain ⟨m,hk,e2⟩:=Ap hk;obtain ⟨hb,hk⟩:=cz hk;obtain ⟨gn,hk⟩:=cz hk;exact⟨_,hk,fun k=>by simp only[hd,hx,e1,e2,hb,gn,ag,cond_true]⟩
  ·rename_i hd hx;split at hk<;>(try cases hk);rename_i hc;obtain ⟨n,hk,e1⟩:=Ap hk;split at hk
   ·obtain ⟨hb,hk⟩:=cz hk;exact⟨_,hk,fun k=>by simp only[hd,hx,hc,e1,hb,ag,cond_true,if_true]⟩
   ·obtain ⟨m,hk,e2⟩:=Ap hk;obtain ⟨hb,hk⟩:=cz hk;obtain ⟨gn,hk⟩:=cz hk;exact⟨_,hk,fun k=>by simp only[hd,hx,hc,e1,e2,hb,gn,ag,cond_true,if_true]⟩
  ·rename_i hd hx;split at hk<;>(try cases hk);rename_i hc;obtain ⟨n,hk,e1⟩:=Ap hk;obtain ⟨m,hk,e2⟩:=Ap hk;obtain ⟨hb,hk⟩:=cz hk;exact⟨_,hk,fun k=>by rw[if_neg hc]; simp only[e1,e2,hb,ag,cond_true]⟩
  ·rename_i hd hx;split at hk<;>(try cases hk);rename_i hc;obtain ⟨n,hk,e1⟩:=Ap hk;obtain ⟨m,hk,e2⟩:=Ap hk;obtain ⟨hb,hk⟩:=cz hk;obtain ⟨gn,hk⟩:=cz hk;exact⟨_,hk,fun k=>by rw[if_neg hc]; simp only[e1,e2,hb,gn,ag,cond_true]⟩
 case makeFunc f first cap=>
  cases f<;>simp only at hk ⊢ <;> first|(exact⟨_,hk,fun k=>rfl⟩)|cases hk
 case extract t i=>
  split at hk<;>(try cases hk);split at hk<;>(try cases hk);exact⟨_,hk,fun k=>by simp[*]⟩
 case build t parts=>
  split at hk<;>(try cases hk)
  all_goals
   rename_i hd;split at hk<;>(try cases hk);rename_i hc;split at hk<;>(try cases hk);rename_i hf;exact⟨_,hk,fun k=>by rw[if_neg hc]⟩
 case call c=>
  split at hk<;>(try cases hk)
  ·split at hk<;>(try cases hk);split at hk<;>(try cases hk)
   all_goals exact⟨_,hk,fun k=>by simp[*]⟩
  ·split at hk<;>(try cases hk);split at hk<;>(try cases hk);exact⟨_,hk,fun k=>by simp[*]⟩
  ·split at hk<;>(try cases hk);split at hk<;>(try cases hk);exact⟨_,hk,fun k=>by simp[*]⟩
def aI.rd:aI->aI
 | .tok | .dead=>.free
 | ob=>ob
theorem GJ {a b:aI} (h:a.rd=b.rd):a=b\/((a=.tok\/a=.dead\/a=.free)/\(b=.tok\/b=.dead\/b=.free)):=by
 cases a<;>cases b<;>simp[aI.rd]at h ⊢ <;> exact h
theorem aqq {a b:aI} (h:a.rd=b.rd) {cs:List V} (hb:b=.cells cs):a=.cells cs:=by
 rcases GJ h with h|⟨_,h⟩
 ·rw[h,hb]
 ·rw[hb]at h; simp at h
theorem aqr {a b:aI} (h:a.rd=b.rd) {v:V} (hb:b=.bA v):a=.bA v:=by
 rcases GJ h with h|⟨_,h⟩
 ·rw[h,hb]
 ·rw[hb]at h; simp at h
theorem abd {a b:aI} (h:a.rd=b.rd) {T:Ty} {l:List T.den} (hb:b=.row T l):a=.row T l:=by
 rcases GJ h with h|⟨_,h⟩
 ·rw[h,hb]
 ·rw[hb]at h; simp at h
theorem aqs {a b:aI} (h:a.rd=b.rd) {K T:Ty} {l:List (K.den×T.den)} (hb:b=.gi K T l):a=.gi K T l:=by
 rcases GJ h with h|⟨_,h⟩
 ·rw[h,hb]
 ·rw[hb]at h; simp at h
theorem aqt {o:Op} {ρ:Operand->V} {lim:Option Nat} {k0:V->Option R} {r:R} (hk:qG tt o ρ h lim k0=some r) :
  ∃v,k0 v=some r/\∀(h2:aq),(∀i,sA lim i=true->(h2.at i).rd=(h.at i).rd)->∀k:V->Option R,qG tt o ρ h2 lim k=k v:=by
 cases o<;>simp only[qG]at hk ⊢ <;> (try cases hk)
 case load t x=>
  split at hk<;>(try cases hk)
  ·split at hk<;>(try cases hk);rename_i hl;split at hk<;>(try cases hk)
   all_goals rename_i hc
   ·obtain ⟨v,h1,h2⟩:=D6 hk;exact⟨v,h1,fun hh e k=>by have e':=aqq (e _ hl) hc; clear e; simp only[*,if_true]⟩
   ·obtain ⟨v,h1,h2⟩:=D6 hk;exact⟨v,h1,fun hh e k=>by have e':=aqr (e _ hl) hc; clear e; simp only[*,if_true]⟩
  ·obtain ⟨v,h1,h2⟩:=D6 hk;exact⟨v,h1,fun hh e k=>by simp only[*]⟩
  ·split at hk<;>(try cases hk);rename_i hl;split at hk<;>(try cases hk);rename_i T l hc;split at hk<;>(try cases hk);rename_i hs;obtain ⟨hb,hk⟩:=cz hk;obtain ⟨v,h1,h2⟩:=D6 hk;exact⟨v,h1,fun hh e k=>by have e':=abd (e _ hl) hc; clear e; simp only[*,if_true,ag,cond_true]⟩
 case lookup t x ix ok=>
  split at hk<;>(try cases hk);rename_i kt vt i h1 h2;split at hk<;>(try cases hk);rename_i hl;split at hk<;>(try cases hk);rename_i K T l hc;split at hk<;>(try cases hk);rename_i hf;split at hk<;>(try cases hk);rename_i kx hx;refine⟨bif ok then .tuple [kC T (iu K T kx l),.bool (xF K T kx l)]else kC T (iu K T kx l),by cases ok<;>exact hk,fun hh e k => ?_⟩;have e':=aqs (e _ hl) hc;clear e;simp only[h1,h2,hl,e',hf,hx,if_true];cases ok<;>rfl
 case convert s d x=>
  split at hk<;>(try cases hk)
  ·rename_i e i n h1 h2 h3;split at hk<;>(try cases hk);rename_i hl;split at hk<;>(try cases hk);rename_i h4 h5;exact⟨_,hk,fun hh e k=>by have e':=abd (e _ hl) h5; clear e; simp only[*,if_true]⟩
  ·rename_i h1 h2 h3;split at hk<;>(try cases hk)
   ·rename_i h4;exact⟨_,hk,fun hh e k=>by simp only[*]⟩
   ·rename_i h4;obtain ⟨hb,hk⟩:=cz hk;exact⟨_,hk,fun hh e k=>by simp only[*,ag,cond_true]⟩
  ·rename_i h1 h2 h3;split at hk<;>(try cases hk);rename_i h4;exact⟨_,hk,fun hh e k=>by simp only[*]⟩
theorem aqu {o:Op} {ρ:Operand->V} {k0:aI->(Nat->V)->Option R} {r:R} (hk:sB tt o ρ k0=some r) :
  ∃ob mk,k0 ob mk=some r/\∀k:aI->(Nat->V)->Option R,sB tt o ρ k=k ob mk:=by
 cases o<;>simp only[sB]at hk ⊢ <;> (try cases hk)
 case alloc t=>
  split at hk
  ·exact⟨_,_,hk,fun k=>by simp[*]⟩
  ·split at hk<;>(try cases hk);exact⟨_,_,hk,fun k=>by simp[*]⟩
 case box t x=>
  split at hk<;>(try cases hk);split at hk<;>(try cases hk);exact⟨_,_,hk,fun k=>by simp only[*,if_true]⟩
 case buildSlice t len parts=>
  split at hk<;>(try cases hk);split at hk<;>(try cases hk);rename_i hc;split at hk<;>(try cases hk)
  ·rename_i h1 h2;split at hk<;>(try cases hk);rename_i h3;split at hk
   ·exact⟨_,_,hk,fun k=>by simp only[*,if_true,if_false]; rfl⟩
   split at hk
   ·split at hk<;>(try cases hk);exact⟨_,_,hk,fun k=>by simp only[*,if_true,if_false]; rfl⟩
   split at hk
   ·exact⟨_,_,hk,fun k=>by simp only[*,if_true,if_false]; rfl⟩
   ·exact⟨_,_,hk,fun k=>by simp only[*,if_true,if_false]; rfl⟩
  ·exact⟨_,_,hk,fun k=>by simp only[*,if_true,if_false]; rfl⟩
 case makeSlice t n c=>
  split at hk<;>(try cases hk);split at hk<;>(try cases hk);split at hk<;>(try cases hk);split at hk<;>(try cases hk);rename_i h3;obtain ⟨hb,hk⟩:=cz hk;exact⟨_,_,hk,fun k=>by simp only[*,if_true,ag,cond_true]⟩
 case convert s d x=>
  split at hk<;>(try cases hk);split at hk<;>(try cases hk);exact⟨_,_,hk,fun k=>by simp[*]⟩
 case range t x=>
  split at hk<;>(try cases hk);exact⟨_,_,hk,fun k=>by simp[*]⟩
 case makeMap t zU=>
  split at hk<;>(try cases hk);rename_i h1;split at hk<;>(try cases hk);rename_i kt vt h2;split at hk<;>(try cases hk);rename_i K V' h3 h4;split at hk<;>(try cases hk);rename_i h5;exact⟨_,_,hk,fun k=>by simp only[h1,h2,h3,h4,h5,if_true]⟩
theorem Rh {β:Type} {ρ ρ':Operand->V} (f:Nat->V->β) (ps:List (Nat×Operand)) (h:∀x∈ps.map (·.2),ρ x=ρ' x) :
  (ps.map fun(i,x)=>f i (ρ x))=(ps.map fun(i,x)=>f i (ρ' x)):=
 xy fun p hm=>by
  obtain ⟨i,x⟩:=p;simp only[h x (Dj.2 ⟨(i,x),hm,rfl⟩)]
theorem abe {o:Op} {ρ ρ':Operand->V} (h:∀x∈o.operands,ρ x=ρ' x) {k:V->Option R}:vI tt o ρ k=vI tt o ρ' k:=by
 cases o<;>simp only[Be]at h<;>simp only[vI]
 case build t ps=>
  have hp:∀x∈ps.toList.map (·.2),ρ x=ρ' x:=fun x hx=>h x (by simpa using hx)
  split
  ·rename_i fs hd;rw[Rh (fun i v=>((fs.getD i (0,0)).1,if i<fs.length then(tt.at (fs.getD i (0,0)).2).size else 1000000,v)) ps.toList hp]
  ·rename_i e hd;rw[Rh (fun i v=>(i*(tt.at e).size,(tt.at e).size,v)) ps.toList hp]
  ·rfl
 case makeFunc f first cap=>
  cases f<;>simp only;rw[xy (l:=first.toList) (g:=ρ') fun x hx=>h x (by simp at hx ⊢; exact .inl hx),xy (l:=cap.toList) (g:=ρ') fun x hx=>h x (by simp at hx ⊢; exact .inr hx)]
 case slice t x lo hi mx=>cases lo<;>cases hi<;>cases mx<;>simp_all
 case call c=>
  obtain ⟨callee,args,argTypes⟩:=c;have ha:∀x∈args.toList,ρ x=ρ' x:=fun x hx=>h x (by simp[Bf]at hx ⊢; exact .inr hx)
  simp only;split
  ·rename_i x e; rw[ha x (by rw[e]; simp)]
  ·rename_i x y e; rw[ha x (by rw[e]; simp),ha y (by rw[e]; simp)]
  ·rename_i x y e; rw[ha x (by rw[e]; simp),ha y (by rw[e]; simp)]
  ·rfl
 all_goals (first|rfl|(simp_all; done))
theorem abf {o:Op} {ρ ρ':Operand->V} (h':∀x∈o.operands,ρ x=ρ' x) {lim:Option Nat} {k:V->Option R}:qG tt o ρ h lim k=qG tt o ρ' h lim k:=by
 cases o<;>simp only[Be]at h'<;>simp only[qG]
 all_goals (first|rfl|(simp_all; done))
theorem abg {o:Op} {ρ ρ':Operand->V} (h':∀x∈o.operands,ρ x=ρ' x) {k:aI->(Nat->V)->Option R}:sB tt o ρ k=sB tt o ρ' k:=by
 cases o<;>simp only[Be]at h'<;>simp only[sB]
 case makeMap t zU=>
  have e:F6 ρ zU=F6 ρ' zU:=by
   cases zU with
   | none=>rfl
   | some x=>simp only[F6]; rw[h' x (by simp)]
  rw[e]
 case buildSlice t len ps=>
  have hp:∀x∈ps.toList.map (·.2),ρ x=ρ' x:=fun x hx=>h' x (by simpa using hx)
  split
  ·rename_i e hd;rw[Rh (fun i v=>(i*(tt.at e).size,(tt.at e).size,v)) ps.toList hp]
  ·rfl
 all_goals (first|rfl|(simp_all; done))
theorem abh {o:Op} {ρ ρ':Operand->V} (h':∀x∈o.operands,ρ x=ρ' x) {id:Nat} {k:V->aq->Option R}:j4 tt o ρ h id k=j4 tt o ρ' h id k:=by
 cases o<;>simp only[Be]at h'<;>simp only[j4]
 case call c=>
  obtain ⟨callee,args,argTypes⟩:=c;have ha:∀x∈args.toList,ρ x=ρ' x:=fun x hx=>h' x (by simp[Bf]at hx ⊢; exact .inr hx)
  simp only;split
  ·rename_i x y t xt e et; rw[ha x (by rw[e]; simp),ha y (by rw[e]; simp)]
  ·rfl
 case slice t x lo hi mx=>cases lo<;>cases hi<;>cases mx<;>simp_all
 all_goals (first|rfl|(simp_all; done))
end
section
variable {P:Program} {tt:aZ} {w w':World} {h h':aq} {c c':bh} {R:Type}
theorem J1:∀(l:List Nat) (h:aq),Ext w h c w (oO h l) c
 | [],h=>.refl _ _ _
 | i::l,h=>by
  simp only[oO];split
  ·exact(BN i).trans (J1 l _)
  ·exact J1 l h
theorem J2:∀(l:List Nat) (h:aq),WF w h c->WF w (oO h l) c
 | [],h,wf=>wf
 | i::l,h,wf=>by
  simp only[oO];split
  ·exact J2 l _ (JL wf i)
  ·exact J2 l h wf
theorem GK:∀(l:List Nat) (h:aq) (j:Nat),aq.at (oO h l) j=h.at j\/aq.at (oO h l) j=.dead
 | [],h,j=>.inl rfl
 | i::l,h,j=>by
  simp only[oO];split
  ·rcases GK l (h.set i .dead) j with e|e
   ·rw[e,iU];split
    ·exact .inr rfl
    ·exact .inl rfl
   ·exact .inr e
  ·exact GK l h j
theorem Ri:∀(l:List Nat) (h:aq) (j:Nat) {T:Ty} {m:List T.den},j∈l->h.at j=.row T m->aq.at (oO h l) j=.dead
 | [],_,_,_,_,hj,_=>by cases hj
 | i::l,h,j,T,m,hj,he=>by
  simp only[oO];by_cases cG:i=j
  ·subst cG;split
   ·rcases GK l (h.set i .dead) i with e|e
    ·rw[e]; exact oQ _ (aq.gb he (by simp))
    ·exact e
   ·rename_i hn; exact(hn T m he).elim
  ·have lB:j∈l:=by
    rcases eJ.1 hj with rfl|h
    ·exact(cG rfl).elim
    ·exact h
   split
   ·exact Ri l _ j lB (by rw[dR _ cG]; exact he)
   ·exact Ri l h j lB he
theorem J3 (h:aq):∀l:List V,V.zW h l=l.map (V.shut h)
 | []=>rfl
 | v::l=>by simp only[V.zW,kz,J3 h l]
theorem fJ.dead {ids:List Nat} {b x:Nat} (ho:fJ (oO h ids) c b x):fJ h c b x:=by
 obtain ⟨i,f,g1,g2,g3⟩:=ho;rcases GK ids h i with e|e
 ·exact⟨i,f,g1,e▸g2,g3⟩
 ·rw[e]at g2; cases g2
theorem aqv (wf:WF w h c) {ids:List Nat} {v:V} {d:Value} (r:ay w h c v d):(∀i∈v.ids,i∈ids)->ay w (oO h ids) c (v.shut h) d:=by
 have x:=J1 (w:=w) (c:=c) ids h
 induction r with
 | sl f cv bQ hc hr iw cQ=>exact fun _=>(ay.sl (t:=.no) f cv bQ hc hr (by simp) (by simp)).mono x
 | @row i n v hi hn hv=>
  intro tP;simp only[V.shut];split
  ·rename_i T l he;obtain ⟨A,cap,rfl,hA,hv⟩:=hv;obtain ⟨iz,hle,bQ,Rj⟩:=hv T l he;obtain ⟨ds,rds,mA⟩:=JN wf he;subst iz;refine Gx (rds.mono x) hle bQ (fun hl => ?_) (by simp) (by simp);obtain ⟨b,hb,cT⟩:=mA hl;rcases Rj with ⟨h1,_⟩|⟨b',arr,e,fz,h1,h2,h3,h4⟩
   ·rw[hb]at h1; cases h1
   ·rw[hb]at h1; cases h1;refine⟨b,c.off i,h2,cT,fun y hy1 hy2 => ?_⟩;have cQ:fJ h c b y:=⟨i,0,hb,by rw[he]; rfl,nQ _⟩;refine⟨fun ho => ?_,wf.hM b y cQ⟩;obtain ⟨j,f,g1,g2,g3⟩:=ho;have aqw:=Ri ids h i (tP i (by simp[V.ids])) he;rcases GK ids h j with e'|e'
    ·have vS:(h.at j).live:=by rw[e']at g2; exact vU g2
     have:=wf.inj i j b (by rw[he]; trivial) vS hb g1;subst this;rw[aqw]at g2;cases g2
    ·rw[e']at g2; cases g2
  ·exact .undef _
 | @agg cs y hl _ ih=>
  intro tP;simp only[V.shut,J3];refine .agg (by simpa using hl) fun j v d hv hd => ?_
  rw[List.getElem?_map]at hv;cases e:cs[j]? with
  | none=>rw[e]at hv; cases hv
  | some u=>
   rw[e]at hv; simp at hv; subst hv;exact ih j u d e hd fun i hi=>tP i (by simp only[V.ids]; exact sJ.2 ⟨j,u,e,hi⟩)
 | @tuple cs y hl _ ih=>
  intro tP;simp only[V.shut,J3];refine .tuple (by simpa using hl) fun j v d hv hd => ?_
  rw[List.getElem?_map]at hv;cases e:cs[j]? with
  | none=>rw[e]at hv; cases hv
  | some u=>
   rw[e]at hv; simp at hv; subst hv;exact ih j u d e hd fun i hi=>tP i (by simp only[V.ids]; exact sJ.2 ⟨j,u,e,hi⟩)
 | undef v=>exact fun _=>.undef _
 | int hn=>exact fun _=>.int hn
 | bool b=>exact fun _=>.bool b
 | str hl=>exact fun _=>.str hl
 | fp=>exact fun _=>.fp
 | bk=>exact fun _=>.bk
 | fy=>exact fun _=>.fy
 | kB=>exact fun _=>.kB
 | eR=>exact fun _=>.eR
 | iface t v=>exact fun _=>.iface t v
 | gh hn=>exact fun _=>.gh hn
 | j0 hi hn hv=>exact fun _=>(ay.j0 hi hn hv).mono x
 | nS b=>exact fun _=>.nS b
 | ptr hi hv=>exact fun _=>(ay.ptr hi hv).mono x
 | map hi hv=>exact fun _=>(ay.map hi hv).mono x
 | fH hi hv=>exact fun _=>(ay.fH hi hv).mono x
 | fg f hc hr _=>exact fun _=>(ay.fg f hc hr).mono x
 | jg hn bQ f hc hr _=>exact fun _=>(ay.jg hn bQ f hc hr).mono x
 | func ha hb DI DJ _ _=>exact fun _=>(ay.func ha hb DI DJ).mono x
theorem abi (wf:WF w h c) {vs:List V} {ds:List Value} (r:aQ w h c vs ds):aQ w (oO h (V.fI vs)) c (V.zW h vs) ds:=by
 rw[J3];refine⟨by simpa using r.1,fun j v d hv hd => ?_⟩;rw[List.getElem?_map]at hv;cases e:vs[j]? with
 | none=>rw[e]at hv; cases hv
 | some u=>
  rw[e]at hv; simp at hv; subst hv;exact aqv wf (r.2 j u d e hd) fun i hi=>sJ.2 ⟨j,u,e,hi⟩
theorem abj {t:Nat} {v:V} {d:Value} (r:ay w h c v d):ay w h c (canon tt t v) d:=by
 unfold canon;split
 ·rename_i T hT;split
  ·rename_i cs;split
   ·rename_i x hx;split
    ·cases r with
     | @agg _ y hl hr=>
      have rl:aQ w h c cs y.toList:=⟨by simpa using hl,fun j v d hv hd=>hr j v d hv (by simpa using hd)⟩;have:=DQ hx rl;exact .agg (by simpa using this.1) fun j v d hv hd=>this.2 j v d hv (by simpa using hd)
    ·exact r
   ·exact r
  ·split
   ·rename_i x hx;split
    ·exact r
    ·have:=DQ hx (aQ.cons r aQ.nil);split
     ·rename_i e he;rw[he]at this;exact this.head
     ·exact r
   ·exact r
 ·split
  ·split
   ·split
    ·rename_i l hl; exact aaz r hl
    ·exact r
   ·exact r
  ·exact r
theorem abk:∀(ts:List Nat) {vs:List V} {ds:List Value},aQ w h c vs ds->aQ w h c (Bq tt ts vs) ds
 | [],vs,ds,r=>by simpa [Bq]using r
 | t::ts,[],ds,r=>by simpa [Bq]using r
 | t::ts,v::vs,[],r=>by have:=r.1; simp at this
 | t::ts,v::vs,d::ds,r=>.cons (abj r.head) (abk ts r.tail)
theorem Rk {v:V} {d:Value} (hs:v.Dz=true) (r:ay w h c v d):ay w' h' c' v d:=by
 cases r<;>simp only[V.Dz]at hs<;>(try cases hs)
 case int hn=>exact .int hn
 case bool b=>exact .bool b
 case str hl=>exact .str hl
 case fp=>exact .fp
 case bk=>exact .bk
 case fy=>exact .fy
 case kB=>exact .kB
 case eR=>exact .eR
 case iface t v=>exact .iface t v
 case gh hn=>exact .gh hn
theorem aqx {v:V} {d:Value} (hs:v.DA=true) (r:ay w h c v d):ay w' h' c' v d:=by
 cases r
 case agg hl hr=>
  simp only[V.DA,gF]at hs;exact .agg hl fun j v d hv hd=>Rk (hs v (List.mem_of_getElem? hv)) (hr j v d hv hd)
 case tuple hl hr=>
  simp only[V.DA,gF]at hs;exact .tuple hl fun j v d hv hd=>Rk (hs v (List.mem_of_getElem? hv)) (hr j v d hv hd)
 all_goals first
  | exact Rk (w:=w) (h:=h) (c:=c) hs (by constructor<;>assumption)
  | (simp only[V.DA,V.Dz]at hs; cases hs)
theorem aqy {c1 c2:bh} (wf:WF w h c) (x:Ext w [] c1 w' h' c2):Ext w h c w' h c/\WF w' h c:=by
 have Rl:∀b y,¬fJ ([]:aq) c1 b y:=fun b y ho=>by
  obtain ⟨i,f,_,g2,_⟩:=ho;simp[aq.at,aI.from_]at g2
 have hx:Ext w h c w' h c := {
  os:=x.os
  tape:=x.tape
  output:=x.output
  size:=x.size
  used:=fun _ hi=>hi
  same:=fun i hi hd=>⟨by have h2:=hi.2; revert hd h2; cases h.at i<;>simp[aI.aW],rfl,rfl⟩
  cell:=fun b y hb _=>x.cell b y hb (Rl b y)
  block:=fun b hb _=>x.block b hb (Rl b)
  gI:=fun _ _ _ ho=>ho
  ext:=rfl
  arr:=x.arr }
 refine⟨hx,?_,fun b y hb=>xw (wf.hP b y hb) x.size,fun i hi => ?_,wf.inj,wf.pL hx⟩
 ·exact wf.hM
 ·by_cases hl:(h.at i).live
  ·exact(wf.obj i hi).eQ hx (fun b hb=>x.block b ((wf.obj i hi).lt hl hb) (Rl b)) rfl rfl
  ·have h0:h.at i=.free\/h.at i=.dead:=by revert hl; cases h.at i<;>simp[aI.live]
   rcases h0 with h0|h0<;>rw[h0]<;>trivial
end
section
variable {P:Program} {tt:aZ} {w w':World} {h h':aq} {c c':bh} {R:Type}
def tQ (P:Program) (g:Nat) (args:Array Value) (w:World) (Q:Value->World->Prop):Prop:=
 ∃nx w1,(callFunc g args).run P w=.ok nx w1 /\
  match nx with
  | .value d=>Q d w1
  | .enter f xs=>Calls P f xs w1 fun e w'=>∃d,e=.returned d/\Q d w'
  | .row row xs=>Rows P row xs w1 Q
  | _=>False
theorem tQ.mono {g:Nat} {args:Array Value} {Q Q':Value->World->Prop} (h:tQ P g args w Q) (hq:∀d w',Q d w'->Q' d w'):tQ P g args w Q':=by
 obtain ⟨nx,w1,h1,h2⟩:=h;refine⟨nx,w1,h1,?_⟩;cases nx<;>simp only at h2 ⊢
 ·exact hq _ _ h2
 ·exact va h2 fun e w' ⟨d,e1,q⟩=>⟨d,e1,hq _ _ q⟩
 ·exact Rows.mono h2 fun d w' q=>hq _ _ q
def Spec.Ok (P:Program) (g:Nat) (sp:Spec R):Prop:=
 ∀vs h k r,sp vs h k=some r->∀(w:World) (c:bh) (args:Array Value),WF w h c->aQ w h c vs args.toList ->
  tQ P g args w fun d w'=>∃v h' c',WF w' h' c'/\Ext w h c w' h' c'/\ay w' h' c' v d/\k v h'=some r
def Spec.GL (P:Program) (g m:Nat) (sp:Spec R):Prop:=
 ∀vs h k r,h.length=m->sp vs h k=some r->∀(w:World) (c:bh) (args:Array Value),WF w h c->aQ w h c vs args.toList ->
  tQ P g args w fun d w'=>∃v h' c',WF w' h' c'/\Ext w h c w' h' c'/\ay w' h' c' v d/\k v h'=some r
def GM (sp:Spec R):Prop:=∀vs h k k',(∀v,k v h=k' v h)->sp vs h k=sp vs h k'
def nf (P:Program) (E:Env R):Prop:=∀g b sp,E g=some (b,sp)->Spec.Ok P g sp/\(b=false->dL.soft g=true->GM sp)
theorem GM.same {sp:Spec R} (hs:GM sp) {vs:List V} {k:V->aq->Option R} {r:R} (hk:sp vs h k=some r):∃k',sp vs h k'=some r/\∀v h',k' v h'=some r->h'=h/\k v h=some r:=by
 classical
 refine⟨fun v h'=>if h'=h then k v h else none,?_,fun v h' e => ?_⟩
 ·rw[<-hk];exact hs _ _ _ _ fun v=>by simp
 ·simp only at e;split at e
  ·exact⟨‹_›,e⟩
  ·cases e
theorem Spec.GL.aqz {g m:Nat} {sp:Spec R} {fn:Func} (hf:P.funcs[g]? = some fn) (hn:(fn.name == "runtime.NumGoroutine")=false) (hb:fn.body.isNone=false)
  (hs:∀vs h k r,h.length=m->sp vs h k=some r->∀(w:World) (c:bh) (args:Array Value),WF w h c->aQ w h c vs args.toList ->
   Calls P g args w fun e w'=>∃d,e=.returned d/\∃v h' c',WF w' h' c'/\Ext w h c w' h' c'/\ay w' h' c' v d/\k v h'=some r):Spec.GL P g m sp:=by
 intro vs h k r tO hk w c args wf ra;refine⟨.enter g args,w,?_,hs vs h k r tO hk w c args wf ra⟩;have mz:fn.name ≠ "runtime.NumGoroutine" :=by simpa using hn
 have bI:fn.body≠none:=fun e=>by rw[e]at hb; cases hb
 simp[callFunc,hf,mz,bI]
theorem abl:∀ {v:V},v.ids=[]->∀ρ,v.bO ρ=v:=by
 have key:(∀v:V,v.ids=[]->∀ρ,v.bO ρ=v)/\∀l:List V,V.fI l=[]->∀ρ,V.iv ρ l=l:=by
  refine⟨fun v => ?_,fun l => ?_⟩
  ·refine V.rec (motive_1:=fun v=>v.ids=[]->∀ρ,v.bO ρ=v) (motive_2:=fun l=>V.fI l=[]->∀ρ,V.iv ρ l=l) ?_ ?_ ?_ ?_ ?_ ?_ ?_ ?_ ?_ ?_ ?_ ?_ ?_ ?_ ?_ ?_ ?_ ?_ ?_ ?_ ?_ ?_ ?_ ?_ ?_ v<;>first
    | (intros; rfl)
    | (intros; simp_all [V.ids,V.fI,V.bO,V.iv]; done)
    | skip
   ·intro T l t ht ρ;cases t<;>simp_all [V.ids,V.bO,Tok.bO]
  ·refine V.rec_1 (motive_1:=fun v=>v.ids=[]->∀ρ,v.bO ρ=v) (motive_2:=fun l=>V.fI l=[]->∀ρ,V.iv ρ l=l) ?_ ?_ ?_ ?_ ?_ ?_ ?_ ?_ ?_ ?_ ?_ ?_ ?_ ?_ ?_ ?_ ?_ ?_ ?_ ?_ ?_ ?_ ?_ ?_ ?_ l<;>first
    | (intros; rfl)
    | (intros; simp_all [V.ids,V.fI,V.bO,V.iv]; done)
    | skip
   ·intro T l t ht ρ;cases t<;>simp_all [V.ids,V.bO,Tok.bO]
 exact fun {v} hv ρ=>key.1 v hv ρ
theorem Rm (h:aq):h.back [] []=h:=by simp[aq.back,aq.sv]
def kF (al:Bool) (id:Nat) (h h':aq):Prop:=h.length<=h'.length/\∀j,(al=true->j≠id)->j<h.length->h.at j=.free->h'.at j=.free
theorem aqA {ord:List Nat} (fk:ord.Nodup) (hu:∀i∈ord,Used h i) (hle:ord.length<=h'.length):kF false 0 h (h.back ord h'):=by
 refine⟨by simp[aq.back,oS],fun j _ hj hf => ?_⟩;have hn:j∉ord:=fun hm=>(hu j hm).2 hf
 rcases Ao (c:=⟨fun _=>none,fun _=>0,⟨fun _ _=>False⟩⟩) (c':=⟨fun _=>none,fun _=>0,⟨fun _ _=>False⟩⟩) fk (fun i hi=>(hu i hi).1) hle j with ⟨i,h1,h2,_⟩|⟨_,_,h3,_⟩|⟨h1,_⟩
 ·unfold k6 at h1;split at h1
  ·rename_i hi;simp only[ca,List.getElem?_eq_getElem hi,Bb]at h1;exact(hn (h1▸jd hi)).elim
  ·omega
 ·rw[h3]; exact hf
 ·simp[aq.back,oS]at h1; omega
theorem Rn {st:List V} {a:Act} (r:aQ w h c st a.tmps.toList) (x:Operand):ay w h c (ev st x) (a.eval x):=by
 cases x with
 | tmp t=>
  have:=r.getD t undef;simpa [ev,Act.eval,ca,Array.getD_eq_getD_getElem?]using this
 | const v=>exact aah v
 | global g=>exact .undef _
 | func f=>exact .func rfl rfl (by simp) (by simp)
theorem aqB {v:V} {d:Value} (r:ay w h c v d):ay w h c (Qq v) d:=by
 cases r with
 | sl f cv bQ hc hr iw cQ=>exact .sl f cv bQ hc hr (by simp) (by simp)
 | _=>simp only[Qq]; constructor<;>assumption
theorem abm {v:V} {d:Value} (r:ay w h c v d):ay w h c (Bn v) d:=by
 cases r with
 | sl f cv bQ hc hr iw cQ=>exact .sl f cv bQ hc hr (by simp) (by simp)
 | @agg cs x hl hr=>
  refine .agg (by simpa using hl) fun j v d hv hd => ?_
  rw[List.getElem?_map]at hv;cases e:cs[j]? with
  | none=>rw[e]at hv; cases hv
  | some u=>rw[e]at hv; simp at hv; subst hv; exact aqB (hr j u d e hd)
 | _=>simp only[Bn]; constructor<;>assumption
theorem aqC {vs:List V} {ds:List Value} (r:aQ w h c vs ds):aQ w h c (vs.map Bn) ds:=by
 refine⟨by simpa using r.1,fun j v d hv hd => ?_⟩;rw[List.getElem?_map]at hv;cases e:vs[j]? with
 | none=>rw[e]at hv; cases hv
 | some u=>rw[e]at hv; simp at hv; subst hv; exact abm (r.2 j u d e hd)
theorem abn {vs:List V} (h:V.fI vs=[]) (ρ:Nat->Option Nat):V.iv ρ vs=vs:=by
 have:∀v∈vs,v.bO ρ=v:=fun v hv=>by
  refine abl ?_ _;cases hi:v.ids with
  | nil=>rfl
  | cons i l=>
   obtain ⟨j,hj⟩:=List.mem_iff_getElem?.1 hv;have:i∈V.fI vs:=sJ.2 ⟨j,v,hj,by rw[hi]; simp⟩;rw[h]at this; cases this
 rw[JT]
 conv=>rhs; rw[<-List.map_id vs]
 exact xy this
theorem aqD {E:Env R} (hE:nf P E) (wf:WF w h c) {o:Oper} {cl:Call} (ho:o.op=.call cl) {ρ:Operand->V} {ρ':Operand->Value} (hρ:∀x,ay w h c (ρ x) (ρ' x)) {full:Bool}
  {k:V->aq->Option R} {r:R} (hk:my tt E full cl ρ h k=some r) :
  ∃g args,(execOp ρ' o).run P w=(callFunc g args).run P w/\tQ P g args w fun d w'=>
   ∃v h' c',WF w' h' c'/\Ext w h c w' h' c'/\ay w' h' c' v d/\k v h'=some r/\kF false 0 h h'/\(full=false->h'=h):=by
 obtain ⟨dst,op,type,pos,after,guard⟩:=o;simp only at ho;subst ho;unfold my at hk;split at hk<;>(try cases hk);rename_i f hf;split at hk<;>(try cases hk);rename_i g first cap hg
 have rf:=hρ f;rw[hg]at rf;generalize hdf:ρ' f=df at rf;cases rf with
 | @func _ _ _ x y ha hb DI DJ=>
  have Ro:aQ w h c (first++cl.args.toList.map ρ++cap) (x++cl.args.map ρ'++y).toList:=by
   have e:(x++cl.args.map ρ'++y).toList=x.toList++cl.args.toList.map ρ'++y.toList:=by simp
   rw[e];refine aQ.append (aQ.append ⟨by simpa using ha,fun j v d hv hd=>DI j v d hv (by simpa using hd)⟩ (aQ.map _ fun z _=>hρ z)) ⟨by simpa using hb,fun j v d hv hd=>DJ j v d hv (by simpa using hd)⟩
  have abo:aQ w h c ((first++Bq tt cl.argTypes.toList (cl.args.toList.map ρ)++cap).map Bn) (x++cl.args.map ρ'++y).toList:=by
   have e:(x++cl.args.map ρ'++y).toList=x.toList++cl.args.toList.map ρ'++y.toList:=by simp
   rw[e];refine aqC (aQ.append (aQ.append ⟨by simpa using ha,fun j v d hv hd=>DI j v d hv (by simpa using hd)⟩ (abk _ (aQ.map _ fun z _=>hρ z))) ⟨by simpa using hb,fun j v d hv hd=>DJ j v d hv (by simpa using hd)⟩)
  simp only at hk;refine⟨g,x++cl.args.map ρ'++y,by simp[execOp,resolve,hf,hdf,Deferred.ofValue,invoke],?_⟩;generalize (first++Bq tt cl.argTypes.toList (cl.args.toList.map ρ)++cap).map Bn=ps at *;generalize first++cl.args.toList.map ρ++cap=vs at *
  split at hk<;>(try cases hk)
  ·
   rename_i sp gT;split at hk
   ·rename_i tP;have ra:=Rd (ord:=[]) abo;rw[abn tP]at ra;refine tQ.mono ((hE g _ sp gT).1 _ _ _ _ hk w _ _ (Rc (ord:=[]) wf List.nodup_nil) ra) fun d w' ⟨v,h',c',pQ,x,rv,bY⟩ => ?_
    obtain ⟨k1,k2,k3⟩:=aa8 wf (ord:=[]) (by simp) (by simp) pQ x;split at bY<;>(try cases bY);refine⟨v,h,c.back [] h.length c',?_,?_,?_,bY,⟨cD _,fun j _ _ hf=>hf⟩,fun _=>rfl⟩
    ·rw[Rm]at k1; exact k1
    ·rw[Rm]at k2; exact k2
    ·have:=rv.bO k3;rw[Rm]at this;rw[abl]at this
     ·exact this
     ·cases hi:v.ids with
      | nil=>rfl
      | cons i l=>
       have:=rv.An i (by rw[hi]; simp);exact(Nat.not_lt_zero _ this.1).elim
   ·cases full with
    | false=>cases hk
    | true=>
     simp only[cond_true]at hk;unfold Qr at hk;split at hk<;>(try cases hk);rename_i tP;have ra:=Rd (ord:=[]) (abi wf abo);rw[abn tP]at ra;refine tQ.mono ((hE g _ sp gT).1 _ _ _ _ hk w _ _ (Rc (ord:=[]) (J2 _ _ wf) List.nodup_nil) ra) fun d w' ⟨v,h',c',pQ,x,rv,bY⟩ => ?_
     split at bY<;>(try cases bY);cases hs:v.DA with
     | false=>rw[hs]at bY; cases bY
     | true=>
      rw[hs]at bY;obtain ⟨hx,hw⟩:=aqy wf x;exact⟨v,h,c,hw,hx,aqx hs rv,bY,⟨cD _,fun j _ _ hf=>hf⟩,fun _=>rfl⟩
  ·rename_i sp gT;cases full with
   | false=>cases hk
   | true=>
    simp only[cond_true]at hk;cases Rp:dL.soft g with
    | true=>
     rw[Rp]at hk;simp only[cond_true]at hk;obtain ⟨k',lT,fj⟩:=((hE g _ sp gT).2 rfl Rp).same hk;refine tQ.mono ((hE g _ sp gT).1 _ _ _ _ lT w _ _ wf Ro) fun d w' ⟨v,h',c',pQ,x,rv,bY⟩ => ?_
     obtain ⟨rfl,sK⟩:=fj _ _ bY;exact⟨v,_,c',pQ,x,rv,sK,⟨cD _,fun j _ _ hf=>hf⟩,fun _=>rfl⟩
    | false=>
    rw[Rp]at hk;simp only[cond_false]at hk;have hui:=Ro.An;generalize V.fI vs=ids at *;have hu:∀i∈reach h 64 ids [],Used h i:=Rb wf _ _ _ hui (by simp);have fk:(reach h 64 ids []).Nodup:=JW h _ _ _ (by simp);refine tQ.mono ((hE g _ sp gT).1 _ _ _ _ hk w _ _ (Rc wf fk) (Rd Ro)) fun d w' ⟨v,h',c',pQ,x,rv,bY⟩ => ?_
    obtain ⟨k1,k2,k3⟩:=aa8 wf fk hu pQ x;have hle:(reach h 64 ids []).length<=h'.length:=by
     rcases Nat.eq_zero_or_pos (reach h 64 ids []).length with h0|h0
     ·omega
     ·have:=(x.used ((reach h 64 ids []).length - 1) ⟨by simp[aq.pick]; omega,by
       rw[pR,List.getElem?_eq_getElem (by omega)];simp only[ne_eq,BQ];exact(hu _ (jd _)).2⟩).1
      omega
    exact⟨_,_,_,k1,k2,rv.bO k3,bY,aqA fk hu hle,fun qN=>by cases qN⟩
end
section
variable {tt:aZ} {h:aq} {R:Type}
theorem aqE {T:Ty} {x:V} {id ix:Nat} {ob:aI} (hx:Bp id x=true) (aX:id<ix):zV T (h.set ix ob) x=zV T h x:=by
 cases x<;>simp only[zV]
 case row i n=>
  simp only[Bp,decide_eq_true_eq]at hx;rw[dR _ (by omega)]
 case j0 i z q n=>
  simp only[Bp,decide_eq_true_eq]at hx;rw[dR _ (by omega)]
theorem aqF {x:V} {id ix:Nat} {ob:aI} (hx:Bp id x=true) (aX:id<ix):Dy (h.set ix ob) x=Dy h x:=by
 cases x<;>simp only[Dy]
 case j0 i z q n=>
  simp only[Bp,decide_eq_true_eq]at hx;rw[dR _ (by omega)]
theorem aqG {e base id ix:Nat} {s x:V} {ob:aI} {k:V->aq->Option R} (hs:Bo base id s=true) (hx:Bp id x=true) (aX:id<ix) :
  mv tt e s x (h.set ix ob) id k=mv tt e s x h id fun v h'=>k v (h'.set ix ob):=by
 have hc:∀(h:aq) (o1:aI),(h.set ix ob).set id o1=(h.set id o1).set ix ob:=fun h o1=>FU _ _ (by omega)
 unfold mv;rw[aqF hx aX];congr 1;unfold vJ;cases (tt.at e).ty with
 | none=>rfl
 | some T=>
  simp only[aqE hx aX];split
  ·cases zV T h x with
   | none=>rfl
   | some m=>
    cases s with
    | bk=>
     simp only[hc]
    | sl T' l tk=>
     simp only;split
     ·cases tk with
      | no=>rfl
      | nil=>simp only[hc]
      | own i=>
       simp only[Bo,decide_eq_true_eq]at hs;simp only;rw[dR _ (by omega)];have Rq:∀o1:aI,(h.set ix ob).set i o1=(h.set i o1).set ix ob:=fun o1=>FU _ _ (by omega)
       simp only[Rq,hc]
     ·rfl
    | row i n=>
     simp only[Bo,bF,decide_eq_true_eq]at hs;simp only;rw[dR _ (by omega)];have Rq:∀o1:aI,(h.set ix ob).set i o1=(h.set i o1).set ix ob:=fun o1=>FU _ _ (by omega)
     simp only[Rq,hc]
    | _=>rfl
  ·rfl
theorem aqH {e base id:Nat} {s x:V} {k k':V->aq->Option R} (hb:base<=id) (hs:Bo base id s=true) (hk:∀v h',(∀i,i<base->(h'.at i).rd=(h.at i).rd)->k v h'=k' v h') :
  mv tt e s x h id k=mv tt e s x h id k':=by
 have h1:∀v o1,k v (h.set id o1)=k' v (h.set id o1):=fun v o1=>hk v _ fun i hi=>by rw[dR _ (by omega)]
 unfold mv;congr 1;unfold vJ;cases (tt.at e).ty with
 | none=>rfl
 | some T=>
  simp only;split
  ·cases zV T h x with
   | none=>rfl
   | some m=>
    cases s with
    | bk=>simp only[h1]
    | sl T' l tk=>
     simp only;split
     ·cases tk with
      | no=>rfl
      | nil=>simp only[h1]
      | own i=>
       simp only[Bo,decide_eq_true_eq]at hs;simp only;have h2:h.at i=.tok->∀v o1,k v ((h.set i .dead).set id o1)=k' v ((h.set i .dead).set id o1):=fun ht v o1=>hk v _ fun j hj=>by
        rw[dR _ (by omega)];by_cases e:i=j
        ·subst e;rw[ht,iU];split<;>simp[aI.rd,ht]
        ·rw[dR _ e]
       cases ht:h.at i<;>try rfl
       simp only[h2 ht]
     ·rfl
    | row i n=>
     simp only[Bo,bF,decide_eq_true_eq]at hs;have hbi:=FV hs.1;have h2:∀v o1,k v ((h.set i .dead).set id o1)=k' v ((h.set i .dead).set id o1):=fun v o1=>hk v _ fun j hj=>by
      rw[dR _ (by omega),dR _ (by omega)]
     simp only[h2]
    | _=>rfl
  ·rfl
theorem Rr {o:Op} (ha:jh o=true):∃c,o=.call c/\c.callee=.builtin .append:=by
 unfold jh at ha;split at ha<;>(try cases ha);rename_i c;refine⟨c,rfl,?_⟩
 revert ha
 split
 ·intro _; assumption
 ·intro h; cases h
theorem BS {o:Op} (ha:jh o=true):cK tt o=.W:=by
 obtain ⟨c,rfl,hc⟩:=Rr ha;simp only[cK,hc]
theorem aqI {base:Nat} {o:Op} {ρ ρ':Operand->V} {id:Nat} (h':∀x∈o.operands,ρ x=ρ' x):vK base o ρ id=vK base o ρ' id:=by
 unfold vK;split
 ·rename_i c;have ha:∀x∈c.args.toList,ρ x=ρ' x:=fun x hx=>h' x (by simp[Be,Bf]at hx ⊢; exact .inr hx)
  split
  ·rename_i s x e;rw[ha s (by rw[e]; simp),ha x (by rw[e]; simp)]
  ·rfl
 ·rfl
theorem aqJ {drawn:Option Nat} {o:Op} {ρ ρ':Operand->V} {id:Nat} (h':∀x∈o.operands,ρ x=ρ' x):zX drawn o ρ id=zX drawn o ρ' id:=by
 cases drawn with
 | none=>rfl
 | some b=>exact aqI h'
theorem aqK {base:Nat} {o:Op} {ρ:Operand->V} {id ix:Nat} {ob:aI} {k:V->aq->Option R} (ha:jh o=true) (hl:vK base o ρ id=true) (aX:id<ix) :
  j4 tt o ρ (h.set ix ob) id k=j4 tt o ρ h id fun v h'=>k v (h'.set ix ob):=by
 obtain ⟨⟨callee,args,argTypes⟩,rfl,hc⟩:=Rr ha;simp only at hc;subst hc;simp only[j4];split
 ·rename_i s x t xt _ e et;simp only[vK,e,bF]at hl;simp only[aqG hl.1 hl.2 aX]
 ·rfl
theorem aqL {base:Nat} {o:Op} {ρ:Operand->V} {id:Nat} {k k':V->aq->Option R} (ha:jh o=true) (hb:base<=id) (hl:vK base o ρ id=true) (hk:∀v h',(∀i,i<base->(h'.at i).rd=(h.at i).rd)->k v h'=k' v h') :
  j4 tt o ρ h id k=j4 tt o ρ h id k':=by
 obtain ⟨⟨callee,args,argTypes⟩,rfl,hc⟩:=Rr ha;simp only at hc;subst hc;simp only[j4];split
 ·rename_i s x t xt _ e et;simp only[vK,e,bF]at hl;simp only[aqH hb hl.1 hk]
 ·rfl
end
section
variable {P:Program} {tt:aZ} {w w':World} {h h':aq} {c c':bh} {R:Type}
structure gp (w:World) (c:bh) (st:St) (a:Act):Prop where
 wf:WF w st.hp c
 fr:aQ w st.hp c st.fr a.tmps.toList
theorem kF.refl (al:Bool) (id:Nat) (h:aq):kF al id h h:=⟨cD _,fun _ _ _ hf=>hf⟩
theorem kF.set {id:Nat} (ob:aI):kF true id h (h.set id ob):=⟨by simp,fun j hj _ hf=>by rw[dR _ (dX (hj rfl))]; exact hf⟩
theorem kF.aqM {al:Bool} {id:Nat} (k:kF false 0 h h'):kF al id h h':=⟨k.1,fun j _ hj hf=>k.2 j (by simp) hj hf⟩
theorem aqN {o:Op} {ρ:Operand->V} {id:Nat} {k0:V->aq->Option R} {r:R} (hk:j4 tt o ρ h id k0=some r) :
  ∃v h',k0 v h'=some r/\kF true id h h'/\∀k:V->aq->Option R,j4 tt o ρ h id k=k v h':=by
 have BT:∀i ob,h.at i≠.free->kF true id h (h.set i ob):=fun i ob hi=>⟨by simp,fun j _ _ hf=>by
  rw[dR _ (fun e:i=j=>hi (by rw[e]; exact hf))]; exact hf⟩
 have abp:∀i ob GN,h.at i≠.free->kF true id h ((h.set i ob).set id GN):=fun i ob GN hi=>⟨by simp,fun j hj _ hf=>by
  rw[dR _ (dX (hj rfl)),dR _ (fun e:i=j=>hi (by rw[e]; exact hf))]; exact hf⟩
 cases o<;>simp only[j4]at hk ⊢ <;> (try cases hk)
 case store t x y=>
  split at hk<;>(try cases hk);rename_i vs Gi;split at hk<;>(try cases hk);rename_i hc;split at hk<;>(try cases hk)
  ·rename_i i o hx;split at hk<;>(try cases hk)
   ·rename_i cs cT;split at hk<;>(try cases hk);rename_i hl;exact⟨_,_,hk,BT i _ (by rw[cT]; simp),fun k=>by simp only[*,if_true]⟩
   rename_i u cT;split at hk<;>(try cases hk);exact⟨_,_,hk,BT i _ (by rw[cT]; simp),fun k=>by simp only[*,if_true]⟩
  ·rename_i i sz j o hx;split at hk<;>(try cases hk);rename_i T l cT;split at hk<;>(try cases hk);rename_i hs;split at hk<;>(try cases hk);rename_i hl;split at hk<;>(try cases hk);rename_i z hz;obtain ⟨hb,hk⟩:=cz hk;exact⟨_,_,hk,BT i _ (by rw[cT]; simp),fun k=>by simp only[*,if_true,ag,cond_true]⟩
 case slice t x lo hi mx=>
  cases hb:(lo.isNone&&hi.isNone&&mx.isNone)with
  | false=>rw[hb]at hk; cases hk
  | true=>
   rw[hb,cond_true]at hk;unfold F7 at hk;split at hk<;>(try cases hk);rename_i m e i ht hx;split at hk<;>(try cases hk);rename_i cs cT;split at hk<;>(try cases hk);rename_i T' hT;split at hk<;>(try cases hk);rename_i hc;split at hk<;>(try cases hk);rename_i l hl;exact⟨_,_,hk,BT i _ (by rw[cT]; simp),fun k=>by
    rw[cond_true];unfold F7;simp only[ht,hx,cT,hT];rw[if_pos hc,hl]⟩
 case mapUpdate t m x y=>
  split at hk<;>(try cases hk);rename_i kt vt i ht hx;split at hk<;>(try cases hk);rename_i K V' l hm;split at hk<;>(try cases hk);rename_i hf;split at hk<;>(try cases hk);rename_i kx vx xW yd;exact⟨_,_,hk,BT i _ (by rw[hm]; simp),fun k=>by simp only[ht,hx,hm,hf,xW,yd,if_true]⟩
 case insert t m x y=>
  split at hk<;>(try cases hk);rename_i kt vt i ht hx;split at hk<;>(try cases hk);rename_i K V' l hm;split at hk<;>(try cases hk);rename_i hf;split at hk<;>(try cases hk);rename_i kx vx xW yd;exact⟨_,_,hk,BT i _ (by rw[hm]; simp),fun k=>by simp only[ht,hx,hm,hf,xW,yd,if_true]⟩
 case next x str=>
  split at hk<;>(try cases hk);rename_i i hx;split at hk<;>(try cases hk);rename_i s pos hit;cases hb:decide (pos<s.length)with
  | true=>
   rw[hb]at hk;exact⟨_,_,hk,BT i _ (by rw[hit]; simp),fun k=>by simp only[hx,hit,hb,cond_true]⟩
  | false=>
   rw[hb]at hk;exact⟨_,_,hk,.refl _ _ _,fun k=>by simp only[hx,hit,hb,cond_false]⟩
 case call cl=>
  have abq:∀e s x,mv tt e s x h id k0=some r->∃v h',k0 v h'=some r/\kF true id h h'/\∀k:V->aq->Option R,mv tt e s x h id k=k v h':=by
   intro e s x hk;unfold mv at hk;have GB:=cz hk;clear hk;obtain ⟨Al,hk⟩:=GB;unfold vJ at hk;split at hk<;>(try cases hk);rename_i T hT;split at hk<;>(try cases hk);rename_i hc;split at hk<;>(try cases hk);rename_i m hm;split at hk<;>(try cases hk)
   ·obtain ⟨hb,hk⟩:=cz hk;split at hk
    ·rename_i hr;exact⟨_,_,hk,kF.set _,fun k=>by simp only[mv,vJ,Al,hT,hc,hm,if_true,hb,ag,cond_true,hr]⟩
    ·rename_i hr;exact⟨_,_,hk,kF.set _,fun k=>by simp only[mv,vJ,Al,hT,hc,hm,if_true,hb,ag,cond_true,if_neg hr]⟩
   ·split at hk<;>(try cases hk);rename_i hq;subst hq;split at hk<;>(try cases hk)
    ·obtain ⟨hb,hk⟩:=cz hk;exact⟨_,_,hk,kF.set _,fun k=>by simp only[mv,vJ,Al,hT,hc,hm,if_true,hb,ag,cond_true,dite_true]⟩
    ·split at hk<;>(try cases hk);rename_i hi;obtain ⟨hb,hk⟩:=cz hk;exact⟨_,_,hk,abp _ _ _ (by rw[hi]; simp),fun k=>by simp only[mv,vJ,Al,hT,hc,hm,hi,if_true,hb,ag,cond_true,dite_true]⟩
   ·split at hk<;>(try cases hk);rename_i T' l hi;split at hk<;>(try cases hk);rename_i hq;subst hq;obtain ⟨hb,hk⟩:=cz hk;exact⟨_,_,hk,abp _ _ _ (by rw[hi]; simp),fun k=>by simp only[mv,vJ,Al,hT,hc,hm,hi,if_true,hb,ag,cond_true,dite_true]⟩
  split at hk<;>(try cases hk);split at hk<;>(try cases hk)
  ·obtain ⟨v,h',h1,h2,h3⟩:=abq _ _ _ hk;exact⟨v,h',h1,h2,fun k=>by simp[*]⟩
  ·obtain ⟨v,h',h1,h2,h3⟩:=abq _ _ _ hk;exact⟨v,h',h1,h2,fun k=>by simp[*]⟩
theorem yg {st:List V} {a:Act} (r:aQ w h c st a.tmps.toList) (dst:Option Nat) {v:V} {d:Value} (rv:ay w h c v d):aQ w h c (dd st dst v) (a.put dst d).tmps.toList:=by
 cases dst with
 | none=>exact r
 | some j=>simpa [dd,Act.put]using r.set j rv
theorem put_defers (a:Act) (dst:Option Nat) (d:Value):(a.put dst d).defers=a.defers:=by cases dst<;>rfl
theorem Rs (T:cF P tt) {E:Env R} (hE:nf P E) {o:Oper} {st:St} {a:Act} {drawn:Option Nat} {id:Nat} {k:St->Option R} {r:R} (hk:mW tt E drawn id o st k=some r) (aW:gp w c st a)
  (hid:cq tt o=true->id<st.hp.length/\st.hp.at id=.free) {next:Act->World->Prop} {Q:Exit->Act->World->Prop}
  (hn:∀d w' cx c' v,gp w' c' cx (a.put o.dst d)->Ext w st.hp c w' cx.hp c'->kF (cq tt o) id st.hp cx.hp->cx.fr=dd st.fr o.dst v->(cK tt o.op≠.W->(cK tt o.op=.C->(drawn.isNone||!mw E o.op)=false)->∀i,(cq tt o=true->i≠id)->cx.hp.at i=st.hp.at i)->k cx=some r->next (a.put o.dst d) w'):o.wp P a w next Q:=by
 have hρ:=fun x=>Rn aW.fr x
 unfold mW at hk;unfold Oper.wp;simp only at hk;split at hk
 ·rename_i k8;obtain ⟨v,d,h1,h2,h3⟩:=aoZ (w:=w) T hρ hk;rw[h1,Pt];exact hn d w ⟨dd st.fr o.dst v,st.hp⟩ c v ⟨aW.wf,yg aW.fr _ h2⟩ (.refl _ _ _) (.refl _ _ _) rfl (fun _ _ _ _=>rfl) h3
 ·rename_i k8;obtain ⟨v,d,h1,h2,h3⟩:=apd T aW.wf hρ hk;rw[h1,Pt];exact hn d w ⟨dd st.fr o.dst v,st.hp⟩ c v ⟨aW.wf,yg aW.fr _ h2⟩ (.refl _ _ _) (.refl _ _ _) rfl (fun _ _ _ _=>rfl) h3
 ·rename_i k8;have yh:cq tt o=true:=by simp[cq,k8]
  obtain ⟨ob,mk,h1,_,h2⟩:=apP T aW.wf hρ hk;obtain ⟨d,w',c',g1,g2,g3,g4⟩:=h2 id (hid yh).1 (hid yh).2;rw[g1,Pt];exact hn d w' ⟨dd st.fr o.dst (mk id),st.hp.set id ob⟩ c' (mk id) ⟨g2,yg (aW.fr.mono g3) _ g4⟩ g3 (by rw[yh]; exact kF.set _) rfl (fun _ _ i hi=>dR _ (dX (hi yh))) h1
 ·rename_i k8;have yh:cq tt o=true:=by simp[cq,k8]
  have hk:zX drawn o.op (ev st.fr) id=true/\j4 tt o.op (ev st.fr) st.hp id (fun v h=>k ⟨dd st.fr o.dst v,h⟩)=some r:=by
   revert hk
   cases zX drawn o.op (ev st.fr) id<;>simp
  obtain ⟨_,hk⟩:=hk;obtain ⟨v0,h0,GB,abr,J4⟩:=aqN hk;have fj:=J4 fun v h'=>open Classical in if h'=h0 then k ⟨dd st.fr o.dst v,h'⟩else none
  simp only[if_true]at fj;obtain ⟨v,h',d,w',c',nx,g1,g2,g3,g4,g5,g6⟩:=aqh T aW.wf hρ (hid yh).1 (hid yh).2 (fj.trans GB);split at g6<;>(try cases g6);rename_i he;subst he;rw[g1];rcases g2 with rfl|⟨rfl,rfl⟩
  ·rw[Pt];exact hn d w' ⟨dd st.fr o.dst v,h'⟩ c' v ⟨g3,yg (aW.fr.mono g4) _ g5⟩ g4 (by rw[yh]; exact abr) rfl (fun hC=>(hC k8).elim) g6
  ·rw[Oper.upon_skip];exact hn undef w' ⟨dd st.fr o.dst v,h'⟩ c' v ⟨g3,yg (aW.fr.mono g4) _ g5⟩ g4 (by rw[yh]; exact abr) rfl (fun hC=>(hC k8).elim) g6
 ·rename_i k8;split at hk<;>(try cases hk);rename_i cl fq;obtain ⟨g,args,h1,nx,w1,h2,h3⟩:=aqD hE aW.wf fq hρ hk;rw[h1,h2];have fin:∀d w',(∃v h' c',WF w' h' c'/\Ext w st.hp c w' h' c'/\ay w' h' c' v d/\k ⟨dd st.fr o.dst v,h'⟩=some r/\kF false 0 st.hp h'/\((drawn.isNone||!mw E o.op)=false->h'=st.hp))->next (a.put o.dst d) w':=by
   rintro d w' ⟨v,h',c',q1,q2,q3,q4,q5,q6⟩
   exact hn d w' ⟨dd st.fr o.dst v,h'⟩ c' v ⟨q1,yg (aW.fr.mono q2) _ q3⟩ q2 q5.aqM rfl (fun _ hd i _=>by rw[q6 (hd k8)]) q4
  cases nx<;>simp only at h3
  ·rw[Pt]; exact fin _ _ h3
  ·rw[Oper.upon_enter];exact va h3 fun e w' ⟨d,e1,q⟩=>by subst e1; exact fin d w' q
  ·rw[Oper.upon_row];exact Rows.mono h3 fun d w' q=>fin d w' q
 ·cases hk
 ·cases hk
end
section
variable {P:Program} {tt:aZ} {w w':World} {h h':aq} {c c':bh} {R:Type}
theorem Rt {fr:List V} {d:Nat} {v:V} (h:fr.getD d .undef=v) (hv:v≠.undef):fr.set d v=fr:=by
 have hd:d<fr.length:=by
  rcases mo d fr.length with hl|hl
  ·exact hl
  ·simp[ca,List.getElem?_eq_none hl]at h; exact(hv h.symm).elim
 have e:fr[d]=v:=by simpa [ca,List.getElem?_eq_getElem hd]using h
 rw[<-e];exact List.set_getElem_self hd
theorem D7 {all:List Oper} {o:Oper} {st:St} {run skip:St->Option R}:oN all o st run skip =
  match o.guard with
  | none=>run st
  | some (j,want)=>
   match (all[j]?).bind (·.dst)with
   | none=>none
   | some d=>match st.fr.getD d .undef with | .bool b=>if b=want then run st else skip st | .tuple []=>skip st|_=>none:=by
 unfold oN;cases o.guard with
 | none=>rfl
 | some jw=>
  obtain ⟨j,want⟩:=jw;simp only;cases (all[j]?).bind (·.dst)with
  | none=>rfl
  | some d=>
   simp only;cases hb:st.fr.getD d .undef with
   | bool b=>
    have e:(⟨st.fr.set d (.bool b),st.hp⟩:St)=st:=by rw[Rt hb (by simp)]
    cases b<;>cases want<;>simp[e]
   | tuple vs=>cases vs<;>rfl
   | _=>rfl
theorem Ru {ops:Array Oper} {o:Oper} {st:St} {a:Act} (aW:gp w c st a) {run skip:St->Option R} {r:R} (hk:oN ops.toList o st run skip=some r) :
  (Region.wanted o (yielded ops a.tmps)=true/\run st=some r)\/(Region.wanted o (yielded ops a.tmps)=false/\skip st=some r):=by
 rw[D7]at hk;unfold Region.wanted;split at hk
 ·rename_i hg; simp only[hg]; exact .inl ⟨trivial,hk⟩
 ·rename_i j want hg;simp only[hg];split at hk<;>(try cases hk);rename_i d hd;have hl:∀v,st.fr.getD d .undef=v->v≠.undef->d<st.fr.length:=fun v hv aT=>by
   rcases mo d st.fr.length with hl|hl
   ·exact hl
   ·simp[ca,List.getElem?_eq_none hl]at hv; exact(aT hv.symm).elim
  have key:∀v,st.fr.getD d .undef=v->v≠.undef->∃x,a.tmps[d]? = some x/\ay w st.hp c v x:=fun v hb aT=>by
   have hl:=hl v hb aT;have jB:d<a.tmps.size:=by rw[<-(by simpa using aW.fr.1:st.fr.length=a.tmps.size)]; exact hl
   exact⟨a.tmps[d],Array.getElem?_eq_getElem jB,aW.fr.2 d v a.tmps[d] (by rw[List.getElem?_eq_getElem hl]; simpa [ca,List.getElem?_eq_getElem hl]using hb) (by simp)⟩
  have qN:(ops[j]?).bind (·.dst)=some d:=by simpa using hd
  split at hk<;>(try cases hk)
  ·rename_i b hb;obtain ⟨x,hx,rv⟩:=key _ hb (by simp);have hy:yielded ops a.tmps j=some b:=by
    unfold yielded;rw[qN];simp only[sj,hx];cases rv;rfl
   rw[hy];split at hk
   ·rename_i hw; subst hw; exact .inl ⟨by simp,hk⟩
   ·rename_i hw; exact .inr ⟨by simpa using hw,hk⟩
  ·rename_i hb;obtain ⟨x,hx,rv⟩:=key _ hb (by simp);have hy:yielded ops a.tmps j=none:=by
    unfold yielded;rw[qN];simp only[sj,hx];cases rv;rfl
   rw[hy];exact .inr ⟨by simp,hk⟩
theorem Rv:ay w h c (.tuple []) undef:=.tuple rfl (by simp)
def GO (w:World) (c:bh) (st:St) (a:Act) (k:St->Option R) (r:R) (K:Act->World->Prop):Prop:=
 ∀a' w' cx c',gp w' c' cx a'->Ext w st.hp c w' cx.hp c'->a'.defers=a.defers->k cx=some r->K a' w'
def abt (tt:aZ) (rest:List Oper) (id:Nat) (h:aq):Prop:=∀j,id<=j->j<id+(rest.filter (cq tt)).length->j<h.length/\h.at j=.free
theorem Rw (T:cF P tt) {E:Env R} (hE:nf P E) {ops:Array Oper} {k:St->Option R} {r:R} {Q:Exit->Act->World->Prop}:∀(rest:List Oper) (n id:Nat) (w:World) (c:bh) (st:St) (a:Act),
  ops.toList.drop n=rest->tH tt E none ops.toList rest id st k=some r->gp w c st a->abt tt rest id st.hp->GO w c st a k r (Q .normal)->wpOps P ops Q (List.range' n rest.length) a w
 | [],n,id,w,c,st,a,_,hk,aW,_,go=>go a w st c aW (.refl _ _ _) rfl hk
 | o::rest,n,id,w,c,st,a,hd,hk,aW,hs,go=>by
  have hn:ops[n]? = some o:=by
   have:(ops.toList.drop n)[0]? = some o:=by rw[hd]; rfl
   rw[List.getElem?_drop]at this;simpa using this
  have qN:ops.toList.drop (n+1)=rest:=by
   have:(ops.toList.drop n).drop 1=rest:=by rw[hd]; rfl
   rwa [py]at this
  rw[bj,List.range'_succ,wpOps_cons];unfold wpOp;simp only[hn];simp only[tH,Js]at hk;have BU:∀h',kF (cq tt o) id st.hp h'->abt tt rest (if cq tt o then id+1 else id) h':=by
   intro h' kp j h1 h2;cases ha:cq tt o with
   | true=>
    rw[ha]at h1 h2 kp;simp only[if_true]at h1 h2;obtain ⟨g1,g2⟩:=hs j (by omega) (by rw[ZU ha,bj]; omega);exact⟨xw g1 kp.1,kp.2 j (fun _=>by omega) g1 g2⟩
   | false=>
    rw[ha]at h1 h2 kp;simp only[jy,if_false]at h1 h2;obtain ⟨g1,g2⟩:=hs j (by omega) (by rw[List.filter_cons_of_neg (by simp[ha])]; omega);exact⟨xw g1 kp.1,kp.2 j (fun h=>by cases h) g1 g2⟩
  rcases Ru aW hk with ⟨hw,hk⟩|⟨hw,hk⟩
  ·rw[if_pos hw];refine .inl (Rs T hE hk aW (fun ha=>hs id (cD _) (by rw[ZU ha,bj]; omega)) fun d w' cx c' v BV x kp _ _ bY => ?_);refine Rw T hE rest (n+1) _ w' c' cx _ qN bY BV (BU _ kp) fun a2 w2 dO c2 s2 x2 d2 k2 => ?_
   exact go a2 w2 dO c2 s2 (x.trans x2) (d2.trans (put_defers _ _ _)) k2
  ·rw[if_neg (by simp[hw])];refine Rw T hE rest (n+1) _ w c ⟨dd st.fr o.dst (.tuple []),st.hp⟩ _ qN hk ⟨aW.wf,yg aW.fr _ Rv⟩ (BU _ (.refl _ _ _)) fun a2 w2 dO c2 s2 x2 d2 k2 => ?_
   exact go a2 w2 dO c2 s2 x2 (d2.trans (put_defers _ _ _)) k2
theorem J5 {n i:Nat}:aq.at (h++jx n .free) i=h.at i\/(h.length<=i/\aq.at (h++jx n .free) i=.free):=by
 rcases mo i h.length with hi|hi
 ·exact .inl (ye hi)
 ·rcases mo (i - h.length) n with hj|hj
  ·refine .inr ⟨hi,?_⟩;rw[yf hi];simp[aq.at,ca,List.getElem?_replicate,hj]
  ·refine .inl ?_;rw[yf hi];have h1:¬(i - h.length<n):=by omega
   have h2:¬(i<h.length):=by omega
   simp[aq.at,ca,List.getElem?_replicate,h1,List.getElem?_eq_none hi]
theorem J6 {i:Nat} (hi:h.length<=i):h.at i=.dead:=by simp[aq.at,ca,List.getElem?_eq_none hi]
theorem abu {n b x:Nat}:fJ (h++jx n .free) c b x↔fJ h c b x:=by
 constructor
 ·rintro ⟨i,f,h1,h2,h3⟩
  rcases J5 (h:=h) (n:=n) (i:=i)with e|⟨_,e⟩
  ·exact⟨i,f,h1,e▸h2,h3⟩
  ·rw[e]at h2; cases h2
 ·rintro ⟨i,f,h1,h2,h3⟩
  rcases J5 (h:=h) (n:=n) (i:=i)with e|⟨hi,e⟩
  ·exact⟨i,f,h1,e.symm▸h2,h3⟩
  ·rw[J6 hi]at h2; cases h2
theorem yi (n:Nat):Ext w h c w (h++jx n .free) c where
 os:=rfl
 tape:=rfl
 output:=rfl
 size:=cD _
 used:=fun i hi=>⟨by simp; have:=hi.1; omega,by
  rw[ye hi.1]; exact hi.2⟩
 same:=fun i hi hd=>by
  rw[ye hi.1]at hd ⊢;exact⟨D4 (DP hi.2 hd) (fun _ _ _=>.inr trivial),rfl,rfl⟩
 cell:=fun _ _ _ _=>rfl
 block:=fun _ _ _=>rfl
 gI:=fun b x _ ho=>abu.1 ho
 ext:=rfl
 arr:=fun b arr e fz hb=>⟨arr,fz,hb,rfl⟩
theorem GP (wf:WF w h c) (n:Nat):WF w (h++jx n .free) c where
 lay:=wf.pL (yi n)
 hM:=fun b x ho=>wf.hM b x (abu.1 ho)
 hP:=wf.hP
 obj:=fun i hi=>by
  rcases J5 (h:=h) (n:=n) (i:=i)with e|⟨_,e⟩
  ·rw[e];rcases mo i h.length with hl|hl
   ·have ho:=wf.obj i hl;by_cases hv:(h.at i).live
    ·exact ho.eQ (yi n) (fun _ _=>rfl) rfl rfl
    ·have h0:h.at i=.free\/h.at i=.dead:=by revert hv; cases h.at i<;>simp[aI.live]
     rcases h0 with h0|h0<;>rw[h0]<;>trivial
   ·rw[J6 hl]; trivial
  ·rw[e]; trivial
 inj:=fun i j b hi hj h1 h2=>by
  have hl:∀i,(aq.at (h++jx n .free) i).live->(h.at i).live:=fun i hi=>by
   rcases J5 (h:=h) (n:=n) (i:=i)with e|⟨_,e⟩
   ·rw[e]at hi; exact hi
   ·rw[e]at hi; exact hi.elim
  exact wf.inj i j b (hl i hi) (hl j hj) h1 h2
theorem aqO (T:cF P tt) {E:Env R} (hE:nf P E) {id:Nat} {ops:Array Oper} {k:St->Option R} {r:R} {Q:Exit->Act->World->Prop} {st:St} {a:Act}
  (hk:DG tt E ops.toList false st k=some r) (aW:gp w c st a) (go:GO w c st a k r (Q .normal)):(Code.region id ops false).wp P Q a w:=by
 refine wp_region ?_;simp only[DG,jy,if_false]at hk;have:=Rw T hE (ops:=ops) (Q:=Q) ops.toList 0 st.hp.length w c _ a rfl hk ⟨GP aW.wf _,aW.fr.mono (yi _)⟩ ?_ ?_
 ·rw[List.range_eq_range'];simpa using this
 ·intro j h1 h2;refine⟨by simp; omega,?_⟩;rw[yf h1];have:j - st.hp.length<(ops.toList.filter (cq tt)).length:=by omega
  simp[aq.at,ca,List.getElem?_replicate,this]
 ·exact fun a2 w2 dO c2 s2 x2 d2 k2=>go a2 w2 dO c2 s2 ((yi _).trans x2) d2 k2
end
section
variable {P:Program} {tt:aZ} {w w':World} {h h':aq} {c c':bh} {R:Type}
def one (tt:aZ) (E:Env R) (S:Option (Bool×List Nat)) (base:Nat) (all:List Oper) (o:Oper) (id:Nat) (st:St) (k:St->Option R):Option R:=
 oN all o st (fun st=>bif gk tt E base S all o (ev st.fr) st.hp then mW tt E (sD tt S base o) id o st k else none) (fun st=>k ⟨dd st.fr o.dst (.tuple []),st.hp⟩)
abbrev lC:=Nat×Oper×Nat
def mB (tt:aZ) (E:Env R) (S:Option (Bool×List Nat)) (base:Nat) (all:List Oper):List lC->St->(St->Option R)->Option R
 | [],st,k=>k st
 | x::rest,st,k=>one tt E S base all x.2.1 x.2.2 st fun st=>mB tt E S base all rest st k
def number (tt:aZ):List Oper->Nat->Nat->List lC
 | [],_,_=>[]
 | o::rest,i,id=>(i,o,id)::number tt rest (i+1) (if cq tt o then id+1 else id)
theorem Rx {E:Env R} {base:Nat} {all:List Oper}:∀(l:List Oper) (i id:Nat) (st:St) (k:St->Option R),
  tH tt E (some base) all l id st k=mB tt E none base all (number tt l i id) st k
 | [],_,_,_,_=>rfl
 | o::l,i,id,st,k=>by
  simp only[tH,Js,number,mB,one,gk,sD,cond_true];congr 1
  ·funext st;congr 1;funext st;exact Rx l _ _ _ _
  ·funext st;exact Rx l _ _ _ _
theorem J7 {E:Env R} {A:Bool×List Nat} {base:Nat} {all:List Oper}:∀(l:List Oper) (i id:Nat) (st:St) (k:St->Option R),
  Aa tt E base A all l id st k=mB tt E (some A) base all (number tt l i id) st k
 | [],_,_,_,_=>rfl
 | o::l,i,id,st,k=>by
  simp only[Aa,Js,number,mB,one];congr 1
  ·funext st;congr 1;congr 1;funext st;exact J7 l _ _ _ _
  ·funext st;exact J7 l _ _ _ _
theorem J8 {S:Option (Bool×List Nat)} {base:Nat} {o:Oper} (h:cK tt o.op≠.W):sD tt S base o=some base:=by
 unfold sD;split
 ·split
  ·rename_i hc; exact(h hc).elim
  ·rfl
 ·rfl
theorem abv {S:Option (Bool×List Nat)} {base:Nat} {o:Oper} (h:S.map (·.1)≠some true):sD tt S base o=some base:=by
 unfold sD;split
 ·exact(h rfl).elim
 ·rfl
structure pS where
 dst:Option Nat
 v:V
 put:Option (Nat×aI)
def pS.hp (e:pS) (h:aq):aq:=match e.put with|none=>h|some (i,ob)=>h.set i ob
def yj (st:St) (e:pS):St:=⟨dd st.fr e.dst e.v,e.hp st.hp⟩
theorem abw {fr:List V} {dst:Option Nat} {v:V} {t:Nat} (h:dst≠some t):(dd fr dst v).getD t .undef=fr.getD t .undef:=by
 cases dst with
 | none=>rfl
 | some d=>
  have:d≠t:=fun e=>h (by rw[e])
  simp[dd,ca,List.getElem?_set_ne this]
theorem aqP {fr:List V} {x y:Option Nat} {u v:V} (h:∀d,x=some d->y≠some d):dd (dd fr x u) y v=dd (dd fr y v) x u:=by
 cases x with
 | none=>rfl
 | some d=>
  cases y with
  | none=>rfl
  | some e=>
   have:d≠e:=fun he=>h d rfl (by rw[he])
   simp only[dd];exact FU _ _ this
theorem qS {fr qT:List V} {o:Oper} {all:List Oper} (h:∀t∈looks all o,qT.getD t .undef=fr.getD t .undef):∀x∈o.op.operands,ev qT x=ev fr x:=by
 intro x hx;cases x with
 | tmp t=>exact h t (List.mem_append_left _ (List.mem_filterMap.2 ⟨.tmp t,by simpa using hx,rfl⟩))
 | _=>rfl
theorem Ry {fr qT:List V} {hp sL:aq} {o:Oper} {all:List Oper} (h:∀t∈looks all o,qT.getD t .undef=fr.getD t .undef) {run skip run' BW:St->Option R}
  (hr:run' ⟨qT,sL⟩=run ⟨fr,hp⟩) (hs:BW ⟨qT,sL⟩=skip ⟨fr,hp⟩):oN all o ⟨qT,sL⟩ run' BW=oN all o ⟨fr,hp⟩ run skip:=by
 rw[D7,D7];cases hg:o.guard with
 | none=>exact hr
 | some jw=>
  obtain ⟨j,want⟩:=jw;simp only;cases hd:(all[j]?).bind (·.dst)with
  | none=>rfl
  | some d=>
   have:=h d (by
    refine List.mem_append_right _ ?_;simp only[hg,hd];simp)
   simp only[this,hr,hs]
theorem abx {o:Op} {ρ:Operand->V} {lim:Option Nat} {h2:aq} (e:∀i∈tJ o ρ,sA lim i=true->(h2.at i).rd=(h.at i).rd) {k:V->Option R}:qG tt o ρ h2 lim k=qG tt o ρ h lim k:=by
 have e':∀i∈tJ o ρ,sA lim i=true->h2.at i=h.at i\/((h2.at i=.tok\/h2.at i=.dead\/h2.at i=.free)/\(h.at i=.tok\/h.at i=.dead\/h.at i=.free)):=fun i hm hi=>GJ (e i hm hi)
 clear e;cases o<;>simp only[qG]
 case load t x=>
  split
  ·rename_i i o hx;split
   ·rename_i hl;rcases e' i (by simp[tJ,hx,V.ids]) hl with h1|⟨h1|h1|h1,g2|g2|g2⟩<;>(first|(simp only[h1,g2]; done)|(simp only[h1]; done)|rfl|(simp only[h1,g2]; (repeat' split)<;>first|rfl|contradiction|simp_all))
   ·rfl
  ·rfl
  ·rename_i i _ _ _ hx;split
   ·rename_i hl;rcases e' i (by simp[tJ,hx,V.ids]) hl with h1|⟨h1|h1|h1,g2|g2|g2⟩<;>(first|(simp only[h1,g2]; done)|(simp only[h1]; done)|(simp only[h1,g2]; (repeat' split)<;>first|rfl|contradiction|simp_all))
   ·rfl
  ·rfl
 case lookup t x ix ok=>
  split
  ·rename_i kt vt i _ hx;split
   ·rename_i hl;rcases e' i (by simp[tJ,hx,V.ids]) hl with h1|⟨h1|h1|h1,g2|g2|g2⟩<;>(first|simp only[h1,g2]|simp only[h1])
   ·rfl
  ·rfl
 case convert s d x=>
  split
  ·rename_i i _ _ _ hx;split
   ·rename_i hl;rcases e' i (by simp[tJ,hx,V.ids]) hl with h1|⟨h1|h1|h1,g2|g2|g2⟩<;>(first|(simp only[h1,g2]; done)|(simp only[h1]; done)|(simp only[h1,g2]; (repeat' split)<;>first|rfl|contradiction|simp_all))
   ·rfl
  ·rfl
  ·rfl
  ·rfl
def pT (S:Option (Bool×List Nat)) (E:Env R) (all:List Oper) (tt:aZ) (base:Nat) (x:Oper) (st dO:St):Prop:=
 (∀t∈looks all x,dO.fr.getD t .undef=st.fr.getD t .undef)/\(cK tt x.op=.R->∀i,i<base->(∀A,S=some (true,A)->zZ tt E all x=true->i∈A)->(∀A,S=some (false,A)->DF tt E all x=true->i∉A)->(dO.hp.at i).rd=(st.hp.at i).rd)
def turns (tt:aZ) (E:Env R) (o:Op):Prop:=(cb tt E o=.W/\jh o=false)\/(cb tt E o=.F/\iS E o=false)
def Kept (S:Option (Bool×List Nat)) (tt:aZ) (E:Env R) (all:List Oper) (base:Nat) (o:Oper) (h h':aq):Prop:=
 (∀i,i<base->(h'.at i).rd=(h.at i).rd)\/((turns tt E o.op\/(S.map (·.1)=some true/\jh o.op=true))/\(cb tt E o.op=.F->∀A,S=some (true,A)->∀i∈A,(h'.at i).rd=(h.at i).rd)/\(xJ all o=true->∀A,S=some (false,A)->∀i,i∉A->(h'.at i).rd=(h.at i).rd))
theorem sM {E:Env R} {o:Op} (h:cK tt o≠.C):cb tt E o=cK tt o:=by
 unfold cb;split
 ·rename_i hc; exact(h hc).elim
 ·rfl
def calm (a:DB):Bool:=match a with | .P | .R | .A=>true|_=>false
theorem aqQ {o:Op} {ρ ρ':Operand->V} (h:∀x∈o.operands,ρ' x=ρ x):tJ o ρ'=tJ o ρ:=by
 cases o<;>simp only[tJ]<;>rw[h _ (by simp[Be])]
theorem aqR {o:Op} {ρ ρ':Operand->V} (h:∀x∈o.operands,ρ' x=ρ x):Bt o ρ'=Bt o ρ:=by
 cases o<;>simp only[Bt]<;>rw[h _ (by simp[Be])]
theorem aqS {o:Op} {ρ ρ':Operand->V} {hp:aq} (h:∀x∈o.operands,ρ' x=ρ x):lA o ρ' hp=lA o ρ hp:=by
 unfold lA;split
 ·rename_i cl;split
  ·rename_i f hf;have e1:ρ' f=ρ f:=h f (by simp[Be,Bf,hf]);have e2:cl.args.toList.map ρ'=cl.args.toList.map ρ:=xy fun z hz=>h z (by simp[Be,Bf]; exact .inr (by simpa using hz))
   rw[e1,e2]
  ·rfl
 ·rfl
theorem aby {E:Env R} {base:Nat} {S:Option (Bool×List Nat)} {all:List Oper} {x:Oper} {fr qT:List V} {hp:aq} (h:∀t∈looks all x,qT.getD t .undef=fr.getD t .undef):gk tt E base S all x (ev qT) hp=gk tt E base S all x (ev fr) hp:=by
 cases S with
 | none=>rfl
 | some A=>obtain ⟨m,A⟩:=A; cases m<;>simp only[gk]<;>rw[aqQ (qS h),aqR (qS h)]<;>rw[aqS (qS h)]
theorem aqT {E:Env R} {base:Nat} {S:Option (Bool×List Nat)} {all:List Oper} {x:Oper} {fr qT:List V} {hp sL:aq} (hc:calm (cK tt x.op)=true) (h:∀t∈looks all x,qT.getD t .undef=fr.getD t .undef):gk tt E base S all x (ev qT) sL=gk tt E base S all x (ev fr) hp:=by
 rw[aby (fr:=fr) h];cases S with
 | none=>rfl
 | some A=>
  obtain ⟨m,A⟩:=A;cases m<;>simp only[gk]<;>revert hc<;>cases cK tt x.op<;>simp[calm]
theorem abz {E:Env R} {S:Option (Bool×List Nat)} {base:Nat} {all:List Oper} {x:Oper} {id:Nat} {st:St} {k0:St->Option R} {r:R} (hc:calm (cK tt x.op)=true) (hk:one tt E S base all x id st k0=some r) :
  ∃e:pS,e.dst=x.dst/\(∀i ob,e.put=some (i,ob)->i=id/\cK tt x.op=.A)/\k0 (yj st e)=some r/\∀dO,pT S E all tt base x st dO->∀k,one tt E S base all x id dO k=k (yj dO e):=by
 unfold one at hk ⊢
 
 have J9:∀dO,pT S E all tt base x st dO->∀(run skip:St->Option R),oN all x dO run skip=oN all x st (fun _=>run dO) (fun _=>skip dO):=by
  intro dO ha run skip;obtain ⟨fr,hp⟩:=st;obtain ⟨fr2,Ka⟩:=dO;exact Ry ha.1 rfl rfl
 have Q8:∀run skip:St->Option R,(∀run' BW:St->Option R,oN all x st run' BW=run' st)\/(∀run' BW:St->Option R,oN all x st run' BW=BW st)\/oN all x st run skip=none:=by
  intro run skip;simp only[D7];cases x.guard with
  | none=>exact .inl fun _ _=>rfl
  | some jw=>
   obtain ⟨j,want⟩:=jw;simp only;cases (all[j]?).bind (·.dst)with
   | none=>exact .inr (.inr rfl)
   | some d=>
    simp only;cases st.fr.getD d .undef with
    | bool b=>by_cases hb:b=want<;>simp[hb]
    | tuple vs=>
     cases vs with
     | nil=>exact .inr (.inl fun _ _=>rfl)
     | cons _ _=>exact .inr (.inr rfl)
    | _=>exact .inr (.inr rfl)
 rcases Q8 _ _ with hg|hg|hg
 ·rw[hg]at hk;obtain ⟨hS,hk⟩:gk tt E base S all x (ev st.fr) st.hp=true/\mW tt E (sD tt S base x) id x st k0=some r:=by
   cases hS:gk tt E base S all x (ev st.fr) st.hp with
   | true=>rw[hS]at hk; exact⟨rfl,hk⟩
   | false=>rw[hS]at hk; cases hk
  have hnW:cK tt x.op≠.W:=fun e=>by rw[e]at hc; cases hc
  rw[J8 hnW]at hk ⊢;have GQ:∀dO,pT S E all tt base x st dO->gk tt E base S all x (ev dO.fr) dO.hp=true:=fun dO ha=>by rw[<-hS]; exact aqT hc ha.1
  unfold mW at hk;simp only at hk;split at hk
  ·rename_i k8;obtain ⟨v,h1,h2⟩:=aqp hk;refine⟨⟨x.dst,v,none⟩,rfl,by simp,h1,fun dO ha k => ?_⟩;rw[J9 dO ha,hg,GQ dO ha,cond_true];simp only[mW,k8];rw[abe (qS ha.1),h2];rfl
  ·rename_i k8;obtain ⟨v,h1,h2⟩:=aqt hk;refine⟨⟨x.dst,v,none⟩,rfl,by simp,h1,fun dO ha k => ?_⟩;rw[J9 dO ha,hg,GQ dO ha,cond_true];simp only[mW,k8];rw[abf (qS ha.1),abx (h:=st.hp) fun i hm hi=>ha.2 k8 i (by simpa [sA]using hi) (fun A hA hf => ?_) fun A hA hf => ?_,h2 _ fun i hi=>rfl]
   ·rfl
   ·subst hA;simp only[gk,k8,hf,cE,sn,gF]at hS;simpa using hS i hm
   ·subst hA;simp only[gk,k8,hf,cE,sn,gF]at hS;simpa using hS i hm
  ·rename_i k8;obtain ⟨ob,mk,h1,h2⟩:=aqu hk;refine⟨⟨x.dst,mk id,some (id,ob)⟩,rfl,by simp[k8],h1,fun dO ha k => ?_⟩;rw[J9 dO ha,hg,GQ dO ha,cond_true];simp only[mW,k8];rw[abg (qS ha.1),h2];rfl
  all_goals (rename_i k8; rw[k8]at hc; cases hc)
 ·rw[hg]at hk;refine⟨⟨x.dst,.tuple [],none⟩,rfl,by simp,hk,fun dO ha k => ?_⟩;rw[J9 dO ha,hg];rfl
 ·rw[hg]at hk; cases hk
theorem apart_spec {all:List Oper} {x y:Oper} (h:qH all x y=true) :
  (∀d,x.dst=some d->d∉looks all y)/\(∀d,x.dst=some d->y.dst≠some d)/\(∀d,y.dst=some d->d∉looks all x):=by
 refine⟨fun d hd => ?_,fun d hd => ?_,fun d hd => ?_⟩<;>simp[qH,hd]at h
 ·exact h.1.1
 ·exact h.1.2
 ·exact h.2
theorem Rz {fr:List V} {c:Value} {g:Nat} {a b:List V} (h:ev fr (.const c)=.func g a b):False:=by
 simp only[ev]at h;unfold ofConst at h;split at h
 ·cases h
 ·unfold F4 at h;split at h<;>(try split at h)<;>cases h
theorem RA {i:Nat}:∀(n:Nat) (todo seen:List Nat),i∈seen->i∈reach h n todo seen
 | 0,_,_,hi=>hi
 | _+1,[],_,hi=>hi
 | n+1,j::todo,seen,hi=>by
  unfold reach;split
  ·exact RA n _ _ hi
  ·exact RA n _ _ (by simp[hi])
theorem Kb {i:Nat} {ob:aI}:∀(n:Nat) (todo seen:List Nat),i∉reach h n todo seen->reach (h.set i ob) n todo seen=reach h n todo seen
 | 0,_,_,_=>rfl
 | _+1,[],_,_=>rfl
 | n+1,j::todo,seen,hi=>by
  unfold reach at hi ⊢;split
  ·rename_i hc;rw[if_pos hc]at hi;exact Kb n _ _ hi
  ·rename_i hc;rw[if_neg hc]at hi;have aT:i≠j:=by
    rintro rfl
    exact hi (RA n _ _ (by simp))
   rw[dR _ aT];exact Kb n _ _ hi
theorem set_set {i:Nat} {ob:aI}:(h.set i ob).set i (h.at i)=h:=by
 rw[List.set_set];apply List.ext_getElem?;intro j;rw[List.getElem?_set];split
 ·rename_i e;subst e;split
  ·rename_i hl;simp[aq.at,ca,List.getElem?_eq_getElem hl]
  ·rename_i hl;exact(List.getElem?_eq_none (by omega)).symm
 ·rfl
theorem abA {o:Op} {ρ:Operand->V} {i:Nat} {ob:aI} (hi:i∉lA o ρ h):lA o ρ (h.set i ob)=lA o ρ h:=by
 unfold lA at hi ⊢;split at hi<;>try rfl
 split at hi<;>try rfl
 split at hi<;>try rfl
 exact Kb _ _ _ hi
theorem aqU {o:Op} {ρ:Operand->V} {i:Nat} {ob:aI} (hi:i∉lA o ρ (h.set i ob)):lA o ρ (h.set i ob)=lA o ρ h:=by
 have h1:=abA (ob:=h.at i) hi;rw[set_set]at h1;exact h1.symm
theorem aqV {i:Nat} {ob:aI} {ord:List Nat} (hi:i∉ord):aq.pick (h.set i ob) ord=h.pick ord:=by
 unfold aq.pick;refine xy fun j hj => ?_
 rw[dR _ (by rintro rfl; exact hi hj)]
theorem abB {i:Nat} {ob:aI}:∀(l:List (Nat×aI)) (h:aq),(∀x∈l,x.1≠i)->aq.sv (h.set i ob) l=(aq.sv h l).set i ob
 | [],_,_=>rfl
 | x::l,h,hl=>by
  simp only[aq.sv];rw[FU _ _ (dX (hl x (by simp)))];exact abB l _ fun y hy=>hl y (by simp[hy])
theorem aqW {i:Nat} {ob:aI} {ord:List Nat} (hi:i∉ord) (hl:i<h.length) (h':aq):aq.back (h.set i ob) ord h'=(h.back ord h').set i ob:=by
 unfold aq.back;simp only[ZK];rw[abB _ _ fun x hx=>by
  have:=(List.of_mem_zip hx).1
  rintro rfl
  exact hi this]
 rw[List.set_append_left _ _ (by rw[oS]; exact hl)]
theorem aqX {E:Env R} {cl:Call} (hp:mw E (.call cl)=false) (hs:iS E (.call cl)=false) {full:Bool} {fr:List V} {i:Nat} {ob:aI} (hi:i∉lA (.call cl) (ev fr) h) (hl:i<h.length) {k:V->aq->Option R} :
  my tt E full cl (ev fr) (h.set i ob) k=my tt E full cl (ev fr) h fun v h'=>k v (h'.set i ob):=by
 unfold my;split
 ·rename_i f hf;split
  ·rename_i g first cap hg
   simp only;have tP:lA (.call cl) (ev fr) h=reach h 64 (V.fI (first++cl.args.toList.map (ev fr)++cap)) []:=by simp only[lA,hf,hg]
   rw[tP]at hi;split
   ·exfalso;rename_i gT;cases f with
    | tmp t=>simp[mw,hf]at hp
    | func g'=>
     simp only[ev,V.func.injEq]at hg;obtain ⟨rfl,_,_⟩:=hg;simp[mw,hf,gT]at hp
    | const c=>exact Rz hg
    | global _=>simp[ev]at hg
   ·rename_i sp gT;cases full
    ·rfl
    ·simp only[cond_true];cases GR:dL.soft g with
     | true=>
      exfalso;cases f with
      | tmp t=>simp[mw,hf]at hp
      | func g'=>
       simp only[ev,V.func.injEq]at hg;obtain ⟨rfl,_,_⟩:=hg;simp[iS,hf,GR,gT]at hs
      | const c=>exact Rz hg
      | global _=>simp[ev]at hg
     | false=>
      simp only[cond_false];rw[Kb _ _ _ hi,aqV hi];congr 1;funext v h';rw[aqW hi hl,ZK]
   ·rfl
  ·rfl
 ·rfl
theorem aqY {E:Env R} {cl:Call} {full:Bool} {ρ ρ':Operand->V} (lD:∀z∈cl.operands,ρ' z=ρ z) {k:V->aq->Option R}:my tt E full cl ρ' h k=my tt E full cl ρ h k:=by
 have Kc:cl.args.toList.map ρ'=cl.args.toList.map ρ:=xy fun z hz=>lD z (by simp[Bf]; exact .inr (by simpa using hz))
 unfold my;split
 ·rename_i f hf;rw[lD f (by simp[Bf,hf]),Kc]
 ·rfl
theorem abC {E:Env R} {S:Option (Bool×List Nat)} {base:Nat} {all:List Oper} {x y:Oper} {e:pS} {ix id:Nat} (fq:vL (cb tt E x.op) (cb tt E y.op)=true\/(jh y.op=true/\S.map (·.1)≠some true/\(cq tt x=true->id<ix))\/(cK tt x.op=.R/\jh y.op=true)\/(cK tt x.op=.R/\iS E y.op=true)\/(cK tt x.op=.R/\cb tt E y.op=.F)\/(cK tt x.op=.A/\S.map (·.1)=some true/\cb tt E y.op=.F/\iS E y.op=false/\xL tt all base y<=ix)\/(cK tt x.op=.R/\cK tt y.op=.W)) (hap:qH all x y=true) (hc:calm (cK tt x.op)=true) (he:e.dst=x.dst)
  (Aq:∀i ob,e.put=some (i,ob)->i=ix/\cK tt x.op=.A) (hid:cq tt x=true->cq tt y=true->ix≠id) (hb:cq tt x=true->base<=ix) (ht:cq tt x=true->ix<base+(all.filter (cq tt)).length) (st:St) (k:St->Option R) :
  one tt E S base all y id (yj st e) k=one tt E S base all y id st fun iA=>k (yj iA e):=by
 obtain ⟨a1,a2,a3⟩:=apart_spec hap;have hl:∀t∈looks all y,(dd st.fr e.dst e.v).getD t .undef=st.fr.getD t .undef:=fun t ht=>abw fun h=>a1 t (he▸h) ht
 have Ar:∀u,dd (dd st.fr e.dst e.v) y.dst u=dd (dd st.fr y.dst u) e.dst e.v:=fun u=>aqP fun d hd=>a2 d (he▸hd)
 obtain ⟨fr,qU⟩:=st;simp only at hl Ar;have aqZ:gk tt E base S all y (ev (dd fr e.dst e.v)) (e.hp qU)=gk tt E base S all y (ev fr) qU:=by
  rw[aby hl]
  match S,fq with
  | none,_=>rfl
  | some (false,A),_=>simp only[gk]
  | some (true,A),fq=>
   simp only[gk];split
   ·rfl
   ·rename_i de;cases hf:qI tt E y.op with
    | false=>rfl
    | true=>
     have hF:cb tt E y.op=.F:=by revert hf; unfold qI; cases cb tt E y.op<;>simp
     cases hq:e.put with
     | none=>simp only[pS.hp,hq]
     | some jo=>
      obtain ⟨j,ob⟩:=jo;obtain ⟨rfl,hA⟩:=Aq j ob hq;have vY:jh y.op=true->False:=fun ha=>by rw[BS ha]at de; cases de
      rcases fq with fq|⟨h,_⟩|⟨_,h⟩|⟨h,_⟩|⟨h,_⟩|⟨_,_,_,BX,DZ⟩|⟨h,_⟩
      ·rw[sM (by rw[hA]; simp),hF,hA]at fq;cases fq
      ·exact(vY h).elim
      ·exact(vY h).elim
      ·rw[hA]at h; cases h
      ·rw[hA]at h; cases h
      ·simp only[pS.hp,hq,BX,cE,sn,ZK];by_cases hm:j∈lA y.op (ev fr) qU
       ·have sI:j∈lA y.op (ev fr) (qU.set j ob):=by
         by_cases sI:j∈lA y.op (ev fr) (qU.set j ob)
         ·exact sI
         ·rw[aqU sI]; exact hm
        have mZ:∀l:List Nat,j∈l->l.all (fun i=>xr i (xL tt all base y))=false:=fun l hl=>by
         rw[List.all_eq_false];exact⟨j,hl,by simpa using DZ⟩
        rw[mZ _ hm,mZ _ sI];simp
       ·rw[abA hm]
      ·rw[hA]at h; cases h
   ·rfl
   ·rfl
 unfold one;refine Ry hl ?_ ?_
 ·simp only[yj];rw[aqZ];cases hS:gk tt E base S all y (ev fr) qU with
  | false=>rfl
  | true=>
  simp only[cond_true];unfold mW;simp only;split
  ·rw[abe (qS hl)];simp only[Ar]
  ·rename_i de;rw[J8 (by rw[de]; simp),abf (qS hl),abx (h:=qU)]
   ·simp only[Ar]
   ·intro i _ hi;unfold pS.hp;split
    ·rfl
    ·rename_i j ob hj;obtain ⟨rfl,hA⟩:=Aq _ _ hj;have:=hb (by simp[cq,hA]);simp[sA]at hi;rw[dR _ (by omega)]
  ·rename_i de;rw[abg (qS hl)];simp only[Ar];congr 1;funext ob mk;congr 2;unfold pS.hp;split
   ·rfl
   ·rename_i j GN hj;obtain ⟨rfl,hA⟩:=Aq _ _ hj;exact FU _ _ (hid (by simp[cq,hA]) (by simp[cq,de]))
  ·rename_i de;rw[aqJ (qS hl)];cases BY:zX (sD tt S base y) y.op (ev fr) id with
   | false=>rfl
   | true=>
    simp only[cE,cond_false];cases hq:e.put with
    | none=>
     rw[abh (qS hl)];simp only[Ar,pS.hp,hq]
    | some jo=>
     obtain ⟨j,ob⟩:=jo;obtain ⟨rfl,hA⟩:=Aq j ob hq;have hy:jh y.op=true/\S.map (·.1)≠some true/\id<j:=by
      rcases fq with h|⟨h,h3,h2⟩|⟨h,_⟩|⟨h,_⟩|⟨h,_⟩|⟨_,_,h,_⟩|⟨h,_⟩
      ·rw[sM (by rw[hA]; simp),sM (by rw[de]; simp),hA,de]at h; cases h
      ·exact⟨h,h3,h2 (by simp[cq,hA])⟩
      ·rw[hA]at h; cases h
      ·rw[hA]at h; cases h
      ·rw[hA]at h; cases h
      ·rw[sM (by rw[de]; simp),de]at h; cases h
      ·rw[hA]at h; cases h
     rw[abh (qS hl)];simp only[Ar,pS.hp,hq];have RB:vK base y.op (ev fr) id=true:=by rw[abv hy.2.1]at BY; exact BY
     exact aqK hy.1 RB hy.2.2
  ·rename_i de;rw[J8 (by rw[de]; simp)];split
   ·rename_i cl Kd;simp only[Ar];have lD:∀z∈cl.operands,ev (dd fr e.dst e.v) z=ev fr z:=fun z hz=>qS hl z (by rw[Kd]; exact hz)
    have Kc:cl.args.toList.map (ev (dd fr e.dst e.v))=cl.args.toList.map (ev fr):=xy fun z hz=>lD z (by simp[Bf]; exact .inr (by simpa using hz))
    cases pH:mw E y.op with
    | true=>
     have RC:(Option.isNone (some base)||!true)=false:=rfl;rw[Kd]at pH;rw[RC];unfold my;split
     ·rename_i f hf;rw[lD f (by simp[Bf,hf]),Kc];split
      ·split
       ·simp only[cond_false]
       ·rfl
       ·rfl
      ·rfl
     ·rfl
    | false=>
     have hF:cb tt E y.op=.F:=by unfold cb; rw[de]; simp[pH]
     rw[aqY lD];cases hq:e.put with
     | none=>
      have GS:∀h2,e.hp h2=h2:=fun h2=>by simp[pS.hp,hq]
      simp only[GS]
     | some jo=>
      obtain ⟨j,ob⟩:=jo;obtain ⟨rfl,hA⟩:=Aq j ob hq;have vY:jh y.op=true->False:=fun ha=>by rw[BS ha]at de; cases de
      rcases fq with fq|⟨h,_⟩|⟨_,h⟩|⟨h,_⟩|⟨h,_⟩|⟨_,h2,_,BX,DZ⟩|⟨h,_⟩
      ·rw[sM (by rw[hA]; simp),hF,hA]at fq;cases fq
      ·exact(vY h).elim
      ·exact(vY h).elim
      ·rw[hA]at h; cases h
      ·rw[hA]at h; cases h
      ·have GS:∀h2,e.hp h2=h2.set j ob:=fun h2=>by simp[pS.hp,hq]
       simp only[GS];have RD:qI tt E y.op=true:=by unfold qI; rw[hF]
       match S,h2,hS with
       | some (true,A),_,hS=>
        simp only[gk,de,RD,BX,cE,sn,bF,gF]at hS;have htj:=ht (by simp[cq,hA]);have h3:base+(all.filter (cq tt)).length<=qU.length:=by simpa using hS.1.1
        rw[Kd]at pH BX;refine aqX pH BX (fun hm => ?_) (by omega);have h4:=hS.1.2 j (by rw[Kd]; exact hm);simp at h4;omega
      ·rw[hA]at h; cases h
   ·rfl
  ·rfl
  ·rfl
 ·simp only[yj,Ar]
theorem aq0 {E:Env R} (hE:nf P E) {cl:Call} (hs:iS E (.call cl)=true) {full:Bool} {fr:List V} {k k':V->aq->Option R} (he:∀v,k v h=k' v h) :
  my tt E full cl (ev fr) h k=my tt E full cl (ev fr) h k':=by
 unfold iS at hs;simp only at hs;split at hs
 ·rename_i g hg;simp only[bF]at hs;obtain ⟨h1,h2⟩:=hs;split at h2
  ·rename_i sp gT;unfold my;simp only[hg,ev,gT,h1];cases full
   ·rfl
   ·simp only[cond_true];exact(hE g _ sp gT).2 rfl h1 _ _ _ _ he
  ·cases h2
 ·cases hs
theorem aq1 {E:Env R} {cl:Call} (hp:mw E (.call cl)=false) (hs:iS E (.call cl)=false) {full:Bool} {fr:List V} {k k':V->aq->Option R}
  (he:∀v h',(∀i,i<h.length->i∉lA (.call cl) (ev fr) h->h'.at i=h.at i)->k v h'=k' v h') (h0:∀v,k v h=k' v h):my tt E full cl (ev fr) h k=my tt E full cl (ev fr) h k':=by
 unfold my;split
 ·rename_i f hf;split
  ·rename_i g first cap hg
   simp only;split
   ·split
    ·congr 1;funext v h';cases h' with
     | nil=>exact h0 v
     | cons _ _=>rfl
    ·cases full
     ·rfl
     ·simp only[cond_true];unfold Qr;split
      ·congr 1;funext v h';cases h' with
       | nil=>simp only[h0]
       | cons _ _=>rfl
      ·rfl
   ·rename_i sp gT;cases full
    ·rfl
    ·simp only[cond_true];cases GR:dL.soft g with
     | true=>
      exfalso;cases f with
      | tmp t=>simp[mw,hf]at hp
      | func g'=>
       simp only[ev,V.func.injEq]at hg;obtain ⟨rfl,_,_⟩:=hg;simp[iS,hf,GR,gT]at hs
      | const c=>exact Rz hg
      | global _=>simp[ev]at hg
     | false=>
      simp only[cond_false];congr 1;funext v h';refine he _ _ fun i hi hn => ?_
      unfold aq.back;simp only;rw[ye (by rw[oS]; exact hi)];refine JX _ _ _ ?_;simpa only[lA,hf,hg]using hn
   ·rfl
  ·rfl
 ·rfl
theorem RE {all:List Oper} {x:Oper} (h:qJ all x=true\/tI all x=true):∃t a y,x.op=.store t a y/\x.dst=none/\x.guard=none:=by
 rcases h with h|h
 ·unfold qJ at h;split at h
  ·rename_i ho;simp only[bF,Option.isNone_iff_eq_none]at h;exact⟨_,_,_,ho,h.1.1,h.1.2⟩
  ·cases h
 ·unfold tI at h;split at h
  ·rename_i ho;simp only[bF,Option.isNone_iff_eq_none]at h;exact⟨_,_,_,ho,h.1.1,h.1.2⟩
  ·cases h
theorem Ke {all:List Oper} {x:Oper} (h:xJ all x=true):∃t a y,x.op=.store t a y/\x.dst=none/\x.guard=none:=by
 unfold xJ at h;rw[je]at h;rcases h with h|h
 ·exact RE (.inl h)
 ·unfold Qs at h;split at h
  ·rename_i ho;simp only[bF,Option.isNone_iff_eq_none]at h;exact⟨_,_,_,ho,h.1.1,h.1.2⟩
  ·cases h
theorem Kf {all:List Oper} {x y:Oper} (h:Bs all x y=true):(qJ all x=true/\tI all y=true)\/(tI all x=true/\qJ all y=true):=by
 simpa only[Bs,je,bF]using h
theorem D8 {all:List Oper} {x y:Oper} (h:Bs all x y=true):cK tt x.op=.W/\cK tt y.op=.W:=by
 have h1:∀z,qJ all z=true\/tI all z=true->cK tt z.op=.W:=fun z hz=>by
  obtain ⟨t,a,y,e,_⟩:=RE hz;rw[e]; rfl
 rcases Kf h with ⟨h2,h3⟩|⟨h2,h3⟩
 ·exact⟨h1 _ (.inl h2),h1 _ (.inr h3)⟩
 ·exact⟨h1 _ (.inr h2),h1 _ (.inl h3)⟩
theorem abD (t:Nat) (a y:Operand) (ρ:Operand->V) (h:aq) (id:Nat) :
  (∀k:V->aq->Option R,j4 tt (.store t a y) ρ h id k=none)\/∃i ob,i∈(ρ a).ids/\∀(h2:aq) (vZ:Nat) (k:V->aq->Option R),h2.at i=h.at i->j4 tt (.store t a y) ρ h2 vZ k=k .undef (h2.set i ob):=by
 simp only[j4];cases Gi:Dv (ρ y)with
 | none=>exact .inl fun k=>rfl
 | some vs=>
 simp only;by_cases hc:(tt.ok t&&decide (vs.length=(tt.at t).size))=true;rotate_left
 ·exact .inl fun k=>by rw[if_neg hc]
 simp only[hc,if_true];cases hx:ρ a with
 | ptr i o=>
  simp only;cases hi:h.at i with
  | cells cs=>
   by_cases hle:o+vs.length<=cs.length
   ·exact .inr ⟨i,.cells (sC cs o vs),by simp[V.ids],fun h2 vZ k e=>by simp only[e,hi,hle,if_true]⟩
   ·exact .inl fun k=>by simp only[hle,if_false]
  | bA bv=>
   match o,vs with
   | 1,[v]=>exact .inr ⟨i,.bA v,by simp[V.ids],fun h2 vZ k e=>by simp only[e,hi]⟩
   | 0,_=>exact .inl fun k=>rfl
   | 1,[]=>exact .inl fun k=>rfl
   | 1,_::_::_=>exact .inl fun k=>rfl
   | _+2,_=>exact .inl fun k=>rfl
  | _=>exact .inl fun k=>rfl
 | fH i sz j o=>
  simp only;cases hi:h.at i with
  | row T l=>
   by_cases bL:sz=T.sz
   ·by_cases hle:o+vs.length<=(T.cells (l.getD j T.az)).length
    ·cases hz:T.dec (sC (T.cells (l.getD j T.az)) o vs)with
     | none=>exact .inl fun k=>by simp only[bL,hle,if_true,hz]
     | some z=>
      by_cases hj:j<l.length
      ·exact .inr ⟨i,.row T (l.set j z),by simp[V.ids],fun h2 vZ k e=>by simp only[e,hi,bL,hle,if_true,hz,ag,hj,decide_true,cond_true]⟩
      ·exact .inl fun k=>by simp only[bL,hle,if_true,hz,ag,hj,decide_false,cond_false]
    ·exact .inl fun k=>by simp only[bL,hle,if_true,if_false]
   ·exact .inl fun k=>by simp only[bL,if_false]
  | _=>exact .inl fun k=>rfl
 | _=>exact .inl fun k=>rfl
theorem aq2 {t:Nat} {a y:Operand} {ρ:Operand->V} {id:Nat} {k0:V->aq->Option R} {r:R} (hk:j4 tt (.store t a y) ρ h id k0=some r) :
  ∃i ob,i∈(ρ a).ids/\k0 .undef (h.set i ob)=some r/\∀(h2:aq) (vZ:Nat) (k:V->aq->Option R),h2.at i=h.at i->j4 tt (.store t a y) ρ h2 vZ k=k .undef (h2.set i ob):=by
 rcases abD (tt:=tt) (R:=R) t a y ρ h id with h1|⟨i,ob,h1,h2⟩
 ·rw[h1]at hk; cases hk
 ·rw[h2 h id k0 rfl]at hk;exact⟨i,ob,h1,hk,h2⟩
theorem RF {E:Env R} (hE:nf P E) {S:Option (Bool×List Nat)} {base:Nat} {all:List Oper} {y:Oper} {id:Nat} {st:St} {k k':St->Option R} (hb:cq tt y=true->base<=id)
  (h:∀v sL,Kept S tt E all base y st.hp sL->k ⟨dd st.fr y.dst v,sL⟩=k' ⟨dd st.fr y.dst v,sL⟩):one tt E S base all y id st k=one tt E S base all y id st k':=by
 have h0:∀v,k ⟨dd st.fr y.dst v,st.hp⟩=k' ⟨dd st.fr y.dst v,st.hp⟩:=fun v=>h v _ (.inl fun _ _=>rfl)
 obtain ⟨fr,qU⟩:=st;unfold one;refine Ry (fun _ _=>rfl) ?_ (h0 _);cases hS:gk tt E base S all y (ev fr) qU with
 | false=>rfl
 | true=>
 simp only[cond_true];unfold mW;simp only at h h0 ⊢;split
 ·simp only[h0]
 ·simp only[h0]
 ·rename_i de;congr 1;funext ob mk;refine h _ _ (.inl fun i hi => ?_);have:=hb (by simp[cq,de]);rw[dR _ (by omega)]
 ·rename_i de;have hbi:=hb (by simp[cq,de]);cases BY:zX (sD tt S base y) y.op (ev fr) id with
  | false=>rfl
  | true=>
   simp only[cE,cond_false];by_cases ha:jh y.op=true
   ·by_cases kG:S.map (·.1)=some true
    ·congr 1;funext v h';refine h v h' (.inr ⟨.inr ⟨kG,ha⟩,fun hF => ?_,fun hv => ?_⟩)
     ·rw[sM (by rw[de]; simp),de]at hF; cases hF
     ·obtain ⟨t,a,z,ey,_⟩:=Ke hv;rw[ey]at ha; cases ha
    have RB:vK base y.op (ev fr) id=true:=by rw[abv kG]at BY; exact BY
    exact aqL ha hbi RB fun v h' hrd=>h v h' (.inl fun i hi=>hrd i (by omega))
   ·have Kg:turns tt E y.op:=.inl ⟨by rw[sM (by rw[de]; simp),de],by simpa using ha⟩;have hnF:cb tt E y.op≠.F:=fun hF=>by rw[sM (by rw[de]; simp),de]at hF; cases hF
    by_cases hv:xJ all y=true
    ·obtain ⟨t,a,z,ey,_,_⟩:=Ke hv;rw[ey];rcases abD (tt:=tt) (R:=R) t a z (ev fr) qU id with h1|⟨i,ob,h1,h2⟩
     ·rw[h1,h1]
     ·rw[h2 qU id _ rfl,h2 qU id _ rfl];refine h _ _ (.inr ⟨.inl Kg,fun hF=>(hnF hF).elim,fun _ A hA j hj => ?_⟩);subst hA;simp only[gk,de,hv,cE,sn,gF]at hS;have h3:=hS i (by rw[ey]; exact h1);rw[dR _ (by rintro rfl; exact hj (by simpa using h3))]
    ·congr 1;funext v h';exact h v h' (.inr ⟨.inl Kg,fun hF=>(hnF hF).elim,fun oT=>(hv oT).elim⟩)
 ·rename_i de;rw[J8 (by rw[de]; simp)];split
  ·rename_i cl fq;cases pH:mw E y.op with
   | true=>
    have RC:(Option.isNone (some base)||!true)=false:=rfl;rw[RC];unfold my;split
    ·split
     ·split
      ·simp only;split
       ·congr 1;funext v h';cases h' with
        | nil=>exact h0 v
        | cons _ _=>rfl
       ·rfl
      ·rfl
      ·rfl
     ·rfl
    ·rfl
   | false=>
    have hF:cb tt E y.op=.F:=by unfold cb; rw[de]; simp[pH]
    cases hs:iS E y.op with
    | true=>exact aq0 hE (by rw[<-fq]; exact hs) fun v=>h0 v
    | false=>
     have Kg:turns tt E y.op:=.inr ⟨hF,hs⟩;refine aq1 (by rw[fq]at pH; exact pH) (by rw[fq]at hs; exact hs) (fun v h' hh=>h v h' (.inr ⟨.inl Kg,fun _ A hA => ?_,fun hv => ?_⟩)) fun v=>h0 v
     rotate_left
     ·obtain ⟨t,a,z,ey,_⟩:=Ke hv;rw[ey]at fq; cases fq
     subst hA;have RD:qI tt E y.op=true:=by unfold qI; rw[hF]
     simp only[gk,de,RD,hs,cE,sn,gF,bF]at hS;intro i hi;have h1:=hS.2 i hi;rw[fq]at h1;rw[hh i (by simpa using h1.1) (by simpa using h1.2)]
  ·rfl
 ·rfl
 ·rfl
end
section
variable {P:Program} {tt:aZ} {w w':World} {h h':aq} {c c':bh} {R:Type}
theorem aq3 {o:Oper} {a:Act} {G:Prop} (h:o.wp P a w (fun _ _=>G) (fun _ _ _=>G)):G:=by
 unfold Oper.wp at h;generalize (execOp a.eval o).run P w=r at h;cases r with
 | ok n w'=>
  cases n<;>simp only[Oper.upon]at h<;>try (first|exact h|exact h.elim)
  ·obtain ⟨e,w',fr,hR,_⟩:=h [];cases e with
   | returned v=>exact hR
   | panicked c=>exact hR
   | outgrown=>obtain ⟨_,_,g⟩:=hR; exact g
  ·obtain ⟨v,w',g,_⟩:=h (Frame.enter P 0 #[] .normal) [];exact g
 | halt x w'=>cases x<;>simp only[Oper.upon]at h<;>first|exact h|exact h.elim
theorem aq4 (T:cF P tt) {E:Env R} (hE:nf P E) {S:Option (Bool×List Nat)} {base:Nat} {ops:Array Oper} {y:Oper} {id:Nat} {st:St} {a:Act} {k:St->Option R} {r:R} (hk:one tt E S base ops.toList y id st k=some r) (aW:gp w c st a)
  (hid:cq tt y=true->base<=id/\id<st.hp.length/\st.hp.at id=.free) :
  ∃w1 c1 iA a1 v,gp w1 c1 iA a1/\k iA=some r/\iA.fr=dd st.fr y.dst v/\Kept S tt E ops.toList base y st.hp iA.hp/\kF (cq tt y) id st.hp iA.hp:=by
 classical
 obtain ⟨k',bY,RG⟩:∃k':St->Option R,one tt E S base ops.toList y id st k'=some r/\∀iA,k' iA=some r->k iA=some r/\Kept S tt E ops.toList base y st.hp iA.hp:=by
  refine⟨fun iA=>if Kept S tt E ops.toList base y st.hp iA.hp then k iA else none,?_,fun iA e => ?_⟩
  ·rw[<-hk];refine RF hE (fun ha=>(hid ha).1) fun v sL ht => ?_
   rw[if_pos ht]
  ·simp only at e;split at e
   ·exact⟨e, ‹_›⟩
   ·cases e
 rcases Ru aW bY with ⟨_,hk⟩|⟨_,hk⟩
 ·have hk:mW tt E (sD tt S base y) id y st k'=some r:=by
   cases hS:gk tt E base S ops.toList y (ev st.fr) st.hp with
   | true=>rw[hS]at hk; exact hk
   | false=>rw[hS]at hk; cases hk
  refine aq3 (P:=P) (o:=y) (a:=a) (w:=w) (Rs T hE hk aW (fun ha=>(hid ha).2) fun d w' cx c' v BV x kp hf _ bY => ?_);exact⟨w',c',cx,_,v,BV,(RG _ bY).1,hf,(RG _ bY).2,kp⟩
 ·exact⟨w,c,⟨dd st.fr y.dst (.tuple []),st.hp⟩,a.put y.dst undef,.tuple [],⟨aW.wf,yg aW.fr _ Rv⟩,(RG _ hk).1,rfl,.inl fun _ _=>rfl,.refl _ _ _⟩
structure Good (tt:aZ) (base:Nat) (all:List Oper) (rem:List lC) (h:aq):Prop where
 top:∀z∈rem,cq tt z.2.1=true->z.2.2<base+(all.filter (cq tt)).length
 cap:rem.Pairwise fun z z'=>cq tt z'.2.1=true->xL tt all base z.2.1<=z'.2.2
 slot:∀z∈rem,cq tt z.2.1=true->base<=z.2.2/\z.2.2<h.length/\h.at z.2.2=.free
 apart:rem.Pairwise fun z z'=>cq tt z.2.1=true->cq tt z'.2.1=true->z.2.2<z'.2.2
theorem Good.sub {base:Nat} {all:List Oper} {rem abE:List lC} (g:Good tt base all rem h) (hs:List.Sublist abE rem):Good tt base all abE h:=
 ⟨fun z hz=>g.top z (hs.subset hz),g.cap.sublist hs,fun z hz=>g.slot z (hs.subset hz),g.apart.sublist hs⟩
theorem Good.step {base:Nat} {all:List Oper} {x:lC} {pre post:List lC} (g:Good tt base all (pre++x::post) h) (kp:kF (cq tt x.2.1) x.2.2 h h'):Good tt base all (pre++post) h':=by
 have hs:List.Sublist (pre++post) (pre++x::post):=List.Sublist.append (List.Sublist.refl _) (Pv _ _);refine⟨fun z hz=>g.top z (hs.subset hz),g.cap.sublist hs,fun z hz ha => ?_,g.apart.sublist hs⟩;obtain ⟨h1,h2,h3⟩:=g.slot z (hs.subset hz) ha;refine⟨h1,xw h2 kp.1,kp.2 _ (fun hx => ?_) h2 h3⟩;have hp:=g.apart;rw[List.pairwise_append,Dm]at hp;rcases fU.1 hz with hz|hz
 ·have:=hp.2.2 z hz x (by simp) ha hx; omega
 ·have:=hp.2.1.1 z hz hx ha; omega
theorem abF {all:List Oper} {x y:Oper} (h2:qH all x y=true):qH all y x=true:=by
 obtain ⟨a1,a2,a3⟩:=apart_spec h2;simp only[qH,bF];constructor
 ·cases hd:y.dst with
  | none=>rfl
  | some d=>
   have h3:=a3 d hd;have h4:x.dst≠some d:=fun e=>a2 d e hd
   simp[h3,h4]
 ·cases hd:x.dst with
  | none=>rfl
  | some d=>simp[a1 d hd]
theorem abG {a b:DB} (h:vL a b=true):vL b a=true:=by revert h; cases a<;>cases b<;>simp[vL]
theorem D9 {E:Env R} {all:List Oper} {x y:Oper} (h:DE tt E all x y=true):qH all x y=true /\
  (vL (cb tt E x.op) (cb tt E y.op)=true\/(jh x.op=true/\(cb tt E y.op=.A\/cb tt E y.op=.R))\/(cb tt E x.op=.R/\jh y.op=true)\/(iS E x.op=true/\cb tt E y.op=.R)\/(cb tt E x.op=.R/\iS E y.op=true)):=by
 simp only[DE,bF,je,tokPair]at h;obtain ⟨h1,h2⟩:=h;refine⟨h2,?_⟩;rcases h1 with h1|(⟨h1,h3⟩|⟨h1,h3⟩)|(⟨h1,h3⟩|⟨h1,h3⟩)
 ·exact .inl h1
 ·refine .inr (.inl ⟨h1,?_⟩)
  revert h3; cases cb tt E y.op<;>simp
 ·refine .inr (.inr (.inl ⟨?_,h3⟩))
  revert h1; cases cb tt E x.op<;>simp
 ·refine .inr (.inr (.inr (.inl ⟨h1,?_⟩)))
  revert h3; cases cb tt E y.op<;>simp
 ·refine .inr (.inr (.inr (.inr ⟨?_,h3⟩)))
  revert h1; cases cb tt E x.op<;>simp
theorem RH {E:Env R} {o:Op} (h:qI tt E o=true):cb tt E o=.F:=by revert h; unfold qI; cases cb tt E o<;>simp
theorem abH {E:Env R} {all:List Oper} {x:Oper} (h:zZ tt E all x=true):cb tt E x.op=.R:=by
 simp only[zZ,bF]at h
 revert h
 cases cb tt E x.op<;>simp
theorem aq5 {E:Env R} {all:List Oper} {x:Oper} (h:DF tt E all x=true):cb tt E x.op=.R:=by
 simp only[DF,bF]at h
 revert h
 cases cb tt E x.op<;>simp
theorem yk {E:Env R} {xK:Option Bool} {all:List Oper} {x y:Oper} (h:sE tt E xK all x y=true):qH all x y=true/\((DE tt E all x y=true/\(xK=some true->Gc tt E x y=true))\/(xK=some true /\
  ((zZ tt E all x=true/\cb tt E x.op=.R/\cb tt E y.op=.F)\/(cb tt E x.op=.F/\iS E x.op=false/\cK tt y.op=.A)\/Bs all x y=true\/(cb tt E x.op=.F/\zZ tt E all y=true/\cb tt E y.op=.R)))\/(xK=some false/\DF tt E all x=true/\cb tt E x.op=.R/\xJ all y=true)):=by
 unfold sE at h;simp only[je,bF]at h;rcases h with ⟨h,hn⟩|h
 ·exact⟨(D9 h).1,.inl ⟨h,fun e=>by subst e; exact hn⟩⟩
 ·split at h
  ·cases h
  ·simp only[je,bF]at h;rcases h with ⟨((⟨h2,h3⟩|⟨h2,h3,h5⟩)|h2)|⟨h2,h3⟩,h4⟩
   ·exact⟨h4,.inr (.inl ⟨rfl,.inl ⟨h2,abH h2,RH h3⟩⟩)⟩
   ·refine⟨h4,.inr (.inl ⟨rfl,.inr (.inl ⟨RH h2,by simpa using h3,?_⟩)⟩)⟩
    revert h5
    cases cK tt y.op<;>simp
   ·exact⟨h4,.inr (.inl ⟨rfl,.inr (.inr (.inl h2))⟩)⟩
   ·exact⟨h4,.inr (.inl ⟨rfl,.inr (.inr (.inr ⟨RH h2,h3,abH h3⟩))⟩)⟩
  ·simp only[bF]at h;exact⟨h.2,.inr (.inr ⟨rfl,h.1.1,aq5 h.1.1,h.1.2⟩)⟩
theorem RI {all:List Oper} {x:Oper} (h:xJ all x=true):cK tt x.op=.W:=by
 obtain ⟨t,a,y,e,_⟩:=Ke h;rw[e]; rfl
theorem abI {E:Env R} {S:Option (Bool×List Nat)} {base:Nat} {all:List Oper} {x:Oper} {id:Nat} {fr:List V} {k0:St->Option R} {r:R} (hx:qJ all x=true\/tI all x=true) (hk:one tt E S base all x id ⟨fr,h⟩ k0=some r) :
  gk tt E base S all x (ev fr) h=true/\∃i ob,i∈Bt x.op (ev fr)/\k0 ⟨fr,h.set i ob⟩=some r/\∀(h2:aq) (vZ:Nat) (k:St->Option R),h2.at i=h.at i->one tt E S base all x vZ ⟨fr,h2⟩ k=k ⟨fr,h2.set i ob⟩:=by
 obtain ⟨t,a,y,e,hd,hg⟩:=RE hx;obtain ⟨dst,op,ty,pos,after,guard⟩:=x;simp only at e hd hg;subst e hd hg;unfold one at hk ⊢;rw[D7]at hk;simp only at hk;have hS:gk tt E base S all ⟨none,.store t a y,ty,pos,after,none⟩ (ev fr) h=true:=by
  cases hS:gk tt E base S all ⟨none,.store t a y,ty,pos,after,none⟩ (ev fr) h with
  | true=>rfl
  | false=>rw[hS]at hk; cases hk
 refine⟨hS,?_⟩;have kG:∀(dr:Option Nat) (id:Nat) (h:aq) (k:St->Option R),mW tt E dr id ⟨none,.store t a y,ty,pos,after,none⟩ ⟨fr,h⟩ k=j4 tt (.store t a y) (ev fr) h id fun v h=>k ⟨dd fr none v,h⟩:=fun dr id h k=>by cases dr<;>rfl
 rw[hS,cond_true,kG]at hk;obtain ⟨i,ob,h1,h2,h3⟩:=aq2 (tt:=tt) (t:=t) (a:=a) (y:=y) (ρ:=ev fr) (id:=id) (k0:=fun v h=>k0 ⟨dd fr none v,h⟩) hk;refine⟨i,ob,h1,h2,fun hh vZ k e => ?_⟩;rw[D7];simp only;have GQ:gk tt E base S all ⟨none,.store t a y,ty,pos,after,none⟩ (ev fr) hh=true:=by
  rw[<-hS]
  match S with
  | none=>rfl
  | some (true,A)=>rfl
  | some (false,A)=>rfl
 rw[GQ,cond_true,kG];exact h3 hh vZ (fun v h=>k ⟨dd fr none v,h⟩) e
theorem RJ {E:Env R} {o:Op} (hs:iS E o=true):cK tt o=.C:=by
 unfold iS at hs;split at hs
 ·split at hs
  ·rename_i cl _ g hg;simp only[cK,hg]
  ·cases hs
 ·cases hs
theorem RL {E:Env R} {o:Op} (hs:iS E o=true):cb tt E o=.F:=by
 have hc:=RJ (tt:=tt) hs;have hp:mw E o=false:=by
  unfold iS at hs;unfold mw;split at hs
  ·split at hs
   ·rename_i cl _ g hg;simp only[bF]at hs;obtain ⟨_,h2⟩:=hs;split at h2
    ·rename_i sp gT;simp only[hg,gT]
    ·cases h2
   ·cases hs
  ·cases hs
 unfold cb;rw[hc,hp];rfl
theorem RM {E:Env R} {o:Op} (ha:jh o=true):cb tt E o=.W:=by rw[sM (by rw[BS ha]; simp),BS ha]
theorem Ea {E:Env R} {o:Op} {a:DB} (h:cb tt E o=a) (h1:a≠.C) (h2:a≠.F):cK tt o=a:=by
 unfold cb at h;split at h
 ·revert h; cases mw E o<;>intro h<;>subst h<;>simp at h1 h2
 ·exact h
theorem abJ {E:Env R} {all:List Oper} {x y:Oper} (h:DE tt E all x y=true\/DE tt E all y x=true) (hR:cK tt x.op=.R):¬turns tt E y.op:=by
 have hx:cb tt E x.op=.R:=by rw[sM (by rw[hR]; simp),hR]
 intro ht;have vY:jh y.op=true->False:=fun ha=>by
  rcases ht with ⟨_,h⟩|⟨h,_⟩
  ·rw[ha]at h; cases h
  ·rw[RM ha]at h; cases h
 have ei:iS E y.op=true->False:=fun hs=>by
  rcases ht with ⟨h,_⟩|⟨_,h⟩
  ·rw[RL hs]at h; cases h
  ·rw[hs]at h; cases h
 have hc:vL .R (cb tt E y.op)=false:=by rcases ht with ⟨h,_⟩|⟨h,_⟩<;>rw[h]<;>rfl
 rcases h with h|h
 ·rcases (D9 h).2 with h|⟨h,_⟩|⟨_,h⟩|⟨h,_⟩|⟨_,h⟩
  ·rw[hx,hc]at h; cases h
  ·rw[RM h]at hx; cases hx
  ·exact vY h
  ·rw[RL h]at hx; cases hx
  ·exact ei h
 ·rcases (D9 h).2 with h|⟨h,_⟩|⟨h,h'⟩|⟨h,_⟩|⟨_,h⟩
  ·have:=abG h; rw[hx,hc]at this; cases this
  ·exact vY h
  ·rw[RM h']at hx; cases hx
  ·exact ei h
  ·rw[RL h]at hx; cases hx
theorem pT.symm {S:Option (Bool×List Nat)} {E:Env R} {all:List Oper} {base:Nat} {x:Oper} {s t:St} (h:pT S E all tt base x s t):pT S E all tt base x t s:=⟨fun u hu=>(h.1 u hu).symm,fun hR i hi hA hB=>(h.2 hR i hi hA hB).symm⟩
theorem pT.trans {S:Option (Bool×List Nat)} {E:Env R} {all:List Oper} {base:Nat} {x:Oper} {s t u:St} (h:pT S E all tt base x s t) (h':pT S E all tt base x t u):pT S E all tt base x s u:=
 ⟨fun v hv=>(h'.1 v hv).trans (h.1 v hv),fun hR i hi hA hB=>(h'.2 hR i hi hA hB).trans (h.2 hR i hi hA hB)⟩
theorem RN {E:Env R} {S:Option (Bool×List Nat)} {all:List Oper} {base:Nat} {x y:Oper} (hp:sE tt E (S.map (·.1)) all x y=true\/sE tt E (S.map (·.1)) all y x=true) {st iA:St} {v:V} (hf:iA.fr=dd st.fr y.dst v) (hh:Kept S tt E all base y st.hp iA.hp) :
  pT S E all tt base x st iA:=by
 have h2:qH all y x=true:=by
  rcases hp with h|h
  ·exact abF (yk h).1
  ·exact(yk h).1
 refine⟨fun t ht => ?_,fun hR i hi hA hB => ?_⟩
 ·rw[hf];exact abw fun e=>(apart_spec h2).1 t e ht
 ·rcases hh with hh|⟨hW,hh,GS⟩
  ·exact hh i hi
  ·have hx:cb tt E x.op=.R:=by rw[sM (by rw[hR]; simp),hR]
   rcases hp with h|h
   ·rcases (yk h).2 with ⟨h,hn⟩|⟨h1,⟨h3,_,h4⟩|⟨h4,_⟩|h4|⟨h4,_⟩⟩|⟨h1,h3,_,h4⟩
    ·rcases hW with hW|⟨kG,ha⟩
     ·exact(abJ (.inl h) hR hW).elim
     ·have:=hn kG;simp[Gc,Gb,hx,ha]at this
    ·match S,h1 with
     | some (true,A),_=>exact hh h4 A rfl i (hA A rfl h3)
    ·rw[hx]at h4; cases h4
    ·rw[(D8 (tt:=tt) h4).1]at hR; cases hR
    ·rw[hx]at h4; cases h4
    ·match S,h1 with
     | some (false,A),_=>exact GS h4 A rfl i (hB A rfl h3)
   ·rcases (yk h).2 with ⟨h,hn⟩|⟨h1,⟨_,_,h4⟩|⟨_,_,h4⟩|h4|⟨h4,h3,_⟩⟩|⟨_,_,_,h4⟩
    ·rcases hW with hW|⟨kG,ha⟩
     ·exact(abJ (.inr h) hR hW).elim
     ·have:=hn kG;simp[Gc,Gb,hx,ha]at this
    ·rw[hx]at h4; cases h4
    ·rw[hR]at h4; cases h4
    ·rw[(D8 (tt:=tt) h4).2]at hR; cases hR
    ·match S,h1 with
     | some (true,A),_=>exact hh h4 A rfl i (hA A rfl h3)
    ·rw[RI (tt:=tt) h4]at hR; cases hR
section
variable {E:Env R} {S:Option (Bool×List Nat)} {base:Nat} {ops:Array Oper} {k:St->Option R} {r:R}
theorem pull (hE:nf P E) {x:lC} {e:pS} {st0:St} (hc:calm (cK tt x.2.1.op)=true) (he:e.dst=x.2.1.dst) (Aq:∀i ob,e.put=some (i,ob)->i=x.2.2/\cK tt x.2.1.op=.A)
  (J4:∀dO,pT S E ops.toList tt base x.2.1 st0 dO->∀k,one tt E S base ops.toList x.2.1 x.2.2 dO k=k (yj dO e)) (post:List lC) :
  ∀(pre:List lC) (st:St) (h:aq),Good tt base ops.toList (pre++x::post) h->(∀y∈pre,sE tt E (S.map (·.1)) ops.toList y.2.1 x.2.1=true)->pT S E ops.toList tt base x.2.1 st0 st ->
   mB tt E S base ops.toList (pre++x::post) st k=mB tt E S base ops.toList (pre++post) (yj st e) k
 | [],st,_,_,_,ha=>J4 st ha _
 | y::pre,st,h,g,hp,ha=>by
  have BZ:=hp y (by simp);have gx:cq tt x.2.1=true->base<=x.2.2:=fun hx=>(g.slot x (by simp) hx).1
  have gy:cq tt y.2.1=true->base<=y.2.2:=fun hx=>(g.slot y (by simp) hx).1
  have glt:cq tt x.2.1=true->cq tt y.2.1=true->y.2.2<x.2.2:=fun hx hy=>by
   have:=g.apart;rw[gg,Dm]at this;exact this.1 x (by simp) hy hx
  have RO:cq tt x.2.1=true->cq tt y.2.1=true->x.2.2≠y.2.2:=fun hx hy=>by have:=glt hx hy; omega
  have fq:vL (cb tt E x.2.1.op) (cb tt E y.2.1.op)=true\/(jh y.2.1.op=true/\S.map (·.1)≠some true/\(cq tt x.2.1=true->y.2.2<x.2.2))\/(cK tt x.2.1.op=.R/\jh y.2.1.op=true)\/(cK tt x.2.1.op=.R/\iS E y.2.1.op=true)\/(cK tt x.2.1.op=.R/\cb tt E y.2.1.op=.F)\/(cK tt x.2.1.op=.A/\S.map (·.1)=some true/\cb tt E y.2.1.op=.F/\iS E y.2.1.op=false/\xL tt ops.toList base y.2.1<=x.2.2)\/(cK tt x.2.1.op=.R/\cK tt y.2.1.op=.W):=by
   rcases (yk BZ).2 with ⟨RP,vY⟩|⟨GU,⟨_,_,hF⟩|⟨hF,BX,hA⟩|hW|⟨hF,_,hR⟩⟩|⟨_,_,_,hW⟩;rotate_left;rotate_left
   ·have cv:xL tt ops.toList base y.2.1<=x.2.2:=by
     have:=g.cap;rw[gg,Dm]at this;exact this.1 x (by simp) (by simp[cq,hA])
    exact .inr (.inr (.inr (.inr (.inr (.inl ⟨hA,GU,hF,BX,cv⟩)))))
   ·rw[(D8 (tt:=tt) hW).2]at hc; cases hc
   ·exact .inr (.inr (.inr (.inr (.inl ⟨Ea hR (by simp) (by simp),hF⟩))))
   ·rw[RI (tt:=tt) hW]at hc; cases hc
   rotate_left
   ·have hC:cK tt x.2.1.op=.C:=by
     unfold cb at hF;split at hF
     ·assumption
     ·rw[hF]at hc; cases hc
    rw[hC]at hc; cases hc
   rcases (D9 RP).2 with h|⟨h,h'⟩|⟨_,h⟩|⟨h,h'⟩|⟨_,h⟩
   ·exact .inl (abG h)
   ·refine .inr (.inl ⟨h,fun kG => ?_,fun hx=>glt hx (by simp[cq,BS h])⟩);have:=vY kG;rcases h' with h'|h'<;>simp[Gc,Gb,h,h']at this
   ·rw[BS h]at hc; cases hc
   ·exact .inr (.inr (.inr (.inl ⟨Ea h' (by simp) (by simp),h⟩)))
   ·rw[RJ h]at hc; cases hc
  simp only[gg,mB];rw[abC fq (abF (yk BZ).1) hc he Aq RO gx fun hx=>g.top x (by simp) hx];refine RF hE gy fun v sL hh => ?_
  exact pull hE hc he Aq J4 post pre _ h (g.sub (Pv _ _)) (fun z hz=>hp z (by simp[hz])) (ha.trans (RN (.inr BZ) rfl hh))
theorem find (T:cF P tt) (hE:nf P E) {x:lC} (post:List lC):∀(pre:List lC) (w:World) (c:bh) (st:St) (a:Act),gp w c st a->Good tt base ops.toList (pre++x::post) st.hp->(∀y∈pre,sE tt E (S.map (·.1)) ops.toList y.2.1 x.2.1=true) ->
  mB tt E S base ops.toList (pre++x::post) st k=some r->∃cx k',pT S E ops.toList tt base x.2.1 st cx/\one tt E S base ops.toList x.2.1 x.2.2 cx k'=some r
 | [],_,_,st,_,_,_,_,hk=>⟨st,_,⟨fun _ _=>rfl,fun _ _ _ _ _=>rfl⟩,hk⟩
 | y::pre,w,c,st,a,aW,g,hp,hk=>by
  simp only[gg,mB]at hk;obtain ⟨w1,c1,iA,a1,v,s1,lT,hf,hh,kp⟩:=aq4 T hE hk aW (fun ha=>g.slot y (by simp) ha);obtain ⟨cx,k',h1,h2⟩:=find T hE post pre w1 c1 iA a1 s1 (Good.step (pre:=[]) g kp) (fun z hz=>hp z (by simp[hz])) lT;exact⟨cx,k',(RN (.inr (hp y (by simp))) hf hh).trans h1,h2⟩
theorem RQ (hE:nf P E) {x:lC} (post:List lC):∀(pre:List lC) (st:St) (h:aq),Good tt base ops.toList (pre++x::post) h->(∀y∈pre,sE tt E (S.map (·.1)) ops.toList y.2.1 x.2.1=true/\(calm (cK tt y.2.1.op)=true\/(S.map (·.1)=some true/\Bs ops.toList y.2.1 x.2.1=true))) ->
  mB tt E S base ops.toList (pre++x::post) st k=some r->one tt E S base ops.toList x.2.1 x.2.2 st (fun iA=>mB tt E S base ops.toList (pre++post) iA k)=some r
 | [],_,_,_,_,hk=>hk
 | y::pre,st,h,g,hp,hk=>by
  obtain ⟨BZ,de⟩:=hp y (by simp);simp only[gg,mB]at hk ⊢;rcases de with de|⟨GU,hW⟩;rotate_left
  ·have hvy:qJ ops.toList y.2.1=true\/tI ops.toList y.2.1=true:=(Kf hW).imp (·.1) (·.1);have yd:qJ ops.toList x.2.1=true\/tI ops.toList x.2.1=true:=((Kf hW).imp (·.2) (·.2)).symm;obtain ⟨fr,hp0⟩:=st;obtain ⟨sy,i,ob,iy,lT,ny⟩:=abI hvy hk;have ih:=RQ hE post pre _ h (g.sub (Pv _ _)) (fun z hz=>hp z (by simp[hz])) lT;obtain ⟨sx,j,GN,ix,fj,nx⟩:=abI yd ih;have aT:i≠j:=by
    match S,GU,sy,sx with
    | some (true,A),_,sy,sx=>
     simp only[gk,(D8 (tt:=tt) hW).1,bF,je,xx,gF]at sy;simp only[gk,(D8 (tt:=tt) hW).2,bF,je,xx,gF]at sx
     rintro rfl
     rcases Kf hW with ⟨g1,g2⟩|⟨g1,g2⟩
     ·have a1:=sy.1.resolve_left (by simp[g1]) i iy;have a2:=sx.2.resolve_left (by simp[g2]) i ix;rw[a1]at a2; cases a2
     ·have a1:=sy.2.resolve_left (by simp[g1]) i iy;have a2:=sx.1.resolve_left (by simp[g2]) i ix;rw[a2]at a1; cases a1
   rw[nx hp0 _ _ (dR _ aT).symm,ny (hp0.set j GN) _ _ (dR _ (dX aT)),<-FU _ _ aT];exact fj
  obtain ⟨e,h1,h2,h3,h4⟩:=abz de hk;have gx:cq tt x.2.1=true->base<=x.2.2:=fun hx=>(g.slot x (by simp) hx).1
  have gy:cq tt y.2.1=true->base<=y.2.2:=fun hx=>(g.slot y (by simp) hx).1
  have RO:cq tt y.2.1=true->cq tt x.2.1=true->y.2.2≠x.2.2:=fun hy hx=>by
   have:=g.apart;rw[gg,Dm]at this;exact Nat.ne_of_lt (this.1 x (by simp) hy hx)
  have fq:vL (cb tt E y.2.1.op) (cb tt E x.2.1.op)=true\/(jh x.2.1.op=true/\S.map (·.1)≠some true/\(cq tt y.2.1=true->x.2.2<y.2.2))\/(cK tt y.2.1.op=.R/\jh x.2.1.op=true)\/(cK tt y.2.1.op=.R/\iS E x.2.1.op=true)\/(cK tt y.2.1.op=.R/\cb tt E x.2.1.op=.F)\/(cK tt y.2.1.op=.A/\S.map (·.1)=some true/\cb tt E x.2.1.op=.F/\iS E x.2.1.op=false/\xL tt ops.toList base x.2.1<=y.2.2)\/(cK tt y.2.1.op=.R/\cK tt x.2.1.op=.W):=by
   rcases (yk BZ).2 with ⟨RP,_⟩|⟨_,⟨_,hR,hF⟩|⟨hF,_⟩|hW|⟨hF,_⟩⟩|⟨_,_,hR,hW⟩;rotate_left
   ·exact .inr (.inr (.inr (.inr (.inl ⟨Ea hR (by simp) (by simp),hF⟩))))
   ·have hC:cK tt y.2.1.op=.C:=by
     unfold cb at hF;split at hF
     ·assumption
     ·rw[hF]at de; cases de
    rw[hC]at de; cases de
   ·rw[(D8 (tt:=tt) hW).1]at de; cases de
   ·have hC:cK tt y.2.1.op=.C:=by
     unfold cb at hF;split at hF
     ·assumption
     ·rw[hF]at de; cases de
    rw[hC]at de; cases de
   ·exact .inr (.inr (.inr (.inr (.inr (.inr ⟨Ea hR (by simp) (by simp),RI hW⟩)))))
   rcases (D9 RP).2 with h|⟨h,_⟩|⟨h,h'⟩|⟨h,_⟩|⟨h,h'⟩
   ·exact .inl h
   ·rw[BS h]at de; cases de
   ·exact .inr (.inr (.inl ⟨Ea h (by simp) (by simp),h'⟩))
   ·rw[RJ h]at de; cases de
   ·exact .inr (.inr (.inr (.inl ⟨Ea h (by simp) (by simp),h'⟩)))
  have ih:=RQ hE post pre (yj st e) h (g.sub (Pv _ _)) (fun z hz=>hp z (by simp[hz])) h3;rw[abC fq (yk BZ).1 de h1 h2 RO gy fun hy=>g.top y (by simp) hy]at ih;rw[<-ih];refine RF hE gx fun v sL hh => ?_
  exact h4 _ (RN (.inl BZ) rfl hh) _
theorem aq6 (T:cF P tt) (hE:nf P E) {x:lC} {pre post:List lC} {st:St} {a:Act} (aW:gp w c st a) (g:Good tt base ops.toList (pre++x::post) st.hp) (hp:∀y∈pre,sE tt E (S.map (·.1)) ops.toList y.2.1 x.2.1=true)
  (hk:mB tt E S base ops.toList (pre++x::post) st k=some r):one tt E S base ops.toList x.2.1 x.2.2 st (fun iA=>mB tt E S base ops.toList (pre++post) iA k)=some r:=by
 by_cases hc:calm (cK tt x.2.1.op)=true
 ·obtain ⟨cx,k',h1,h2⟩:=find T hE post pre w c st a aW g hp hk;obtain ⟨e,e1,e2,_,e4⟩:=abz hc h2;rw[e4 st h1.symm,<-pull hE hc e1 e2 e4 post pre st _ g hp h1.symm];exact hk
 ·refine RQ hE post pre st _ g (fun y hy=>⟨hp y hy,?_⟩) hk;have h0:=(yk (hp y hy)).2;by_cases hfw:S.map (·.1)=some true/\Bs ops.toList y.2.1 x.2.1=true
  ·exact .inr hfw
  refine .inl ?_;have hy:cb tt E y.2.1.op=.P\/cb tt E y.2.1.op=.R\/cb tt E y.2.1.op=.A:=by
   have hx:¬calm (cb tt E x.2.1.op)=true:=by
    unfold cb;split
    ·cases mw E x.2.1.op<;>simp[calm]
    ·exact hc
   rcases h0 with ⟨h0,_⟩|⟨GU,⟨_,h0,_⟩|⟨_,_,h0⟩|h0|⟨_,_,h0⟩⟩|⟨_,_,h0,_⟩;rotate_left
   ·exact .inr (.inl h0)
   ·exact(hc (by rw[h0]; rfl)).elim
   ·exact(hfw ⟨GU,h0⟩).elim
   ·exact(hx (by rw[h0]; rfl)).elim
   ·exact .inr (.inl h0)
   have h1:=(D9 h0).2;rcases h1 with h1|⟨_,h1⟩|⟨h1,_⟩|⟨_,h1⟩|⟨h1,_⟩
   ·revert h1 hx
    cases cb tt E x.2.1.op<;>cases cb tt E y.2.1.op<;>simp[vL,calm]
   ·exact(hx (by rcases h1 with h|h<;>rw[h]<;>rfl)).elim
   ·exact .inr (.inl h1)
   ·exact(hx (by rw[h1]; rfl)).elim
   ·exact .inr (.inl h1)
  have aT:cK tt y.2.1.op≠.C:=fun e=>by
   unfold cb at hy;rw[e]at hy;cases Ka:mw E y.2.1.op<;>simp[Ka]at hy
  rw[sM aT]at hy;rcases hy with h|h|h<;>rw[h]<;>rfl
end
theorem B0:∀(l:List Oper) (i id:Nat) (x:lC),x∈number tt l i id->i<=x.1/\x.1<i+l.length/\l[x.1 - i]? = some x.2.1/\id<=x.2.2/\(cq tt x.2.1=true->x.2.2<id+(l.filter (cq tt)).length)
 | [],_,_,_,h=>by simp[number]at h
 | o::l,i,id,x,h=>by
  simp only[number,eJ]at h;rcases h with rfl|h
  ·refine⟨cD _,by simp,by simp,cD _,fun ha => ?_⟩;simp only at ha;simp only[ZU ha,bj];omega
  ·obtain ⟨h1,h2,h3,h4,h5⟩:=B0 l _ _ x h;have e:x.1 - i=(x.1 - (i+1))+1:=by omega
   refine⟨by omega,by simp; omega,by rw[e]; simpa using h3,?_,fun ha => ?_⟩
   ·split at h4<;>omega
   ·have:=h5 ha;by_cases ho:cq tt o=true
    ·rw[if_pos ho]at this;rw[ZU ho,bj]; omega
    ·rw[if_neg ho]at this;rw[List.filter_cons_of_neg ho]; omega
theorem RR:∀(l:List Oper) (i id:Nat),(number tt l i id).Pairwise fun z z'=>z.1<z'.1/\(cq tt z.2.1=true->cq tt z'.2.1=true->z.2.2<z'.2.2)
 | [],_,_=>by simp[number]
 | o::l,i,id=>by
  simp only[number,Dm];refine⟨fun z hz => ?_,RR l _ _⟩;obtain ⟨h1,_,_,h4,_⟩:=B0 l _ _ z hz;refine⟨by omega,fun ha _ => ?_⟩;rw[if_pos ha]at h4;omega
theorem abK {f p:Oper->Bool} {o:Oper} {l:List Oper} (h:p o=false):∀pre:List Oper,(((pre++o::l).takeWhile p).filter f).length<=(pre.filter f).length
 | []=>by simp[h]
 | z::pre=>by
  rw[gg,Bg];cases p z with
  | false=>simp
  | true=>
   have:=abK h pre (f:=f) (p:=p) (o:=o) (l:=l);simp only[if_true,List.filter_cons];cases f z
   ·simpa using this
   ·simpa using this
theorem abL {all:List Oper} {base:Nat}:∀(l pre:List Oper) (i id:Nat),all=pre++l->id=base+(pre.filter (cq tt)).length->(number tt l i id).Pairwise fun z z'=>cq tt z'.2.1=true->xL tt all base z.2.1<=z'.2.2
 | [],_,_,_,_,_=>by simp[number]
 | o::l,pre,i,id,ha,hi=>by
  simp only[number,Dm];refine⟨fun z hz _ => ?_,abL l (pre++[o]) _ _ (by simp[ha]) ?_⟩
  ·have h4:=(B0 l _ _ z hz).2.2.2.1;have:=abK (f:=cq tt) (p:=fun z=>z.dst != o.dst) (o:=o) (l:=l) (by simp) pre;unfold xL;rw[ha];split at h4<;>omega
  ·rw[List.filter_append,bf,hi];by_cases ho:cq tt o=true
   ·rw[if_pos ho]; simp[ho]; omega
   ·rw[if_neg ho]; simp[ho]
theorem abM:∀(l:List Oper) (i id j:Nat),i<=j->j<i+l.length->∃x∈number tt l i id,x.1=j
 | [],i,_,j,h1,h2=>by simp at h2; omega
 | o::l,i,id,j,h1,h2=>by
  by_cases e:i=j
  ·exact⟨(i,o,id),by simp[number],e⟩
  ·obtain ⟨x,hx,ex⟩:=abM l (i+1) (if cq tt o then id+1 else id) j (by omega) (by simp at h2; omega);exact⟨x,by simp[number,hx],ex⟩
structure Left (ops:Array Oper) (b:List (List Nat)) (listed:Array Bool) (rem:List lC):Prop where
 size:listed.size=ops.size
 sorted:rem.Pairwise fun z z'=>z.1<z'.1
 op:∀x∈rem,ops[x.1]? = some x.2.1
 un:∀x∈rem,listed.getD x.1 true=false
 all:∀i,listed.getD i true=false->∃x∈rem,x.1=i
 closed:∀m,listed.getD m false=true->∀i∈b.getD m [],listed.getD i false=true
theorem abN {listed:Array Bool} {i:Nat} (h:i<listed.size):listed.getD i false=true↔¬listed.getD i true=false:=by
 simp[h]
theorem aq7 (T:cF P tt) {E:Env R} (hE:nf P E) {S:Option (Bool×List Nat)} {base:Nat} {ops:Array Oper} {b:List (List Nat)} {k:St->Option R} {r:R} {Q:Exit->Act->World->Prop}
  (aq8:∀i j x y,i<j->ops[i]? = some x->ops[j]? = some y->i∈b.getD j []\/sE tt E (S.map (·.1)) ops.toList x y=true)
  (aq9:∀(j:Nat) (y:Oper),ops[j]? = some y->∀e∈y.after,ZJ .any e=true->e.on<j)
  (ara:∀(j:Nat) (y:Oper),ops[j]? = some y->∀i∈b.getD j [],∃e∈y.after,ZJ .any e=true/\(e.on=i\/i∈b.getD e.on [])) :
  ∀(fuel:Nat) (listed:Array Bool) (rem:List lC) (w:World) (c:bh) (st:St) (a:Act),rem.length<=fuel->Left ops b listed rem->Good tt base ops.toList rem st.hp->gp w c st a->mB tt E S base ops.toList rem st k=some r ->
   GO w c st a k r (Q .normal)->wpAny P .any ops Q fuel listed a w:=by
 intro fuel
 
 have arb:∀listed rem,Left ops b listed rem->ZV .any ops listed=[]->rem=[]:=by
  intro listed rem lf hr;cases rem with
  | nil=>rfl
  | cons x rest=>
   have:x.1∈ZV .any ops listed:=by
    rw[mem_ready];refine⟨lf.un x (by simp),x.2.1,lf.op x (by simp),fun e he hb => ?_⟩;have aX:=aq9 x.1 x.2.1 (lf.op x (by simp)) e he hb;have hx:x.1<ops.size:=(Array.getElem?_eq_some_iff.1 (lf.op x (by simp))).1;rw[abN (by rw[lf.size]; omega)];intro Gy;obtain ⟨y,hy,ey⟩:=lf.all _ Gy;rcases eJ.1 hy with rfl|hy
    ·omega
    ·have:=(Dm.1 lf.sorted).1 y hy;omega
   rw[hr]at this;cases this
 induction fuel with
 | zero=>
  intro listed rem w c st a hl lf g aW hk go;obtain rfl:rem=[]:=gH (by omega);refine⟨?_,go a w st c aW (.refl _ _ _) rfl hk⟩;cases hr:ZV .any ops listed with
  | nil=>rfl
  | cons i l=>
   have hi:i∈ZV .any ops listed:=by rw[hr]; simp
   obtain ⟨x,hx,_⟩:=lf.all i (mem_ready.1 hi).1;cases hx
 | succ fuel ih=>
  intro listed rem w c st a hl lf g aW hk go;refine⟨fun hr => ?_,fun i hi => ?_⟩
  ·obtain rfl:=arb _ _ lf hr;exact go a w st c aW (.refl _ _ _) rfl hk
  ·obtain ⟨Gy,o,ho,arc⟩:=mem_ready.1 hi;obtain ⟨x,hx,rfl⟩:=lf.all i Gy;obtain ⟨pre,post,rfl⟩:=List.append_of_mem hx;have GV:=lf.op x (by simp);rw[GV]at ho;cases ho;have Kh:=lf.sorted;rw[List.pairwise_append,Dm]at Kh;have hbx:∀j∈b.getD x.1 [],listed.getD j false=true:=fun j hj=>by
    obtain ⟨e,he,hb,Rj⟩:=ara x.1 x.2.1 GV j hj;have Ai:=arc e he hb;rcases Rj with rfl|hj
    ·exact Ai
    ·exact lf.closed _ Ai j hj
   have hpr:∀y∈pre,sE tt E (S.map (·.1)) ops.toList y.2.1 x.2.1=true:=fun y hy=>by
    rcases aq8 y.1 x.1 y.2.1 x.2.1 (Kh.2.2 y hy x (by simp)) (lf.op y (by simp[hy])) GV with h1|h1
    ·have h2:=hbx _ h1;have h3:=lf.un y (by simp[hy]);have RS:y.1<ops.size:=(Array.getElem?_eq_some_iff.1 (lf.op y (by simp[hy]))).1;rw[abN (by rw[lf.size]; exact RS)]at h2;exact(h2 h3).elim
    ·exact h1
   have pU:=aq6 T hE aW g hpr hk;have RT:x.1<listed.size:=by rw[lf.size]; exact(Array.getElem?_eq_some_iff.1 GV).1
   have lf':Left ops b (listed.setIfInBounds x.1 true) (pre++post):=by
    have hs:List.Sublist (pre++post) (pre++x::post):=List.Sublist.append (List.Sublist.refl _) (Pv _ _);have aT:∀y∈pre++post,x.1≠y.1:=fun y hy=>by
     rcases fU.1 hy with hy|hy
     ·have:=Kh.2.2 y hy x (by simp); omega
     ·have:=Kh.2.1.1 y hy; omega
    refine⟨by simp[lf.size],lf.sorted.sublist hs,fun y hy=>lf.op y (hs.subset hy),fun y hy => ?_,fun j hj => ?_,fun m hm j hj => ?_⟩
    ·rw[getD_set_ne true (aT y hy)]; exact lf.un y (hs.subset hy)
    ·by_cases e:x.1=j
     ·subst e; simp[RT]at hj
     ·rw[getD_set_ne true e]at hj;obtain ⟨y,hy,ey⟩:=lf.all j hj;refine⟨y,?_,ey⟩;rcases fU.1 hy with h1|h1
      ·exact List.mem_append_left _ h1
      ·rcases eJ.1 h1 with rfl|h1
       ·exact(e ey).elim
       ·exact List.mem_append_right _ h1
    ·refine getD_set_true ?_;by_cases e:x.1=m
     ·subst e; exact hbx j hj
     ·rw[getD_set_ne false e]at hm; exact lf.closed m hm j hj
   have pI:(pre++post).length<=fuel:=by simp at hl ⊢; omega
   unfold wpOp;simp only[GV];rcases Ru aW pU with ⟨hw,pU⟩|⟨hw,pU⟩
   ·rw[if_pos hw];have pU:mW tt E (sD tt S base x.2.1) x.2.2 x.2.1 st (fun iA=>mB tt E S base ops.toList (pre++post) iA k)=some r:=by
     cases hS:gk tt E base S ops.toList x.2.1 (ev st.fr) st.hp with
     | true=>rw[hS]at pU; exact pU
     | false=>rw[hS]at pU; cases pU
    refine .inl (Rs T hE pU aW (fun ha=>(g.slot x (by simp) ha).2) fun d w' cx c' v BV xt kp _ _ bY => ?_);exact ih _ _ w' c' cx _ pI lf' (g.step kp) BV bY fun a2 w2 dO c2 s2 x2 d2 k2=>go a2 w2 dO c2 s2 (xt.trans x2) (d2.trans (put_defers _ _ _)) k2
   ·rw[if_neg (by simp[hw])];exact ih _ _ w c ⟨dd st.fr x.2.1.dst (.tuple []),st.hp⟩ (a.put x.2.1.dst undef) pI lf' (g.step (.refl _ _ _)) ⟨aW.wf,yg aW.fr _ Rv⟩ pU fun a2 w2 dO c2 s2 x2 d2 k2=>go a2 w2 dO c2 s2 x2 (d2.trans (put_defers _ _ _)) k2
theorem Ki (n:Nat):Ext w h c { w with drawn:=n } h c where
 os:=rfl
 tape:=rfl
 output:=rfl
 size:=cD _
 used:=fun _ hi=>hi
 same:=fun i hi hd=>⟨D4 (DP hi.2 hd) (fun _ _ _=>.inr trivial),rfl,rfl⟩
 cell:=fun _ _ _ _=>rfl
 block:=fun _ _ _=>rfl
 gI:=fun _ _ _ ho=>ho
 ext:=rfl
 arr:=fun b arr e fz hb=>⟨arr,fz,hb,rfl⟩
theorem ard (wf:WF w h c) (n:Nat):WF { w with drawn:=n } h c where
 lay:=wf.pL (Ki n)
 hM:=wf.hM
 hP:=wf.hP
 obj:=fun i hi=>by
  by_cases hl:(h.at i).live
  ·exact(wf.obj i hi).eQ (Ki n) (fun _ _=>rfl) rfl rfl
  ·have h0:h.at i=.free\/h.at i=.dead:=by revert hl; cases h.at i<;>simp[aI.live]
   rcases h0 with h0|h0<;>rw[h0]<;>trivial
 inj:=wf.inj
theorem abO (M:List Nat) (i:Nat):∀(es:List Nat) (m:Nat),(es.foldl (fun m e=>m ||| (Nat.pow 2 e ||| M.getD e 0)) m).testBit i=true->m.testBit i=true\/∃e∈es,e=i\/(M.getD e 0).testBit i=true
 | [],m,h=>.inl h
 | e::es,m,h=>by
  rcases abO M i es _ h with h|⟨x,hx,h⟩
  ·rw[Nat.testBit_or,Nat.testBit_or,je,je]at h;rcases h with h|h|h
   ·exact .inl h
   ·have h':(2 ^ e).testBit i=true:=h;rw[Nat.testBit_two_pow]at h';exact .inr ⟨e,by simp,.inl (of_decide_eq_true h')⟩
   ·exact .inr ⟨e,by simp,.inr h⟩
  ·exact .inr ⟨x,by simp[hx],h⟩
theorem RU {n j i:Nat} {M:List Nat} (hj:j<n):i∈(beforeL n M).getD j []↔i<n/\(M.getD j 0).testBit i=true:=by
 unfold beforeL;rw[List.getD_eq_getElem?_getD,List.getElem?_map,List.getElem?_range hj];simp
theorem arf (T:cF P tt) (hm:P.follows .mixedOrders=true) {E:Env R} (hE:nf P E) {id:Nat} {ops:Array Oper} {k:St->Option R} {r:R} {Q:Exit->Act->World->Prop} {st:St} {a:Act}
  (hk:DG tt E ops.toList true st k=some r) (aW:gp w c st a) (go:GO w c st a k r (Q .normal)):(Code.region id ops true).wp P Q a w:=by
 obtain ⟨S,hd,hk⟩:∃S:Option (Bool×List Nat),xM tt E (S.map (·.1)) ops.toList=true/\mB tt E S st.hp.length ops.toList (number tt ops.toList 0 st.hp.length) ⟨st.fr,st.hp++jx (ops.toList.filter (cq tt)).length .free⟩ k=some r:=by
  simp only[DG,if_true]at hk;split at hk
  ·rename_i hd;rw[Rx _ 0]at hk;exact⟨none,aop hd,hk⟩
  ·split at hk
   ·rename_i hd;rw[J7 _ 0]at hk;exact⟨some (true,Qu tt ops.toList st.fr),hd,hk⟩
   ·split at hk
    ·rename_i hd;rw[J7 _ 0]at hk;exact⟨some (false,Qt tt _ ops.toList st.fr),hd,hk⟩
    ·cases hk
 refine wp_region_any hm ?_;have fK:∀j,j<ops.size->((jZ j).all (fun i=>((Ga ops.toList).getD j 0).testBit i||sE tt E (S.map (·.1)) ops.toList (ops.toList.getD i default) (ops.toList.getD j default))=true /\
   (Br (ops.toList.getD j default)).all (fun i=>xr i j)=true/\(Ga ops.toList).getD j 0=Jt (Ga ops.toList) (Br (ops.toList.getD j default))):=by
  intro j hj;unfold xM at hd;simp only at hd;rw[gF]at hd;have:=hd j (by simpa using hj);simp only[bF]at this;exact⟨this.1.1,this.1.2,zo this.2⟩
 have ka:∀(j:Nat) (y:Oper),ops[j]? = some y->ops.toList.getD j default=y/\j<ops.size:=fun j y hy=>by
  refine⟨?_,(Array.getElem?_eq_some_iff.1 hy).1⟩;rw[ca,Array.getElem?_toList,hy]; rfl
 have abP:∀(y:Oper) (n:Nat),n∈Br y↔∃e∈y.after,ZJ .any e=true/\e.on=n:=by
  intro y n;simp[Br,Dj,List.mem_filter,and_assoc]
 have BV:gp { w with drawn:=w.drawn+1 } c ⟨st.fr,st.hp++jx (ops.toList.filter (cq tt)).length .free⟩ a:=
  ⟨ard (GP aW.wf _) _,(aW.fr.mono (yi _)).mono (Ki _)⟩
 refine aq7 T hE (S:=S) (base:=st.hp.length) (b:=beforeL ops.size (Ga ops.toList)) (fun i j x y cG hx hy => ?_) (fun j y hy e he hb => ?_) (fun j y hy i hi => ?_) ops.size _ (number tt ops.toList 0 st.hp.length) _ c _ a ?_ ?_ ?_ BV hk ?_
 ·obtain ⟨h1,h2⟩:=ka i x hx;obtain ⟨h3,h4⟩:=ka j y hy;have:=gF.1 (fK j h4).1 i (by simpa using cG);rw[h1,h3,je]at this;rcases this with h|h
  ·exact .inl ((RU h4).2 ⟨h2,h⟩)
  ·exact .inr h
 ·obtain ⟨h3,h4⟩:=ka j y hy;have:=(fK j h4).2.1;rw[h3,gF]at this;simpa using this e.on ((abP y _).2 ⟨e,he,hb,rfl⟩)
 ·obtain ⟨h3,h4⟩:=ka j y hy;have heq:=(fK j h4).2.2;have aX:=(fK j h4).2.1;rw[h3]at heq aX;obtain ⟨hin,RV⟩:=(RU h4).1 hi;rw[heq]at RV;unfold Jt at RV;rcases abO _ i _ _ RV with h|⟨n,hn,h⟩
  ·simp at h
  ·obtain ⟨e,he,hb,rfl⟩:=(abP y n).1 hn;refine⟨e,he,hb,h.imp (fun h=>h) fun h => ?_⟩;have:=gF.1 aX e.on hn;have hon:e.on<j:=by simpa using this
   exact(RU (Nat.lt_trans hon h4)).2 ⟨hin,h⟩
 ·have:∀(l:List Oper) (i id:Nat),(number tt l i id).length=l.length:=by
   intro l
   induction l with
   | nil=>intros; rfl
   | cons o l ih=>intros; simp[number,ih]
  rw[this]; simp
 ·refine⟨by simp,(RR _ _ _).imp fun h=>h.1,fun x hx => ?_,fun x hx => ?_,fun i hi => ?_,fun m hm => ?_⟩
  ·obtain ⟨_,_,h3,_⟩:=B0 _ _ _ x hx;simpa using h3
  ·obtain ⟨_,h2,_⟩:=B0 _ _ _ x hx;simp at h2;simp[h2]
  ·have:i<ops.size:=by
    rcases mo i ops.size with h|h
    ·exact h
    ·simp[Nat.not_lt.2 h]at hi
   exact abM _ 0 _ i (nQ _) (by simpa using this)
  ·rcases mo m ops.size with h|h
   ·simp[h]at hm
   ·simp[Nat.not_lt.2 h]at hm
 ·refine⟨fun z hz ha=>(B0 _ _ _ z hz).2.2.2.2 ha,abL ops.toList [] 0 _ rfl (by simp),fun z hz ha => ?_,(RR _ _ _).imp fun h=>h.2⟩;obtain ⟨_,_,_,h4,h5⟩:=B0 _ _ _ z hz;have h5:=h5 ha;refine⟨h4,by simp; omega,?_⟩;rw[yf h4];have:z.2.2 - st.hp.length<(ops.toList.filter (cq tt)).length:=by omega
  simp[aq.at,ca,List.getElem?_replicate,this]
 ·exact fun a2 w2 dO c2 s2 x2 d2 k2=>go a2 w2 dO c2 s2 (((yi _).trans (Ki _)).trans x2) d2 k2
end
section
variable {P:Program} {tt:aZ} {w w':World} {h h':aq} {c c':bh} {R:Type}
theorem abQ (h:aq):∀(n:Nat) (l rest seen:List Nat),(seen++l).Nodup->l.length<=n->∃t,reach h n (l++rest) seen=seen++l++t
 | n,[],rest,seen,_,_=>by
  have key:∀(n:Nat) (todo seen:List Nat),∃t,reach h n todo seen=seen++t:=by
   intro n
   induction n with
   | zero=>exact fun _ _=>⟨[],by simp[reach]⟩
   | succ n ih=>
    intro todo seen;cases todo with
    | nil=>exact⟨[],by simp[reach]⟩
    | cons i todo=>
     simp only[reach];split
     ·exact ih _ _
     ·obtain ⟨t,ht⟩:=ih (todo++(h.at i).ids) (seen++[i]);exact⟨i::t,by rw[ht]; simp⟩
  obtain ⟨t,ht⟩:=key n rest seen;exact⟨t,by simpa using ht⟩
 | 0,i::l,_,_,_,hl=>by simp at hl
 | n+1,i::l,rest,seen,hn,hl=>by
  have hi:i∉seen:=fun hm=>by
   rw[List.nodup_append]at hn;exact hn.2.2 i hm i (by simp) rfl
  obtain ⟨t,ht⟩:=abQ h n l (rest++(h.at i).ids) (seen++[i]) (by simpa using hn) (by simpa using hl);refine⟨t,?_⟩;simp only[gg,reach,List.contains_iff_mem,hi,if_false,gG]at ht ⊢;simpa using ht
theorem abR {w0:World} {h0:aq} {c0:bh} (x:Ext w0 h0 c0 w h c) {ord:List Nat} (hf:∀i,i<h0.length->ord[i]? = some i\/∃j,h.length<=j/\ord[i]? = some j):Ext w0 h0 c0 w (h.pick ord) (c.pick ord c.ext) where
 os:=x.os
 tape:=x.tape
 output:=x.output
 size:=x.size
 used:=fun i hi=>by
  rcases hf i hi.1 with e|⟨j,hj,e⟩
  ·refine⟨by simpa [aq.pick]using (List.getElem?_eq_some_iff.1 e).1,?_⟩;rw[pR,e];simp only[ne_eq,BQ];exact(x.used i hi).2
  ·refine⟨by simpa [aq.pick]using (List.getElem?_eq_some_iff.1 e).1,?_⟩;rw[pR,e];simp only[ne_eq,BQ,J6 hj];intro h; cases h
 same:=fun i hi hd=>by
  rcases hf i hi.1 with e|⟨j,hj,e⟩;rotate_left
  ·rw[pR,e]at hd;simp only[J6 hj]at hd;exact(hd rfl).elim
  rw[pR,e]at hd ⊢;simp only[ne_eq,JV]at hd;obtain ⟨s1,s2,s3⟩:=x.same i hi hd;exact⟨aa7.2 s1,by simp[bh.pick,e,s2],by simp[bh.pick,ca,e,s3]⟩
 cell:=x.cell
 block:=x.block
 gI:=fun b y hb ho=>by
  obtain ⟨i,_,f,g1,g2,g3⟩:=GG ho;exact x.gI b y hb ⟨i,f,g1,g2,g3⟩
 ext:=x.ext
 arr:=x.arr
theorem arh {w0:World} {h0:aq} {c0:bh} (x:Ext w0 h0 c0 w h c) {ord:List Nat} (hf:∀i,i<h0.length->ord[i]? = some i):Ext w0 h0 c0 w (h.pick ord) (c.pick ord c.ext):=abR x fun i hi=>.inl (hf i hi)
theorem abS (wf:WF w h c) {ord:List Nat} (fk:ord.Nodup):WF w (h.pick ord) (c.pick ord c.ext):=
 aa5 wf fk (fun _ _ hf=>hf.2) wf.hP (fun b x ⟨i,_,f,g1,g2,g3⟩=>wf.hM b x ⟨i,f,g1,g2,g3⟩)
theorem abT {ord:List Nat} {cs:List V} {ds:List Value} (r:aQ w h c cs ds):aQ w (h.pick ord) (c.pick ord c.ext) (V.iv (mu ord) cs) ds:=
 r.bO (Q9 fun _ _ hf=>hf.2)
theorem ari {m:Nat} {t:List Nat} {i:Nat} (hi:i<m):(jZ m++t)[i]? = some i:=by
 rw[List.getElem?_append_left (by simpa using hi),List.getElem?_range hi]
theorem abU (h:aq) {m n:Nat} (hmn:m<=n) (rest:List Nat):(reach h n (jZ m++rest) []).Nodup/\∀i,i<m->(reach h n (jZ m++rest) [])[i]? = some i:=by
 refine⟨JW h _ _ _ (by simp),fun i hi => ?_⟩;obtain ⟨t,ht⟩:=abQ h n (jZ m) rest [] (by simpa using List.nodup_range) (by simpa using hmn);rw[ht];simpa using ari (t:=t) hi
theorem arj {m i:Nat} (hi:i∈tK h m):i<m:=by
 unfold tK at hi;rw[List.mem_filter]at hi;simpa using hi.1
theorem ark {m:Nat} {ord:List Nat} (hn:ord.Nodup) (hf:∀i,i<m->ord[i]? = some i):(Gd h m ord).Nodup/\∀i,i<m->(Gd h m ord)[i]? = some i\/∃j,h.length<=j/\(Gd h m ord)[i]? = some j:=by
 unfold Gd;cases hc:((tK h m).isEmpty||!(ord.all fun i=>xr i h.length))with
 | true=>exact⟨hn,fun i hi=>.inl (hf i hi)⟩
 | false=>
  simp only[Bool.or_eq_false_iff,Bool.not_eq_false',gF]at hc;have aX:∀i∈ord,i<h.length:=fun i hi=>by simpa using hc.2 i hi
  rw[cond_false];refine⟨?_,fun i hi => ?_⟩
  ·rw[List.nodup_append];refine⟨?_,?_,?_⟩
   ·unfold List.Nodup;rw[List.pairwise_map];refine List.Pairwise.imp_of_mem (fun {a b} ha hb Eb => ?_) hn;have h1:=aX a ha;have h2:=aX b hb;cases h3:(tK h m).contains a<;>cases h4:(tK h m).contains b<;>simp only[cond_true,cond_false,ne_eq]<;>omega
   ·unfold tK;exact List.Nodup.sublist List.filter_sublist List.nodup_range
   ·intro a ha b hb Eb;subst Eb;rw[Dj]at ha;obtain ⟨z,hz,e⟩:=ha;cases h3:(tK h m).contains z with
    | true=>
     rw[h3,cond_true]at e;have h4:=arj hb;have h5:=(List.getElem?_eq_some_iff.1 (hf a h4));have h6:=aX a (List.mem_of_getElem? (hf a h4));omega
    | false=>
     rw[h3,cond_false]at e;subst e;simp[hb]at h3
  ·have e:=hf i hi;rw[List.getElem?_append_left (by simpa using (List.getElem?_eq_some_iff.1 e).1),List.getElem?_map,e];cases h3:(tK h m).contains i with
   | true=>exact .inr ⟨h.length+i,by omega,by simp only[Bc,h3,cond_true]⟩
   | false=>exact .inl (by simp only[Bc,h3,cond_false])
theorem RW {w0:World} {h0:aq} {c0:bh} {st:St} {a:Act} (aW:gp w c st a) (x:Ext w0 h0 c0 w st.hp c) (hm:h0.length<=200):∃c',gp w c' (st.gc h0.length) a/\Ext w0 h0 c0 w (st.gc h0.length).hp c':=by
 obtain ⟨h1,h2⟩:=abU st.hp (m:=h0.length) (n:=256) (by omega) (V.fI st.fr);exact⟨_,⟨abS aW.wf h1,abT aW.fr⟩,arh x h2⟩
theorem RX {fr:List V} {ds:List Value} (r:aQ w h c fr ds) (live drop:List Nat):aQ w h c (xN live drop fr) ds:=by
 refine⟨by simp[xN,r.1],fun j v d hv hd => ?_⟩;unfold xN at hv;rw[List.getElem?_map,List.getElem?_zipIdx]at hv;cases e:fr[j]? with
 | none=>rw[e]at hv; cases hv
 | some u=>
  rw[e]at hv;simp at hv;subst hv;have ru:=r.2 j u d e hd;split
  ·split
   ·exact abm ru
   ·exact ru
  ·exact .undef _
theorem Kj:∀(l:List (Nat×Ty)) (st:St) (c:bh) (a:Act),gp w c st a->∃c',gp w c' (Bw l st) a/\Ext w st.hp c w (Bw l st).hp c'
 | [],st,c,a,aW=>⟨c,aW,.refl _ _ _⟩
 | (d,T)::l,st,c,a,aW=>by
  have key:∀(U:Ty),(∀x,a.tmps.toList[d]? = some x->x=.slice none 0 0) ->
    ∃c',gp w c' ⟨st.fr.set d (.sl U [] (.own st.hp.length)),st.hp++[.tok]⟩ a/\Ext w st.hp c w (st.hp++[.tok]) c':=by
   intro U hx;obtain ⟨c',k1,k2,k3⟩:=JM (id:=st.hp.length) (T:=U) (GP aW.wf 1) (by simp) (by rw[yf (cD _)]; simp[aq.at]);have e:(st.hp++jx 1 aI.free).set st.hp.length .tok=st.hp++[.tok]:=by simp
   rw[e]at k1 k2 k3;have k4:=(yi (w:=w) (h:=st.hp) (c:=c) 1).trans k2;refine⟨c',⟨k1,?_⟩,k4⟩;have rf:=aW.fr.mono k4;refine⟨by simp[rf.1],fun j v x hv lU => ?_⟩;rw[List.getElem?_set]at hv;by_cases hj:d=j
   ·subst hj;rw[if_pos rfl]at hv;split at hv
    ·cases hv;rw[hx x lU];exact k3
    ·cases hv
   ·rw[if_neg hj]at hv;exact rf.2 j v x hv lU
  simp only[Bw];have rd:=aW.fr.getD d undef;split
  ·rename_i he;rw[he]at rd;obtain ⟨c',s',x'⟩:=key T fun x hx=>by
    rw[ca,hx]at rd;cases rd; rfl
   obtain ⟨c2,s2,x2⟩:=Kj l _ c' a s';exact⟨c2,s2,x'.trans x2⟩
  ·rename_i T' l' he;rw[he]at rd;have hl:l'=[]:=by
    generalize a.tmps.toList.getD d undef=q at rd;cases rd with
    | sl f cv bQ hc hr iw cQ=>
     have:=(iw rfl).2;exact gH (by omega)
   subst hl;obtain ⟨c',s',x'⟩:=key T' fun x hx=>by
    rw[ca,hx]at rd;simp only[Bb]at rd;generalize hn:([]:List T'.den)=nl at rd;cases rd with
    | sl f cv bQ hc hr iw cQ=>
     obtain ⟨rfl,rfl⟩:=iw rfl;subst hn;rfl
   obtain ⟨c2,s2,x2⟩:=Kj l _ c' a s';exact⟨c2,s2,x'.trans x2⟩
  ·exact Kj l st c a aW
theorem arl {st:St} {a:Act} {d:Nat} {v:V} {h':aq} {c':bh} (aW:gp w c st a) (he:st.fr.getD d .undef=.bk) (k1:WF w h' c') (k4:Ext w st.hp c w h' c') (k3:ay w h' c' v (.slice none 0 0)) :
  gp w c' ⟨st.fr.set d v,h'⟩ a:=by
 refine⟨k1,?_⟩;have rf:=aW.fr.mono k4;refine⟨by simp[rf.1],fun j u x hv lU => ?_⟩;rw[List.getElem?_set]at hv;by_cases hj:d=j
 ·subst hj;rw[if_pos rfl]at hv;split at hv
  ·cases hv;have rd:=aW.fr.getD d undef;rw[he,ca,lU]at rd;cases rd;exact k3
  ·cases hv
 ·rw[if_neg hj]at hv;exact rf.2 j u x hv lU
theorem abV (wf:WF w h c) (T:Ty):∃c',WF w (h++[.row T []]) c'/\Ext w h c w (h++[.row T []]) c'/\ay w (h++[.row T []]) c' (.row h.length 0) (.slice none 0 0):=by
 obtain ⟨c',k1,k2,k3⟩:=QZ (id:=h.length) (T:=T) (GP wf 1) (by simp) (by rw[yf (cD _)]; simp[aq.at]);have e:(h++jx 1 aI.free).set h.length (.row T [])=h++[.row T []]:=by simp
 rw[e]at k1 k2 k3;exact⟨c',k1,(yi 1).trans k2,k3⟩
theorem abW (wf:WF w h c) (T:Ty) (rw:Bool):∃c',WF w (h++[nU T rw]) c'/\Ext w h c w (h++[nU T rw]) c'/\ay w (h++[nU T rw]) c' (pE T rw h.length) (.slice none 0 0):=by
 unfold nU pE;cases rw with
 | true=>exact abV wf T
 | false=>
  simp only[cond_false];obtain ⟨c',k1,k2,k3⟩:=JM (id:=h.length) (T:=T) (GP wf 1) (by simp) (by rw[yf (cD _)]; simp[aq.at]);have e:(h++jx 1 aI.free).set h.length .tok=h++[.tok]:=by simp
  rw[e]at k1 k2 k3;exact⟨c',k1,(yi 1).trans k2,k3⟩
theorem RY:∀(l:List (Nat×Ty)) (st:St) (c:bh) (a:Act),gp w c st a->∃c',gp w c' (Ab l st) a/\Ext w st.hp c w (Ab l st).hp c'
 | [],st,c,a,aW=>⟨c,aW,.refl _ _ _⟩
 | (d,T)::l,st,c,a,aW=>by
  simp only[Ab];split
  ·rename_i he;obtain ⟨c',k1,k2,k3⟩:=abV aW.wf T;obtain ⟨c2,s2,x2⟩:=RY l ⟨st.fr.set d (.row st.hp.length 0),st.hp++[.row T []]⟩ c' a (arl aW he k1 k2 k3);exact⟨c2,s2,k2.trans x2⟩
  ·exact RY l st c a aW
theorem RZ {i:Nat} {cs ds:List V} (he:h.at i=.cells cs) (hl:ds.length=cs.length):Ext w h c w (h.set i (.cells ds)) c where
 os:=rfl
 tape:=rfl
 output:=rfl
 size:=cD _
 used:=fun j hj=>⟨by simpa using hj.1,by rw[iU]; split; simp; exact hj.2⟩
 same:=fun j hj hd=>by
  rw[iU]at hd ⊢;split
  ·rename_i hc;obtain ⟨rfl,_⟩:=hc;rw[he];exact⟨hl.symm,rfl,rfl⟩
  ·rename_i hc;rw[if_neg hc]at hd;exact⟨D4 (DP hj.2 hd) (fun _ _ _=>.inr trivial),rfl,rfl⟩
 cell:=fun _ _ _ _=>rfl
 block:=fun _ _ _=>rfl
 gI:=fun b x _ ho=>by
  obtain ⟨j,f,g1,g2,g3⟩:=ho;rw[iU]at g2;split at g2
  ·rename_i hc;obtain ⟨rfl,_⟩:=hc;exact⟨i,f,g1,by rw[he]; exact g2,g3⟩
  ·exact⟨j,f,g1,g2,g3⟩
 ext:=rfl
 arr:=fun b arr e fz hb=>⟨arr,fz,hb,rfl⟩
theorem arn (wf:WF w h c) {i:Nat} {cs ds:List V} (he:h.at i=.cells cs) (hl:ds.length=cs.length) (dm:gl w (h.set i (.cells ds)) c i (.cells ds)):WF w (h.set i (.cells ds)) c where
 lay:=wf.pL (RZ he hl)
 hM:=fun b x ho R0=>by
  obtain ⟨j,f,g1,g2,g3⟩:=ho;refine wf.hM b x ?_ R0;rw[iU]at g2;split at g2
  ·rename_i hc;obtain ⟨rfl,_⟩:=hc;exact⟨i,f,g1,by rw[he]; exact g2,g3⟩
  ·exact⟨j,f,g1,g2,g3⟩
 hP:=wf.hP
 obj:=fun j hj=>by
  rw[iU];split
  ·rename_i hc;obtain ⟨rfl,_⟩:=hc;exact dm
  ·have ho:=wf.obj j (by simpa using hj);by_cases hv:(h.at j).live
   ·exact ho.eQ (RZ he hl) (fun _ _=>rfl) rfl rfl
   ·have h0:h.at j=.free\/h.at j=.dead:=by revert hv; cases h.at j<;>simp[aI.live]
    rcases h0 with h0|h0<;>rw[h0]<;>trivial
 inj:=fun j k b hj hk h1 h2=>by
  have key:∀j,(aq.at (h.set i (.cells ds)) j).live->(h.at j).live:=fun j hj=>by
   rw[iU]at hj;split at hj
   ·rename_i hc;obtain ⟨rfl,_⟩:=hc;rw[he]; trivial
   ·exact hj
  exact wf.inj j k b (key j hj) (key k hk) h1 h2
theorem R1 {i:Nat} {o':aI} (hf:∀f,(h.at i).from_ f=some 0) (qP:∀f,o'.from_ f=some 0) (fW:(h.at i).aW o') (aT:o'≠.free):Ext w h c w (h.set i o') c where
 os:=rfl
 tape:=rfl
 output:=rfl
 size:=cD _
 used:=fun j hj=>⟨by simpa using hj.1,by rw[iU]; split; exact aT; exact hj.2⟩
 same:=fun j hj hd=>by
  rw[iU]at hd ⊢;split
  ·rename_i hc;obtain ⟨rfl,_⟩:=hc;exact⟨fW,rfl,rfl⟩
  ·rename_i hc;rw[if_neg hc]at hd;exact⟨D4 (DP hj.2 hd) (fun _ _ _=>.inr trivial),rfl,rfl⟩
 cell:=fun _ _ _ _=>rfl
 block:=fun _ _ _=>rfl
 gI:=fun b x _ ho=>by
  obtain ⟨j,f,g1,g2,g3⟩:=ho;rw[iU]at g2;split at g2
  ·rename_i hc;obtain ⟨rfl,_⟩:=hc;rw[qP]at g2;cases g2;exact⟨i,0,g1,hf _,g3⟩
  ·exact⟨j,f,g1,g2,g3⟩
 ext:=rfl
 arr:=fun b arr e fz hb=>⟨arr,fz,hb,rfl⟩
theorem aro (wf:WF w h c) {i:Nat} {o':aI} (hf:∀f,(h.at i).from_ f=some 0) (qP:∀f,o'.from_ f=some 0) (fW:(h.at i).aW o') (aT:o'≠.free) (dm:gl w (h.set i o') c i o'):WF w (h.set i o') c where
 lay:=wf.pL (R1 hf qP fW aT)
 hM:=fun b x ho R0=>by
  obtain ⟨j,f,g1,g2,g3⟩:=ho;refine wf.hM b x ?_ R0;rw[iU]at g2;split at g2
  ·rename_i hc;obtain ⟨rfl,_⟩:=hc;rw[qP]at g2;cases g2;exact⟨i,0,g1,hf _,g3⟩
  ·exact⟨j,f,g1,g2,g3⟩
 hP:=wf.hP
 obj:=fun j hj=>by
  rw[iU];split
  ·rename_i hc;obtain ⟨rfl,_⟩:=hc;exact dm
  ·have ho:=wf.obj j (by simpa using hj);by_cases hv:(h.at j).live
   ·exact ho.eQ (R1 hf qP fW aT) (fun _ _=>rfl) rfl rfl
   ·have h0:h.at j=.free\/h.at j=.dead:=by revert hv; cases h.at j<;>simp[aI.live]
    rcases h0 with h0|h0<;>rw[h0]<;>trivial
 inj:=fun j k b hj hk h1 h2=>by
  have key:∀j,(aq.at (h.set i o') j).live->(h.at j).live:=fun j hj=>by
   rw[iU]at hj;split at hj
   ·rename_i hc;obtain ⟨rfl,_⟩:=hc;exact vU (hf 0)
   ·exact hj
  exact wf.inj j k b (key j hj) (key k hk) h1 h2
theorem Ec:∀(l:List (Nat×Nat×Ty×Bool)) (st:St) (c:bh) (a:Act),gp w c st a->∃c',gp w c' (xO l st) a/\Ext w st.hp c w (xO l st).hp c'
 | [],st,c,a,aW=>⟨c,aW,.refl _ _ _⟩
 | (i,o,T,rw)::l,st,c,a,aW=>by
  simp only[xO];split
  ·rename_i cs cT;split
   ·rename_i ho;obtain ⟨c',k1,k2,k3⟩:=abW aW.wf T rw;have hi:=aq.gb cT (by simp);have B1:aq.at (st.hp++[nU T rw]) i=.cells cs:=by rw[ye hi]; exact cT
    have e:st.hp.set i (.cells (cs.set o (pE T rw st.hp.length)))++[nU T rw]=(st.hp++[nU T rw]).set i (.cells (cs.set o (pE T rw st.hp.length))):=by
     rw[List.set_append_left _ _ hi]
    rw[e];have hl:(cs.set o (pE T rw st.hp.length)).length=cs.length:=by simp
    have x1:=RZ (w:=w) (c:=c') B1 hl;have dm:=k1.obj i (by simp; omega);rw[B1]at dm;obtain ⟨b,arr,el,g1,g2,g3⟩:=dm;have w1:=arn k1 B1 hl (by
     refine⟨b,arr,el,g1,g2,?_⟩;have g3':=g3.mono x1;refine⟨by simpa using g3'.1,fun j v d hv hd => ?_⟩;rw[List.getElem?_set]at hv;by_cases hj:o=j
     ·subst hj;rw[if_pos rfl]at hv;split at hv
      ·cases hv;have rd:=g3.getD o undef;rw[ho,ca,hd]at rd;cases rd;exact k3.mono x1
      ·cases hv
     ·rw[if_neg hj]at hv;exact g3'.2 j v d hv hd)
    have x2:=k2.trans x1;obtain ⟨c2,s2,x3⟩:=Ec l ⟨st.fr,(st.hp++[nU T rw]).set i (.cells (cs.set o (pE T rw st.hp.length)))⟩ c' a ⟨w1,aW.fr.mono x2⟩;exact⟨c2,s2,x2.trans x3⟩
   ·exact Ec l st c a aW
  ·rename_i v cT;split
   ·obtain ⟨c',k1,k2,k3⟩:=abW aW.wf T rw;have hi:=aq.gb cT (by simp);have B1:aq.at (st.hp++[nU T rw]) i=.bA .bk:=by rw[ye hi]; exact cT
    have e:st.hp.set i (.bA (pE T rw st.hp.length))++[nU T rw]=(st.hp++[nU T rw]).set i (.bA (pE T rw st.hp.length)):=by
     rw[List.set_append_left _ _ hi]
    rw[e];have hf:∀f,(aq.at (st.hp++[nU T rw]) i).from_ f=some 0:=fun f=>by rw[B1]; rfl
    have fW:(aq.at (st.hp++[nU T rw]) i).aW (.bA (pE T rw st.hp.length)):=by rw[B1]; trivial
    have x1:=R1 (w:=w) (c:=c') hf (o':=.bA (pE T rw st.hp.length)) (fun _=>rfl) fW (by simp);have dm:=k1.obj i (by simp; omega);rw[B1]at dm;obtain ⟨b,p,d,g1,g2,g3,g4⟩:=dm;have w1:=aro k1 hf (o':=.bA (pE T rw st.hp.length)) (fun _=>rfl) fW (by simp) (by
     cases g4;exact⟨b,p,_,g1,g2,g3,k3.mono x1⟩)
    have x2:=k2.trans x1;obtain ⟨c2,s2,x3⟩:=Ec l ⟨st.fr,(st.hp++[nU T rw]).set i (.bA (pE T rw st.hp.length))⟩ c' a ⟨w1,aW.fr.mono x2⟩;exact⟨c2,s2,x2.trans x3⟩
   ·exact Ec l st c a aW
  ·exact Ec l st c a aW
theorem arp {w0:World} {h0:aq} {c0:bh} {st:St} {a:Act} (aW:gp w c st a) (x:Ext w0 h0 c0 w st.hp c) (hm:h0.length<=200) (hint:Hint) :
  ∃c',gp w c' (norm h0.length hint st) a/\Ext w0 h0 c0 w (norm h0.length hint st).hp c':=by
 obtain ⟨c,aW,x⟩:∃c',gp w c' (Jw h0.length hint ⟨xN hint.live hint.drop st.fr,st.hp⟩) a/\Ext w0 h0 c0 w (Jw h0.length hint ⟨xN hint.live hint.drop st.fr,st.hp⟩).hp c':=by
  unfold Jw;split
  ·exact⟨c,⟨aW.wf,RX aW.fr _ _⟩,x⟩
  ·exact RW (st:=⟨xN hint.live hint.drop st.fr,st.hp⟩) ⟨aW.wf,RX aW.fr _ _⟩ x hm
 obtain ⟨c1,s1,x1⟩:=Kj hint.own _ c a aW;obtain ⟨c2,s2,x2⟩:=RY hint.rows _ c1 a s1;obtain ⟨c3,s3,x3⟩:=Ec hint.cells _ c2 a s2;exact RW s3 (((x.trans x1).trans x2).trans x3) hm
theorem arq {w0:World} {h0:aq} {c0:bh} {st:St} {a:Act} (aW:gp w c st a) (x:Ext w0 h0 c0 w st.hp c) (hm:h0.length<=200) (hint:Hint) :
  ∃c',gp w c' (trim h0.length hint st) a/\Ext w0 h0 c0 w (trim h0.length hint st).hp c':=
 RW (st:=⟨xN hint.out [] st.fr,st.hp⟩) ⟨aW.wf,RX aW.fr _ _⟩ x hm
theorem abX:∀(ts:List Nat) (vs:List V) (ds:List Value),ts.length=ds.length->aQ w h c vs ds->aQ w h c (Qy tt ts vs) ds
 | [],vs,ds,hl,r=>by
  have:ds=[]:=gH hl.symm;subst this;exact .nil
 | t::ts,[],ds,hl,r=>by
  have:ds=[]:=gH (by simpa using r.1.symm);subst this;simp at hl
 | t::ts,v::vs,[],hl,r=>by simp at hl
 | t::ts,v::vs,d::ds,hl,r=>.cons (abj r.head) (abX ts vs ds (by simpa using hl) r.tail)
end
section
variable {P:Program} {tt:aZ} {R:Type}
def n0 (fr:List V) (log:List (Nat×V)):List V:=log.foldr (fun x f=>f.set x.1 x.2) fr
theorem Ed (fr:List V):∀log:List (Nat×V),(n0 fr log).length=fr.length
 | []=>rfl
 | x::log=>by simp[n0]; exact Ed fr log
theorem ars (a b:Nat):kY a b=decide (a=b):=by
 cases hb:kY a b with
 | true=>simp[zo hb]
 | false=>simp[Nat.ne_of_beq_eq_false hb]
theorem look_eq (fr:List V) (t:Nat) (d:V) (hd:fr.getD t .undef=d):∀log:List (Nat×V),(∀x∈log,x.1<fr.length)->vM log t d=(n0 fr log).getD t .undef
 | [],_=>hd.symm
 | x::log,h=>by
  have ih:=look_eq fr t d hd log fun y hy=>h y (by simp[hy])
  have hx:=h x (by simp);have hl:=Ed fr log;have e:n0 fr (x::log)=(n0 fr log).set x.1 x.2:=rfl;have e2:vM (x::log) t d=cond (kY x.1 t) x.2 (vM log t d):=rfl;rw[e,e2,ars,ih];by_cases na:x.1=t
  ·subst na;simp[ca,List.getElem?_set_self,hl,hx]
  ·simp[na,ca,List.getElem?_set_ne na]
theorem abY {β:Type} (t:Nat) (d:V) (k:V->β):∀log:List (Nat×V),Bu log t d k=k (vM log t d)
 | []=>rfl
 | x::log=>by
  have ih:=abY t d k log;have e1:Bu (x::log) t d k=cond (kY x.1 t) (k x.2) (Bu log t d k):=rfl;have e2:vM (x::log) t d=cond (kY x.1 t) x.2 (vM log t d):=rfl;rw[e1,e2,ih];cases kY x.1 t<;>rfl
def B2 (log:List (Nat×V)):Nat->List V->List V
 | _,[]=>[]
 | i,v::r=>vM log i v::B2 log (i+1) r
theorem abZ {β:Type} (log:List (Nat×V)):∀(fr:List V) (i:Nat) (k:List V->β),
  Ja (motive:=fun _=>Nat->(List V->β)->β) (fun _ k=>k []) (fun v _ ih i k=>Bu log i v fun v'=>ih (i+1) fun r=>k (v'::r)) fr i k=k (B2 log i fr)
 | [],_,_=>rfl
 | v::fr,i,k=>by
  show Bu log i v (fun v'=>Ja (motive:=fun _=>Nat->(List V->β)->β) (fun _ k=>k []) (fun v _ ih i k=>Bu log i v fun v'=>ih (i+1) fun r=>k (v'::r)) fr (i+1) fun r=>k (v'::r))=_;rw[abY,abZ log fr (i+1)];rfl
theorem ab0 (log:List (Nat×V)):∀(fr:List V) (i j:Nat),(B2 log i fr)[j]? = (fr[j]?).map fun v=>vM log (i+j) v
 | [],_,_=>by simp[B2]
 | v::fr,i,0=>by simp[B2]
 | v::fr,i,j+1=>by
  simp only[B2,List.getElem?_cons_succ];rw[ab0 log fr (i+1) j];congr 1;funext v;congr 1;omega
theorem art {β:Type} (fr:List V) (log:List (Nat×V)) (hl:∀x∈log,x.1<fr.length) (k:List V->β):Qv log fr k=k (n0 fr log):=by
 have h1:Qv log fr k=k (B2 log 0 fr):=abZ log fr 0 k;rw[h1];congr 1;apply List.ext_getElem?;intro j;rw[ab0,mq];cases hj:fr[j]? with
 | none=>
  have:(n0 fr log)[j]? = none:=by
   rw[List.getElem?_eq_none_iff,Ed];exact List.getElem?_eq_none_iff.1 hj
  rw[this]; rfl
 | some v=>
  have aX:j<(n0 fr log).length:=by rw[Ed]; exact(List.getElem?_eq_some_iff.1 hj).1
  have h2:=look_eq fr j v (by simp[ca,hj]) log hl;rw[Bc,h2];simp[ca,List.getElem?_eq_getElem aX]
theorem aru (fr:List V) (log:List (Nat×V)) (hl:∀x∈log,x.1<fr.length):evF fr log=ev (n0 fr log):=by
 funext x;cases x with
 | tmp t=>exact look_eq fr t _ rfl log hl
 | _=>rfl
theorem ab1 (fr:List V) (log:List (Nat×V)) (dst:Option Nat) (v:V):n0 fr (DH fr.length log dst v)=dd (n0 fr log) dst v:=by
 cases dst with
 | none=>rfl
 | some d=>
  unfold DH dd;simp only;cases h:xr d fr.length with
  | true=>rfl
  | false=>
   have:¬d<fr.length:=by
    intro h2;have h3:xr d fr.length=true:=by simpa using h2
    rw[h3]at h;cases h
   simp only[cond_false];rw[List.set_eq_of_length_le (by rw[Ed]; omega)]
theorem ab2 {fr:List V} {log:List (Nat×V)} (hl:∀x∈log,x.1<fr.length) (dst:Option Nat) (v:V):∀x∈DH fr.length log dst v,x.1<fr.length:=by
 cases dst with
 | none=>exact hl
 | some d=>
  unfold DH;simp only;cases h:xr d fr.length with
  | true=>
   intro x hx;rcases eJ.1 hx with rfl|hx
   ·simpa using h
   ·exact hl x hx
  | false=>exact hl
theorem arv {E:Env R} {drawn:Option Nat} {id:Nat} {o:Oper} {st:St} {k:St->Option R}:mW tt E drawn id o st k=Qw tt E drawn id o (ev st.fr) st.hp fun v h=>k ⟨dd st.fr o.dst v,h⟩:=by
 unfold mW Qw;cases cK tt o.op<;>rfl
theorem arw {all:List Oper} {o:Oper} {fr:List V} {log:List (Nat×V)} {hp:aq} (hl:∀x∈log,x.1<fr.length) {run skip:St->Option R} {ab3 ab4:List (Nat×V)->Option R}
  (hr:∀log,(∀x∈log,x.1<fr.length)->ab3 log=run ⟨n0 fr log,hp⟩) (hs:∀log,(∀x∈log,x.1<fr.length)->ab4 log=skip ⟨n0 fr log,hp⟩) :
  Qx all o fr log ab3 ab4=oN all o ⟨n0 fr log,hp⟩ run skip:=by
 unfold Qx oN;cases o.guard with
 | none=>exact hr log hl
 | some jw=>
  obtain ⟨j,want⟩:=jw;simp only;cases (all[j]?).bind (·.dst)with
  | none=>rfl
  | some d=>
   simp only;rw[look_eq fr d _ rfl log hl];cases hb:(n0 fr log).getD d .undef with
   | bool b=>
    have hd:d<fr.length:=by
     rcases mo d fr.length with h|h
     ·exact h
     ·rw[<-Ed fr log]at h;simp[ca,List.getElem?_eq_none h]at hb
    have h2:∀v:V,∀x∈(d,v)::log,x.1<fr.length:=fun v x hx=>by
     rcases eJ.1 hx with rfl|hx
     ·exact hd
     ·exact hl x hx
    simp only;rw[hr _ (h2 _),hs _ (h2 _),hr _ (h2 _),hs _ (h2 _)];rfl
   | tuple vs=>
    cases vs with
    | nil=>exact hs log hl
    | cons _ _=>rfl
   | _=>rfl
theorem R2 {E:Env R} {drawn:Option Nat} {all:List Oper} {fr:List V}:∀(l:List Oper) (id:Nat) (log:List (Nat×V)) (hp:aq) (k:St->Option R),(∀x∈log,x.1<fr.length) ->
  Bv tt E drawn all fr.length fr l id log hp k=tH tt E drawn all l id ⟨n0 fr log,hp⟩ k
 | [],_,log,hp,k,hl=>by
  simp only[Bv,tH];rw[art fr log hl,F9]
 | o::l,id,log,hp,k,hl=>by
  simp only[Bv,tH,Js];refine arw hl (fun log hl => ?_) fun log hl => ?_
  ·rw[arv,aru fr log hl];congr 1;funext v h;rw[F9,R2 l _ _ _ _ (ab2 hl o.dst v),ab1]
  ·rw[R2 l _ _ _ _ (ab2 hl o.dst _),ab1]
theorem regionF_eq {E:Env R} {ops:List Oper} {draw:Bool} {st:St} {k:St->Option R}:regionF tt E ops draw st k=DG tt E ops draw st k:=by
 unfold regionF DG;simp only;have h:=fun(dr:Option Nat) (hp:aq)=>R2 (tt:=tt) (E:=E) (drawn:=dr) (all:=ops) (fr:=st.fr) ops st.hp.length [] hp k (by simp)
 rw[h,h];rfl
end
section
variable {P:Program} {tt:aZ} {w w':World} {h h':aq} {c c':bh} {R:Type}
def Ex.out:Ex->Exit
 | .normal=>.normal
 | .exit id=>.exit id
 | .goto l=>.goto l
 | .ret=>.ret
theorem arx {a b:Option R} {r:R} (h:Bx a b=some r):a=some r/\b=some r:=by
 unfold Bx at h;split at h
 ·rename_i e; exact⟨h,e▸h⟩
 ·cases h
theorem ary {b0:Code} {Q:Exit->Act->World->Prop} (I:Nat->Act->World->Prop) (h0:∀a w,¬I 0 a w) (round:∀n a w,I (n+1) a w->b0.wp P (Exit.then (I n) Q) a w) {n:Nat} {a:Act} {w:World} (hI:I n a w) :
  (Code.loop b0).wp P Q a w:=by
 intro b k cs;have key:∀n a w,I n a w->∃e a' w',Q e a' w'/\Arrives P (lone (b.at a (.code b0::.inLoop b0::k)) cs w) b k cs e a' w':=by
  intro n
  induction n with
  | zero=>exact fun a w h=>(h0 a w h).elim
  | succ n ih=>
   intro a w hI;obtain ⟨e,a1,w1,hq,kb⟩:=round n a w hI b (.inLoop b0::k) cs;cases e with
   | normal=>
    obtain ⟨e2,a2,w2,oP,arz⟩:=ih a1 w1 hq;exact⟨e2,a2,w2,oP,.of_steps (Steps.trans kb (.one step_inLoop)) arz⟩
   | exit id=>exact⟨_,a1,w1,hq,.pass (x:=.inLoop b0) rfl (fun _ _=>.inl (by simp)) kb⟩
   | goto l=>exact⟨_,a1,w1,hq,.pass (x:=.inLoop b0) rfl (fun _ _=>.inl (by simp)) kb⟩
   | ret=>exact⟨_,a1,w1,hq,.pass (x:=.inLoop b0) rfl (fun _ _=>.inl (by simp)) kb⟩
   | panic ch=>exact⟨_,a1,w1,hq,.pass (x:=.inLoop b0) rfl (fun _ _=>.inl (by simp)) kb⟩
   | outgrown=>exact⟨_,a1,w1,hq,.pass (x:=.inLoop b0) rfl (fun _ _=>.inl (by simp)) kb⟩
 obtain ⟨e,a',w',hq,kb⟩:=key n a w hI;exact⟨e,a',w',hq,.of_steps (.one step_loop) kb⟩
def sN (tt:aZ) (E:Env R) (L:Nat->Option (Hint×bX R)) (m:Nat) (a:Code):Prop:=
 ∀hint ls,L (keyOf a)=some (hint,ls)->∀st (K:Ex->St->Option R) r,ls st K=some r->∃n,pF (gR tt E L m a) (norm m hint) n st (fun e st=>K e (trim m hint st))=some r
def ke:Code->List Code
 | .seq a b=>ke a++ke b
 | .cond _ a b=>ke a++ke b
 | .block _ a=>ke a
 | .loop a=>a::ke a
 | _=>[]
theorem ab5 (body:bX R):∀n st K,Jx body n st K=pF body id n st K
 | 0,_,_=>rfl
 | n+1,st,K=>by
  simp only[Jx,pF];congr 1;funext e cx;cases e<;>first|rfl|exact ab5 body n cx K
section
variable {w0:World} {h0:aq} {c0:bh} {D:List Deferred}
structure At (w0:World) (h0:aq) (c0:bh) (D:List Deferred) (w:World) (st:St) (a:Act) (c:bh):Prop where
 aW:gp w c st a
 ext:Ext w0 h0 c0 w st.hp c
 defers:a.defers=D
def Ends (w0:World) (h0:aq) (c0:bh) (D:List Deferred) (K:Ex->St->Option R) (r:R) (Q:Exit->Act->World->Prop):Prop:=
 ∀e st a w c,At w0 h0 c0 D w st a c->K e st=some r->Q e.out a w
theorem yl (T:cF P tt) (hm:P.follows .mixedOrders=true) {E:Env R} (hE:nf P E) {L:Nat->Option (Hint×bX R)} (hlen:h0.length<=200) {r:R}:∀(code:Code),(∀a∈ke code,sN tt E L h0.length a) ->
  ∀(Q:Exit->Act->World->Prop) (K:Ex->St->Option R) (st:St) (a:Act) (w:World) (c:bh),At w0 h0 c0 D w st a c->gR tt E L h0.length code st K=some r->Ends w0 h0 c0 D K r Q->code.wp P Q a w
 | .skip,_,Q,K,st,a,w,c,at_,hk,he=>wp_skip (he .normal st a w c at_ hk)
 | .region id ops draw,_,Q,K,st,a,w,c,at_,hk,he=>by
  simp only[gR,regionF_eq]at hk;have go:GO w c st a (fun cx=>K .normal cx) r (Q .normal):=fun a' w' cx c' s x d k=>he .normal cx a' w' c' ⟨s,at_.ext.trans x,d.trans at_.defers⟩ k
  cases draw with
  | true=>exact arf T hm hE hk at_.aW go
  | false=>exact aqO T hE hk at_.aW go
 | .seq x y,hl,Q,K,st,a,w,c,at_,hk,he=>by
  simp only[gR]at hk;refine wp_seq (yl T hm hE hlen x (fun b hb=>hl b (by simp[ke,hb])) _ _ st a w c at_ hk fun e cx a' w' c' at' bY => ?_);cases e with
  | normal=>exact yl T hm hE hlen y (fun b hb=>hl b (by simp[ke,hb])) Q K cx a' w' c' at' bY he
  | exit i=>exact he (.exit i) cx a' w' c' at' bY
  | goto l=>exact he (.goto l) cx a' w' c' at' bY
  | ret=>exact he .ret cx a' w' c' at' bY
 | .cond Kk x y,hl,Q,K,st,a,w,c,at_,hk,he=>by
  simp only[gR]at hk;split at hk<;>(try cases hk)
  ·rename_i t ht;have rc:=Rn at_.aW.fr Kk;rw[ht]at rc;generalize hv:a.eval Kk=v at rc;cases rc;refine wp_cond hv ?_;cases t with
   | true=>exact yl T hm hE hlen x (fun b hb=>hl b (by simp[ke,hb])) Q K st a w c at_ hk he
   | false=>exact yl T hm hE hlen y (fun b hb=>hl b (by simp[ke,hb])) Q K st a w c at_ hk he
  ·rename_i ht;have rc:=Rn at_.aW.fr Kk;rw[ht]at rc;generalize hv:a.eval Kk=v at rc;cases rc with
   | nS t=>
    refine wp_cond hv ?_;obtain ⟨h1,h2⟩:=arx hk;cases t with
    | true=>exact yl T hm hE hlen x (fun b hb=>hl b (by simp[ke,hb])) Q K st a w c at_ h1 he
    | false=>exact yl T hm hE hlen y (fun b hb=>hl b (by simp[ke,hb])) Q K st a w c at_ h2 he
 | .block id x,hl,Q,K,st,a,w,c,at_,hk,he=>by
  simp only[gR]at hk;refine wp_block (yl T hm hE hlen x (fun b hb=>hl b (by simp[ke,hb])) _ _ st a w c at_ hk fun e cx a' w' c' at' bY => ?_);cases e with
  | normal=>exact he .normal cx a' w' c' at' bY
  | exit i=>
   simp only[Ex.out,Exit.inBlock];simp only at bY;split
   ·rename_i hi;rw[if_pos hi]at bY;exact he .normal cx a' w' c' at' bY
   ·rename_i hi;rw[if_neg hi]at bY;exact he (.exit i) cx a' w' c' at' bY
  | goto l=>exact he (.goto l) cx a' w' c' at' bY
  | ret=>exact he .ret cx a' w' c' at' bY
 | .loop x,hl,Q,K,st,a,w,c,at_,hk,he=>by
  have hx:∀b∈ke x,sN tt E L h0.length b:=fun b hb=>hl b (by simp[ke,hb])
  have main:∀(f g:St->St),(∀w st a c,At w0 h0 c0 D w st a c->∃c',At w0 h0 c0 D w (f st) a c')->(∀w st a c,At w0 h0 c0 D w st a c->∃c',At w0 h0 c0 D w (g st) a c') ->
    ∀n st a w c,At w0 h0 c0 D w st a c->pF (gR tt E L h0.length x) f n st (fun e st=>K e (g st))=some r->(Code.loop x).wp P Q a w:=by
   intro f g hf hg n st a w c at_ hk;refine ary (fun n a w=>∃st c,At w0 h0 c0 D w st a c/\pF (gR tt E L h0.length x) f n st (fun e st=>K e (g st))=some r) (fun a w => ?_) (fun n a w => ?_) ⟨st,c,at_,hk⟩
   ·rintro ⟨st,c,_,hk⟩
    cases hk
   ·rintro ⟨st,c,at_,hk⟩
    simp only[pF]at hk;refine yl T hm hE hlen x hx _ _ st a w c at_ hk fun e cx a' w' c' at' bY => ?_
    cases e with
    | normal=>
     obtain ⟨c2,B3⟩:=hf w' cx a' c' at';exact⟨f cx,c2,B3,bY⟩
    | exit i=>obtain ⟨c2,B3⟩:=hg w' cx a' c' at'; exact he (.exit i) _ a' w' c2 B3 bY
    | goto l=>obtain ⟨c2,B3⟩:=hg w' cx a' c' at'; exact he (.goto l) _ a' w' c2 B3 bY
    | ret=>obtain ⟨c2,B3⟩:=hg w' cx a' c' at'; exact he .ret _ a' w' c2 B3 bY
  simp only[gR]at hk;split at hk
  ·rename_i hint ls hL;have ab6:∀w st a c,At w0 h0 c0 D w st a c->∃c',At w0 h0 c0 D w (norm h0.length hint st) a c':=fun w st a c at_=>by
    obtain ⟨c',s',x'⟩:=arp at_.aW at_.ext hlen hint;exact⟨c',s',x',at_.defers⟩
   have arA:∀w st a c,At w0 h0 c0 D w st a c->∃c',At w0 h0 c0 D w (trim h0.length hint st) a c':=fun w st a c at_=>by
    obtain ⟨c',s',x'⟩:=arq at_.aW at_.ext hlen hint;exact⟨c',s',x',at_.defers⟩
   obtain ⟨n,hn⟩:=hl x (by simp[ke]) hint ls hL _ _ _ hk;obtain ⟨c',at'⟩:=ab6 w st a c at_;exact main _ _ ab6 arA n _ a w c' at' hn
  ·rw[ab5]at hk;exact main id id (fun w st a c h=>⟨c,h⟩) (fun w st a c h=>⟨c,h⟩) 70 st a w c at_ hk
 | .exit id,_,Q,K,st,a,w,c,at_,hk,he=>wp_exit (he (.exit id) st a w c at_ hk)
 | .ret,_,Q,K,st,a,w,c,at_,hk,he=>wp_ret (he .ret st a w c at_ hk)
 | .label _,_,_,_,_,_,_,_,_,hk,_=>by simp[gR]at hk
 | .goto _,_,_,_,_,_,_,_,_,hk,_=>by simp[gR]at hk
 | .scope _,_,_,_,_,_,_,_,_,hk,_=>by simp[gR]at hk
 | .refuse _,_,_,_,_,_,_,_,_,hk,_=>by simp[gR]at hk
end
theorem R3 (T:cF P tt) {st:St} {a:Act} (aW:gp w c st a):∀(rs:List ResultVar) {k:List V->Option R} {r:R},Ac tt st rs k=some r ->
  ∃vs ds,k vs=some r/\aQ w st.hp c vs ds/\ds.length=rs.length/\(rs.mapM (m:=Sem) fun | .tmp t=>pure (a.tmps.getD t undef) | .cell b t=>do loadVar t (<-asAddr (a.tmps.getD b undef))).run P w=.ok ds w
 | [],k,r,hk=>⟨[],[],hk,.nil,rfl,by simp⟩
 | .tmp t::rs,k,r,hk=>by
  simp only[Ac]at hk;obtain ⟨vs,ds,h1,h2,h3,h4⟩:=R3 T aW rs hk;refine⟨_,a.tmps.getD t undef::ds,h1,.cons ?_ h2,by simp[h3],?_⟩
  ·have:=aW.fr.getD t undef;simpa [ca,Array.getD_eq_getD_getElem?]using this
  ·simp only[Po,gZ,px,hG,h4]
 | .cell b t::rs,k,r,hk=>by
  simp only[Ac]at hk;split at hk<;>(try cases hk);rename_i i o hp;split at hk<;>(try cases hk);rename_i cs cT;have hl:=aax (P:=P) T aW.wf (t:=t) (a:=.ptr i o) (a':=a.tmps.getD b undef) (lim:=none) (k:=fun v=>Ac tt st rs fun vs=>k (v::vs)) (r:=r) (by
    have:=aW.fr.getD b undef;rw[hp]at this;simpa [ca,Array.getD_eq_getD_getElem?]using this) (by simp only[sA,if_true,cT]; exact hk)
  obtain ⟨v,v',g1,g2,g3⟩:=hl;obtain ⟨vs,ds,h1,h2,h3,h4⟩:=R3 T aW rs g3;refine⟨_,v'::ds,h1,.cons g2 h2,by simp[h3],?_⟩;have hb:(do loadVar t (<-asAddr (a.tmps.getD b undef)):Sem Value).run P w=.ok v' w:=by
   have rb:=aW.fr.getD b undef;rw[hp]at rb;have e:a.tmps.toList.getD b undef=a.tmps.getD b undef:=by simp[ca,Array.getD_eq_getD_getElem?]
   rw[e]at rb;generalize a.tmps.getD b undef=q at rb g1;cases rb with
   | ptr hu hv=>
    obtain ⟨b',rfl,_⟩:=hv;simpa [Jg,u0,asAddr]using g1
  simp only[Po,gZ,hb,px,hG,h4]
theorem arB {w0:World} {h0:aq} {c0:bh} {ts:List Nat} {eQ:Bool} {vs:List V} {ds:List Value} (wf:WF w h c) (r:aQ w h c vs ds) (x:Ext w0 h0 c0 w h c) (hm:h0.length<=200) (hts:ts.length=ds.length) {k:V->aq->Option R} {q:R}
  (hk:Jy tt ts h0.length eQ vs h k=some q):∃v h' c',WF w h' c'/\Ext w0 h0 c0 w h' c'/\ay w h' c' v (if h:ds.length=1 then ds[0]else .tuple ds.toArray)/\k v h'=some q:=by
 unfold Jy at hk;have main:∀(ws:List V) (h1:aq),WF w h1 c->aQ w h1 c ws ds->Ext w0 h0 c0 w h1 c ->
   ∀ord:List Nat,ord.Nodup->(∀i,i<h0.length->ord[i]? = some i\/∃j,h1.length<=j/\ord[i]? = some j) ->
   k (match V.iv (mu ord) ws with | [v]=>v|l=>.tuple l) (h1.pick ord)=some q ->
   ∃v h' c',WF w h' c'/\Ext w0 h0 c0 w h' c'/\ay w h' c' v (if h:ds.length=1 then ds[0]else .tuple ds.toArray)/\k v h'=some q:=by
  intro ws h1 wf1 r1 x1 ord g1 g2 hk;have rr:=abT (ord:=ord) r1;refine⟨_,_,_,abS wf1 g1,abR x1 g2,?_,hk⟩;have hlen:=rr.1;generalize V.iv (mu ord) ws=us at rr hlen;split
  ·rename_i v;have h1:ds.length=1:=by simpa using hlen.symm
   rw[dif_pos h1];exact rr.2 0 v _ rfl (List.getElem?_eq_getElem _)
  ·rename_i aT;have h1:¬ds.length=1:=fun e=>by
    rw[e]at hlen
    match us,hlen with
    | [v],_=>exact aT v rfl
   rw[dif_neg h1];exact .tuple (by simpa using hlen) fun j v d hv hd=>rr.2 j v d hv (by simpa using hd)
 have Ee:=fun(h1:aq) (ws:List V)=>abU h1 (m:=h0.length) (n:=256) (by omega) (V.fI ws)
 cases eQ with
 | true=>
  simp only[if_true,oJ]at hk;cases he:(V.fI vs).isEmpty with
  | true=>
   rw[he]at hk;obtain ⟨g1,g2⟩:=ark (h:=h) (Ee h vs).1 (Ee h vs).2;exact main vs h wf r x _ g1 g2 hk
  | false=>
   rw[he]at hk;exact main vs h wf r x _ (Ee h vs).1 (fun i hi=>.inl ((Ee h vs).2 i hi)) hk
 | false=>
  simp only[jy,if_false,lu,cond_false]at hk;exact main _ _ (J2 _ _ wf) (abX ts _ ds hts (abi wf r)) (x.trans (J1 _ _)) _ (Ee _ _).1 (fun i hi=>.inl ((Ee _ _).2 i hi)) hk
theorem ab7 (T:cF P tt) (hm:P.follows .mixedOrders=true) {E:Env R} (hE:nf P E) {L:Nat->Option (Hint×bX R)} {g:Nat} {fn:Func} {code:Code} {eQ:Bool} (hf:P.funcs[g]? = some fn) (hb:fn.body=some code)
  (hn:(fn.name == "runtime.NumGoroutine")=false) (hr:fn.results.size=fn.resultTypes.size) (m:Nat) (hl:∀a∈ke code,sN tt E L m a):Spec.GL P g m (nV tt E L eQ fn code):=by
 refine Spec.GL.aqz hf hn (by rw[hb]; rfl) fun vs h k r tO hk w c args wf ra => ?_
 subst tO;refine calls_of_wp hf hb ?_;unfold nV at hk;split at hk
 ·cases hk
 rename_i aJg;have hlen:h.length<=200:=by omega
 have JG:aQ w h c (vs++jx (fn.ntmps - vs.length) .undef) (args++Array.replicate (fn.ntmps - args.size) undef).toList:=by
  have e:vs.length=args.size:=by simpa using ra.1
  rw[e];simpa using ra.append (aQ.aos (fn.ntmps - args.size) undef)
 refine yl T hm hE (w0:=w) (h0:=h) (c0:=c) (D:=[]) hlen code hl _ _ _ _ w c ⟨⟨wf,JG⟩,.refl _ _ _,rfl⟩ hk fun e st a w' c' at' bY => ?_
 have fin:Ac tt st fn.results.toList (fun vs=>Jy tt fn.resultTypes.toList h.length eQ vs st.hp k)=some r ->
   a.defers=[]/\∃v,(results fn a.tmps).run P w'=.ok v w'/\∃d,Ending.returned v=Ending.returned d/\∃u h' c',WF w' h' c'/\Ext w h c w' h' c'/\ay w' h' c' u d/\k u h'=some r:=by
  intro hk;obtain ⟨vs,ds,g1,g2,g3,g4⟩:=R3 T at'.aW _ hk;obtain ⟨u,h',c2,k1,k2,k3,k4⟩:=arB at'.aW.wf g2 at'.ext hlen (by simp[g3,hr]) g1;refine⟨at'.defers,_,?_,_,rfl,u,h',c2,k1,k2,k3,k4⟩;unfold results;simp only[gZ,Array.mapM_eq_mapM_toList,map_eq_pure_bind,px];refine(congrArg (fun z:Result (List Value)=>(z.andThen fun a w'=>Result.ok a.toArray w').andThen fun a w'=>Result.ok (if h:a.size=1 then a[0]else Value.tuple a) w') g4).trans ?_;simp
 cases e with
 | normal=>exact fin bY
 | ret=>exact fin bY
 | exit i=>cases bY
 | goto l=>cases bY
end
inductive bD where
 | undef|fp|bk|fy|kB|eR|iface
 | gh (t:Nat) (k:IntKind) (n:Int)
 | int (k:IntKind)|bool|str
 | ptr (i o:Nat)
 | sl (T:Ty)|k9 (T:Ty) (i:Nat)
 | row (i:Nat)
 | map (i:Nat)
 | fn (f:Nat)
 deriving DecidableEq
def bD.den:bD->Type
 | .int _=>Int
 | .bool=>Bool
 | .str=>ad
 | .sl T=>List T.den
 | .k9 T _=>List T.den
 | .row _=>Nat
 | _=>Unit
def bD.enc:(p:bD)->p.den->V
 | .undef,_=>.undef
 | .fp,_=>.fp
 | .bk,_=>.bk
 | .fy,_=>.fy
 | .kB,_=>.kB
 | .eR,_=>.eR
 | .iface,_=>.iface
 | .gh t k n,_=>.gh t k n
 | .int k,(n:Int)=>.int k n
 | .bool,(b:Bool)=>.bool b
 | .str,(s:ad)=>.str s
 | .ptr i o,_=>.ptr i o
 | .sl T,(l:List T.den)=>.sl T l .no
 | .k9 T i,(l:List T.den)=>.sl T l (.own i)
 | .row i,(n:Nat)=>.row i n
 | .map i,_=>.map i
 | .fn f,_=>.func f [] []
def R4 (k:IntKind):V->Option Int | .int k' n=>if k'=k then some n else none|_=>none
def R5:V->Option Bool | .bool b=>some b|_=>none
def R6:V->Option ad | .str s=>some s|_=>none
def R7 (T:Ty):V->Option (List T.den) | .sl T' l .no=>if h:T'=T then some (h▸l)else none|_=>none
def R8 (T:Ty) (i:Nat):V->Option (List T.den) | .sl T' l (.own j)=>if h:T'=T then(if j=i then some (h▸l)else none)else none|_=>none
def R9 (i:Nat):V->Option Nat | .row j n=>if j=i then some n else none|_=>none
def Sa (i o:Nat):V->Option Unit | .ptr j q=>if j=i/\q=o then some ()else none|_=>none
def Sb (i:Nat):V->Option Unit | .map j=>if j=i then some ()else none|_=>none
def Sc (f:Nat):V->Option Unit | .func g [] []=>if g=f then some ()else none|_=>none
def Sd:V->Option Unit | .undef=>some ()|_=>none
def Se:V->Option Unit | .fp=>some ()|_=>none
def Sf:V->Option Unit | .bk=>some ()|_=>none
def Sg:V->Option Unit | .fy=>some ()|_=>none
def Sh:V->Option Unit | .kB=>some ()|_=>none
def Si:V->Option Unit | .eR=>some ()|_=>none
def Sj:V->Option Unit | .iface=>some ()|_=>none
def Sk (t:Nat) (k:IntKind) (n:Int):V->Option Unit | .gh t' k' n'=>if t'=t/\k'=k/\n'=n then some ()else none|_=>none
theorem arC {k:IntKind} {v:V} {x:Int} (h:R4 k v=some x):v=.int k x:=by
 unfold R4 at h;split at h
 ·split at h
  ·rename_i e; subst e; cases h; rfl
  ·cases h
 ·cases h
theorem arD {v:V} {x:Bool} (h:R5 v=some x):v=.bool x:=by unfold R5 at h; split at h<;>first|(cases h; rfl)|cases h
theorem arE {v:V} {x:ad} (h:R6 v=some x):v=.str x:=by unfold R6 at h; split at h<;>first|(cases h; rfl)|cases h
theorem arF {T:Ty} {v:V} {x:List T.den} (h:R7 T v=some x):v=.sl T x .no:=by
 unfold R7 at h;split at h
 ·split at h
  ·rename_i e; subst e; cases h; rfl
  ·cases h
 ·cases h
theorem arG {T:Ty} {i:Nat} {v:V} {x:List T.den} (h:R8 T i v=some x):v=.sl T x (.own i):=by
 unfold R8 at h;split at h
 ·split at h
  ·rename_i e;subst e;split at h
   ·rename_i e; subst e; cases h; rfl
   ·cases h
  ·cases h
 ·cases h
theorem arH {i:Nat} {v:V} {x:Nat} (h:R9 i v=some x):v=.row i x:=by
 unfold R9 at h;split at h
 ·split at h
  ·rename_i e; subst e; cases h; rfl
  ·cases h
 ·cases h
theorem arI {i o:Nat} {v:V} {x:Unit} (h:Sa i o v=some x):v=.ptr i o:=by
 unfold Sa at h;split at h
 ·split at h
  ·rename_i e; obtain ⟨rfl,rfl⟩:=e; rfl
  ·cases h
 ·cases h
theorem arJ {i:Nat} {v:V} {x:Unit} (h:Sb i v=some x):v=.map i:=by
 unfold Sb at h;split at h
 ·split at h
  ·rename_i e; subst e; rfl
  ·cases h
 ·cases h
theorem arK {f:Nat} {v:V} {x:Unit} (h:Sc f v=some x):v=.func f [] []:=by
 unfold Sc at h;split at h
 ·split at h
  ·rename_i e; subst e; rfl
  ·cases h
 ·cases h
theorem arL {v:V} {x:Unit} (h:Sd v=some x):v=.undef:=by unfold Sd at h; split at h<;>first|rfl|cases h
theorem arM {v:V} {x:Unit} (h:Se v=some x):v=.fp:=by unfold Se at h; split at h<;>first|rfl|cases h
theorem arN {v:V} {x:Unit} (h:Sf v=some x):v=.bk:=by unfold Sf at h; split at h<;>first|rfl|cases h
theorem arO {v:V} {x:Unit} (h:Sg v=some x):v=.fy:=by unfold Sg at h; split at h<;>first|rfl|cases h
theorem arP {v:V} {x:Unit} (h:Sh v=some x):v=.kB:=by unfold Sh at h; split at h<;>first|rfl|cases h
theorem arQ {v:V} {x:Unit} (h:Sj v=some x):v=.iface:=by unfold Sj at h; split at h<;>first|rfl|cases h
theorem arR {t:Nat} {k:IntKind} {n:Int} {v:V} {x:Unit} (h:Sk t k n v=some x):v=.gh t k n:=by
 unfold Sk at h;split at h
 ·split at h
  ·rename_i e; obtain ⟨rfl,rfl,rfl⟩:=e; rfl
  ·cases h
 ·cases h
theorem arS {v:V} {x:Unit} (h:Si v=some x):v=.eR:=by unfold Si at h; split at h<;>first|rfl|cases h
def bD.dec:(p:bD)->V->Option p.den
 | .undef=>Sd
 | .fp=>Se
 | .bk=>Sf
 | .fy=>Sg
 | .kB=>Sh
 | .eR=>Si
 | .iface=>Sj
 | .gh t k n=>Sk t k n
 | .int k=>R4 k
 | .bool=>R5
 | .str=>R6
 | .ptr i o=>Sa i o
 | .sl T=>R7 T
 | .k9 T i=>R8 T i
 | .row i=>R9 i
 | .map i=>Sb i
 | .fn f=>Sc f
theorem bD.B4 (p:bD) {v:V} {x:p.den} (h:p.dec v=some x):v=p.enc x:=by
 cases p
 ·exact arL h
 ·exact arM h
 ·exact arN h
 ·exact arO h
 ·exact arP h
 ·exact arS h
 ·exact arQ h
 ·exact arR h
 ·exact arC h
 ·exact arD h
 ·exact arE h
 ·exact arI h
 ·exact arF h
 ·exact arG h
 ·exact arH h
 ·exact arJ h
 ·exact arK h
def bD.aA:List bD->Type
 | []=>Unit
 | p::ps=>p.den×bD.aA ps
def bD.bE:(ps:List bD)->bD.aA ps->List V
 | [],_=>[]
 | p::ps,(x:p.den×bD.aA ps)=>p.enc x.1::bD.bE ps x.2
def both {α β:Type}:Option α->Option β->Option (α×β)
 | some x,some y=>some (x,y)
 | _,_=>none
theorem Kl {α β:Type} {a:Option α} {b:Option β} {z:α×β} (h:both a b=some z):a=some z.1/\b=some z.2:=by
 cases a<;>cases b<;>cases h;exact⟨rfl,rfl⟩
def bD.lV:(ps:List bD)->List V->Option (bD.aA ps)
 | [],[]=>some ()
 | [],_::_=>none
 | _::_,[]=>none
 | p::ps,v::vs=>both (p.dec v) (bD.lV ps vs)
theorem bD.qV:∀(ps:List bD) {vs:List V} {x:bD.aA ps},bD.lV ps vs=some x->vs=bD.bE ps x
 | [],[],_,_=>rfl
 | [],_::_,_,h=>by cases h
 | _::_,[],_,h=>by cases h
 | p::ps,v::vs,x,h=>by
  obtain ⟨h1,h2⟩:=Kl (a:=p.dec v) (b:=bD.lV ps vs) h;show v::vs=p.enc x.1::bD.bE ps x.2;rw[<-bD.B4 p h1,<-bD.qV ps h2]
inductive ax where
 | leaf (l:bD)
 | agg (ps:List bD)
 | func (f:Nat) (a b:List bD)
def ax.den:ax->Type
 | .leaf l=>l.den
 | .agg ps=>bD.aA ps
 | .func _ a b=>bD.aA a×bD.aA b
def ax.enc:(p:ax)->p.den->V
 | .leaf l,x=>l.enc x
 | .agg ps,x=>.agg (bD.bE ps x)
 | .func f a b,(x:bD.aA a×bD.aA b)=>.func f (bD.bE a x.1) (bD.bE b x.2)
def Sl (ps:List bD):V->Option (bD.aA ps) | .agg cs=>bD.lV ps cs|_=>none
def Sm (f:Nat) (a b:List bD):V->Option (bD.aA a×bD.aA b) | .func g x y=>if g=f then both (bD.lV a x) (bD.lV b y)else none|_=>none
def ax.dec:(p:ax)->V->Option p.den
 | .leaf l=>l.dec
 | .agg ps=>Sl ps
 | .func f a b=>Sm f a b
theorem ax.B4 (p:ax) {v:V} {x:p.den} (h:p.dec v=some x):v=p.enc x:=by
 cases p with
 | leaf l=>exact bD.B4 l h
 | agg ps=>
  replace h:Sl ps v=some x:=h
  unfold Sl at h;split at h
  ·rename_i cs;show V.agg cs=.agg (bD.bE ps x);rw[<-bD.qV ps h]
  ·cases h
 | func f a b=>
  replace h:Sm f a b v=some x:=h
  unfold Sm at h;split at h
  ·split at h
   ·rename_i e;subst e;obtain ⟨h1,h2⟩:=Kl h;rename_i g p q;show V.func g p q=.func g (bD.bE a x.1) (bD.bE b x.2);rw[<-bD.qV a h1,<-bD.qV b h2]
   ·cases h
  ·cases h
def ax.aA:List ax->Type
 | []=>Unit
 | p::ps=>p.den×ax.aA ps
def ax.bE:(ps:List ax)->ax.aA ps->List V
 | [],_=>[]
 | p::ps,(x:p.den×ax.aA ps)=>p.enc x.1::ax.bE ps x.2
def ax.lV:(ps:List ax)->List V->Option (ax.aA ps)
 | [],[]=>some ()
 | [],_::_=>none
 | _::_,[]=>none
 | p::ps,v::vs=>both (p.dec v) (ax.lV ps vs)
theorem ax.qV:∀(ps:List ax) {vs:List V} {x:ax.aA ps},ax.lV ps vs=some x->vs=ax.bE ps x
 | [],[],_,_=>rfl
 | [],_::_,_,h=>by cases h
 | _::_,[],_,h=>by cases h
 | p::ps,v::vs,x,h=>by
  obtain ⟨h1,h2⟩:=Kl (a:=p.dec v) (b:=ax.lV ps vs) h;show v::vs=p.enc x.1::ax.bE ps x.2;rw[<-ax.B4 p h1,<-ax.qV ps h2]
inductive aH where
 | free|dead|tok|iter
 | cells (ps:List bD)
 | row (T:Ty)
 | bA (p:bD)
 | gi (K T:Ty)
def aH.den:aH->Type
 | .cells ps=>bD.aA ps
 | .row T=>List T.den
 | .bA p=>p.den
 | .gi K T=>List (K.den×T.den)
 | .iter=>ad×Nat
 | _=>Unit
def aH.enc:(p:aH)->p.den->aI
 | .free,_=>.free
 | .dead,_=>.dead
 | .tok,_=>.tok
 | .iter,x=>.iter (Pj (α:=ad) (β:=Nat) x) (Pk (α:=ad) (β:=Nat) x)
 | .cells ps,x=>.cells (bD.bE ps x)
 | .row T,x=>.row T x
 | .bA p,x=>.bA (p.enc x)
 | .gi K T,x=>.gi K T x
def Sn (p:bD):aI->Option p.den | .bA v=>p.dec v|_=>none
def So (ps:List bD):aI->Option (bD.aA ps) | .cells cs=>bD.lV ps cs|_=>none
def Sp (T:Ty):aI->Option (List T.den) | .row T' l=>if h:T'=T then some (h▸l)else none|_=>none
def Sq (K T:Ty):aI->Option (List (K.den×T.den)) | .gi K' T' l=>if h:K'=K/\T'=T then some (h.1▸h.2▸l)else none|_=>none
def Sr:aI->Option Unit | .free=>some ()|_=>none
def Ss:aI->Option Unit | .dead=>some ()|_=>none
def Su:aI->Option (ad×Nat) | .iter s p=>some (s,p)|_=>none
def Sv:aI->Option Unit | .tok=>some ()|_=>none
def aH.dec:(p:aH)->aI->Option p.den
 | .free=>Sr
 | .dead=>Ss
 | .tok=>Sv
 | .iter=>Su
 | .cells ps=>So ps
 | .row T=>Sp T
 | .bA p=>Sn p
 | .gi K T=>Sq K T
theorem aH.B4 (p:aH) {o:aI} {x:p.den} (h:p.dec o=some x):o=p.enc x:=by
 cases p with
 | free=>replace h:Sr o=some x:=h; unfold Sr at h; split at h<;>first|rfl|cases h
 | dead=>replace h:Ss o=some x:=h; unfold Ss at h; split at h<;>first|rfl|cases h
 | tok=>replace h:Sv o=some x:=h; unfold Sv at h; split at h<;>first|rfl|cases h
 | iter=>replace h:Su o=some x:=h; unfold Su at h; split at h<;>first|(cases h; rfl)|cases h
 | cells ps=>
  replace h:So ps o=some x:=h
  unfold So at h;split at h
  ·rename_i cs;show aI.cells cs=.cells (bD.bE ps x);rw[<-bD.qV ps h]
  ·cases h
 | bA p=>
  replace h:Sn p o=some x:=h
  unfold Sn at h;split at h
  ·rename_i v;show aI.bA v=.bA (p.enc x);rw[<-bD.B4 p h]
  ·cases h
 | gi K T=>
  replace h:Sq K T o=some x:=h
  unfold Sq at h;split at h
  ·split at h
   ·rename_i e; obtain ⟨rfl,rfl⟩:=e; cases h; rfl
   ·cases h
  ·cases h
 | row T=>
  replace h:Sp T o=some x:=h
  unfold Sp at h;split at h
  ·split at h
   ·rename_i e; subst e; cases h; rfl
   ·cases h
  ·cases h
def aH.aA:List aH->Type
 | []=>Unit
 | p::ps=>p.den×aH.aA ps
def aH.bE:(ps:List aH)->aH.aA ps->aq
 | [],_=>[]
 | p::ps,(x:p.den×aH.aA ps)=>p.enc x.1::aH.bE ps x.2
def aH.lV:(ps:List aH)->List aI->Option (aH.aA ps)
 | [],[]=>some ()
 | [],_::_=>none
 | _::_,[]=>none
 | p::ps,v::vs=>both (p.dec v) (aH.lV ps vs)
theorem aH.qV:∀(ps:List aH) {vs:List aI} {x:aH.aA ps},aH.lV ps vs=some x->vs=aH.bE ps x
 | [],[],_,_=>rfl
 | [],_::_,_,h=>by cases h
 | _::_,[],_,h=>by cases h
 | p::ps,v::vs,x,h=>by
  obtain ⟨h1,h2⟩:=Kl (a:=p.dec v) (b:=aH.lV ps vs) h;show v::vs=p.enc x.1::aH.bE ps x.2;rw[<-aH.B4 p h1,<-aH.qV ps h2]
theorem aH.ab8:∀(ps:List aH) (x:aH.aA ps),(aH.bE ps x).length=ps.length
 | [],_=>rfl
 | p::ps,x=>by
  show(p.enc x.1::aH.bE ps x.2).length=_;simp[aH.ab8 ps]
section
variable {R:Type} {P:Program} {tt:aZ}
def aL (ps:List ax) (hs:List aH) (run:ax.aA ps->aH.aA hs->(V->aq->Option R)->Option R) (other:Spec R):Spec R:=fun args h k=>
 match ax.lV ps args,aH.lV hs h with
 | some x,some y=>run x y k
 | _,_=>other args h k
def dy:Spec R:=fun _ _ _=>none
theorem iB (g:Nat):Spec.Ok P g (dy:Spec R):=by intro vs h k r hk; cases hk
theorem arT {g:Nat} {ps:List ax} {hs:List aH} {run:ax.aA ps->aH.aA hs->(V->aq->Option R)->Option R} {other own:Spec R} (ho:Spec.Ok P g other) (hw:Spec.GL P g hs.length own)
  (hr:∀x y k,own (ax.bE ps x) (aH.bE hs y) k=run x y k):Spec.Ok P g (aL ps hs run other):=by
 intro vs h k r hk;unfold aL at hk;split at hk
 ·rename_i x y h1 h2;rw[ax.qV ps h1,aH.qV hs h2];rw[<-hr]at hk;exact hw _ _ _ _ (aH.ab8 hs y) hk
 ·exact ho _ _ _ _ hk
def cY (ps:List ax) (hs:List aH) (run:ax.aA ps->aH.aA hs->(Ex->St->Option R)->Option R) (other:bX R):bX R:=fun st K=>
 match ax.lV ps st.fr,aH.lV hs st.hp with
 | some x,some y=>run x y K
 | _,_=>other st K
def dz:bX R:=fun _ _=>none
def As (tt:aZ) (E:Env R) (L:Nat->Option (Hint×bX R)) (m:Nat) (a:Code) (hint:Hint) (ls:bX R):Prop:=
 ∀st (K:Ex->St->Option R) r,ls st K=some r->∃n,pF (gR tt E L m a) (norm m hint) n st (fun e st=>K e (trim m hint st))=some r
theorem dH {E:Env R} {L:Nat->Option (Hint×bX R)} {m:Nat} {a:Code} {hint:Hint}:As tt E L m a hint dz:=by intro st K r hk; cases hk
theorem arU {E:Env R} {L:Nat->Option (Hint×bX R)} {m:Nat} {a:Code} {hint:Hint} {ps:List ax} {hs:List aH} {run:ax.aA ps->aH.aA hs->(Ex->St->Option R)->Option R} {other:bX R} (ho:As tt E L m a hint other)
  (hr:∀x y K,∃n,pF (gR tt E L m a) (norm m hint) n ⟨ax.bE ps x,aH.bE hs y⟩ (fun e st=>K e (trim m hint st))=run x y K):As tt E L m a hint (cY ps hs run other):=by
 intro st K r hk;obtain ⟨fr,hp⟩:=st;unfold cY at hk;simp only at hk;split at hk
 ·rename_i x y h1 h2;rw[ax.qV ps h1,aH.qV hs h2];obtain ⟨n,hn⟩:=hr x y K;exact⟨n,by rw[hn]; exact hk⟩
 ·exact ho _ _ _ hk
def lW (f:Func):Code:=f.body.getD .skip
theorem arV {E:Env R} {L:Nat->Option (Hint×bX R)} {m:Nat} {l:List Code} (n:Nat) (hn:l.length=n) (h:∀i,i<n->sN tt E L m (l.getD i .skip)):∀a∈l,sN tt E L m a:=by
 intro a ha;obtain ⟨i,hi,rfl⟩:=List.mem_iff_getElem.1 ha;have:=h i (by omega);simpa [ca,List.getElem?_eq_getElem hi]using this
theorem dJ {E:Env R} {L:Nat->Option (Hint×bX R)} {m:Nat} {a:Code} {hint:Hint} {ls:bX R} (h:L (keyOf a)=some (hint,ls)) (hs:As tt E L m a hint ls):sN tt E L m a:=by
 intro hint' ls' hl;rw[h]at hl;cases hl;exact hs
def roundOf (tt:aZ) (E:Env R) (L:Nat->Option (Hint×bX R)) (m:Nat) (a:Code) (hint:Hint) (st:St) (aD:St->Option R) (K:Ex->St->Option R):Option R:=
 gR tt E L m a st fun e cx=>match e with | .normal=>aD (norm m hint cx)|e=>K e (trim m hint cx)
theorem arW {E:Env R} {L:Nat->Option (Hint×bX R)} {m:Nat} {a:Code} {hint:Hint} {n:Nat} {st:St} {K:Ex->St->Option R} :
  pF (gR tt E L m a) (norm m hint) (n+1) st (fun e st=>K e (trim m hint st))=roundOf tt E L m a hint st (fun st=>pF (gR tt E L m a) (norm m hint) n st (fun e st=>K e (trim m hint st))) K:=by
 unfold roundOf;simp only[pF];congr 1
end
section
variable {P:Program} {tt:aZ} {w:World} {h:aq} {c:bh}
theorem ab9:∀l:List Value,aQ w h c (l.map ofConst) l
 | []=>.nil
 | v::l=>.cons (aah v) (ab9 l)
def zeroOf (i:TypeInfo):Option (Nat×List V×Bool):=i.zero.map fun z=>(z.cells.size,z.cells.toList.map ofConst,z.oneCell')
def ym (P:Program) (tt:aZ) (t:Nat):Prop:=
 ∃i,P.info? t=some i/\i.size=(tt.at t).size/\i.bytes=(tt.at t).bytes/\zeroOf i=some ((tt.at t).size,(tt.at t).zero, !tt.isAgg t)
theorem ym.spec {t:Nat} (h:ym P tt t):∃i z,P.info? t=some i/\i.size=(tt.at t).size/\i.bytes=(tt.at t).bytes/\i.zero=some z/\z.cells.size=i.size /\
  ∀(w:World) (h:aq) (c:bh),aQ w h c (tt.at t).zero z.cells.toList:=by
 obtain ⟨i,h1,h2,h3,h4⟩:=h;unfold zeroOf at h4;cases hz:i.zero with
 | none=>rw[hz]at h4; cases h4
 | some z=>
  rw[hz]at h4;simp only[Bc,ij,kA]at h4;refine⟨i,z,h1,h2,h3,hz,by rw[h4.1,h2],fun w h c => ?_⟩;rw[<-h4.2.1];exact ab9 _
theorem ym.one {t:Nat} (h:ym P tt t):∀i z,P.info? t=some i->i.zero=some z->z.oneCell'=!tt.isAgg t:=by
 intro i z hi hz;obtain ⟨j,h1,h2,h3,h4⟩:=h;rw[hi]at h1; cases h1;unfold zeroOf at h4;rw[hz]at h4;simp only[Bc,ij,kA]at h4;exact h4.2.2
theorem arX (h:(jZ tt.length).all (fun e=>match (tt.at e).ty with|some (.int .u8)=>kY e dL.u8|_=>true)=true):∀e,(tt.at e).ty=some (.int .u8)->e=dL.u8:=by
 intro e he;by_cases hl:e<tt.length
 ·have:=gF.1 h e (by simpa using hl);rw[he]at this;exact zo this
 ·have:tt.at e=TI.none:=by unfold aZ.at; simp[ca,List.getElem?_eq_none (FL hl)]
  rw[this]at he; cases he
def aca (tt:aZ) (t:Nat):Bool:=kY t dL.bA&&tt.ok t&&(match (tt.at t).zero with | [.fp,.bk]=>true|_=>false)
theorem arY (h:(jZ tt.length).all (fun t=>bif(tt.at t).bA then aca tt t else true)=true):∀t,(tt.at t).bA=true->t=dL.bA/\(tt.at t).zero=[.fp,.bk]/\tt.ok t=true:=by
 intro t ht;by_cases hl:t<tt.length
 ·have:=gF.1 h t (by simpa using hl);rw[ht]at this;simp only[cond_true,aca,bF]at this;obtain ⟨⟨h1,h2⟩,h3⟩:=this;refine⟨zo h1,?_,h2⟩;split at h3
  ·assumption
  ·cases h3
 ·have:tt.at t=TI.none:=by unfold aZ.at; simp[ca,List.getElem?_eq_none (FL hl)]
  rw[this]at ht; cases ht
end
section
variable {P:Program} {tt:aZ} {w:World} {h:aq} {c:bh}
def Au (P:Program) (ty:TypeId) (z:V):Prop:=
 (∃k n,z=.int k n/\P.underlying ty=some (.int k))\/(∃s,z=.str s/\P.underlying ty=some .string)\/(∃b,z=.bool b/\P.underlying ty=some .bool)
theorem Km {ty:TypeId} {z:V} (s:Au P ty z) {xs:Array Value} {j:Nat} {x:Value} (hx:xs[j]? = some x):(part ty xs j).run P w=.ok x w:=by
 rcases s with ⟨k,n,_,hu⟩|⟨n,_,hu⟩|⟨n,_,hu⟩<;>simp[part,Jb,run_underlying hu,hx]
theorem Sw (d:Nat) (xs ys:Array Value):∀(fs:List Field) (zs cs ds:List V) (j:Nat) (b:Bool),(∀i f z,fs[i]? = some f->zs[i]? = some z->f.name ≠ "_" /\ f.offset=j+i/\Au P f.type z)->fs.length=zs.length ->
  fc zs cs=true->fc zs ds=true->kD cs ds=some b->(∀i v,cs[i]? = some v->∃x,xs[j+i]? = some x/\ay w h c v x)->(∀i v,ds[i]? = some v->∃x,ys[j+i]? = some x/\ay w h c v x) ->
  (Bh (d+1) xs ys fs).run P w=.ok b w
 | [],zs,cs,ds,j,b,_,hl,hc,hd,he,_,_=>by
  have:zs=[]:=gH hl.symm;subst this;cases cs with
  | cons=>cases hc
  | nil=>
   cases ds with
   | cons=>cases hd
   | nil=>cases he; simp[Bh]
 | f::fs,[],_,_,_,_,_,hl,_,_,_,_,_=>by cases hl
 | f::fs,z::zs,cs,ds,j,b,hf,hl,hc,hd,he,hx,hy=>by
  obtain ⟨h1,h2,h3⟩:=hf 0 f z rfl rfl;have qP:∀i g y,fs[i]? = some g->zs[i]? = some y->g.name ≠ "_" /\ g.offset=(j+1)+i/\Au P g.type y:=fun i g y hg hy=>by
   have:=hf (i+1) g y (by simpa using hg) (by simpa using hy);exact⟨this.1,by omega,this.2.2⟩
  have pI:fs.length=zs.length:=by simpa using hl
  cases cs with
  | nil=>cases z<;>cases hc
  | cons c0 cs=>
   cases ds with
   | nil=>cases z<;>cases hd
   | cons d0 ds=>
    obtain ⟨x,yn,rx⟩:=hx 0 c0 rfl;obtain ⟨y,Ef,ry⟩:=hy 0 d0 rfl;have lU:∀i v,cs[i]? = some v->∃x,xs[(j+1)+i]? = some x/\ay w h c v x:=fun i v hv=>by
     obtain ⟨x,q1,q2⟩:=hx (i+1) v (by simpa using hv);exact⟨x,by rw[<-q1]; congr 1; omega,q2⟩
    have RS:∀i v,ds[i]? = some v->∃x,ys[(j+1)+i]? = some x/\ay w h c v x:=fun i v hv=>by
     obtain ⟨x,q1,q2⟩:=hy (i+1) v (by simpa using hv);exact⟨x,by rw[<-q1]; congr 1; omega,q2⟩
    have p1:=Km (w:=w) h3 yn;have p2:=Km (w:=w) h3 Ef;have fin:∀(r:Bool),(uY (d+1) f.type x y).run P w=.ok r w->∀b',kD cs ds=some b'->fc zs cs=true->fc zs ds=true->b=(r&&b')->(Bh (d+1) xs ys (f::fs)).run P w=.ok b w:=by
     intro r hr b' bI kc kd hb;subst hb;have ih:=Sw d xs ys fs zs cs ds (j+1) b' qP pI kc kd bI lU RS;simp only[Bh,h1,ne_eq,not_false_eq_true,if_true,gZ,h2,zk,p1,p2,hG,hr];simp only[zk]at p1 p2;simp only[p1,p2,hG,hr];cases r with
     | true=>simpa using ih
     | false=>simp
    rcases h3 with ⟨k,n,rfl,hu⟩|⟨s,rfl,hu⟩|⟨q,rfl,hu⟩
    ·cases c0 with
     | int k1 n1=>
      cases d0 with
      | int k2 n2=>
       simp only[fc,bF,decide_eq_true_eq]at hc hd;obtain ⟨rfl,hc⟩:=hc;obtain ⟨rfl,hd⟩:=hd;cases rx;cases ry;simp only[kD,if_true]at he;split at he
       ·rename_i b' bI;cases he;exact fin _ (run_equalIn_int w d _ _ _ _ _ hu) b' bI hc hd rfl
       ·cases he
      | _=>simp[fc]at hd
     | _=>simp[fc]at hc
    ·cases c0 with
     | str s1=>
      cases d0 with
      | str s2=>
       simp only[fc]at hc hd;cases rx;cases ry;simp only[kD]at he;split at he
       ·rename_i b' bI;cases he;refine fin _ (run_equalIn_string w d _ _ _ hu) b' bI hc hd ?_;congr 1;simp only[ByteArray.toList_eq]
       ·cases he
      | _=>simp[fc]at hd
     | _=>simp[fc]at hc
    ·cases c0 with
     | bool s1=>
      cases d0 with
      | bool s2=>
       simp only[fc]at hc hd;cases rx;cases ry;simp only[kD]at he;split at he
       ·rename_i b' bI;cases he;exact fin _ (run_equalIn_bool' w d _ _ _ hu) b' bI hc hd rfl
       ·cases he
      | _=>simp[fc]at hd
     | _=>simp[fc]at hc
def acb (P:Program) (ty:TypeId) (g:List V):Prop:=
 P.underlying ty=some (.struct (P.fieldsOf ty))/\P.stoodInHeld ty=false/\(∃i,P.info? ty=some i)/\P.cellsOf ty=g.length/\(P.fieldsOf ty).toList.length=g.length /\
  ∀i f z,(P.fieldsOf ty).toList[i]? = some f->g[i]? = some z->f.name ≠ "_" /\ f.offset=0+i/\Au P f.type z
def Kn (P:Program):List Field->List (List V)->Nat->Prop
 | [],[],_=>True
 | f::fs,g::gs,j=>f.name ≠ "_" /\ f.offset=j/\((∃z,g=[z]/\Au P f.type z)\/acb P f.type g)/\Kn P fs gs (j+g.length)
 | _,_,_=>False
theorem Sx:∀ {zs cs:List V},fc zs cs=true->cs.length=zs.length
 | [],[],_=>rfl
 | [],_::_,h=>by cases h
 | z::_,[],h=>by cases z<;>cases h
 | z::zs,c::cs,h=>by
  have:fc zs cs=true:=by
   cases z<;>cases c<;>simp[fc]at h
   ·exact h.2
   ·exact h
   ·exact h
  simp[Sx this]
theorem Sy:∀ {g zs cs:List V},fc (g++zs) cs=true->fc g (cs.take g.length)=true/\fc zs (cs.drop g.length)=true
 | [],zs,cs,h=>by simpa [fc]using h
 | z::g,zs,[],h=>by cases z<;>cases h
 | z::g,zs,c::cs,h=>by
  have key:fc (g++zs) cs=true:=by
   cases z<;>cases c<;>simp[fc]at h
   ·exact h.2
   ·exact h
   ·exact h
  obtain ⟨h1,h2⟩:=Sy key;refine⟨?_,by simpa using h2⟩;simp only[bj,FT];cases z<;>cases c<;>simp[fc]at h ⊢
  ·exact⟨h.1,h1⟩
  ·exact h1
  ·exact h1
theorem Ko:∀(n:Nat) {cs ds:List V} {b:Bool},kD cs ds=some b->n<=cs.length->∃b1 b2,kD (cs.take n) (ds.take n)=some b1/\kD (cs.drop n) (ds.drop n)=some b2/\b=(b1&&b2)
 | 0,cs,ds,b,h,_=>⟨true,b,by simp[kD],by simpa using h,by simp⟩
 | n+1,[],_,_,_,hn=>by simp at hn
 | n+1,c::cs,[],b,h,_=>by cases c<;>cases h
 | n+1,c::cs,d::ds,b,h,hn=>by
  have mz:n<=cs.length:=by simpa using hn
  simp only[FT,Pr];cases c<;>cases d<;>simp only[kD]at h ⊢ <;> (try cases h)
  ·split at h
   ·rename_i e;rw[if_pos e];split at h
    ·rename_i r hr;cases h;obtain ⟨b1,b2,h1,h2,h3⟩:=Ko n hr mz;rw[h1];exact⟨_,b2,rfl,h2,by rw[h3,Dn]⟩
    ·cases h
   ·cases h
  ·split at h
   ·rename_i r hr;cases h;obtain ⟨b1,b2,h1,h2,h3⟩:=Ko n hr mz;rw[h1];exact⟨_,b2,rfl,h2,by rw[h3,Dn]⟩
   ·cases h
  ·split at h
   ·rename_i r hr;cases h;obtain ⟨b1,b2,h1,h2,h3⟩:=Ko n hr mz;rw[h1];exact⟨_,b2,rfl,h2,by rw[h3,Dn]⟩
   ·cases h
theorem acd {ty:TypeId} {g:List V} (s:acb P ty g) {xs:Array Value} {j:Nat}:(part ty xs j).run P w=.ok (.agg (xs.extract j (j+g.length))) w:=by
 obtain ⟨h1,_,⟨i,h3⟩,h4,_⟩:=s;have hs:(sizeOf ty).run P w=.ok g.length w:=by
  have:P.cellsOf ty=i.size:=by simp[Program.cellsOf,h3]
  rw[<-h4,this];simp[sizeOf,typeInfo,h3]
 simp[part,Jb,run_underlying h1,hs]
theorem eqG (d:Nat) (xs ys:Array Value):∀(fs:List Field) (gs:List (List V)) (cs ds:List V) (j:Nat) (b:Bool),Kn P fs gs j->fc gs.flatten cs=true->fc gs.flatten ds=true->kD cs ds=some b ->
  (∀i v,cs[i]? = some v->∃x,xs[j+i]? = some x/\ay w h c v x)->(∀i v,ds[i]? = some v->∃x,ys[j+i]? = some x/\ay w h c v x)->(Bh (d+2) xs ys fs).run P w=.ok b w
 | [],[],cs,ds,j,b,_,hc,hd,he,_,_=>by
  cases cs with
  | cons=>cases hc
  | nil=>
   cases ds with
   | cons=>cases hd
   | nil=>cases he; simp[Bh]
 | [],_::_,_,_,_,_,hn,_,_,_,_,_=>by cases hn
 | _::_,[],_,_,_,_,hn,_,_,_,_,_=>by cases hn
 | f::fs,g::gs,cs,ds,j,b,hn,hc,hd,he,hx,hy=>by
  obtain ⟨n1,n2,n3,n4⟩:=hn;rw[ZP]at hc hd;obtain ⟨c1,c2⟩:=Sy hc;obtain ⟨d1,d2⟩:=Sy hd;have lc:=Sx hc;have ld:=Sx hd;rw[bf]at lc ld;obtain ⟨b1,b2,e1,e2,rfl⟩:=Ko g.length he (by omega);have behind:∀ {cs:List V} {xs:Array Value},(∀i v,cs[i]? = some v->∃x,xs[j+i]? = some x/\ay w h c v x)->∀i v,(cs.drop g.length)[i]? = some v->∃x,xs[(j+g.length)+i]? = some x/\ay w h c v x:=by
   intro cs xs hx i v hv;rw[List.getElem?_drop]at hv;obtain ⟨x,q1,q2⟩:=hx _ v hv;exact⟨x,by rw[<-q1]; congr 1; omega,q2⟩
  have ih:=eqG d xs ys fs gs _ _ (j+g.length) b2 n4 c2 d2 e2 (behind hx) (behind hy)
  
  have key:∃x y,(part f.type xs j).run P w=.ok x w/\(part f.type ys j).run P w=.ok y w/\(uY (d+2) f.type x y).run P w=.ok b1 w:=by
   rcases n3 with ⟨z,rfl,hz⟩|hF
   ·
    cases cs with
    | nil=>simp only[cu,bj]at lc; omega
    | cons c0 cs=>
     cases ds with
     | nil=>simp only[cu,bj]at ld; omega
     | cons d0 ds=>
      simp only[bj,cu,mq,FT,List.take_zero]at c1 d1 e1;obtain ⟨x,yn,rx⟩:=hx 0 c0 rfl;obtain ⟨y,Ef,ry⟩:=hy 0 d0 rfl;rw[zk]at yn Ef;refine⟨x,y,Km hz yn,Km hz Ef,?_⟩;rcases hz with ⟨k,n,rfl,hu⟩|⟨s,rfl,hu⟩|⟨q,rfl,hu⟩
      ·cases c0<;>simp[fc]at c1;cases d0<;>simp[fc]at d1;subst c1 d1;cases rx;cases ry;simp only[kD,if_true,ij]at e1;subst e1;rw[qD];exact run_equalIn_int w (d+1) _ _ _ _ _ hu
      ·cases c0<;>simp[fc]at c1;cases d0<;>simp[fc]at d1;cases rx;cases ry;simp only[kD,ij]at e1;subst e1;rw[qD];refine(run_equalIn_string w (d+1) f.type _ _ hu).trans ?_;congr 1;simp only[ByteArray.toList_eq]
      ·cases c0<;>simp[fc]at c1;cases d0<;>simp[fc]at d1;cases rx;cases ry;simp only[kD,ij]at e1;subst e1;rw[qD];exact run_equalIn_bool' w (d+1) _ _ _ hu
   ·refine⟨_,_,acd hF,acd hF,?_⟩;obtain ⟨h1,h2,h3,h4,h5,h6⟩:=hF;rw[run_equalIn_struct w (d+1) f.type _ _ h1 h2];have at0:∀ {cs:List V} {xs:Array Value},(∀i v,cs[i]? = some v->∃x,xs[j+i]? = some x/\ay w h c v x)->∀i v,(cs.take g.length)[i]? = some v->∃x,(xs.extract j (j+g.length))[0+i]? = some x/\ay w h c v x:=by
     intro cs xs hx i v hv;have hi:i<g.length:=by
      have:=(List.getElem?_eq_some_iff.1 hv).1;rw[eP]at this;omega
     rw[List.getElem?_take_of_lt hi]at hv;obtain ⟨x,q1,q2⟩:=hx i v hv;refine⟨x,?_,q2⟩;rw[mq,Array.getElem?_extract];have bL:j+i<xs.size:=(Array.getElem?_eq_some_iff.1 q1).1;rw[if_pos (by omega),q1]
    exact Sw d _ _ _ _ _ _ 0 b1 h6 h5 c1 d1 e1 (at0 hx) (at0 hy)
  obtain ⟨x,y,p1,p2,hr⟩:=key;simp only[Bh,n1,ne_eq,not_false_eq_true,if_true,gZ,n2,p1,p2,hG,hr];cases b1 with
  | true=>simpa using ih
  | false=>simp
def Sz (e:TypeId) (i:Nat):Field:=⟨"x",e,i,false, "", "",0⟩
theorem ace (d:Nat) (e:TypeId) (xs ys:Array Value):∀is:List Nat,Op.eqItems d e 1 xs ys is=Bh d xs ys (is.map (Sz e))
 | []=>rfl
 | i::is=>by
  have ih:=ace d e xs ys is;have hn:("x" : String) ≠ "_" :=by decide
  simp only[Op.eqItems,kz,Bh,Sz,Nat.mul_one,ih];simp only[hn,ne_eq,not_false_eq_true,if_true]
def acf (P:Program) (zero:List V) (t:Nat):Prop:=
 ∃e i,P.underlying t=some (.array zero.length e)/\P.info? e=some i/\P.cellsOf e=1/\∀z∈zero,Au P e z
theorem arZ {t:Nat} {zero cs ds:List V} (ha:acf P zero t) (d:Nat) {xs ys:Array Value} {b:Bool} (hc:fc zero cs=true) (hd:fc zero ds=true) (he:kD cs ds=some b)
  (hx:∀i v,cs[i]? = some v->∃x,xs[0+i]? = some x/\ay w h c v x) (hy:∀i v,ds[i]? = some v->∃x,ys[0+i]? = some x/\ay w h c v x):(uY (d+2) t (.agg xs) (.agg ys)).run P w=.ok b w:=by
 obtain ⟨e,i,h1,h2,h3,h4⟩:=ha;rw[run_equalIn_array w (d+1) xs ys h1 h2,h3,ace];refine Sw d xs ys _ zero cs ds 0 b (fun j f z hf hz => ?_) (by simp) hc hd he hx hy;rw[List.getElem?_map]at hf;have hj:j<zero.length:=(List.getElem?_eq_some_iff.1 hz).1;rw[List.getElem?_range hj,Bc,ij]at hf;subst hf;exact⟨show("x" : String) ≠ "_" by decide,by simp[Sz],h4 z (List.mem_of_getElem? hz)⟩
def Av (P:Program) (tt:aZ) (t:Nat):Prop:=
 P.eqGuardType P.depth t=false/\((P.underlying t=some (.struct (P.fieldsOf t))/\P.stoodInHeld t=false/\∃gs,gs.flatten=(tt.at t).zero/\Kn P (P.fieldsOf t).toList gs 0)\/acf P (tt.at t).zero t)
def GW (P:Program) (ty:TypeId):V->Bool
 | .int k _=>(match P.underlying ty with|some (.int k')=>decide (k'=k)|_=>false)
 | .str _=>(match P.underlying ty with|some .string=>true|_=>false)
 | .bool _=>(match P.underlying ty with|some .bool=>true|_=>false)
 | _=>false
theorem SA {ty:TypeId} {z:V} (h:GW P ty z=true):Au P ty z:=by
 unfold GW at h;split at h
 ·split at h
  ·rename_i k n _ k' hu;have e:k'=k:=by simpa using h
   subst e;exact .inl ⟨_,_,rfl,hu⟩
  ·cases h
 ·split at h
  ·rename_i hu; exact .inr (.inl ⟨_,rfl,hu⟩)
  ·cases h
 ·split at h
  ·rename_i hu; exact .inr (.inr ⟨_,rfl,hu⟩)
  ·cases h
 ·cases h
def Kp (P:Program):List Field->List V->Nat->Bool
 | [],[],_=>true
 | f::fs,z::zs,j=>decide (f.name ≠ "_")&&decide (f.offset=j)&&GW P f.type z&&Kp P fs zs (j+1)
 | _,_,_=>false
theorem acg:∀(fs:List Field) (zs:List V) (j:Nat),Kp P fs zs j=true->fs.length=zs.length/\∀i f z,fs[i]? = some f->zs[i]? = some z->f.name ≠ "_" /\ f.offset=j+i/\Au P f.type z
 | [],[],_,_=>⟨rfl,fun i f z h=>by simp at h⟩
 | [],_::_,_,h=>by cases h
 | _::_,[],_,h=>by cases h
 | f::fs,z::zs,j,h=>by
  simp only[Kp,bF,decide_eq_true_eq]at h;obtain ⟨⟨⟨h1,h2⟩,h3⟩,h4⟩:=h;obtain ⟨g1,g2⟩:=acg fs zs (j+1) h4;refine⟨by simp[g1],fun i g y hg hy => ?_⟩;cases i with
  | zero=>
   simp at hg hy;subst hg; subst hy;exact⟨h1,h2,SA h3⟩
  | succ i=>
   obtain ⟨q1,q2,q3⟩:=g2 i g y (by simpa using hg) (by simpa using hy);exact⟨q1,by omega,q3⟩
def ach (P:Program) (ty:TypeId) (g:List V):Bool:=
 (match P.info? ty with|some _=>true|none=>false)&&kY (P.cellsOf ty) g.length&&!P.stoodInHeld ty&&Kp P (P.fieldsOf ty).toList g 0
def Eg (P:Program):List Field->List V->Nat->Bool
 | [],zs,_=>zs.isEmpty
 | f::fs,zs,j=>
  decide (f.name ≠ "_")&&decide (f.offset=j) &&
   (match P.underlying f.type with
    | some (.struct fl)=>ach P f.type (zs.take fl.size)&&Eg P fs (zs.drop fl.size) (j+fl.size)
    | _=>(match zs with|z::zr=>GW P f.type z&&Eg P fs zr (j+1) | []=>false))
theorem SB:∀(fs:List Field) (zs:List V) (j:Nat),Eg P fs zs j=true->∃gs:List (List V),gs.flatten=zs/\Kn P fs gs j
 | [],zs,j,h=>⟨[],by simpa [Eg]using h.symm,trivial⟩
 | f::fs,zs,j,h=>by
  simp only[Eg,bF,decide_eq_true_eq]at h;obtain ⟨⟨h1,h2⟩,h3⟩:=h;split at h3
  ·rename_i fl hu;rw[bF]at h3;obtain ⟨g1,g2⟩:=h3;have JK:P.fieldsOf f.type=fl:=by simp[Program.fieldsOf,hu]
   obtain ⟨gs,e1,e2⟩:=SB fs _ _ g2;unfold ach at g1;simp only[bF,xx]at g1;obtain ⟨⟨⟨k1,k2⟩,k3⟩,k4⟩:=g1;obtain ⟨q1,q2⟩:=acg _ _ _ k4;have hlen:(zs.take fl.size).length=fl.size:=by rw[<-q1,JK]; simp
   refine⟨zs.take fl.size::gs,by rw[ZP,e1,Dk],h1,h2,.inr ⟨by rw[JK]; exact hu,k3,?_,zo k2,q1,q2⟩,by rw[hlen]; exact e2⟩;cases hi:P.info? f.type with
   | none=>rw[hi]at k1; cases k1
   | some i=>exact⟨i,rfl⟩
  ·split at h3
   ·rename_i z zr;rw[bF]at h3;obtain ⟨gs,e1,e2⟩:=SB fs _ _ h3.2;exact⟨[z]::gs,by rw[ZP,e1]; rfl,h1,h2,.inl ⟨z,rfl,SA h3.1⟩,e2⟩
   ·cases h3
theorem Av.of {t:Nat} (h1:P.underlying t=some (.struct (P.fieldsOf t))) (h2:P.stoodInHeld t=false) (h3:P.eqGuardType P.depth t=false) (h4:Eg P (P.fieldsOf t).toList (tt.at t).zero 0=true):Av P tt t:=
 ⟨h3,.inl ⟨h1,h2,SB _ _ _ h4⟩⟩
def aci (P:Program) (e:TypeId) (zero:List V):Bool:=(match P.info? e with|some _=>true|none=>false)&&kY (P.cellsOf e) 1&&zero.all (GW P e)
theorem Av.acj {t e:Nat} (h1:P.underlying t=some (.array (tt.at t).zero.length e)) (h3:P.eqGuardType P.depth t=false) (h4:aci P e (tt.at t).zero=true):Av P tt t:=by
 unfold aci at h4;simp only[bF]at h4;obtain ⟨⟨g1,g2⟩,g3⟩:=h4;refine⟨h3,.inr ?_⟩;cases hi:P.info? e with
 | none=>rw[hi]at g1; cases g1
 | some i=>exact⟨e,i,h1,hi,zo g2,fun z hz=>SA (gF.1 g3 z hz)⟩
theorem ar0 {i:TI} {a b:List V} (h:xI i a b=true):i.eq=true:=by
 unfold xI at h;simp only[bF]at h;exact h.1.1
theorem ar1 {t:Nat} (e:Av P tt t) {cs ds:List V} {xs ys:Array Value} {b:Bool} (hk:xI (tt.at t) cs ds=true) (rx:aQ w h c cs xs.toList) (ry:aQ w h c ds ys.toList) (hb:kD cs ds=some b) :
  P.eqGuardType P.depth t=false/\(uY 10000 t (.agg xs) (.agg ys)).run P w=.ok b w:=by
 obtain ⟨e3,e⟩:=e;refine⟨e3,?_⟩;unfold xI at hk;simp only[bF]at hk;have get:∀ {cs:List V} {xs:Array Value},aQ w h c cs xs.toList->∀i v,cs[i]? = some v->∃x,xs[0+i]? = some x/\ay w h c v x:=by
  intro cs xs r i v hv;have hi:=(List.getElem?_eq_some_iff.1 hv).1;have hl:i<xs.size:=by have:=r.1; simp at this; omega
  refine⟨xs[i],by simp[hl],r.2 i v _ hv (by simp[hl])⟩
 rcases e with ⟨e1,e2,gs,e4,e5⟩|e
 ·rw[run_equalIn_struct w 9999 t xs ys e1 e2];exact eqG 9997 xs ys _ gs cs ds 0 b e5 (by rw[e4]; exact hk.1.2) (by rw[e4]; exact hk.2) hb (get rx) (get ry)
 ·exact arZ e 9998 hk.1.2 hk.2 hb (get rx) (get ry)
end
section
variable {R:Type} {P:Program} {tt:aZ}
mutual
def Json.depth:Json->Nat
 | ⟨_,_,_,_,l⟩=>Json.tR l+1
def Json.tR:List Json->Nat
 | []=>0
 | x::l=>max x.depth (Json.tR l)
end
mutual
def Raw.depth:Raw->Nat
 | ⟨_,_,_,_,l⟩=>Raw.tR l+1
def Raw.tR:List Raw->Nat
 | []=>0
 | x::l=>max x.depth (Raw.tR l)
end
def au.fu (x:au):Nat:=x.aj.natAbs+x.exp.natAbs
def Json.fu (x:Json):Nat:=x.text.length+x.names.length+x.items.length
def Raw.fu (x:Raw):Nat:=x.text.length+x.items.length
def vn.fu (x:vn):Nat:=x.kind.natAbs+x.aj.natAbs+x.exp.natAbs+x.text.length
def vo.fu (x:vo):Nat:=x.name.length
def vp.fu (x:vp):Nat:=x.topic.length+x.data.length
def Token.fu (x:Token):Nat:=x.text.length
def Stop.fu (x:Stop):Nat:=0
def Way.fu (x:Way):Nat:=0
def Order.fu (x:Order):Nat:=x.header.natAbs+x.bW.length+x.order.natAbs+x.update.natAbs+x.nodes.length+x.pC.length
def Edge.fu (x:Edge):Nat:=0
def vq.fu (x:vq):Nat:=x.nodes.natAbs+x.pC.length
def vu.fu (x:vu):Nat:=x.Z6.length+x.Z7.length+x.kind.length
def State.fu (x:State):Nat:=x.header.natAbs+x.bC.natAbs+x.bW.length+x.order.natAbs+x.update.natAbs+x.node.natAbs+x.seq.natAbs+x.accepted.natAbs
def vv.fu (x:vv):Nat:=x.bW.length+x.header.natAbs+x.order.natAbs+x.update.natAbs+x.bC.natAbs+x.seen.natAbs+x.path.length+x.seq.natAbs+x.rel.natAbs+x.pending.header.natAbs+x.pending.bW.length+x.pending.order.natAbs+x.pending.update.natAbs+x.pending.nodes.length+x.pending.pC.length
def vw.fu (x:vw):Nat:=x.kind.natAbs+x.i.natAbs+x.k.natAbs+x.Z8.natAbs+x.data.length
def sr.fu (x:sr):Nat:=x.header.natAbs+x.order.natAbs+x.update.natAbs+x.seq.natAbs+x.from_.natAbs+x.tF.natAbs+x.turns.length
def vy.fu (x:vy):Nat:=x.kind.natAbs+x.o.header.natAbs+x.o.order.natAbs+x.o.update.natAbs+x.o.seq.natAbs+x.o.from_.natAbs+x.o.tF.natAbs+x.o.turns.length+x.data.length
def vz.fu (x:vz):Nat:=x.kind.natAbs+x.n.natAbs+x.turns.length
def vA.fu (x:vA):Nat:=x.a.natAbs+x.b.natAbs+x.c.natAbs
def ss.fu (x:ss):Nat:=x.a.natAbs+x.b.natAbs
def vB.fu (x:vB):Nat:=x.a.aj.natAbs+x.a.exp.natAbs+x.b.aj.natAbs+x.b.exp.natAbs
def vC.fu (x:vC):Nat:=x.name.length+x.home.natAbs
def vD.fu (x:vD):Nat:=x.id.natAbs+x.target.natAbs+x.state.natAbs+x.bW.natAbs
def vE.fu (x:vE):Nat:=x.kind.natAbs+x.Z9.length+x.text.length
theorem B5 (rs:List Ty) (t:Nat):∃b,(tt.mode rs).at t = { tt.at t with Dw:=b }:=by
 unfold aZ.mode aZ.at;simp only[ca,List.getElem?_map];cases tt[t]? with
 | none=>exact⟨false,rfl⟩
 | some i=>exact⟨_,rfl⟩
theorem SC (rs:List Ty) (t:Nat):(tt.mode rs).ok t=tt.ok t:=by
 obtain ⟨b,h⟩:=B5 (tt:=tt) rs t;unfold aZ.ok;rw[h]
theorem cF.mode (T:cF P tt) (rs:List Ty):cF P (tt.mode rs) where
 Gh:=fun t=>by obtain ⟨b,h⟩:=B5 (tt:=tt) rs t; rw[h]; exact T.Gh t
 info:=fun t ht=>by
  rw[SC]at ht;obtain ⟨b,h⟩:=B5 (tt:=tt) rs t;rw[h];exact T.info t ht
 eqs:=fun t w h c cs ds xs ys b hk=>by
  obtain ⟨b',h'⟩:=B5 (tt:=tt) rs t;rw[h']at hk;exact T.eqs t w h c cs ds xs ys b hk
 Jz:=fun e he=>by
  obtain ⟨b,h⟩:=B5 (tt:=tt) rs e;rw[h]at he;exact T.Jz e he
 QB:=fun t ht=>by
  obtain ⟨b,h⟩:=B5 (tt:=tt) rs t;rw[h]at ht;rw[SC,h];exact T.QB t ht
 QC:=fun t ht=>by
  rw[SC]at ht;obtain ⟨b,h⟩:=B5 (tt:=tt) rs t;have e:(tt.mode rs).isAgg t=tt.isAgg t:=by unfold aZ.isAgg; rw[h]
  rw[e];exact T.QC t ht
theorem ack {D:Type} {E:Env R} {L:Nat->Option (Hint×bX R)} {m:Nat} {a:Code} {hint:Hint} (enc:D->St)
  (s:(Ex->St->Option R)->(D->Option R)->D->Option R) (A:(Ex->St->Option R)->Nat->D->Option R)
  (h0:∀K d,A K 0 d=none)
  (hB:∀K aD d,roundOf tt E L m a hint (enc d) aD K=s K (fun d=>aD (enc d)) d)
  (hA:∀K n d,A K (n+1) d=s K (A K n) d) (K:Ex->St->Option R) :
  ∀n d,pF (gR tt E L m a) (norm m hint) n (enc d) (fun e st=>K e (trim m hint st))=A K n d
 | 0,d=>(h0 K d).symm
 | n+1,d=>by
  rw[arW,hB,hA];exact congrArg (fun q=>s K q d) (funext fun d=>ack enc s A h0 hB hA K n d)
theorem ar2 {D:Type} {E:Env R} {L:Nat->Option (Hint×bX R)} {m:Nat} {a:Code} {hint:Hint} {ps:List ax} {hs:List aH}
  {run:ax.aA ps->aH.aA hs->(Ex->St->Option R)->Option R} {other:bX R} {enc:D->St} {A:(Ex->St->Option R)->Nat->D->Option R}
  (ho:As tt E L m a hint other)
  (tie:∀K n d,pF (gR tt E L m a) (norm m hint) n (enc d) (fun e st=>K e (trim m hint st))=A K n d)
  (fuel:ax.aA ps->aH.aA hs->Nat) (Eh:ax.aA ps->aH.aA hs->D)
  (SD:∀x y,(⟨ax.bE ps x,aH.bE hs y⟩:St)=enc (Eh x y))
  (cS:∀x y K,run x y K=A K (fuel x y) (Eh x y)):As tt E L m a hint (cY ps hs run other):=
 arU ho fun x y K=>⟨fuel x y,by rw[SD,cS]; exact tie K _ _⟩
theorem Aw {g:Nat} {ps:List ax} {hs:List aH} {run:Nat->ax.aA ps->aH.aA hs->(V->aq->Option R)->Option R} {other:Spec R}
  (fuel:ax.aA ps->aH.aA hs->Nat) (ho:Spec.Ok P g other)
  (h:∀n,Spec.Ok P g (aL ps hs (run n) dy)):Spec.Ok P g (aL ps hs (fun x y k=>run (fuel x y) x y k) other):=by
 intro vs hp k r hk;unfold aL at hk;split at hk
 ·rename_i x y h1 h2;refine h (fuel x y) vs hp k r ?_;unfold aL;rw[h1,h2];exact hk
 ·exact ho _ _ _ _ hk
theorem ar3 (T:cF P tt) (hm:P.follows .mixedOrders=true) {E:Env R} (hE:nf P E) {g:Nat} {fn:Func} {code:Code} (eQ:Bool) (hf:P.funcs[g]? = some fn) (hb:fn.body=some code)
  (hn:(fn.name == "runtime.NumGoroutine")=false) (hr:fn.results.size=fn.resultTypes.size):Spec.Ok P g (nV tt E (fun _=>none) eQ fn code):=fun vs h k r hk=>
 ab7 T hm hE hf hb hn hr h.length (fun a _ hint ls hL=>by cases hL) vs h k r rfl hk
theorem yo {g:Nat} {ps:List ax} {hs:List aH} {run:Nat->ax.aA ps->aH.aA hs->(V->aq->Option R)->Option R}
  (h0:∀x y k,run 0 x y k=none)
  (GX:∀n,Spec.Ok P g (aL ps hs (run n) dy)->Spec.Ok P g (aL ps hs (run (n+1)) dy)):∀n,Spec.Ok P g (aL ps hs (run n) dy)
 | 0=>by
  intro vs hp k r hk;unfold aL at hk;split at hk
  ·rw[h0]at hk; cases hk
  ·cases hk
 | n+1=>GX n (yo h0 GX n)
theorem Ax {g:Nat} {ps:List ax} {hs:List aH} {run run':ax.aA ps->aH.aA hs->(V->aq->Option R)->Option R} {other:Spec R}
  (h:Spec.Ok P g (aL ps hs run other)) (e:run'=run):Spec.Ok P g (aL ps hs run' other):=e▸h
end
abbrev fX (s:ad):List Int:=Bm s
end Go.ak
end
