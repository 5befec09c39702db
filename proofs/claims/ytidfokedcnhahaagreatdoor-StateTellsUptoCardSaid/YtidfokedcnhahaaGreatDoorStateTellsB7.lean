/-
  StateTells, part 7 of 10.
-/
import Derived.Lib.ValidLaws
import Derived.Lib.MapLaws
import Derived.Lib.TrimUEq
import Derived.Lib.RuneBytes
import Derived.KernelRfl
import Derived.Lib.ItoaMem
import Derived.Test.YtidfokedcnhahaaGreatDoorStateTellsB6
set_option linter.unusedSimpArgs false
set_option linter.unusedVariables false
open BitVec renaming ofInt->aJ
open Bool renaming and_eq_false_iff->Z1,and_eq_true->bF,and_self->Jk,cond_self->Dq,false_and->lu,false_eq_true->jy,not_eq_true'->xx,not_false->iq,not_true->cE,or_eq_true->je,true_and->oJ
open Go.IntKind renaming bits->kv,has->mV,i32->eI,i64->ae,max->nP,min->nO,signed->ku,u32->bz,u64->cO,u8->aM,wrap->FM
open Go.Proofs.Tryz renaming f175->FX,prog->ao
open Int renaming fdiv->fb,fdiv_eq_ediv_of_nonneg->Pg,le_of_lt->Ph,mul_assoc->zE,mul_tmod_left->Jl,natAbs->ah,natAbs_mul->PQ,pow_pos->Pf,pow_succ->tE,tdiv->pz,tmod->bK,toNat_natCast->cM
open List renaming append_nil->oK,cons_append->gg,contains_cons->nR,drop_eq_getElem_cons->im,drop_eq_nil_of_le->gQ,drop_zero->fV,eq_nil_of_length_eq_zero->gH,getD->ca,getD_cons_succ->Z0,getD_cons_zero->ZZ,getElem_mem->jd,isPrefixOf->PS,length->av,length_append->bf,length_cons->bj,length_drop->ct,length_map->oH,length_nil->cu,length_take->eP,map->cU,map_append->ZO,map_congr_left->xy,map_cons->kz,map_map->Jf,map_nil->sq,mem_append->fU,mem_cons->eJ,mem_singleton->pA,nil_append->jf,not_mem_nil->Dp,replicate->jx,take_append_drop->Dk,take_of_length_le->sk,take_succ_cons->FT
open Nat renaming add_sub_cancel->FY,le_mul_of_pos_right->FR,le_refl->cD,le_trans->pw,lt_or_ge->mo,min_eq_left->PR,mod_eq_of_lt->u6,mod_lt->xA,mul_comm->u7,pow_le_pow_right->zF,pow_succ->Bk,sub_zero->vl,zero_add->mq
open Option renaming bind_some->sj,getD_some->Bb
open UInt8 renaming ofNat->bl,toNat_lt->fa
noncomputable section
namespace Go.Proofs.YtidfokedcnhahaaGreatDoor.Pu
open Go Go.ak
def cy (x:Json):Prop:=∀c∈Ty.cells .json x,Small 1099511627776 c
theorem cy.text {x:Json} (h:cy x):x.text.length<=1099511627776:=(h (.str x.text) (by simp[Ty.cells])).gJ
theorem cy.names {x:Json} (h:cy x):x.names.length<=1099511627776:=(h (.sl .str x.names .no) (by simp[Ty.cells])).vP.1
theorem cy.items {x:Json} (h:cy x):x.items.length<=1099511627776:=(h (.sl .json x.items .no) (by simp[Ty.cells])).vP.1
theorem cy.item {x:Json} (h:cy x) {y:Json} (hy:y∈x.items):cy y:=(h (.sl .json x.items .no) (by simp[Ty.cells])).vP.2 y hy
theorem ahh {R:Type} {a b:Option R} (h:a=b):Bx a b=b:=by subst h; unfold Bx; rw[if_pos rfl]
theorem ay0 {R:Type} (l:List ad) (hl:l.length<=1099511627776) (k:List ad->Option R):pX l k=k l:=by
 unfold pX TK;have h:decide ((0+l.length)*16<=140737488355328)=true:=by simp; omega
 rw[aw h];cases l with
 | nil=>exact ahh rfl
 | cons a l=>rfl
theorem ay1 {R:Type} (l:List Json) (hl:l.length<=1099511627776) (k0:Option R) (k1:Nat->List Json->Option R) (h0:l=[]->k0=k1 0 []):pY l k0 k1=k1 l.length l:=by
 unfold pY TM;have h:decide ((0+l.length)*88<=140737488355328)=true:=by simp; omega
 rw[aw h,mq];cases l with
 | nil=>exact ahh (h0 rfl)
 | cons a l=>rfl
theorem ay2 {l:List Json} {y:Json} (h:y∈l):y.depth<=Json.tR l:=by
 induction l with
 | nil=>cases h
 | cons a l ih=>
  simp only[Json.tR];rcases eJ.1 h with rfl|h
  ·exact Nat.le_max_left _ _
  ·exact pw (ih h) (Nat.le_max_right _ _)
theorem ay3 (x:Json):x.depth=Json.tR x.items+1:=by cases x; simp[Json.depth]
theorem ay4 {x y:Json} (h:y∈x.items):y.depth<x.depth:=by rw[ay3 x]; exact Nat.lt_succ_of_le (ay2 h)
theorem Rt {α:Type} {l:List α} {i:Nat} (h:i<l.length):l.set i l[i]=l:=List.set_getElem_self h
theorem ay5 {R:Type} (f:oW R) (l:List Json) (hl:l.length<=1099511627776) (hf:∀y∈l,∀k,f y k=k y) (a b c:Int) (t:ad) (ns:List ad) (p q r:Int) (u:ad)
  (e0:Int->Int->Int->ad->List ad->Nat->Int->Int->Int->ad->List Json->Option R):∀(n i:Nat),i<=l.length->l.length - i<n ->
  oX f n l.length (l.length:Int) (i:Int) a b c t ns l.length p q r u l e0=e0 a b c t ns l.length p q r u l:=by
 intro n
 induction n with
 | zero=>intro i _ h; omega
 | succ n ih=>
  intro i hi hn;show K2 f (fun x1 x2 x3 x4 x5 x6 x7 x8 x9 gL hU hY eK fC=>oX f n x1 x2 x3 x4 x5 x6 x7 x8 x9 gL hU hY eK fC e0) _ _ _ _ _ _ _ _ _ _ _ _ _ _ e0=_;unfold K2;by_cases h:i<l.length
  ·have h1:decide ((i:Int)<(l.length:Int))=true:=by simp; omega
   have h2:(decide ((0:Int)<=(i:Int))&&true)=true:=by simp
   have h3:decide ((i:Int).toNat<l.length)=true:=by simp; omega
   have hw:ae.wrap ((i:Int)+1)=((i+1:Nat):Int):=by rw[aV (by omega) (by omega)]; omega
   have hg:l.getD (i:Int).toNat (Ty.az .json)=l[i]:=getD_at h _;rw[h1,cond_true,aw h2,aw h3,hg,Json.eta,hf _ (jd h),aw h2,aw h3,hw,Json.eta];have hs:l.set (i:Int).toNat l[i]=l:=Rt h;rw[hs];exact ih (i+1) (by omega) (by omega)
  ·have h1:decide ((i:Int)<(l.length:Int))=false:=by simp; omega
   rw[h1,cond_false]
theorem ay6 {R:Type}:∀(n:Nat) (x:Json),cy x->x.depth<n->∀k:Json->Option R,sP n x k=k x:=by
 intro n
 induction n with
 | zero=>intro x _ h; omega
 | succ n ih=>
  intro x hx hd k;show Hc (sP n) x k=_;unfold Hc TW;rw[ay0 _ hx.names,ay1 _ hx.items]
  ·have:=ay5 (sP (R:=R) n) x.items hx.items (fun y hy k=>ih y (hx.item hy) (by have:=ay4 hy; omega) k) x.kind x.num.aj x.num.exp x.text x.names 0 0 0 []
    (fun kJ lY lZ mF mG od nj oY pZ wi oZ=>k (⟨kJ,⟨lY,lZ⟩,mF,mG,oZ⟩:Json))
   refine(this _ 0 (by omega) (by omega)).trans ?_;rw[Json.eta]
  ·intro h0;have:x=⟨x.kind,⟨x.num.aj,x.num.exp⟩,x.text,x.names,[]⟩:=by rw[<-h0,Json.eta]
   rfl
theorem ay7 {R:Type} (x:Json) (hx:cy x) (k:Json->Option R):p7 x k=k x:=ay6 _ x hx (by omega) k
theorem VI {R:Type} (l:List ad) (hl:l.length<=1099511627776) (s:ad) (e0:Int->Option R) (e1:Option R):∀(n i:Nat),i<=l.length->l.length - i<n ->
  oV n l s (l.length:Int) (i:Int) e1 e0=match (l.drop i).findIdx? (s == ·)with|some j=>e0 ((i+j:Nat):Int)|none=>e1:=by
 intro n
 induction n with
 | zero=>intro i _ h; omega
 | succ n ih=>
  intro i hi hn;show Eu (fun a b c d=>oV n a b c d e1 e0) _ _ _ _ e1 e0=_;unfold Eu;by_cases h:i<l.length
  ·have h1:decide ((i:Int)<(l.length:Int))=true:=by simp; omega
   have h2:(decide ((0:Int)<=(i:Int))&&true)=true:=by simp
   have hw:ae.wrap ((i:Int)+1)=((i+1:Nat):Int):=by rw[aV (by omega) (by omega)]; omega
   have hg:l.getD (i:Int).toNat (Ty.az .str)=l[i]:=getD_at h _;have qR:=ih (i+1) (by omega) (by omega);rw[h1,cond_true,aw h2,hg,hw,im h,List.findIdx?_cons];simp only[qR];cases hq:(s==l[i])with
   | true=>simp
   | false=>
    simp only[cond_false,jy,if_false];cases (l.drop (i+1)).findIdx? (s == ·)with
    | none=>rfl
    | some j=>
     show e0 ((i+1+j:Nat):Int)=e0 ((i+(j+1):Nat):Int);rw[show i+1+j=i+(j+1) by omega]
  ·have h1:decide ((i:Int)<(l.length:Int))=false:=by simp; omega
   rw[h1,cond_false,gQ (by omega)];rfl
theorem ahi {R:Type} (l:List ad) (hl:l.length<=1099511627776) (s:ad) (k:Int->Option R):ni l s k=k (match l.findIdx? (s == ·)with|some j=>(j:Int)|none => -1):=by
 unfold ni TG;refine(VI l hl s _ _ _ 0 (by omega) (by omega)).trans ?_;simp only[fV,mq];cases l.findIdx? (s == ·)<;>rfl
theorem contains_eq {R:Type} (l:List ad) (hl:l.length<=1099511627776) (s:ad) (k:Bool->Option R):ki l s k=k (l.contains s):=by
 unfold ki TJ;rw[ahi l hl];congr 1;cases hq:l.findIdx? (s == ·)with
 | none=>
  have:l.contains s=false:=by
   rw[List.findIdx?_eq_none_iff]at hq;rw[List.contains_eq_any_beq];simpa [List.any_eq_false]using hq
  rw[this]; rfl
 | some j=>
  have:l.contains s=true:=by
   obtain ⟨hj,hp,_⟩:=List.findIdx?_eq_some_iff_getElem.1 hq;rw[List.contains_eq_any_beq,List.any_eq_true];exact⟨l[j],jd hj,hp⟩
  rw[this];simp
def look (s:ad):List ad->List Json->Option Json
 | n::ns,x::xs=>if s==n then some x else look s ns xs
 | _,_=>none
theorem VJ (s:ad):∀(ns:List ad) (xs:List Json),look s ns xs=(ns.findIdx? (s == ·)).bind fun j=>xs[j]?
 | [],xs=>by simp[look]
 | n::ns,[]=>by
  simp only[look];cases (n::ns).findIdx? (s == ·)<;>simp
 | n::ns,x::xs=>by
  simp only[look,List.findIdx?_cons];cases hq:(s==n)with
  | true=>simp
  | false=>
   simp only[jy,if_false,VJ s ns xs];cases ns.findIdx? (s == ·)<;>simp
def MS:Json:=⟨0,⟨0,0⟩,[],[],[]⟩
theorem find_eq {R:Type} (v:Json) (hv:cy v) (s:ad) (k:Json->Bool->Option R) :
  jG v s k=match (if v.kind=7 then look s v.names v.items else none)with|some x=>k x true|none=>k MS false:=by
 unfold jG Ve;rw[ahi _ hv.names];by_cases h7:v.kind=7
 ·have c1:(v.kind != 7)=false:=by simp[h7]
  rw[c1,cond_false,if_pos h7,VJ];cases hq:v.names.findIdx? (s == ·)with
  | none=>rfl
  | some j=>
   have hj:decide ((j:Int)<0)=false:=by simp
   simp only[sj];by_cases hi:j<v.items.length
   ·have h1:decide ((j:Int)<(0:Int))=false:=by simp
    have h2:decide ((j:Int)>=(v.items.length:Int))=false:=by simp; omega
    have h3:(decide ((0:Int)<=(j:Int))&&decide ((j:Int)<v.items.length))=true:=by simp; omega
    have hg:v.items.getD (j:Int).toNat (Ty.az .json)=v.items[j]:=getD_at hi _;simp only[h1,h2,cond_false,hg,Json.eta];rw[aw h3];simp[hi]
   ·have h1:decide ((j:Int)<(0:Int))=false:=by simp
    have h2:decide ((j:Int)>=(v.items.length:Int))=true:=by simp; omega
    simp only[h1,h2,cond_false,cond_true];simp[show v.items.length<=j by omega];rfl
 ·have c1:(v.kind != 7)=true:=by simp[h7]
  rw[c1,cond_true,if_neg h7];rfl
end Go.Proofs.YtidfokedcnhahaaGreatDoor.Pu
set_option maxRecDepth 100000
namespace Go.ak
open Go.Lib
def vr (c:Nat):Prop:=c<55296\/(57344<=c/\c<=1114111)
instance (c:Nat):Decidable (vr c):=inferInstanceAs (Decidable (_\/_))
def enc (c:Nat):ad:=encodeRune (c:Int)
theorem MT {c:Nat} (h:c<128):enc c=[bl c]:=by
 unfold enc encodeRune encodeRuneZ;rw[if_pos (by omega)];rfl
theorem ay8 {c:Nat} (h0:128<=c) (h:c<2048):enc c=[bl (192+c / 64),bl (128+c%64)]:=by
 unfold enc encodeRune encodeRuneZ;rw[if_neg (by omega),if_pos (by omega)];have e1:(192+(c:Int) / 64).toNat=192+c / 64:=by omega
 have e2:(128+(c:Int)%64).toNat=128+c%64:=by omega
 simp only[kz,sq,e1,e2]
theorem ahj {c:Nat} (h0:2048<=c) (h:c<65536) (hv:vr c):enc c=[bl (224+c / 4096),bl (128+c / 64%64),bl (128+c%64)]:=by
 unfold vr at hv;unfold enc encodeRune encodeRuneZ;rw[if_neg (by omega),if_neg (by omega),if_pos (by omega)];have e1:(224+(c:Int) / 4096).toNat=224+c / 4096:=by omega
 have e2:(128+(c:Int) / 64%64).toNat=128+c / 64%64:=by omega
 have e3:(128+(c:Int)%64).toNat=128+c%64:=by omega
 simp only[kz,sq,e1,e2,e3]
theorem ay9 {c:Nat} (h0:65536<=c) (h:c<1114112):enc c=[bl (240+c / 262144),bl (128+c / 4096%64),bl (128+c / 64%64),bl (128+c%64)]:=by
 unfold enc encodeRune encodeRuneZ;rw[if_neg (by omega),if_neg (by omega),if_neg (by omega),if_pos (by omega)];have e1:(240+(c:Int) / 262144).toNat=240+c / 262144:=by omega
 have e2:(128+(c:Int) / 4096%64).toNat=128+c / 4096%64:=by omega
 have e3:(128+(c:Int) / 64%64).toNat=128+c / 64%64:=by omega
 have e4:(128+(c:Int)%64).toNat=128+c%64:=by omega
 simp only[kz,sq,e1,e2,e3,e4]
theorem eU (n:Nat) (h:n<256):(bl n).toNat=n:=by
 simp only[UInt8.toNat_ofNat'];omega
theorem E0 {c:Nat} (h:vr c):c<1114112:=by unfold vr at h; omega
theorem E1 {c:Nat} (hv:vr c):(c<128/\enc c=[bl c])\/(128<=c/\c<2048/\enc c=[bl (192+c / 64),bl (128+c%64)]) \/
  (2048<=c/\c<65536/\enc c=[bl (224+c / 4096),bl (128+c / 64%64),bl (128+c%64)]) \/
  (65536<=c/\enc c=[bl (240+c / 262144),bl (128+c / 4096%64),bl (128+c / 64%64),bl (128+c%64)]):=by
 have:=E0 hv;by_cases h1:c<128
 ·exact .inl ⟨h1,MT h1⟩
 by_cases h2:c<2048
 ·exact .inr (.inl ⟨by omega,h2,ay8 (by omega) h2⟩)
 by_cases h3:c<65536
 ·exact .inr (.inr (.inl ⟨by omega,h3,ahj (by omega) h3 hv⟩))
 ·exact .inr (.inr (.inr ⟨by omega,ay9 (by omega) this⟩))
theorem ux {c:Nat} (hv:vr c):1<=(enc c).length/\(enc c).length<=4:=by
 rcases E1 hv with ⟨_,e⟩|⟨_,_,e⟩|⟨_,_,e⟩|⟨_,e⟩<;>rw[e]<;>simp
theorem HL {c:Nat} (hv:vr c) (t:ad):decodeL (enc c++t)=(c,(enc c).length):=by
 have aX:=E0 hv;unfold vr at hv;rw[decodeL_N];rcases E1 hv with ⟨h1,e⟩|⟨h0,h1,e⟩|⟨h0,h1,e⟩|⟨h0,e⟩<;>rw[e]
 ·simp only[gg,ZZ,eU c (by omega)];exact decodeN_ascii _ _ _ _ _ h1
 ·simp only[gg,jf,ZZ,Z0,eU (192+c / 64) (by omega),eU (128+c%64) (by omega),bj];unfold decodeN;rw[if_neg (by omega),if_pos ⟨by omega,by omega,by omega⟩,if_pos (by omega)];refine Prod.ext ?_ rfl;show(192+c / 64)%32*64+(128+c%64)%64=c;omega
 ·simp only[gg,jf,ZZ,Z0,eU (224+c / 4096) (by omega),eU (128+c / 64%64) (by omega),eU (128+c%64) (by omega),bj];unfold decodeN;have k:(224+c / 4096)%16*4096+(128+c / 64%64)%64*64+(128+c%64)%64=c:=by omega
  rw[if_neg (by omega),if_neg (by omega),if_pos ⟨by omega,⟨by omega,by omega⟩,by omega,by omega⟩,k,if_pos (by omega)];simp only[cu]
 ·simp only[gg,jf,ZZ,Z0,eU (240+c / 262144) (by omega),eU (128+c / 4096%64) (by omega),eU (128+c / 64%64) (by omega),eU (128+c%64) (by omega),bj];unfold decodeN;have k:(240+c / 262144)%8*262144+(128+c / 4096%64)%64*4096+(128+c / 64%64)%64*64+(128+c%64)%64=c:=by omega
  rw[if_neg (by omega),if_neg (by omega),if_neg (by omega),if_pos ⟨by omega,⟨by omega,by omega⟩,⟨by omega,by omega⟩,by omega,by omega⟩,k,if_pos (by omega)];simp only[cu]
def o9 (l:ad):Prop:=¬((decodeL l).1=65533/\(decodeL l).2=1)
instance (l:ad):Decidable (o9 l):=inferInstanceAs (Decidable (¬_))
theorem ahk {c:Nat} (hv:vr c) (t:ad):o9 (enc c++t):=by
 unfold o9;rw[HL hv t]
 rintro ⟨h1,h2⟩
 simp only at h1 h2;rw[h1]at h2;rw[ahj (by omega) (by omega) (by unfold vr; omega)]at h2;cases h2
theorem aza (n b0 b1 b2 b3:Nat) (h0:b0<256):vr (decodeN n b0 b1 b2 b3).1:=by
 unfold vr decodeN
 repeat' split
 all_goals simp only
 all_goals omega
theorem VK (l:ad):vr (decodeL l).1:=by
 rw[decodeL_N];exact aza _ _ _ _ _ (fa _)
theorem VL {l:ad} (aT:l≠[]) (h:o9 l):l=enc (decodeL l).1++l.drop (decodeL l).2/\(enc (decodeL l).1).length=(decodeL l).2:=by
 have h1:=encode_decode l aT h;have h2:=decodeL_le l aT;refine⟨?_,?_⟩
 ·unfold enc;rw[h1,Dk]
 ·unfold enc;rw[h1,eP];omega
theorem VM {l:ad} (aT:l≠[]):dh l=if o9 l then dh (l.drop (decodeL l).2)else false:=by
 unfold dh;rw[validD_step l aT];by_cases h:o9 l
 ·rw[if_pos h,if_neg (show ¬((decodeL l).1=65533/\(decodeL l).2=1)from h)]
 ·rw[if_neg h,if_pos (Decidable.not_not.1 h)]
theorem ahl {c:Nat} (hv:vr c) (t:ad):enc c++t≠[]:=by
 have:=ux hv;intro e;have:=congrArg av e;rw[bf,cu]at this;omega
theorem azb {c:Nat} (hv:vr c) (t:ad):dh (enc c++t)=dh t:=by
 rw[VM (ahl hv t),if_pos (ahk hv t),HL hv t];simp
def bE (rs:List Nat):ad:=rs.flatMap enc
theorem ahm:∀(rs:List Nat),(∀c∈rs,vr c)->∀t,dh (bE rs++t)=dh t
 | [],_,t=>rfl
 | c::rs,h,t=>by
  have:bE (c::rs)++t=enc c++(bE rs++t):=by simp[bE]
  rw[this,azb (h c (by simp)),ahm rs (fun x hx=>h x (by simp[hx]))]
theorem ahn:∀(n:Nat) (l:ad),l.length<=n->dh l=true->∃rs:List Nat,(∀c∈rs,vr c)/\l=bE rs
 | 0,l,hl,_=>⟨[],by simp,gH (by omega)⟩
 | n+1,l,hl,h=>by
  by_cases aT:l=[]
  ·exact⟨[],by simp,aT⟩
  rw[VM aT]at h;split at h
  ·rename_i hg;obtain ⟨h1,h2⟩:=VL aT hg;have h3:=ux (VK l);obtain ⟨rs,hr,e⟩:=ahn n (l.drop (decodeL l).2) (by rw[ct]; omega) h;refine⟨(decodeL l).1::rs,?_,?_⟩
   ·intro c hc;rcases eJ.1 hc with rfl|hc
    ·exact VK l
    ·exact hr c hc
   ·exact h1.trans ((congrArg (enc (decodeL l).1 ++ ·) e).trans (by simp[bE]))
  ·cases h
theorem Cw {l:ad}:dh l=true↔∃rs:List Nat,(∀c∈rs,vr c)/\l=bE rs:=by
 refine⟨ahn l.length l (cD _),?_⟩
 rintro ⟨rs,hr,rfl⟩
 have:=ahm rs hr [];rw[oK]at this;rw[this]; rfl
theorem E2 {s t:ad} {i:Nat} (h:i<s.length):(s++t).getD i 0=s.getD i 0:=by
 simp[ca,List.getElem?_append_left h]
theorem VN {s t:ad} {x:UInt8}:(s++x::t).getD s.length 0=x:=by
 simp[ca]
end Go.ak
set_option maxRecDepth 100000
namespace Go.Proofs.YtidfokedcnhahaaGreatDoor
open Go Go.ak
def bR (n:Int):Prop := -9223372036854775808<=n/\n<=9223372036854775807
theorem mb {n:Int}:ae.has n↔bR n:=by
 unfold mV bR;simp only[nO,nP,kv,ku];simp
theorem azc {n:Int} (h1:0<=n) (h2:n<1114112):eI.wrap n=n:=by
 simp only[FM,kv,ku,nO,nP];simp;omega
theorem azd (rs:List Nat) (c:Nat):bE (rs++[c])=bE rs++enc c:=by simp[bE]
theorem ai {p:Prop} [Decidable p] (h:p):decide p=true:=decide_eq_true h
theorem aE {p:Prop} [Decidable p] (h:¬p):decide p=false:=decide_eq_false h
end Go.Proofs.YtidfokedcnhahaaGreatDoor
namespace Go.Proofs.YtidfokedcnhahaaGreatDoor.Pu
open Go Go.ak
theorem aho {k m e:Int} {t:ad} {ns:List ad} {xs:List Json} (hk:bR k) (hm:bR m) (he:bR e) (ht:t.length<=1099511627776) (hn:ns.length<=1099511627776) (ei:∀s∈ns,s.length<=1099511627776) (hx:xs.length<=1099511627776) (hxs:∀y∈xs,cy y) :
  cy ⟨k,⟨m,e⟩,t,ns,xs⟩:=by
 intro c hc;simp only[Ty.cells,eJ,Dp,or_false]at hc;rcases hc with rfl|rfl|rfl|rfl|rfl|rfl
 ·exact .int (mb.2 hk)
 ·exact .int (mb.2 hm)
 ·exact .int (mb.2 he)
 ·exact .str ht
 ·exact .sl hn fun s hs v hv=>by
   simp only[Ty.cells,pA]at hv;subst hv;exact .str (ei s hs)
 ·exact .sl hx fun y hy v hv=>hxs y hy v hv
theorem aze (a b:ad):(a==b)=(b==a):=by
 by_cases h:a=b
 ·rw[h]
 ·have h1:(a==b)=false:=by simpa using h
  have h2:(b==a)=false:=by simpa using fun e:b=a=>h e.symm
  rw[h1,h2]
def mk:List ad->List Json->List ad->List Json->List ad×List Json
 | n::ns,x::xs,a,b=>if a.contains n then mk ns xs a b else mk ns xs (a++[n]) (b++[x])
 | [],_,a,b=>(a,b)
 | _::_,[],a,b=>(a,b)
theorem ahp (s:ad):∀(a:List ad) (b:List Json),a.length=b.length->(look s a b).isSome=a.contains s
 | [],[],_=>rfl
 | p::a,y::b,h=>by
  simp only[look,nR];cases hq:(s==p)with
  | true=>simp
  | false=>simpa using ahp s a b (by simpa using h)
theorem VO {R:Type} (ns:List ad) (xs:List Json) (hx:xs.length<=ns.length) (hn:ns.length<=1099511627776) (hj:∀y∈xs,cy y) (p q r:Int) (t:ad) (a b c:Int) (u:ad)
  (e0:Int->Int->Int->ad->Int->Int->Int->ad->List ad->List Json->Option R):∀(n i:Nat) (l:List ad) (m:List Json),i<=xs.length->xs.length - i<n->l.length=m.length->l.length<=i ->
  rH n ns xs (xs.length:Int) (i:Int) p q r t a b c u l m e0=e0 p q r t a b c u (mk (ns.drop i) (xs.drop i) l m).1 (mk (ns.drop i) (xs.drop i) l m).2:=by
 intro n
 induction n with
 | zero=>intro i l m _ h; omega
 | succ n ih=>
  intro i l m hi qh Ak BM;show K6 _ _ (fun x1 x2 x3 x4 x5 x6 x7 x8 x9 gL hU hY eK fC=>rH n x1 x2 x3 x4 x5 x6 x7 x8 x9 gL hU hY eK fC e0) _ _ _ _ _ _ _ _ _ _ _ _ _ _ e0=_;unfold K6;by_cases h:i<xs.length
  ·have h1:decide ((i:Int)<(xs.length:Int))=true:=by simp; omega
   have h2:(decide ((0:Int)<=(i:Int))&&true)=true:=by simp
   have pJ:(decide ((0:Int)<=(i:Int))&&decide ((i:Int)<ns.length))=true:=by simp; omega
   have hw:ae.wrap ((i:Int)+1)=((i+1:Nat):Int):=by rw[aV (by omega) (by omega)]; omega
   have hg:xs.getD (i:Int).toNat (Ty.az .json)=xs[i]:=getD_at h _;have BA:ns.getD (i:Int).toNat (Ty.az .str)=ns[i]:=getD_at (by omega) _;have HM:decide ((l.length+1)*16<=140737488355328)=true:=by simp; omega
   have uy:decide ((m.length+1)*88<=140737488355328)=true:=by simp; omega
   rw[h1,cond_true,aw h2,aw pJ,hg,BA,contains_eq l (by omega),Json.eta,hw];rw[im h,im (show i<ns.length by omega)];simp only[mk];cases hc:l.contains ns[i]with
   | true=>
    simp only[cE,cond_false,if_true];exact ih (i+1) l m (by omega) (by omega) Ak (by omega)
   | false=>
    simp only[iq,cond_true,jy,if_false];rw[aw pJ,aw HM,ay7 _ (hj _ (jd h)),aw uy,Json.eta];exact ih (i+1) (l++[ns[i]]) (m++[xs[i]]) (by omega) (by omega) (by simp[Ak]) (by first|omega|(simp; done)|(simp; omega))
  ·have h1:decide ((i:Int)<(xs.length:Int))=false:=by simp; omega
   rw[h1,cond_false,gQ (show xs.length<=i by omega)];have:∀ns:List ad,mk ns [] l m=(l,m):=fun ns=>by cases ns<;>rfl
   rw[this]
theorem azf {R:Type} (ns:List ad) (xs:List Json) (hn:ns.length<=1099511627776) (hj:∀y∈xs,cy y) (k:Json->Option R) :
  rI ns xs k=k ⟨7,⟨0,0⟩,[],(mk ns xs [] []).1,(mk ns xs [] []).2⟩:=by
 unfold rI T0;have hm:(min (xs.length:Int) (ns.length:Int)).toNat - 0=min xs.length ns.length:=by omega
 rw[aw (by first|omega|(simp; done)|(simp; omega)),aw (by first|omega|(simp; done)|(simp; omega)),hm,fV];have hl:(xs.take (min xs.length ns.length)).length=min xs.length ns.length:=by simp
 refine(VO ns (xs.take (min xs.length ns.length)) (by rw[hl]; omega) hn (fun y hy=>hj y (List.mem_of_mem_take hy)) 0 0 0 [] 7 0 0 [] _ _ 0 [] [] (by omega) (by first|omega|(simp; done)|(simp; omega)) rfl (by simp)).trans ?_;have key:∀(ns:List ad) (xs:List Json) (a:List ad) (b:List Json),mk ns (xs.take (min xs.length ns.length)) a b=mk ns xs a b:=by
  intro ns
  induction ns with
  | nil=>intro xs a b; cases xs<;>simp[mk]
  | cons n ns ih=>
   intro xs a b;cases xs with
   | nil=>simp
   | cons x xs=>
    have:min (x::xs).length (n::ns).length=min xs.length ns.length+1:=by simp only[bj]; omega
    rw[this,FT];simp only[mk,ih]
 simp only[fV,key]
theorem cy.aj {x:Json} (h:cy x):bR x.num.aj:=mb.1 (h (.int .i64 x.num.aj) (by simp[Ty.cells])).fi
theorem cy.exp {x:Json} (h:cy x):bR x.num.exp:=mb.1 (h (.int .i64 x.num.exp) (by simp[Ty.cells])).fi
def s7:Nat->Int->Option Int
 | 0,n=>some n
 | k+1,n=>if -100000000000000000<=n/\n<=100000000000000000 then s7 k (n*10)else none
def uz (d:au):Bool:=if d.aj=0 then decide (d.exp=0)else(decide (bK d.aj 10≠0)&&(decide (-1000000000000000<=d.aj)&&decide (d.aj<=1000000000000000)))&&(decide (-9<=d.exp)&&decide (d.exp<=9))
def iQ (d:au):Option Int:=if uz d=true/\0<=d.exp then s7 d.exp.toNat d.aj else none
theorem E3 {R:Type} (a b c:Int) (k:Bool->Option R):er a b c k=k (decide (a<=b)&&decide (b<=c)):=by
 unfold er G6;cases decide (a<=b)<;>rfl
theorem right_eq {R:Type} (d:au) (k:Bool->Option R):fY d k=k (uz d):=by
 unfold fY yx uz;simp only[E3];by_cases h:d.aj=0
 ·have h1:(d.aj==0)=true:=by simpa using h
  rw[h1,cond_true,if_pos h];rfl
 ·have h1:(d.aj==0)=false:=by simpa using h
  rw[h1,cond_false,if_neg h];by_cases hq:bK d.aj 10=0
  ·have h2:(bK d.aj 10 != 0)=false:=by simp[hq]
   rw[h2,cond_false];simp[hq]
  ·have h2:(bK d.aj 10 != 0)=true:=by simp[hq]
   rw[h2,cond_true];cases hw:(decide (-1000000000000000<=d.aj)&&decide (d.aj<=1000000000000000))with
   | true=>simp[hq]
   | false=>simp[hq]
theorem azg {R:Type} (e0:Int->Option R) (e1:Int->Bool->Int->Option R) (f:Int->Bool->Option R) (h1:∀x,e1 0 false x=f 0 false) (h0:∀x,e0 x=f x true) (m:Nat) (hm:m<=9223372036854775806) :
  ∀(n i:Nat) (x:Int),i<=m->m - i<n -> -1000000000000000000<=x->x<=1000000000000000000 ->
  rS n x (m:Int) (i:Int) e0 e1=match s7 (m - i) x with|some y=>f y true|none=>f 0 false:=by
 intro n
 induction n with
 | zero=>intro i x _ h; omega
 | succ n ih=>
  intro i x hi hn Gr Gs;show ME er (fun a b c=>rS n a b c e0 e1) _ _ _ e0 e1=_;unfold ME;by_cases h:i<m
  ·have c1:decide ((i:Int)<(m:Int))=true:=by simp; omega
   have hw:ae.wrap ((i:Int)+1)=((i+1:Nat):Int):=by rw[aV (by omega) (by omega)]; omega
   have e:m - i=(m - (i+1))+1:=by omega
   rw[c1,cond_true,E3,e];simp only[s7];by_cases hb : -100000000000000000<=x/\x<=100000000000000000
   ·have hd:(decide (-100000000000000000<=x)&&decide (x<=100000000000000000))=true:=by simp; exact hb
    rw[hd,if_pos hb];simp only[cE,cond_false,hw];rw[aV (by omega) (by omega)];exact ih (i+1) (x*10) (by omega) (by omega) (by omega) (by omega)
   ·have hd:(decide (-100000000000000000<=x)&&decide (x<=100000000000000000))=false:=by
     simp only[Bool.and_eq_false_imp,decide_eq_true_eq,decide_eq_false_iff_not];exact fun q1 q2=>hb ⟨q1,q2⟩
    rw[hd,if_neg hb];simp only[iq,cond_true];exact h1 x
  ·have c1:decide ((i:Int)<(m:Int))=false:=by simp; omega
   have e:m - i=0:=by omega
   rw[c1,cond_false,e];exact h0 x
theorem QM {R:Type} (d:au) (k:Int->Bool->Option R):wQ d k=match iQ d with|some n=>k n true|none=>k 0 false:=by
 unfold wQ Vl;rw[right_eq];cases hr:uz d with
 | false=>
  have:iQ d=none:=by unfold iQ; rw[if_neg (by simp[hr])]
  rw[this]; rfl
 | true=>
  by_cases he:d.exp<0
  ·have:iQ d=none:=by unfold iQ; rw[if_neg (by omega)]
   have c:decide (d.exp<(0:Int))=true:=by simpa using he
   rw[this];simp only[cE,cond_false,c,cond_true]
  ·have c:decide (d.exp<(0:Int))=false:=by simpa using he
   have hb : -1000000000000000<=d.aj/\d.aj<=1000000000000000/\d.exp<=9:=by
    unfold uz at hr;split at hr
    ·simp at hr; omega
    ·simp at hr; omega
   have e:iQ d=s7 d.exp.toNat d.aj:=by unfold iQ; rw[if_pos ⟨hr,by omega⟩]
   rw[e];simp only[cE,cond_false,c];unfold yF Vj;rw[aV (by omega) (by omega)];have ec:d.exp - 0=((d.exp.toNat:Nat):Int):=by omega
   rw[ec];exact azg _ _ (fun a b=>k a b) (fun x=>rfl) (fun x=>rfl) d.exp.toNat (by omega) _ 0 d.aj (by omega) (by omega) (by omega) (by omega)
def nw (x:Json):Option Int:=if x.kind=4 then iQ x.num else none
theorem azh {R:Type} (x:Json) (k:Int->Bool->Option R):∃z:Int,wR x k=match nw x with|some n=>k n true|none=>k z false:=by
 unfold wR Vm nw;have eta:(⟨x.num.aj,x.num.exp⟩:au)=x.num:=rfl;simp only[QM];by_cases h:x.kind=4
 ·have h1:(x.kind==4)=true:=by simpa using h
  refine⟨0,?_⟩;rw[if_pos h];cases hd:iQ x.num with
  | some n=>simp only[hd,cond_true,h1]
  | none=>simp only[hd,cond_false]
 ·have h1:(x.kind==4)=false:=by simpa using h
  refine⟨(iQ x.num).getD 0,?_⟩;rw[if_neg h];cases hd:iQ x.num with
  | some n=>simp only[hd,cond_true,h1,Bb]
  | none=>simp only[hd,cond_false,Option.getD_none]
def iJ (v:Json) (s:ad):Option Json:=if v.kind=7 then look s v.names v.items else none
theorem ahq {v:Json} (hv:cy v) {s:ad} {x:Json} (h:iJ v s=some x):cy x:=by
 unfold iJ at h;split at h
 ·rw[VJ]at h;cases hp:v.names.findIdx? (s == ·)with
  | none=>rw[hp]at h; cases h
  | some j=>rw[hp]at h; exact hv.item (List.mem_of_getElem? h)
 ·cases h
theorem nA {R:Type} (v:Json) (hv:cy v) (s:ad) (k:Int->Bool->Option R):cW v s k=match (iJ v s).bind nw with|some n=>k n true|none=>k 0 false:=by
 unfold cW Vq yG Vo;simp only[Json.eta];rw[find_eq v hv];show(match iJ v s with|some x=>_|none=>_)=_;cases iJ v s with
 | none=>rfl
 | some x=>
  simp only[cE,cond_false,sj];obtain ⟨z,hz⟩:=azh x (fun y5 y6=>bif y6 then(k y5 true)else(k 0 false));refine hz.trans ?_;cases nw x<;>rfl
def Cx (x:Json):Option ad:=if x.kind=5 then some x.text else none
theorem HN {R:Type} (v:Json) (hv:cy v) (s:ad) (k:ad->Bool->Option R):uv v s k=match (iJ v s).bind Cx with|some n=>k n true|none=>k [] false:=by
 unfold uv Vx yI Vv yH Vt;simp only[Json.eta];rw[find_eq v hv];show(match iJ v s with|some x=>_|none=>_)=_;cases iJ v s with
 | none=>rfl
 | some x=>
  simp only[cE,cond_false,sj,Cx];by_cases h:x.kind=5
  ·have h1:(x.kind==5)=true:=by simpa using h
   simp only[h1,cond_true,if_pos h]
  ·have h1:(x.kind==5)=false:=by simpa using h
   simp only[h1,cond_false,if_neg h]
def uA (x:Json):Option Bool:=if x.kind=3 then some true else if x.kind=2 then some false else none
theorem azi {R:Type} (x:Json) (k:Bool->Bool->Option R):wU x k=match uA x with|some b=>k b true|none=>k false false:=by
 unfold wU VB uA;by_cases h:x.kind=3
 ·have h1:(x.kind==3)=true:=by simpa using h
  simp only[h1,cond_true,if_pos h]
 ·have h1:(x.kind==3)=false:=by simpa using h
  by_cases h':x.kind=2
  ·have h2:(x.kind==2)=true:=by simpa using h'
   simp only[h1,h2,cond_false,if_neg h,if_pos h']
  ·have h2:(x.kind==2)=false:=by simpa using h'
   simp only[h1,h2,cond_false,if_neg h,if_neg h']
theorem Cy {R:Type} (v:Json) (hv:cy v) (s:ad) (k:Bool->Bool->Option R):mL v s k=match (iJ v s).bind uA with|some n=>k n true|none=>k false false:=by
 unfold mL VF yJ VD;simp only[Json.eta];rw[find_eq v hv];show(match iJ v s with|some x=>_|none=>_)=_;cases iJ v s with
 | none=>rfl
 | some x=>
  simp only[cE,cond_false,sj,azi];cases uA x<;>rfl
end Go.Proofs.YtidfokedcnhahaaGreatDoor.Pu
set_option maxRecDepth 100000
namespace Go.Proofs.YtidfokedcnhahaaGreatDoor
open Go Go.ak
variable {R:Type}
abbrev ahr (R:Type):Type:=ad->Int->(ad->Option R)->(ad->Bool->Option R)->Option R
abbrev VP (R:Type):Type:=Nat->ahr R
def ahs:Hint:=⟨[0,3],[],[],[],[],[0,2]⟩
abbrev wV:Type:=ad×Int
def aht:wV->St:=fun d=>⟨.str d.1::U 2 (af d.2::U 57 ([])),[]⟩
def azj (K:KT R) (q0:ad):Option R:=K (.exit 0) ⟨.str q0::U 60 ([]),[]⟩
def azk (K:KT R) (q0:ad) (q1:Bool):Option R:=K (.ret) ⟨.str q0::.undef::.bool q1::U 58 ([]),[]⟩
abbrev VQ (K:KT R) (d:wV) (f:ahr R):Option R:=f d.1 d.2 (azj K) (azk K)
abbrev MU:List ax:=dU::PU 2 (bG::PU 57 ([]))
def ahu (x:ax.aA MU) (y:aH.aA topic_Name_q):Nat:=(av x.1+ah x.2.2.2.1+64)
def ahv (x:ax.aA MU) (y:aH.aA topic_Name_q):wV:=(x.1,x.2.2.2.1)
def azl (L:VP R):dC R MU topic_Name_q:=fun x y K=>VQ K (ahv x y) (L (ahu x y))
section
variable (rT:VP R)
def MV (aD:ad->Int->Option R) (x2:ad) (x3:Int) (e0:ad->Option R) (e1:ad->Bool->Option R):Option R:=
 bif(decide (x3<(x2.length:Int)))then(ag (decide ((0:Int)<=x3)&&decide (x3<x2.length)) (bif(decide (((x2.getD x3.toNat 0).toNat:Int)>=(97:Int)))then(bif(decide (((x2.getD x3.toNat 0).toNat:Int)<=(122:Int)))then(aD x2 (ae.wrap (x3+1)))else(bif(decide (((x2.getD x3.toNat 0).toNat:Int)>=(65:Int)))then(bif(decide (((x2.getD x3.toNat 0).toNat:Int)<=(90:Int)))then(aD x2 (ae.wrap (x3+1)))else(bif(decide (((x2.getD x3.toNat 0).toNat:Int)>=(48:Int)))then(bif(decide (((x2.getD x3.toNat 0).toNat:Int)<=(57:Int)))then(aD x2 (ae.wrap (x3+1)))else(bif(((x2.getD x3.toNat 0).toNat:Int)==95)then(aD x2 (ae.wrap (x3+1)))else(bif(((x2.getD x3.toNat 0).toNat:Int)==46)then(aD x2 (ae.wrap (x3+1)))else(bif(((x2.getD x3.toNat 0).toNat:Int)==58)then(aD x2 (ae.wrap (x3+1)))else(bif(!(((x2.getD x3.toNat 0).toNat:Int)==45))then(e1 x2 false)else(aD x2 (ae.wrap (x3+1))))))))else(bif(((x2.getD x3.toNat 0).toNat:Int)==95)then(aD x2 (ae.wrap (x3+1)))else(bif(((x2.getD x3.toNat 0).toNat:Int)==46)then(aD x2 (ae.wrap (x3+1)))else(bif(((x2.getD x3.toNat 0).toNat:Int)==58)then(aD x2 (ae.wrap (x3+1)))else(bif(!(((x2.getD x3.toNat 0).toNat:Int)==45))then(e1 x2 false)else(aD x2 (ae.wrap (x3+1)))))))))else(bif(decide (((x2.getD x3.toNat 0).toNat:Int)>=(48:Int)))then(bif(decide (((x2.getD x3.toNat 0).toNat:Int)<=(57:Int)))then(aD x2 (ae.wrap (x3+1)))else(bif(((x2.getD x3.toNat 0).toNat:Int)==95)then(aD x2 (ae.wrap (x3+1)))else(bif(((x2.getD x3.toNat 0).toNat:Int)==46)then(aD x2 (ae.wrap (x3+1)))else(bif(((x2.getD x3.toNat 0).toNat:Int)==58)then(aD x2 (ae.wrap (x3+1)))else(bif(!(((x2.getD x3.toNat 0).toNat:Int)==45))then(e1 x2 false)else(aD x2 (ae.wrap (x3+1))))))))else(bif(((x2.getD x3.toNat 0).toNat:Int)==95)then(aD x2 (ae.wrap (x3+1)))else(bif(((x2.getD x3.toNat 0).toNat:Int)==46)then(aD x2 (ae.wrap (x3+1)))else(bif(((x2.getD x3.toNat 0).toNat:Int)==58)then(aD x2 (ae.wrap (x3+1)))else(bif(!(((x2.getD x3.toNat 0).toNat:Int)==45))then(e1 x2 false)else(aD x2 (ae.wrap (x3+1))))))))))else(bif(decide (((x2.getD x3.toNat 0).toNat:Int)>=(65:Int)))then(bif(decide (((x2.getD x3.toNat 0).toNat:Int)<=(90:Int)))then(aD x2 (ae.wrap (x3+1)))else(bif(decide (((x2.getD x3.toNat 0).toNat:Int)>=(48:Int)))then(bif(decide (((x2.getD x3.toNat 0).toNat:Int)<=(57:Int)))then(aD x2 (ae.wrap (x3+1)))else(bif(((x2.getD x3.toNat 0).toNat:Int)==95)then(aD x2 (ae.wrap (x3+1)))else(bif(((x2.getD x3.toNat 0).toNat:Int)==46)then(aD x2 (ae.wrap (x3+1)))else(bif(((x2.getD x3.toNat 0).toNat:Int)==58)then(aD x2 (ae.wrap (x3+1)))else(bif(!(((x2.getD x3.toNat 0).toNat:Int)==45))then(e1 x2 false)else(aD x2 (ae.wrap (x3+1))))))))else(bif(((x2.getD x3.toNat 0).toNat:Int)==95)then(aD x2 (ae.wrap (x3+1)))else(bif(((x2.getD x3.toNat 0).toNat:Int)==46)then(aD x2 (ae.wrap (x3+1)))else(bif(((x2.getD x3.toNat 0).toNat:Int)==58)then(aD x2 (ae.wrap (x3+1)))else(bif(!(((x2.getD x3.toNat 0).toNat:Int)==45))then(e1 x2 false)else(aD x2 (ae.wrap (x3+1)))))))))else(bif(decide (((x2.getD x3.toNat 0).toNat:Int)>=(48:Int)))then(bif(decide (((x2.getD x3.toNat 0).toNat:Int)<=(57:Int)))then(aD x2 (ae.wrap (x3+1)))else(bif(((x2.getD x3.toNat 0).toNat:Int)==95)then(aD x2 (ae.wrap (x3+1)))else(bif(((x2.getD x3.toNat 0).toNat:Int)==46)then(aD x2 (ae.wrap (x3+1)))else(bif(((x2.getD x3.toNat 0).toNat:Int)==58)then(aD x2 (ae.wrap (x3+1)))else(bif(!(((x2.getD x3.toNat 0).toNat:Int)==45))then(e1 x2 false)else(aD x2 (ae.wrap (x3+1))))))))else(bif(((x2.getD x3.toNat 0).toNat:Int)==95)then(aD x2 (ae.wrap (x3+1)))else(bif(((x2.getD x3.toNat 0).toNat:Int)==46)then(aD x2 (ae.wrap (x3+1)))else(bif(((x2.getD x3.toNat 0).toNat:Int)==58)then(aD x2 (ae.wrap (x3+1)))else(bif(!(((x2.getD x3.toNat 0).toNat:Int)==45))then(e1 x2 false)else(aD x2 (ae.wrap (x3+1)))))))))))else(e0 x2)
def ahw (K:KT R) (rc:wV->Option R) (d:wV):Option R:=VQ K d (MV (fun z0 z1=>rc (z0,z1)))
def ahx:Nat->Option (Hint×bX R):=fun i=>match i with
 | 2=>some (ahs,(cY MU topic_Name_q (azl rT) dz))
 | _=>none
theorem azm:dn (R:=R) tt [] (ahx rT) 0 Tryz.f63 0 ahs aht (ahw):=fun K rc d=>by kernel_rfl
def VR (x1:ad) (k0:Bool->Option R):Option R:=
 rT (av x1+ah 0+64) x1 0 (fun y5=>bif(decide ((y5.length:Int)>=(1:Int)))then(k0 (decide ((y5.length:Int)<=(16:Int))))else(k0 false)) (fun y6 y7=>k0 y7)
theorem azn:aP (R:=R) tt [] (ahx rT) false Tryz.f63 topic_Name_p topic_Name_q (topic_Name_rr (VR rT)):=fun x y k=>by kernel_rfl
end
def rT:VP R
 | 0,_,_,_,_=>none
 | n+1,aB,aC,e0,e1=>MV (fun aB aC=>rT n aB aC e0 e1) aB aC e0 e1
def azo:=dD (R:=R) aht (ahw) VQ (rT) ahu ahv (azm rT) (fun _ _=>by kernel_rfl) (fun _ _ _=>by kernel_rfl) (fun _ _=>by kernel_rfl)
def wW:topic_Name_ty R:=VR rT
theorem azp (R:Type):aN ao 63 (topic_Name_s (wW (R:=R))):=aR (azn rT) TT mixed .n rfl rfl (dE.all (by kernel_rfl) (.s .z (dJ (by kernel_rfl) (azo _ dH))))
abbrev E4 (R:Type):Type:=Int->(Bool->Option R)->Option R
def VS (fn:E4 R):br R lg topic_Name_q:=fun x y k=>fn x.1 (fun q0=>k (.bool q0) [])
def MW (fn:E4 R):=aL lg topic_Name_q (VS fn)
section
def VT (x1:Int) (k0:Bool->Option R):Option R:=
 bif(decide (x1>=(0:Int)))then(k0 (decide (x1<=(1000000000:Int))))else(k0 false)
theorem azq:aP (R:=R) tt [] bm false Tryz.f91 lg topic_Name_q (VS VT):=fun x y k=>by kernel_rfl
end
def oq:E4 R:=VT
theorem azr (R:Type):aN ao 91 (MW (oq (R:=R))):=aR (azq) TT mixed .n rfl rfl bp
section
variable (wW:topic_Name_ty R) (oq:E4 R)
def azs:List (aY R):=[aO 63 (topic_Name_s wW),aO 91 (MW oq)]
def VU (x1:ak.State) (k0:Bool->Option R):Option R:=
 wW x1.bW (fun y2=>bif y2 then(oq x1.header (fun y3=>bif y3 then(oq x1.bC (fun y4=>bif y4 then(oq x1.order (fun y5=>bif y5 then(oq x1.update (fun y6=>bif y6 then(oq x1.node (fun y7=>bif y7 then(oq x1.seq (fun y8=>bif y8 then(oq x1.accepted (fun y9=>bif y9 then(bif((bK x1.seq 2)==0)then(bif x1.live then(k0 true)else(k0 (!x1.cB)))else(k0 false))else(k0 false)))else(k0 false)))else(k0 false)))else(k0 false)))else(k0 false)))else(k0 false)))else(k0 false)))else(k0 false))
theorem azt:aP (R:=R) tt (azs wW oq) bm false Tryz.f42 tW topic_Name_q (S6 (VU wW oq)):=fun x y k=>by kernel_rfl
end
def iY:n9 R:=VU wW oq
theorem VV (R:Type):aN ao 42 (yt (iY (R:=R))):=aR (azt wW oq) TT mixed (.c (azp R) <| .c (azr R) <| .n) rfl rfl bp
abbrev ahy (R:Type):Type:=Int->Int->au->(Int->Int->au->Option R)->(Int->Int->Bool->au->Option R)->Option R
abbrev VW (R:Type):Type:=Nat->ahy R
def ahz:oU->St:=fun d=>⟨af d.1::af d.2.1::U 2 (.ptr 0 0::U 32 ([])),[.cells [af d.2.2.aj,af d.2.2.exp]]⟩
def azu (K:KT R) (q0:Int) (q1:Int) (q2:au):Option R:=K (.exit 0) ⟨af q0::af q1::U 2 (.ptr 0 0::U 32 ([])),[.cells [af q2.aj,af q2.exp]]⟩
def azv (K:KT R) (q0:Int) (q1:Int) (q2:Bool) (q3:au):Option R:=K (.ret) ⟨af q0::af q1::U 2 (.ptr 0 0::.bool q2::U 31 ([])),[.cells [af q3.aj,af q3.exp]]⟩
abbrev VX (K:KT R) (d:oU) (f:ahy R):Option R:=f d.1 d.2.1 d.2.2 (azu K) (azv K)
abbrev MX:List ax:=bG::bG::PU 2 (.leaf (.ptr 0 0)::PU 32 ([]))
def ahA (x:ax.aA MX) (y:aH.aA fN):Nat:=(ah x.1+ah x.2.1+au.fu (⟨y.1.1,y.1.2.1⟩:au)+64)
def ahB (x:ax.aA MX) (y:aH.aA fN):oU:=(x.1,x.2.1,(⟨y.1.1,y.1.2.1⟩:au))
def azw (L:VW R):dC R MX fN:=fun x y K=>VX K (ahB x y) (L (ahA x y))
section
variable (jO:VW R)
def qi (aD:Int->Int->au->Option R) (x3:Int) (x4:Int) (x5:au) (e0:Int->Int->au->Option R) (e1:Int->Int->Bool->au->Option R):Option R:=
 bif((bK x3 10)==0)then(bif(decide (x4>(1099511627776:Int)))then(e1 (ae.wrap (pz x3 10)) x4 false (⟨0,0⟩:au))else(aD (ae.wrap (pz x3 10)) (ae.wrap (x4+1)) x5))else(e0 x3 x4 x5)
def ahC (K:KT R) (rc:oU->Option R) (d:oU):Option R:=VX K d (qi (fun z0 z1 z2=>rc (z0,z1,z2)))
def ahD:Nat->Option (Hint×bX R):=fun i=>match i with
 | 3=>some (KM,(cY MX fN (azw jO) dz))
 | _=>none
theorem azx:dn (R:=R) tt [] (ahD jO) 0 Tryz.f101 0 KM ahz (ahC):=fun K rc d=>by kernel_rfl
def AO (x1:Int) (x2:Int) (k0:au->Bool->Option R):Option R:=
 bif(x1==0)then(k0 (⟨0,0⟩:au) true)else(jO (ah x1+ah x2+au.fu (⟨0,0⟩:au)+64) x1 x2 (⟨0,0⟩:au) (fun y6 y7 y8=>bif(decide (y6>(1000000000000000:Int)))then(k0 (⟨0,0⟩:au) false)else(bif(decide (y6<(-1000000000000000:Int)))then(k0 (⟨0,0⟩:au) false)else(bif(decide (y7>(9:Int)))then(k0 (⟨0,0⟩:au) false)else(bif(decide (y7<(-9:Int)))then(k0 (⟨0,0⟩:au) false)else(k0 (⟨y6,y7⟩:au) true))))) (fun y9 bu aS bg=>k0 bg aS))
theorem azy:aP (R:=R) tt [] (ahD jO) false Tryz.f101 AD topic_Name_q (Ta (AO jO)):=fun x y k=>by kernel_rfl
end
def jO:VW R
 | 0,_,_,_,_,_=>none
 | n+1,aB,aC,aG,e0,e1=>qi (fun aB aC aG=>jO n aB aC aG e0 e1) aB aC aG e0 e1
def azz:=dD (R:=R) ahz (ahC) VX (jO) ahA ahB (azx jO) (fun _ _=>by kernel_rfl) (fun _ _ _=>by kernel_rfl) (fun _ _=>by kernel_rfl)
def dQ:yu R:=AO jO
theorem VY (R:Type):aN ao 101 (Cc (dQ (R:=R))):=aR (azy jO) TT mixed .n rfl rfl (dE.all (by kernel_rfl) (.s .z (dJ (by kernel_rfl) (azz _ dH))))
section
variable (dQ:yu R)
def azA:List (aY R):=[aO 101 (Cc dQ)]
def VZ (x1:Int) (k0:Json->Option R):Option R:=
 dQ x1 0 (fun y2 y3=>bif(!y3)then(k0 (⟨1,⟨0,0⟩,([]:ad),([]:List ad),([]:List Json)⟩:Json))else(k0 (⟨4,⟨y2.aj,y2.exp⟩,([]:ad),([]:List ad),([]:List Json)⟩:Json)))
theorem azB:aP (R:=R) tt (azA dQ) bm false Tryz.f56 lg topic_Name_q (Td (VZ dQ)):=fun x y k=>by kernel_rfl
end
def ot:sO R:=VZ dQ
theorem azC (R:Type):aN ao 56 (wg (ot (R:=R))):=aR (azB dQ) TT mixed (.c (VY R) <| .n) rfl rfl bp
section
def ahE (x1:ad) (k0:Json->Option R):Option R:=
 k0 (⟨5,⟨0,0⟩,x1,([]:List ad),([]:List Json)⟩:Json)
theorem azD:aP (R:=R) tt [] bm false Tryz.f57 topic_Name_p topic_Name_q (Tj ahE):=fun x y k=>by kernel_rfl
end
def yK:Et R:=ahE
theorem azE (R:Type):aN ao 57 (KO (yK (R:=R))):=aR (azD) TT mixed .n rfl rfl bp
section
def ahF (x1:Bool) (k0:Json->Option R):Option R:=
 bif x1 then(k0 (⟨3,⟨0,0⟩,([]:ad),([]:List ad),([]:List Json)⟩:Json))else(k0 (⟨2,⟨0,0⟩,([]:ad),([]:List ad),([]:List Json)⟩:Json))
theorem azF:aP (R:=R) tt [] bm false Tryz.f88 KP topic_Name_q (Tq ahF):=fun x y k=>by kernel_rfl
end
def wX:Ce R:=ahF
theorem azG (R:Type):aN ao 88 (G7 (wX (R:=R))):=aR (azF) TT mixed .n rfl rfl bp
abbrev ahG (R:Type):Type:=ad->Int->Json->Int->Int->Int->ad->(Int->Int->Int->ad->Option R)->(Bool->Json->Option R)->Option R
abbrev V0 (R:Type):Type:=Nat->ahG R
def ahH:Hint:=⟨[1,2,4,6],[],[],[],[],[4,5]⟩
abbrev HO:Type:=ad×Int×Json×Int×Int×Int×ad
def ahI:HO->St:=fun d=>⟨.undef::.str d.1::.ptr 0 0::.undef::.ptr 1 0::.undef::af d.2.1::U 32 ([]),[.cells [af d.2.2.1.kind,af d.2.2.1.num.aj,af d.2.2.1.num.exp,.str d.2.2.1.text,.sl .str d.2.2.1.names .no,.sl .json d.2.2.1.items .no],.cells [af d.2.2.2.1,af d.2.2.2.2.1,af d.2.2.2.2.2.1,.str d.2.2.2.2.2.2,.bk,.bk]]⟩
def azH (K:KT R) (q0:Int) (q1:Int) (q2:Int) (q3:ad):Option R:=K (.exit 0) ⟨U 4 (.ptr 0 0::U 34 ([])),[.cells [af q0,af q1,af q2,.str q3,.bk,.bk]]⟩
def azI (K:KT R) (q0:Bool) (q1:Json):Option R:=K (.ret) ⟨U 4 (.ptr 0 0::.bool q0::U 33 ([])),[.cells [af q1.kind,af q1.num.aj,af q1.num.exp,.str q1.text,.sl .str q1.names .no,.sl .json q1.items .no]]⟩
abbrev V1 (K:KT R) (d:HO) (f:ahG R):Option R:=f d.1 d.2.1 d.2.2.1 d.2.2.2.1 d.2.2.2.2.1 d.2.2.2.2.2.1 d.2.2.2.2.2.2 (azH K) (azI K)
abbrev MY:List ax:=.leaf (.undef)::dU::.leaf (.ptr 0 0)::.leaf (.undef)::.leaf (.ptr 1 0)::.leaf (.undef)::bG::PU 32 ([])
abbrev MZ:List aH:=[.cells [aF,aF,aF,.str,.sl .str,.sl .json],.cells [aF,aF,aF,.str,.bk,.bk]]
def ahJ (x:ax.aA MY) (y:aH.aA MZ):Nat:=(av x.2.1+ah x.2.2.2.2.2.2.1+Json.fu (dq y.1)+ah y.2.1.1+ah y.2.1.2.1+ah y.2.1.2.2.1+av y.2.1.2.2.2.1+64)
def ahK (x:ax.aA MY) (y:aH.aA MZ):HO:=(x.2.1,x.2.2.2.2.2.2.1,(dq y.1),y.2.1.1,y.2.1.2.1,y.2.1.2.2.1,y.2.1.2.2.2.1)
def azJ (L:V0 R):dC R MY MZ:=fun x y K=>V1 K (ahK x y) (L (ahJ x y))
section
variable (rU:V0 R)
def M0 (aD:ad->Int->Json->Int->Int->Int->ad->Option R) (x3:ad) (x4:Int) (x5:Json) (x6:Int) (x7:Int) (x8:Int) (x9:ad) (e0:Int->Int->Int->ad->Option R) (e1:Bool->Json->Option R):Option R:=
 bif(decide (x4<(x5.names.length:Int)))then(bif(decide (x4<(x5.items.length:Int)))then(bif(x5.kind==7)then(ag (decide ((0:Int)<=x4)&&decide (x4<x5.names.length)) (bif((x5.names.getD x4.toNat (Ty.az .str))==x3)then(ag (decide ((0:Int)<=x4)&&decide (x4<x5.items.length)) (e1 true (⟨(x5.items.getD x4.toNat (Ty.az .json)).kind,⟨(x5.items.getD x4.toNat (Ty.az .json)).num.aj,(x5.items.getD x4.toNat (Ty.az .json)).num.exp⟩,(x5.items.getD x4.toNat (Ty.az .json)).text,(x5.items.getD x4.toNat (Ty.az .json)).names,(x5.items.getD x4.toNat (Ty.az .json)).items⟩:Json)))else(aD x3 (ae.wrap (x4+1)) (⟨x5.kind,⟨x5.num.aj,x5.num.exp⟩,x5.text,x5.names,x5.items⟩:Json) x6 x7 x8 x9)))else(e0 x6 x7 x8 x9))else(e0 x6 x7 x8 x9))else(e0 x6 x7 x8 x9)
def ahL (K:KT R) (rc:HO->Option R) (d:HO):Option R:=V1 K d (M0 (fun z0 z1 z2 z3 z4 z5 z6=>rc (z0,z1,z2,z3,z4,z5,z6)))
def ahM:Nat->Option (Hint×bX R):=fun i=>match i with
 | 2=>some (ahH,(cY MY MZ (azJ rU) dz))
 | _=>none
theorem azK:dn (R:=R) tt [] (ahM rU) 0 Tryz.f100 0 ahH ahI (ahL):=fun K rc d=>by kernel_rfl
def V2 (x1:Json) (x2:ad) (k0:Json->Bool->Option R):Option R:=
 rU (av x2+ah 0+Json.fu (⟨x1.kind,⟨x1.num.aj,x1.num.exp⟩,x1.text,x1.names,x1.items⟩:Json)+ah 0+ah 0+ah 0+av ([]:ad)+64) x2 0 (⟨x1.kind,⟨x1.num.aj,x1.num.exp⟩,x1.text,x1.names,x1.items⟩:Json) 0 0 0 ([]:ad) (fun aS bg cd aU=>k0 (⟨0,⟨0,0⟩,([]:ad),([]:List ad),([]:List Json)⟩:Json) false) (fun bU cA=>k0 (⟨cA.kind,⟨cA.num.aj,cA.num.exp⟩,cA.text,cA.names,cA.items⟩:Json) bU)
theorem azL:aP (R:=R) tt [] (ahM rU) false Tryz.f100 om topic_Name_q (Vd (V2 rU)):=fun x y k=>by kernel_rfl
end
def rU:V0 R
 | 0,_,_,_,_,_,_,_,_,_=>none
 | n+1,aB,aC,aG,bq,cg,cw,dP,e0,e1=>M0 (fun aB aC aG bq cg cw dP=>rU n aB aC aG bq cg cw dP e0 e1) aB aC aG bq cg cw dP e0 e1
def azM:=dD (R:=R) ahI (ahL) V1 (rU) ahJ ahK (azK rU) (fun _ _=>by kernel_rfl) (fun _ _ _=>by kernel_rfl) (fun _ _=>by kernel_rfl)
def fw:uu R:=V2 rU
theorem M1 (R:Type):aN ao 100 (yE (fw (R:=R))):=aR (azL rU) TT mixed .n rfl rfl (dE.all (by kernel_rfl) (.s .z (dJ (by kernel_rfl) (azM _ dH))))
abbrev ahN (R:Type):Type:=(List ad)->(List Json)->Int->Int->Int->Int->ad->Int->Int->Int->ad->(List ad)->(List Json)->(Int->Int->Int->ad->Int->Int->Int->ad->(List ad)->(List Json)->Option R)->Option R
abbrev V3 (R:Type):Type:=Nat->ahN R
def ahO:Hint:=⟨[0,1,4,5,6],[],[],[(1,4,.str,false),(1,5,.json,false)],[],[4,5]⟩
abbrev HP:Type:=(List ad)×(List Json)×Int×Int×Int×Int×ad×Int×Int×Int×ad×(List ad)×(List Json)
def ahP:HP->St:=fun d=>⟨.sl .str d.1 .no::.sl .json d.2.1 .no::U 2 (.ptr 0 0::.ptr 1 0::af d.2.2.1::U 45 ([])),[.cells [af d.2.2.2.1,af d.2.2.2.2.1,af d.2.2.2.2.2.1,.str d.2.2.2.2.2.2.1,.bk,.bk],.cells [af d.2.2.2.2.2.2.2.1,af d.2.2.2.2.2.2.2.2.1,af d.2.2.2.2.2.2.2.2.2.1,.str d.2.2.2.2.2.2.2.2.2.2.1,.sl .str d.2.2.2.2.2.2.2.2.2.2.2.1 (.own 2),.sl .json d.2.2.2.2.2.2.2.2.2.2.2.2 (.own 3)],.tok,.tok]⟩
def azN (K:KT R) (q0:Int) (q1:Int) (q2:Int) (q3:ad) (q4:Int) (q5:Int) (q6:Int) (q7:ad) (q8:List ad) (q9:List Json):Option R:=K (.exit 0) ⟨U 4 (.ptr 0 0::.ptr 1 0::U 46 ([])),[.cells [af q0,af q1,af q2,.str q3,.bk,.bk],.cells [af q4,af q5,af q6,.str q7,.sl .str q8 (.own 2),.sl .json q9 (.own 3)],.tok,.tok]⟩
abbrev V4 (K:KT R) (d:HP) (f:ahN R):Option R:=f d.1 d.2.1 d.2.2.1 d.2.2.2.1 d.2.2.2.2.1 d.2.2.2.2.2.1 d.2.2.2.2.2.2.1 d.2.2.2.2.2.2.2.1 d.2.2.2.2.2.2.2.2.1 d.2.2.2.2.2.2.2.2.2.1 d.2.2.2.2.2.2.2.2.2.2.1 d.2.2.2.2.2.2.2.2.2.2.2.1 d.2.2.2.2.2.2.2.2.2.2.2.2 (azN K)
abbrev M3:List ax:=.leaf (.sl .str)::.leaf (.sl .json)::PU 2 (.leaf (.ptr 0 0)::.leaf (.ptr 1 0)::bG::PU 45 ([]))
def ahQ (x:ax.aA M3) (y:aH.aA AF):Nat:=(av x.1+av x.2.1+ah x.2.2.2.2.2.2.1+ah y.1.1+ah y.1.2.1+ah y.1.2.2.1+av y.1.2.2.2.1+ah y.2.1.1+ah y.2.1.2.1+ah y.2.1.2.2.1+av y.2.1.2.2.2.1+av y.2.1.2.2.2.2.1+av y.2.1.2.2.2.2.2.1+64)
def ahR (x:ax.aA M3) (y:aH.aA AF):HP:=(x.1,x.2.1,x.2.2.2.2.2.2.1,y.1.1,y.1.2.1,y.1.2.2.1,y.1.2.2.2.1,y.2.1.1,y.2.1.2.1,y.2.1.2.2.1,y.2.1.2.2.2.1,y.2.1.2.2.2.2.1,y.2.1.2.2.2.2.2.1)
def azO (L:V3 R):dC R M3 AF:=fun x y K=>V4 K (ahR x y) (L (ahQ x y))
section
variable (fw:uu R) (rV:V3 R)
def ahS:List (aY R):=[aO 100 (yE fw)]
def M4 (aD:(List ad)->(List Json)->Int->Int->Int->Int->ad->Int->Int->Int->ad->(List ad)->(List Json)->Option R) (x3:List ad) (x4:List Json) (x5:Int) (x6:Int) (x7:Int) (x8:Int) (x9:ad) (gL:Int) (hU:Int) (hY:Int) (eK:ad) (fC:List ad) (bw:List Json) (e0:Int->Int->Int->ad->Int->Int->Int->ad->(List ad)->(List Json)->Option R):Option R:=
 bif(decide (x5<(x3.length:Int)))then(bif(decide (x5<(x4.length:Int)))then(ag (decide ((0:Int)<=x5)&&decide (x5<x3.length)) (fw (⟨gL,⟨hU,hY⟩,eK,fC,bw⟩:Json) (x3.getD x5.toNat (Ty.az .str)) (fun cP cV=>bif(!cV)then(ag (decide ((0:Int)<=x5)&&decide (x5<x3.length)) (ag (decide ((fC.length+1)*16<=140737488355328)) (ag (decide ((0:Int)<=x5)&&decide (x5<x4.length)) (ag (decide ((bw.length+1)*88<=140737488355328)) (aD x3 x4 (ae.wrap (x5+1)) x6 x7 x8 x9 gL hU hY eK (fC++([(x3.getD x5.toNat (Ty.az .str))]:List ad)) (bw++([(⟨(x4.getD x5.toNat (Ty.az .json)).kind,⟨(x4.getD x5.toNat (Ty.az .json)).num.aj,(x4.getD x5.toNat (Ty.az .json)).num.exp⟩,(x4.getD x5.toNat (Ty.az .json)).text,(x4.getD x5.toNat (Ty.az .json)).names,(x4.getD x5.toNat (Ty.az .json)).items⟩:Json)]:List Json)))))))else(aD x3 x4 (ae.wrap (x5+1)) x6 x7 x8 x9 gL hU hY eK fC bw))))else(e0 x6 x7 x8 x9 gL hU hY eK fC bw))else(e0 x6 x7 x8 x9 gL hU hY eK fC bw)
def ahT (K:KT R) (rc:HP->Option R) (d:HP):Option R:=V4 K d (M4 fw (fun z0 z1 z2 z3 z4 z5 z6 z7 z8 z9 bM bH z12=>rc (z0,z1,z2,z3,z4,z5,z6,z7,z8,z9,bM,bH,z12)))
def ahU:Nat->Option (Hint×bX R):=fun i=>match i with
 | 3=>some (ahO,(cY M3 AF (azO rV) dz))
 | _=>none
theorem azP:dn (R:=R) tt (ahS fw) (ahU rV) 0 Tryz.f55 0 ahO ahP (ahT fw):=fun K rc d=>by kernel_rfl
def V5 (x1:List ad) (x2:List Json) (k0:Json->Option R):Option R:=
 rV (av x1+av x2+ah 0+ah 0+ah 0+ah 0+av ([]:ad)+ah 7+ah 0+ah 0+av ([]:ad)+av ([]:List ad)+av ([]:List Json)+64) x1 x2 0 0 0 0 ([]:ad) 7 0 0 ([]:ad) ([]:List ad) ([]:List Json) (fun eA eB bB jl fe iG dK fO cH cN=>k0 (⟨fe,⟨iG,dK⟩,fO,cH,cN⟩:Json))
theorem azQ:aP (R:=R) tt (ahS fw) (ahU rV) false Tryz.f55 K3 topic_Name_q (TX (V5 rV)):=fun x y k=>by kernel_rfl
end
def rV:V3 R
 | 0,_,_,_,_,_,_,_,_,_,_,_,_,_,_=>none
 | n+1,aB,aC,aG,bq,cg,cw,dP,eC,eD,eE,fm,jm,l0,e0=>M4 fw (fun aB aC aG bq cg cw dP eC eD eE fm jm l0=>rV n aB aC aG bq cg cw dP eC eD eE fm jm l0 e0) aB aC aG bq cg cw dP eC eD eE fm jm l0 e0
def azR:=dD (R:=R) ahP (ahT fw) V4 (rV) ahQ ahR (azP fw rV) (fun _ _=>by kernel_rfl) (fun _ _ _=>by kernel_rfl) (fun _ _=>by kernel_rfl)
def wY:Cg R:=V5 rV
theorem azS (R:Type):aN ao 55 (K4 (wY (R:=R))):=aR (azQ fw rV) TT mixed (.c (M1 R) <| .n) rfl rfl (dE.all (by kernel_rfl) (.s .z (dJ (by kernel_rfl) (azR _ dH))))
section
variable (dQ:yu R)
def azT:List (aY R):=[aO 101 (Cc dQ)]
def HQ (x1:au) (k0:Bool->Option R):Option R:=
 dQ x1.aj x1.exp (fun y2 y3=>bif y3 then(k0 (y2.aj==x1.aj&&(y2.exp==x1.exp&&true)))else(k0 false))
theorem azU:aP (R:=R) tt (azT dQ) bm false Tryz.f155 sQ topic_Name_q (T1 (HQ dQ)):=fun x y k=>by kernel_rfl
end
def eV:wk R:=HQ dQ
theorem V6 (R:Type):aN ao 155 (AG (eV (R:=R))):=aR (azU dQ) TT mixed (.c (VY R) <| .n) rfl rfl bp
variable {R:Type}
abbrev yL (R:Type):Type:=ad->Int->(Int->Option R)->Option R
abbrev uB:List ax:=[dU,bG]
def M5 (fn:yL R):br R uB topic_Name_q:=fun x y k=>fn x.1 x.2.1 (fun q0=>k (af q0) [])
def Cz (fn:yL R):=aL uB topic_Name_q (M5 fn)
abbrev ahV (R:Type):Type:=ad->Int->Int->Int->Int->Int->(Int->Int->Int->Option R)->(Int->Int->Int->Int->Option R)->Option R
abbrev V7 (R:Type):Type:=Nat->ahV R
def ahW:Hint:=⟨[0,1,6,7,8,9],[],[],[],[],[4,6,7,8]⟩
abbrev HR:Type:=ad×Int×Int×Int×Int×Int
def ahX:HR->St:=fun d=>⟨.str d.1::af d.2.1::U 4 (af d.2.2.1::af d.2.2.2.1::af d.2.2.2.2.1::af d.2.2.2.2.2::U 80 ([])),[]⟩
def azV (K:KT R) (q0:Int) (q1:Int) (q2:Int):Option R:=K (.exit 1) ⟨U 6 (af q0::af q1::af q2::U 81 ([])),[]⟩
def azW (K:KT R) (q0:Int) (q1:Int) (q2:Int) (q3:Int):Option R:=K (.ret) ⟨U 4 (af q0::.undef::af q1::af q2::af q3::U 81 ([])),[]⟩
abbrev V8 (K:KT R) (d:HR) (f:ahV R):Option R:=f d.1 d.2.1 d.2.2.1 d.2.2.2.1 d.2.2.2.2.1 d.2.2.2.2.2 (azV K) (azW K)
abbrev M6:List ax:=dU::bG::PU 4 (bG::bG::bG::bG::PU 80 ([]))
def ahY (x:ax.aA M6) (y:aH.aA topic_Name_q):Nat:=(av x.1+ah x.2.1+ah x.2.2.2.2.2.2.1+ah x.2.2.2.2.2.2.2.1+ah ((t8 x).1)+ah ((t8 x).2.1)+64)
def ahZ (x:ax.aA M6) (y:aH.aA topic_Name_q):HR:=(x.1,x.2.1,x.2.2.2.2.2.2.1,x.2.2.2.2.2.2.2.1,(t8 x).1,(t8 x).2.1)
def azX (L:V7 R):dC R M6 topic_Name_q:=fun x y K=>V8 K (ahZ x y) (L (ahY x y))
section
variable (jP:V7 R)
def CA (aD:ad->Int->Int->Int->Int->Int->Option R) (hY:ad) (eK:Int) (fC:Int) (bw:Int) (bZ:Int) (bt:Int) (e0:Int->Int->Int->Option R) (e1:Int->Int->Int->Int->Option R):Option R:=
 bif(decide (bt<fC))then(ag (decide ((0:Int)<=(ae.wrap (eK+bt)))&&decide ((ae.wrap (eK+bt))<hY.length)) (bif((aM.wrap ((aJ aM.bits ((hY.getD ((ae.wrap (eK+bt)).toNat) 0).toNat:Int)&&&aJ aM.bits 192).toNat:Int)) != 128)then(e1 0 fC bw bZ)else(ag (decide ((0:Int)<=(ae.wrap (eK+bt)))&&decide ((ae.wrap (eK+bt))<hY.length)) (aD hY eK fC bw (ae.wrap ((aJ ae.bits (ae.wrap (bZ*2 ^ (min 6 ae.bits))) ||| aJ ae.bits (ae.wrap (aM.wrap ((aJ aM.bits ((hY.getD ((ae.wrap (eK+bt)).toNat) 0).toNat:Int)&&&aJ aM.bits 63).toNat:Int)))).toNat:Int)) (ae.wrap (bt+1))))))else(e0 fC bw bZ)
def ah0 (K:KT R) (rc:HR->Option R) (d:HR):Option R:=V8 K d (CA (fun z0 z1 z2 z3 z4 z5=>rc (z0,z1,z2,z3,z4,z5)))
def ah1:Nat->Option (Hint×bX R):=fun i=>match i with
 | 23=>some (ahW,(cY M6 topic_Name_q (azX jP) dz))
 | _=>none
theorem azY:dn (R:=R) tt [] (ah1 jP) 0 Tryz.f209 0 ahW ahX (ah0):=fun K rc d=>by kernel_rfl
def M7 (x1:ad) (x2:Int) (k0:Int->Option R):Option R:=
 ag (decide ((0:Int)<=x2)&&decide (x2<x1.length)) (let wZ:=fun(z9:Int) (bM:Int) (bH:Int)=>bif(decide ((ae.wrap (x2+z9))>(x1.length:Int)))then(k0 0)else(jP (av x1+ah x2+ah z9+ah bM+ah bH+ah 1+64) x1 x2 z9 bM bH 1 (fun cV eA eB=>bif(decide (eB<eA))then(k0 0)else(bif(decide (eB>(1114111:Int)))then(k0 0)else(bif(decide (eB>=(55296:Int)))then(bif(decide (eB<=(57343:Int)))then(k0 0)else(k0 cV))else(k0 cV)))) (fun bB jl fe iG=>k0 bB)); bif(decide (((x1.getD x2.toNat 0).toNat:Int)<(128:Int)))then(k0 1)else(let j8:=fun(z3:Bool)=>bif z3 then(wZ 2 128 (ae.wrap (aM.wrap ((aJ aM.bits ((x1.getD x2.toNat 0).toNat:Int)&&&aJ aM.bits 31).toNat:Int))))else(bif(decide (((x1.getD x2.toNat 0).toNat:Int)>=(224:Int)))then(bif(decide (((x1.getD x2.toNat 0).toNat:Int)<=(239:Int)))then(wZ 3 2048 (ae.wrap (aM.wrap ((aJ aM.bits ((x1.getD x2.toNat 0).toNat:Int)&&&aJ aM.bits 15).toNat:Int))))else(bif(decide (((x1.getD x2.toNat 0).toNat:Int)>=(240:Int)))then(bif(decide (((x1.getD x2.toNat 0).toNat:Int)<=(244:Int)))then(wZ 4 65536 (ae.wrap (aM.wrap ((aJ aM.bits ((x1.getD x2.toNat 0).toNat:Int)&&&aJ aM.bits 7).toNat:Int))))else(k0 0))else(k0 0)))else(bif(decide (((x1.getD x2.toNat 0).toNat:Int)>=(240:Int)))then(bif(decide (((x1.getD x2.toNat 0).toNat:Int)<=(244:Int)))then(wZ 4 65536 (ae.wrap (aM.wrap ((aJ aM.bits ((x1.getD x2.toNat 0).toNat:Int)&&&aJ aM.bits 7).toNat:Int))))else(k0 0))else(k0 0))); bif(decide (((x1.getD x2.toNat 0).toNat:Int)>=(194:Int)))then(j8 (decide (((x1.getD x2.toNat 0).toNat:Int)<=(223:Int))))else(j8 false)))
theorem azZ:aP (R:=R) tt [] (ah1 jP) false Tryz.f209 uB topic_Name_q (M5 (M7 jP)):=fun x y k=>by kernel_rfl
end
def jP:V7 R
 | 0,_,_,_,_,_,_,_,_=>none
 | n+1,aB,aC,aG,bq,cg,cw,e0,e1=>CA (fun aB aC aG bq cg cw=>jP n aB aC aG bq cg cw e0 e1) aB aC aG bq cg cw e0 e1
def az0:=dD (R:=R) ahX (ah0) V8 (jP) ahY ahZ (azY jP) (fun _ _=>by kernel_rfl) (fun _ _ _=>by kernel_rfl) (fun _ _=>by kernel_rfl)
def iK:yL R:=M7 jP
theorem ah2 (R:Type):aN ao 209 (Cz (iK (R:=R))):=aR (azZ jP) TT mixed .n rfl rfl (dE.all (by kernel_rfl) (.s .z (dJ (by kernel_rfl) (az0 _ dH))))
abbrev ah3 (R:Type):Type:=ad->Int->(Option R)->(Bool->Option R)->Option R
abbrev V9 (R:Type):Type:=Nat->ah3 R
def ah4:Hint:=⟨[0,3],[],[],[],[],[2]⟩
def ah5:wV->St:=fun d=>⟨.str d.1::U 2 (af d.2::U 13 ([])),[]⟩
def az1 (K:KT R):Option R:=K (.exit 0) ⟨U 17 ([]),[]⟩
def az2 (K:KT R) (q0:Bool):Option R:=K (.ret) ⟨U 2 (.bool q0::U 14 ([])),[]⟩
abbrev Wa (K:KT R) (d:wV) (f:ah3 R):Option R:=f d.1 d.2 (az1 K) (az2 K)
abbrev M8:List ax:=dU::PU 2 (bG::PU 13 ([]))
def ah6 (x:ax.aA M8) (y:aH.aA topic_Name_q):Nat:=(av x.1+ah x.2.2.2.1+64)
def ah7 (x:ax.aA M8) (y:aH.aA topic_Name_q):wV:=(x.1,x.2.2.2.1)
def az3 (L:V9 R):dC R M8 topic_Name_q:=fun x y K=>Wa K (ah7 x y) (L (ah6 x y))
section
variable (iK:yL R) (ou:V9 R)
def ah8:List (aY R):=[aO 209 (Cz iK)]
def M9 (aD:ad->Int->Option R) (x2:ad) (x3:Int) (e0:Option R) (e1:Bool->Option R):Option R:=
 bif(decide (x3<(x2.length:Int)))then(iK x2 x3 (fun y4=>bif(y4==0)then(e1 false)else(aD x2 (ae.wrap (x3+y4)))))else(e0)
def ah9 (K:KT R) (rc:wV->Option R) (d:wV):Option R:=Wa K d (M9 iK (fun z0 z1=>rc (z0,z1)))
def aia:Nat->Option (Hint×bX R):=fun i=>match i with
 | 2=>some (ah4,(cY M8 topic_Name_q (az3 ou) dz))
 | _=>none
theorem az4:dn (R:=R) tt (ah8 iK) (aia ou) 0 Tryz.f180 0 ah4 ah5 (ah9 iK):=fun K rc d=>by kernel_rfl
def Na (x1:ad) (k0:Bool->Option R):Option R:=
 ou (av x1+ah 0+64) x1 0 (k0 true) (fun y5=>k0 y5)
theorem az5:aP (R:=R) tt (ah8 iK) (aia ou) false Tryz.f180 topic_Name_p topic_Name_q (topic_Name_rr (Na ou)):=fun x y k=>by kernel_rfl
end
def ou:V9 R
 | 0,_,_,_,_=>none
 | n+1,aB,aC,e0,e1=>M9 iK (fun aB aC=>ou n aB aC e0 e1) aB aC e0 e1
def az6:=dD (R:=R) ah5 (ah9 iK) Wa (ou) ah6 ah7 (az4 iK ou) (fun _ _=>by kernel_rfl) (fun _ _ _=>by kernel_rfl) (fun _ _=>by kernel_rfl)
def gd:topic_Name_ty R:=Na ou
theorem aib (R:Type):aN ao 180 (topic_Name_s (gd (R:=R))):=aR (az5 iK ou) TT mixed (.c (ah2 R) <| .n) rfl rfl (dE.all (by kernel_rfl) (.s .z (dJ (by kernel_rfl) (az6 _ dH))))
abbrev aic (R:Type):Type:=(List ad)->ad->Int->(Option R)->(Bool->Option R)->Option R
abbrev Wb (R:Type):Type:=Nat->aic R
def aid:Hint:=⟨[0,1,5],[],[],[],[],[4]⟩
abbrev HS:Type:=(List ad)×ad×Int
def aie:HS->St:=fun d=>⟨.sl .str d.1 .no::.str d.2.1::U 3 (af d.2.2::U 12 ([])),[]⟩
def az7 (K:KT R):Option R:=K (.exit 0) ⟨U 18 ([]),[]⟩
def az8 (K:KT R) (q0:Bool):Option R:=K (.ret) ⟨U 4 (.bool q0::U 13 ([])),[]⟩
abbrev Wc (K:KT R) (d:HS) (f:aic R):Option R:=f d.1 d.2.1 d.2.2 (az7 K) (az8 K)
abbrev Nb:List ax:=.leaf (.sl .str)::dU::PU 3 (bG::PU 12 ([]))
def aif (x:ax.aA Nb) (y:aH.aA topic_Name_q):Nat:=(av x.1+av x.2.1+ah x.2.2.2.2.2.1+64)
def aih (x:ax.aA Nb) (y:aH.aA topic_Name_q):HS:=(x.1,x.2.1,x.2.2.2.2.2.1)
def az9 (L:Wb R):dC R Nb topic_Name_q:=fun x y K=>Wc K (aih x y) (L (aif x y))
section
variable (rW:Wb R)
def Nc (aD:(List ad)->ad->Int->Option R) (x3:List ad) (x4:ad) (x5:Int) (e0:Option R) (e1:Bool->Option R):Option R:=
 bif(decide (x5<(x3.length:Int)))then(ag (decide ((0:Int)<=x5)&&decide (x5<x3.length)) (bif((x3.getD x5.toNat (Ty.az .str))==x4)then(e1 true)else(aD x3 x4 (ae.wrap (x5+1)))))else(e0)
def aii (K:KT R) (rc:HS->Option R) (d:HS):Option R:=Wc K d (Nc (fun z0 z1 z2=>rc (z0,z1,z2)))
def aij:Nat->Option (Hint×bX R):=fun i=>match i with
 | 2=>some (aid,(cY Nb topic_Name_q (az9 rW) dz))
 | _=>none
theorem aAa:dn (R:=R) tt [] (aij rW) 0 Tryz.f154 0 aid aie (aii):=fun K rc d=>by kernel_rfl
def aik (x1:List ad) (x2:ad) (k0:Bool->Option R):Option R:=
 rW (av x1+av x2+ah 0+64) x1 x2 0 (k0 false) (fun y6=>k0 y6)
theorem aAb:aP (R:=R) tt [] (aij rW) false Tryz.f154 Cf topic_Name_q (TH (aik rW)):=fun x y k=>by kernel_rfl
end
def rW:Wb R
 | 0,_,_,_,_,_=>none
 | n+1,aB,aC,aG,e0,e1=>Nc (fun aB aC aG=>rW n aB aC aG e0 e1) aB aC aG e0 e1
def aAc:=dD (R:=R) aie (aii) Wc (rW) aif aih (aAa rW) (fun _ _=>by kernel_rfl) (fun _ _ _=>by kernel_rfl) (fun _ _=>by kernel_rfl)
def gv:AE R:=aik rW
theorem ail (R:Type):aN ao 154 (Ev (gv (R:=R))):=aR (aAb rW) TT mixed .n rfl rfl (dE.all (by kernel_rfl) (.s .z (dJ (by kernel_rfl) (aAc _ dH))))
abbrev aim (R:Type):Type:=Int->Int->Json->(Int->Json->Option R)->(Int->Bool->Json->Option R)->Option R
abbrev Wd (R:Type):Type:=Nat->aim R
abbrev ain (R:Type):Type:=Int->Int->Json->(Option R)->(Bool->Option R)->Option R
abbrev We (R:Type):Type:=Nat->ain R
def aio:Hint:=⟨[1,2,5],[],[],[],[],[1,2,4]⟩
abbrev w9:Type:=Int×Int×Json
def aip:w9->St:=fun d=>⟨.undef::af d.1::.ptr 0 0::U 2 (af d.2.1::U 126 ([])),[.cells [af d.2.2.kind,af d.2.2.num.aj,af d.2.2.num.exp,.str d.2.2.text,.sl .str d.2.2.names .no,.sl .json d.2.2.items .no]]⟩
def aAd (K:KT R) (q0:Int) (q1:Json):Option R:=K (.exit 1) ⟨.undef::af q0::.ptr 0 0::U 129 ([]),[.cells [af q1.kind,af q1.num.aj,af q1.num.exp,.str q1.text,.sl .str q1.names .no,.sl .json q1.items .no]]⟩
def aAe (K:KT R) (q0:Int) (q1:Bool) (q2:Json):Option R:=K (.ret) ⟨.undef::af q0::.ptr 0 0::.undef::.bool q1::U 127 ([]),[.cells [af q2.kind,af q2.num.aj,af q2.num.exp,.str q2.text,.sl .str q2.names .no,.sl .json q2.items .no]]⟩
abbrev Wf (K:KT R) (d:w9) (f:aim R):Option R:=f d.1 d.2.1 d.2.2 (aAd K) (aAe K)
abbrev Nd:List ax:=.leaf (.undef)::bG::.leaf (.ptr 0 0)::PU 2 (bG::PU 126 ([]))
abbrev s8:List aH:=[.cells [aF,aF,aF,.str,.sl .str,.sl .json]]
def aiq (x:ax.aA Nd) (y:aH.aA s8):Nat:=(ah x.2.1+ah x.2.2.2.2.2.1+Json.fu (dq y.1)+64)
def air (x:ax.aA Nd) (y:aH.aA s8):w9:=(x.2.1,x.2.2.2.2.2.1,(dq y.1))
def aAf (L:Wd R):dC R Nd s8:=fun x y K=>Wf K (air x y) (L (aiq x y))
def ais:Hint:=⟨[1,2,8],[],[],[],[],[4]⟩
def ait:w9->St:=fun d=>⟨.undef::af d.1::.ptr 0 0::U 5 (af d.2.1::U 123 ([])),[.cells [af d.2.2.kind,af d.2.2.num.aj,af d.2.2.num.exp,.str d.2.2.text,.sl .str d.2.2.names .no,.sl .json d.2.2.items .no]]⟩
def aAg (K:KT R):Option R:=K (.exit 3) ⟨U 132 ([]),[]⟩
def aAh (K:KT R) (q0:Bool):Option R:=K (.ret) ⟨U 4 (.bool q0::U 127 ([])),[]⟩
abbrev Wg (K:KT R) (d:w9) (f:ain R):Option R:=f d.1 d.2.1 d.2.2 (aAg K) (aAh K)
abbrev Nf:List ax:=.leaf (.undef)::bG::.leaf (.ptr 0 0)::PU 5 (bG::PU 123 ([]))
def aiu (x:ax.aA Nf) (y:aH.aA s8):Nat:=(ah x.2.1+ah ((t8 x).1)+Json.fu (dq y.1)+64)
def aiv (x:ax.aA Nf) (y:aH.aA s8):w9:=(x.2.1,(t8 x).1,(dq y.1))
def aAi (L:We R):dC R Nf s8:=fun x y K=>Wg K (aiv x y) (L (aiu x y))
section
variable (gd:topic_Name_ty R) (eV:wk R) (gv:AE R) (iL:gq R) (nB:Wd R) (mc:We R)
def Wh:List (aY R):=[aO 180 (topic_Name_s gd),aO 155 (AG eV),aO 154 (Ev gv),aO 136 (aL o4 topic_Name_q (kK iL))]
def Ng (aD:Int->Int->Json->Option R) (x7:Int) (x8:Int) (x9:Json) (e0:Int->Json->Option R) (e1:Int->Bool->Json->Option R):Option R:=
 bif(decide (x8<(x9.names.length:Int)))then(ag (decide ((0:Int)<=x8)&&decide (x8<x9.names.length)) (gd (x9.names.getD x8.toNat (Ty.az .str)) (fun bu=>ag (decide ((0:Int)<=x8)&&decide (x8<=x9.names.length)) (ag (decide ((0:Int)<=x8)) (ag (decide ((0:Int)<=x8)&&decide (x8<x9.names.length)) (gv ((x9.names.drop 0).take (x8.toNat - 0)) (x9.names.getD x8.toNat (Ty.az .str)) (fun aS=>bif(!bu)then(e1 x7 false (⟨x9.kind,⟨x9.num.aj,x9.num.exp⟩,x9.text,x9.names,x9.items⟩:Json))else(bif aS then(e1 x7 false (⟨x9.kind,⟨x9.num.aj,x9.num.exp⟩,x9.text,x9.names,x9.items⟩:Json))else(aD x7 (ae.wrap (x8+1)) (⟨x9.kind,⟨x9.num.aj,x9.num.exp⟩,x9.text,x9.names,x9.items⟩:Json))))))))))else(e0 x7 (⟨x9.kind,⟨x9.num.aj,x9.num.exp⟩,x9.text,x9.names,x9.items⟩:Json))
def aiw (K:KT R) (rc:w9->Option R) (d:w9):Option R:=Wf K d (Ng gd gv (fun z0 z1 z2=>rc (z0,z1,z2)))
def Nh (aD:Int->Int->Json->Option R) (nq:Int) (x22:Int) (ib:Json) (e0:Option R) (e1:Bool->Option R):Option R:=
 bif(decide (x22<(ib.items.length:Int)))then(ag (decide ((0:Int)<=x22)&&decide (x22<ib.items.length)) (iL (⟨(ib.items.getD x22.toNat (Ty.az .json)).kind,⟨(ib.items.getD x22.toNat (Ty.az .json)).num.aj,(ib.items.getD x22.toNat (Ty.az .json)).num.exp⟩,(ib.items.getD x22.toNat (Ty.az .json)).text,(ib.items.getD x22.toNat (Ty.az .json)).names,(ib.items.getD x22.toNat (Ty.az .json)).items⟩:Json) (ae.wrap (nq+1)) (fun iG=>bif(!iG)then(e1 false)else(aD nq (ae.wrap (x22+1)) (⟨ib.kind,⟨ib.num.aj,ib.num.exp⟩,ib.text,ib.names,ib.items⟩:Json)))))else(e0)
def aix (K:KT R) (rc:w9->Option R) (d:w9):Option R:=Wg K d (Nh iL (fun z0 z1 z2=>rc (z0,z1,z2)))
def Wi:Nat->Option (Hint×bX R):=fun i=>match i with
 | 17=>some (aio,(cY Nd s8 (aAf nB) dz))
 | 25=>some (ais,(cY Nf s8 (aAi mc) dz))
 | _=>none
theorem aAj:dn (R:=R) tt (Wh gd eV gv iL) (Wi nB mc) 0 Tryz.f136 0 aio aip (aiw gd gv):=fun K rc d=>by kernel_rfl
theorem aAk:dn (R:=R) tt (Wh gd eV gv iL) (Wi nB mc) 0 Tryz.f136 1 ais ait (aix iL):=fun K rc d=>by kernel_rfl
def aiy (x1:Json) (x2:Int) (k0:Bool->Option R):Option R:=
 let jQ:=let wZ:=fun(jF:Int) (z20:Json)=>mc (ah jF+ah 0+Json.fu (⟨z20.kind,⟨z20.num.aj,z20.num.exp⟩,z20.text,z20.names,z20.items⟩:Json)+64) jF 0 (⟨z20.kind,⟨z20.num.aj,z20.num.exp⟩,z20.text,z20.names,z20.items⟩:Json) (k0 true) (fun dK=>k0 dK); let uo:=fun(z4:Bool)=>bif z4 then(k0 true)else(bif(x1.kind==4)then(eV x1.num (fun y5=>k0 y5))else(bif(x1.kind==5)then(gd x1.text (fun y6=>k0 y6))else(bif(x1.kind==7)then(bif((x1.names.length:Int) != (x1.items.length:Int))then(k0 false)else(nB (ah x2+ah 0+Json.fu (⟨x1.kind,⟨x1.num.aj,x1.num.exp⟩,x1.text,x1.names,x1.items⟩:Json)+64) x2 0 (⟨x1.kind,⟨x1.num.aj,x1.num.exp⟩,x1.text,x1.names,x1.items⟩:Json) (fun cd aU=>wZ cd (⟨aU.kind,⟨aU.num.aj,aU.num.exp⟩,aU.text,aU.names,aU.items⟩:Json)) (fun bU cA cP=>k0 cA)))else(bif(x1.kind==6)then(wZ x2 (⟨x1.kind,⟨x1.num.aj,x1.num.exp⟩,x1.text,x1.names,x1.items⟩:Json))else(k0 false))))); bif(x1.kind==1)then(uo (x1.kind==1))else(bif(x1.kind==2)then(uo (x1.kind==2))else(uo (x1.kind==3))); bif(decide (x2>(16:Int)))then(k0 false)else(bif(x1.kind != 4)then(bif(!(x1.num.aj==0&&(x1.num.exp==0&&true)))then(k0 false)else(bif(x1.kind != 5)then(bif(!(x1.text==([]:ad)))then(k0 false)else(bif(x1.kind != 7)then(bif(decide ((x1.names.length:Int)>(0:Int)))then(k0 false)else(bif(x1.kind != 7)then(bif(x1.kind != 6)then(bif(decide ((x1.items.length:Int)>(0:Int)))then(k0 false)else(jQ))else(jQ))else(jQ)))else(bif(x1.kind != 7)then(bif(x1.kind != 6)then(bif(decide ((x1.items.length:Int)>(0:Int)))then(k0 false)else(jQ))else(jQ))else(jQ))))else(bif(x1.kind != 7)then(bif(decide ((x1.names.length:Int)>(0:Int)))then(k0 false)else(bif(x1.kind != 7)then(bif(x1.kind != 6)then(bif(decide ((x1.items.length:Int)>(0:Int)))then(k0 false)else(jQ))else(jQ))else(jQ)))else(bif(x1.kind != 7)then(bif(x1.kind != 6)then(bif(decide ((x1.items.length:Int)>(0:Int)))then(k0 false)else(jQ))else(jQ))else(jQ)))))else(bif(x1.kind != 5)then(bif(!(x1.text==([]:ad)))then(k0 false)else(bif(x1.kind != 7)then(bif(decide ((x1.names.length:Int)>(0:Int)))then(k0 false)else(bif(x1.kind != 7)then(bif(x1.kind != 6)then(bif(decide ((x1.items.length:Int)>(0:Int)))then(k0 false)else(jQ))else(jQ))else(jQ)))else(bif(x1.kind != 7)then(bif(x1.kind != 6)then(bif(decide ((x1.items.length:Int)>(0:Int)))then(k0 false)else(jQ))else(jQ))else(jQ))))else(bif(x1.kind != 7)then(bif(decide ((x1.names.length:Int)>(0:Int)))then(k0 false)else(bif(x1.kind != 7)then(bif(x1.kind != 6)then(bif(decide ((x1.items.length:Int)>(0:Int)))then(k0 false)else(jQ))else(jQ))else(jQ)))else(bif(x1.kind != 7)then(bif(x1.kind != 6)then(bif(decide ((x1.items.length:Int)>(0:Int)))then(k0 false)else(jQ))else(jQ))else(jQ)))))
theorem aAl:aP (R:=R) tt (Wh gd eV gv iL) (Wi nB mc) false Tryz.f136 o4 topic_Name_q (kK (aiy gd eV nB mc)):=fun x y k=>by kernel_rfl
end
def nB:Wd R
 | 0,_,_,_,_,_=>none
 | n+1,aB,aC,aG,e0,e1=>Ng gd gv (fun aB aC aG=>nB n aB aC aG e0 e1) aB aC aG e0 e1
def mc (iL:gq R):We R
 | 0,_,_,_,_,_=>none
 | n+1,aB,aC,aG,e0,e1=>Nh iL (fun aB aC aG=>mc iL n aB aC aG e0 e1) aB aC aG e0 e1
def aAm (iL:gq R):=dD (R:=R) aip (aiw gd gv) Wf (nB) aiq air (aAj gd eV gv iL nB (mc iL)) (fun _ _=>by kernel_rfl) (fun _ _ _=>by kernel_rfl) (fun _ _=>by kernel_rfl)
def aAn (iL:gq R):=dD (R:=R) ait (aix iL) Wg (mc iL) aiu aiv (aAk gd eV gv iL nB (mc iL)) (fun _ _=>by kernel_rfl) (fun _ _ _=>by kernel_rfl) (fun _ _=>by kernel_rfl)
def Wj (iL:gq R):gq R:=aiy gd eV nB (mc iL)
theorem aAo (R:Type) (iL:gq R) (aAp:ak.Spec.Ok ao 136 (aL o4 topic_Name_q (kK iL) dy)):aN ao 136 (Lc (Wj iL)):=aR (aAl gd eV gv iL nB (mc iL)) TT mixed (.c (aib R) <| .c (V6 R) <| .c (ail R) <| .p aAp <| .n) rfl rfl (dE.all (by kernel_rfl) (.s (.s .z (dJ (by kernel_rfl) (aAm iL _ dH))) (dJ (by kernel_rfl) (aAn iL _ dH))))
def nC:Nat->gq R
 | 0,_,_,_=>none
 | n+1,aB,aC,o3=>Wj (nC n) aB aC o3
theorem aJm (n:Nat):nC (R:=R) (n+1)=Wj (nC n):=by kernel_rfl
theorem aAq (R:Type):∀n,ak.Spec.Ok ao 136 (aL o4 topic_Name_q (kK (nC (R:=R) n)) dy):=
 yo (run:=fun n=>kK (nC (R:=R) n)) (fun x y k=>by kernel_rfl) fun n hyp=>aAo R (nC n) hyp dy (iB _)
def yM:gq R:=fun x1 x2 k0=>nC (Json.depth x1+2) x1 x2 k0
theorem aAr (R:Type):kK (R:=R) yM=fun x y k=>kK (nC (Json.depth (dq x.1)+2)) x y k:=by kernel_rfl
theorem aAs (R:Type) (other:ak.Spec R) (ho:ak.Spec.Ok ao 136 other):ak.Spec.Ok ao 136 (aL o4 topic_Name_q (kK yM) other):=
 Ax (Aw (run:=fun n=>kK (nC (R:=R) n)) (fun x y=>(Json.depth (dq x.1)+2)) ho (aAq R)) (aAr R)
section
variable (yM:gq R)
def aAt:List (aY R):=[aO 136 (Lc yM)]
def aiz (x1:Json) (k0:Bool->Option R):Option R:=
 yM (⟨x1.kind,⟨x1.num.aj,x1.num.exp⟩,x1.text,x1.names,x1.items⟩:Json) 1 (fun y2=>k0 y2)
theorem aAu:aP (R:=R) tt (aAt yM) bm false Tryz.f103 gK topic_Name_q (Ua (aiz yM)):=fun x y k=>by kernel_rfl
end
def uC:EA R:=aiz yM
theorem aAv (R:Type):aN ao 103 (Lk (uC (R:=R))):=aR (aAu yM) TT mixed (.p (aAs R _ (iB _)) <| .n) rfl rfl bp
abbrev yN (R:Type):Type:=Int->(ad->Option R)->Option R
def xa (fn:yN R):br R lg topic_Name_q:=fun x y k=>fn x.1 (fun q0=>k (.str q0) [])
def aiA (fn:yN R):=aL lg topic_Name_q (xa fn)
section
variable (xb:yN R)
def aAw:List (aY R):=[aO 181 (aL lg topic_Name_q (xa xb))]
def Ni (x1:Int) (k0:ad->Option R):Option R:=
 bif(decide (x1>=(10:Int)))then(xb (ae.wrap (pz x1 10)) (fun y2=>ag (decide (y2.length+(cU (fun n:Int=>bl n.toNat) ([(aM.wrap (ae.wrap (48+(bK x1 10))))]:List Int):ad).length<=9223372036854775807)) (k0 (y2++(cU (fun n:Int=>bl n.toNat) ([(aM.wrap (ae.wrap (48+(bK x1 10))))]:List Int):ad)))))else(k0 (cU (fun n:Int=>bl n.toNat) ([(aM.wrap (ae.wrap (48+(bK x1 10))))]:List Int):ad))
theorem aAx:aP (R:=R) tt (aAw xb) bm false Tryz.f181 lg topic_Name_q (xa (Ni xb)):=fun x y k=>by kernel_rfl
end
def Wl (xb:yN R):yN R:=Ni xb
theorem aAy (R:Type) (xb:yN R) (aAz:ak.Spec.Ok ao 181 (aL lg topic_Name_q (xa xb) dy)):aN ao 181 (aiA (Wl xb)):=aR (aAx xb) TT mixed (.p aAz <| .n) rfl rfl bp
def rX:Nat->yN R
 | 0,_,_=>none
 | n+1,aB,o3=>Wl (rX n) aB o3
theorem aJn (n:Nat):rX (R:=R) (n+1)=Wl (rX n):=by kernel_rfl
theorem aAA (R:Type):∀n,ak.Spec.Ok ao 181 (aL lg topic_Name_q (xa (rX (R:=R) n)) dy):=
 yo (run:=fun n=>xa (rX (R:=R) n)) (fun x y k=>by kernel_rfl) fun n hyp=>aAy R (rX n) hyp dy (iB _)
def ov:yN R:=fun x1 k0=>rX (ah x1+2) x1 k0
theorem aAB (R:Type):xa (R:=R) ov=fun x y k=>xa (rX (ah x.1+2)) x y k:=by kernel_rfl
theorem aAC (R:Type) (other:ak.Spec R) (ho:ak.Spec.Ok ao 181 other):ak.Spec.Ok ao 181 (aL lg topic_Name_q (xa ov) other):=
 Ax (Aw (run:=fun n=>xa (rX (R:=R) n)) (fun x y=>(ah x.1+2)) ho (aAA R)) (aAB R)
variable {R:Type}
abbrev aiB (R:Type):Type:=ad->Int->au->(ad->au->Option R)->Option R
abbrev Wm (R:Type):Type:=Nat->aiB R
abbrev aiC (R:Type):Type:=ad->au->(ad->au->Option R)->Option R
abbrev Wn (R:Type):Type:=Nat->aiC R
def aiD:Hint:=⟨[1,4,5],[],[],[],[],[1,2,4]⟩
abbrev HT:Type:=ad×Int×au
def aiE:HT->St:=fun d=>⟨.undef::.ptr 0 0::U 2 (.str d.1::af d.2.1::U 52 ([])),[.cells [af d.2.2.aj,af d.2.2.exp]]⟩
def aAD (K:KT R) (q0:ad) (q1:au):Option R:=K (.exit 0) ⟨.undef::.ptr 0 0::U 2 (.str q0::U 53 ([])),[.cells [af q1.aj,af q1.exp]]⟩
abbrev Wo (K:KT R) (d:HT) (f:aiB R):Option R:=f d.1 d.2.1 d.2.2 (aAD K)
abbrev Nj:List ax:=.leaf (.undef)::.leaf (.ptr 0 0)::PU 2 (dU::bG::PU 52 ([]))
def aiF (x:ax.aA Nj) (y:aH.aA fN):Nat:=(av x.2.2.2.2.1+ah x.2.2.2.2.2.1+au.fu (⟨y.1.1,y.1.2.1⟩:au)+64)
def aiG (x:ax.aA Nj) (y:aH.aA fN):HT:=(x.2.2.2.2.1,x.2.2.2.2.2.1,(⟨y.1.1,y.1.2.1⟩:au))
def aAE (L:Wm R):dC R Nj fN:=fun x y K=>Wo K (aiG x y) (L (aiF x y))
def aiH:Hint:=⟨[1,4],[],[],[],[],[1,2,4]⟩
abbrev HU:Type:=ad×au
def aiI:HU->St:=fun d=>⟨.undef::.ptr 0 0::U 2 (.str d.1::U 53 ([])),[.cells [af d.2.aj,af d.2.exp]]⟩
def aAF (K:KT R) (q0:ad) (q1:au):Option R:=K (.exit 2) ⟨.undef::.ptr 0 0::U 2 (.str q0::U 53 ([])),[.cells [af q1.aj,af q1.exp]]⟩
abbrev Wp (K:KT R) (d:HU) (f:aiC R):Option R:=f d.1 d.2 (aAF K)
abbrev Nk:List ax:=.leaf (.undef)::.leaf (.ptr 0 0)::PU 2 (dU::PU 53 ([]))
def aiJ (x:ax.aA Nk) (y:aH.aA fN):Nat:=(av x.2.2.2.2.1+au.fu (⟨y.1.1,y.1.2.1⟩:au)+64)
def aiK (x:ax.aA Nk) (y:aH.aA fN):HU:=(x.2.2.2.2.1,(⟨y.1.1,y.1.2.1⟩:au))
def aAG (L:Wn R):dC R Nk fN:=fun x y K=>Wp K (aiK x y) (L (aiJ x y))
section
variable (eV:wk R) (ov:yN R) (ow:Wm R) (ox:Wn R)
def Wq:List (aY R):=[aO 155 (AG eV),aO 181 (aiA ov)]
def Wr (aD:ad->Int->au->Option R) (x4:ad) (x5:Int) (x6:au) (e0:ad->au->Option R):Option R:=
 bif(decide (x5<x6.exp))then(ag (decide (x4.length+1<=9223372036854775807)) (aD (x4++([48]:ad)) (ae.wrap (x5+1)) x6))else(e0 x4 x6)
def aiL (K:KT R) (rc:HT->Option R) (d:HT):Option R:=Wo K d (Wr (fun z0 z1 z2=>rc (z0,z1,z2)))
def Ws (aD:ad->au->Option R) (x9:ad) (gL:au) (e0:ad->au->Option R):Option R:=
 bif(decide ((x9.length:Int)<=(ae.wrap (0 - gL.exp))))then(ag (decide (1+x9.length<=9223372036854775807)) (aD (([48]:ad)++x9) gL))else(e0 x9 gL)
def aiM (K:KT R) (rc:HU->Option R) (d:HU):Option R:=Wp K d (Ws (fun z0 z1=>rc (z0,z1)))
def Wu:Nat->Option (Hint×bX R):=fun i=>match i with
 | 6=>some (aiD,(cY Nj fN (aAE ow) dz))
 | 10=>some (aiH,(cY Nk fN (aAG ox) dz))
 | _=>none
theorem aAH:dn (R:=R) tt (Wq eV ov) (Wu ow ox) 0 Tryz.f137 0 aiD aiE (aiL):=fun K rc d=>by kernel_rfl
theorem aAI:dn (R:=R) tt (Wq eV ov) (Wu ow ox) 0 Tryz.f137 1 aiH aiI (aiM):=fun K rc d=>by kernel_rfl
def Nl (x1:au) (k0:ad->Option R):Option R:=
 eV x1 (fun y2=>bif(!y2)then(k0 ([]:ad))else(ov (max x1.aj (ae.wrap (0 - x1.aj))) (fun y3=>ow (av y3+ah 0+au.fu x1+64) y3 0 x1 (fun y7 y8=>bif(decide (y8.exp<(0:Int)))then(ox (av y7+au.fu y8+64) y7 y8 (fun aS bg=>ag (decide ((0:Int)<=(ae.wrap ((aS.length:Int)+bg.exp)))&&decide ((ae.wrap ((aS.length:Int)+bg.exp))<=aS.length)) (ag (decide ((0:Int)<=(ae.wrap ((aS.length:Int)+bg.exp)))) (ag (decide (((aS.drop 0).take ((ae.wrap ((aS.length:Int)+bg.exp)).toNat - 0)).length+1<=9223372036854775807)) (ag (decide ((0:Int)<=(aS.length:Int))&&decide ((aS.length:Int)<=aS.length)) (ag (decide ((0:Int)<=(ae.wrap ((aS.length:Int)+bg.exp)))&&decide ((ae.wrap ((aS.length:Int)+bg.exp))<=(aS.length:Int))) (ag (decide ((((aS.drop 0).take ((ae.wrap ((aS.length:Int)+bg.exp)).toNat - 0))++([46]:ad)).length+((aS.drop (ae.wrap ((aS.length:Int)+bg.exp)).toNat).take ((aS.length:Int).toNat - (ae.wrap ((aS.length:Int)+bg.exp)).toNat)).length<=9223372036854775807)) (bif(decide (bg.aj<(0:Int)))then(ag (decide (1+((((aS.drop 0).take ((ae.wrap ((aS.length:Int)+bg.exp)).toNat - 0))++([46]:ad))++((aS.drop (ae.wrap ((aS.length:Int)+bg.exp)).toNat).take ((aS.length:Int).toNat - (ae.wrap ((aS.length:Int)+bg.exp)).toNat))).length<=9223372036854775807)) (k0 (([45]:ad)++((((aS.drop 0).take ((ae.wrap ((aS.length:Int)+bg.exp)).toNat - 0))++([46]:ad))++((aS.drop (ae.wrap ((aS.length:Int)+bg.exp)).toNat).take ((aS.length:Int).toNat - (ae.wrap ((aS.length:Int)+bg.exp)).toNat))))))else(k0 ((((aS.drop 0).take ((ae.wrap ((aS.length:Int)+bg.exp)).toNat - 0))++([46]:ad))++((aS.drop (ae.wrap ((aS.length:Int)+bg.exp)).toNat).take ((aS.length:Int).toNat - (ae.wrap ((aS.length:Int)+bg.exp)).toNat))))))))))))else(bif(decide (y8.aj<(0:Int)))then(ag (decide (1+y7.length<=9223372036854775807)) (k0 (([45]:ad)++y7)))else(k0 y7))))))
theorem aAJ:aP (R:=R) tt (Wq eV ov) (Wu ow ox) false Tryz.f137 sQ topic_Name_q (Ud (Nl eV ov ow ox)):=fun x y k=>by kernel_rfl
end
def ow:Wm R
 | 0,_,_,_,_=>none
 | n+1,aB,aC,aG,e0=>Wr (fun aB aC aG=>ow n aB aC aG e0) aB aC aG e0
def ox:Wn R
 | 0,_,_,_=>none
 | n+1,aB,aC,e0=>Ws (fun aB aC=>ox n aB aC e0) aB aC e0
def aAK:=dD (R:=R) aiE (aiL) Wo (ow) aiF aiG (aAH eV ov ow ox) (fun _ _=>by kernel_rfl) (fun _ _ _=>by kernel_rfl) (fun _ _=>by kernel_rfl)
def aAL:=dD (R:=R) aiI (aiM) Wp (ox) aiJ aiK (aAI eV ov ow ox) (fun _ _=>by kernel_rfl) (fun _ _ _=>by kernel_rfl) (fun _ _=>by kernel_rfl)
def qj:Cj R:=Nl eV ov ow ox
theorem aAM (R:Type):aN ao 137 (Hh (qj (R:=R))):=aR (aAJ eV ov ow ox) TT mixed (.c (V6 R) <| .p (aAC R _ (iB _)) <| .n) rfl rfl (dE.all (by kernel_rfl) (.s (.s .z (dJ (by kernel_rfl) (aAK _ dH))) (dJ (by kernel_rfl) (aAL _ dH))))
def aiN (fn:rN R):br R lg topic_Name_q:=fun x y k=>fn x.1 (fun q0=>k (.int .u8 q0) [])
def aiO (fn:rN R):=aL lg topic_Name_q (aiN fn)
section
def aiP (x1:Int) (k0:Int->Option R):Option R:=
 ag (decide ((0:Int)<=(bK x1 16))&&decide ((bK x1 16)<(16:Int))) (k0 ((([48,49,50,51,52,53,54,55,56,57,97,98,99,100,101,102]:ad).getD ((bK x1 16).toNat) 0).toNat:Int))
theorem aAN:aP (R:=R) tt [] bm false Tryz.f182 lg topic_Name_q (aiN aiP):=fun x y k=>by kernel_rfl
end
def pa:rN R:=aiP
theorem aAO (R:Type):aN ao 182 (aiO (pa (R:=R))):=aR (aAN) TT mixed .n rfl rfl bp
abbrev aiQ (R:Type):Type:=ad->(List Int)->Int->((List Int)->Option R)->Option R
abbrev Wv (R:Type):Type:=Nat->aiQ R
def aiR:Hint:=⟨[0,5,6],[],[],[],[],[2,3,5]⟩
abbrev xc:Type:=ad×(List Int)×Int
def aiS:xc->St:=fun d=>⟨.str d.1::U 4 (.sl (.int .u8) d.2.1 (.own 0)::af d.2.2::U 77 ([])),[.tok]⟩
def aAP (K:KT R) (q0:List Int):Option R:=K (.exit 0) ⟨U 5 (.sl (.int .u8) q0 (.own 0)::U 78 ([])),[.tok]⟩
abbrev Ww (K:KT R) (d:xc) (f:aiQ R):Option R:=f d.1 d.2.1 d.2.2 (aAP K)
abbrev Nn:List ax:=dU::PU 4 (.leaf (.k9 (.int .u8) 0)::bG::PU 77 ([]))
def aiT (x:ax.aA Nn) (y:aH.aA jD):Nat:=(av x.1+av x.2.2.2.2.2.1+ah x.2.2.2.2.2.2.1+64)
def aiU (x:ax.aA Nn) (y:aH.aA jD):xc:=(x.1,x.2.2.2.2.2.1,x.2.2.2.2.2.2.1)
def aAQ (L:Wv R):dC R Nn jD:=fun x y K=>Ww K (aiU x y) (L (aiT x y))
section
variable (gd:topic_Name_ty R) (pa:rN R) (oy:Wv R)
def aiV:List (aY R):=[aO 180 (topic_Name_s gd),aO 182 (aiO pa)]
def Np (aD:ad->(List Int)->Int->Option R) (x3:ad) (x4:List Int) (x5:Int) (e0:(List Int)->Option R):Option R:=
 bif(decide (x5<(x3.length:Int)))then(ag (decide ((0:Int)<=x5)&&decide (x5<x3.length)) (let j9:=fun(z6:Bool)=>bif z6 then(ag (decide ((x4.length+2)*1<=140737488355328)) (aD x3 ((x4:List Int)++(([92,((x3.getD x5.toNat 0).toNat:Int)]:List Int):List Int)) (ae.wrap (x5+1))))else(bif(((x3.getD x5.toNat 0).toNat:Int)==8)then(ag (decide ((x4.length+2)*1<=140737488355328)) (aD x3 ((x4:List Int)++(([92,98]:List Int):List Int)) (ae.wrap (x5+1))))else(bif(((x3.getD x5.toNat 0).toNat:Int)==9)then(ag (decide ((x4.length+2)*1<=140737488355328)) (aD x3 ((x4:List Int)++(([92,116]:List Int):List Int)) (ae.wrap (x5+1))))else(bif(((x3.getD x5.toNat 0).toNat:Int)==10)then(ag (decide ((x4.length+2)*1<=140737488355328)) (aD x3 ((x4:List Int)++(([92,110]:List Int):List Int)) (ae.wrap (x5+1))))else(bif(((x3.getD x5.toNat 0).toNat:Int)==12)then(ag (decide ((x4.length+2)*1<=140737488355328)) (aD x3 ((x4:List Int)++(([92,102]:List Int):List Int)) (ae.wrap (x5+1))))else(bif(((x3.getD x5.toNat 0).toNat:Int)==13)then(ag (decide ((x4.length+2)*1<=140737488355328)) (aD x3 ((x4:List Int)++(([92,114]:List Int):List Int)) (ae.wrap (x5+1))))else(bif(decide (((x3.getD x5.toNat 0).toNat:Int)<(32:Int)))then(pa (ae.wrap (pz (ae.wrap ((x3.getD x5.toNat 0).toNat:Int)) 16)) (fun y7=>pa (ae.wrap ((x3.getD x5.toNat 0).toNat:Int)) (fun y8=>ag (decide ((x4.length+6)*1<=140737488355328)) (aD x3 ((x4:List Int)++(([92,117,48,48,y7,y8]:List Int):List Int)) (ae.wrap (x5+1))))))else(ag (decide ((x4.length+1)*1<=140737488355328)) (aD x3 ((x4:List Int)++(([((x3.getD x5.toNat 0).toNat:Int)]:List Int):List Int)) (ae.wrap (x5+1)))))))))); bif(((x3.getD x5.toNat 0).toNat:Int)==34)then(j9 true)else(j9 (((x3.getD x5.toNat 0).toNat:Int)==92))))else(e0 x4)
def aiW (K:KT R) (rc:xc->Option R) (d:xc):Option R:=Ww K d (Np pa (fun z0 z1 z2=>rc (z0,z1,z2)))
def aiX:Nat->Option (Hint×bX R):=fun i=>match i with
 | 6=>some (aiR,(cY Nn jD (aAQ oy) dz))
 | _=>none
theorem aAR:dn (R:=R) tt (aiV gd pa) (aiX oy) 0 Tryz.f138 0 aiR aiS (aiW pa):=fun K rc d=>by kernel_rfl
def Nq (x1:ad) (k0:ad->Bool->Option R):Option R:=
 gd x1 (fun y2=>bif(!y2)then(k0 ([]:ad) false)else(oy (av x1+av ([34]:List Int)+ah 0+64) x1 ([34]:List Int) 0 (fun aS=>ag (decide ((aS.length+1)*1<=140737488355328)) (k0 (cU (fun n:Int=>bl n.toNat) ((aS:List Int)++(([34]:List Int):List Int)):ad) true))))
theorem aAS:aP (R:=R) tt (aiV gd pa) (aiX oy) false Tryz.f138 topic_Name_p topic_Name_q (Uj (Nq gd oy)):=fun x y k=>by kernel_rfl
end
def oy:Wv R
 | 0,_,_,_,_=>none
 | n+1,aB,aC,aG,e0=>Np pa (fun aB aC aG=>oy n aB aC aG e0) aB aC aG e0
def aAT:=dD (R:=R) aiS (aiW pa) Ww (oy) aiT aiU (aAR gd pa oy) (fun _ _=>by kernel_rfl) (fun _ _ _=>by kernel_rfl) (fun _ _=>by kernel_rfl)
def kR:Ck R:=Nq gd oy
theorem aAU (R:Type):aN ao 138 (Hj (kR (R:=R))):=aR (aAS gd pa oy) TT mixed (.c (aib R) <| .c (aAO R) <| .n) rfl rfl (dE.all (by kernel_rfl) (.s .z (dJ (by kernel_rfl) (aAT _ dH))))
abbrev aiY (R:Type):Type:=ad->Int->Json->(ad->Json->Option R)->Option R
abbrev Wx (R:Type):Type:=Nat->aiY R
def aiZ:Hint:=⟨[1,5,6],[],[],[],[],[1,2,5]⟩
abbrev HV:Type:=ad×Int×Json
def ai0:HV->St:=fun d=>⟨.undef::.ptr 0 0::U 3 (.str d.1::af d.2.1::U 68 ([])),[.cells [af d.2.2.kind,af d.2.2.num.aj,af d.2.2.num.exp,.str d.2.2.text,.sl .str d.2.2.names .no,.sl .json d.2.2.items .no]]⟩
def aAV (K:KT R) (q0:ad) (q1:Json):Option R:=K (.exit 1) ⟨.undef::.ptr 0 0::U 3 (.str q0::U 69 ([])),[.cells [af q1.kind,af q1.num.aj,af q1.num.exp,.str q1.text,.sl .str q1.names .no,.sl .json q1.items .no]]⟩
abbrev Wy (K:KT R) (d:HV) (f:aiY R):Option R:=f d.1 d.2.1 d.2.2 (aAV K)
abbrev Nr:List ax:=.leaf (.undef)::.leaf (.ptr 0 0)::PU 3 (dU::bG::PU 68 ([]))
def ai1 (x:ax.aA Nr) (y:aH.aA s8):Nat:=(av x.2.2.2.2.2.1+ah x.2.2.2.2.2.2.1+Json.fu (dq y.1)+64)
def ai2 (x:ax.aA Nr) (y:aH.aA s8):HV:=(x.2.2.2.2.2.1,x.2.2.2.2.2.2.1,(dq y.1))
def aAW (L:Wx R):dC R Nr s8:=fun x y K=>Wy K (ai2 x y) (L (ai1 x y))
section
variable (kR:Ck R) (qj:Cj R) (kS:nn R) (lM:Wx R)
def ai3:List (aY R):=[aO 138 (Hj kR),aO 137 (Hh qj),aO 104 (aL gK topic_Name_q (sS kS))]
def Ns (aD:ad->Int->Json->Option R) (x5:ad) (x6:Int) (x7:Json) (e0:ad->Json->Option R):Option R:=
 bif(decide (x6<(x7.items.length:Int)))then(let lJ:=fun(z8:ad)=>let Hy:=fun(bH:ad)=>ag (decide ((0:Int)<=x6)&&decide (x6<x7.items.length)) (kS (⟨(x7.items.getD x6.toNat (Ty.az .json)).kind,⟨(x7.items.getD x6.toNat (Ty.az .json)).num.aj,(x7.items.getD x6.toNat (Ty.az .json)).num.exp⟩,(x7.items.getD x6.toNat (Ty.az .json)).text,(x7.items.getD x6.toNat (Ty.az .json)).names,(x7.items.getD x6.toNat (Ty.az .json)).items⟩:Json) (fun bg=>ag (decide (bH.length+bg.length<=9223372036854775807)) (aD (bH++bg) (ae.wrap (x6+1)) (⟨x7.kind,⟨x7.num.aj,x7.num.exp⟩,x7.text,x7.names,x7.items⟩:Json)))); bif(x7.kind==7)then(ag (decide ((0:Int)<=x6)&&decide (x6<x7.names.length)) (kR (x7.names.getD x6.toNat (Ty.az .str)) (fun y9 bu=>ag (decide (z8.length+y9.length<=9223372036854775807)) (ag (decide ((z8++y9).length+1<=9223372036854775807)) (Hy ((z8++y9)++([58]:ad)))))))else(Hy z8); bif(decide (x6>(0:Int)))then(ag (decide (x5.length+1<=9223372036854775807)) (lJ (x5++([44]:ad))))else(lJ x5))else(e0 x5 (⟨x7.kind,⟨x7.num.aj,x7.num.exp⟩,x7.text,x7.names,x7.items⟩:Json))
def ai4 (K:KT R) (rc:HV->Option R) (d:HV):Option R:=Wy K d (Ns kR kS (fun z0 z1 z2=>rc (z0,z1,z2)))
def ai5:Nat->Option (Hint×bX R):=fun i=>match i with
 | 15=>some (aiZ,(cY Nr s8 (aAW lM) dz))
 | _=>none
theorem aAX:dn (R:=R) tt (ai3 kR qj kS) (ai5 lM) 0 Tryz.f104 0 aiZ ai0 (ai4 kR kS):=fun K rc d=>by kernel_rfl
def Wz (x1:Json) (k0:ad->Option R):Option R:=
 bif(x1.kind==1)then(k0 ([110,117,108,108]:ad))else(bif(x1.kind==2)then(k0 ([102,97,108,115,101]:ad))else(bif(x1.kind==3)then(k0 ([116,114,117,101]:ad))else(bif(x1.kind==4)then(qj x1.num (fun y2=>k0 y2))else(bif(x1.kind==5)then(kR x1.text (fun y3 y4=>k0 y3))else(lM (av ([]:ad)+ah 0+Json.fu (⟨x1.kind,⟨x1.num.aj,x1.num.exp⟩,x1.text,x1.names,x1.items⟩:Json)+64) ([]:ad) 0 (⟨x1.kind,⟨x1.num.aj,x1.num.exp⟩,x1.text,x1.names,x1.items⟩:Json) (fun bU cA=>bif(cA.kind==7)then(ag (decide (1+bU.length<=9223372036854775807)) (ag (decide ((([123]:ad)++bU).length+1<=9223372036854775807)) (k0 ((([123]:ad)++bU)++([125]:ad)))))else(ag (decide (1+bU.length<=9223372036854775807)) (ag (decide ((([91]:ad)++bU).length+1<=9223372036854775807)) (k0 ((([91]:ad)++bU)++([93]:ad)))))))))))
theorem aAY:aP (R:=R) tt (ai3 kR qj kS) (ai5 lM) false Tryz.f104 gK topic_Name_q (sS (Wz kR qj lM)):=fun x y k=>by kernel_rfl
end
def lM (kS:nn R):Wx R
 | 0,_,_,_,_=>none
 | n+1,aB,aC,aG,e0=>Ns kR kS (fun aB aC aG=>lM kS n aB aC aG e0) aB aC aG e0
def aAZ (kS:nn R):=dD (R:=R) ai0 (ai4 kR kS) Wy (lM kS) ai1 ai2 (aAX kR qj kS (lM kS)) (fun _ _=>by kernel_rfl) (fun _ _ _=>by kernel_rfl) (fun _ _=>by kernel_rfl)
def WA (kS:nn R):nn R:=Wz kR qj (lM kS)
theorem aA0 (R:Type) (kS:nn R) (aA1:ak.Spec.Ok ao 104 (aL gK topic_Name_q (sS kS) dy)):aN ao 104 (EK (WA kS)):=aR (aAY kR qj kS (lM kS)) TT mixed (.c (aAU R) <| .c (aAM R) <| .p aA1 <| .n) rfl rfl (dE.all (by kernel_rfl) (.s .z (dJ (by kernel_rfl) (aAZ kS _ dH))))
def nD:Nat->nn R
 | 0,_,_=>none
 | n+1,aB,o3=>WA (nD n) aB o3
theorem aJo (n:Nat):nD (R:=R) (n+1)=WA (nD n):=by kernel_rfl
theorem aA2 (R:Type):∀n,ak.Spec.Ok ao 104 (aL gK topic_Name_q (sS (nD (R:=R) n)) dy):=
 yo (run:=fun n=>sS (nD (R:=R) n)) (fun x y k=>by kernel_rfl) fun n hyp=>aA0 R (nD n) hyp dy (iB _)
def yO:nn R:=fun x1 k0=>nD (Json.depth x1+2) x1 k0
theorem aA3 (R:Type):sS (R:=R) yO=fun x y k=>sS (nD (Json.depth (dq x.1)+2)) x y k:=by kernel_rfl
theorem aA4 (R:Type) (other:ak.Spec R) (ho:ak.Spec.Ok ao 104 other):ak.Spec.Ok ao 104 (aL gK topic_Name_q (sS yO) other):=
 Ax (Aw (run:=fun n=>sS (nD (R:=R) n)) (fun x y=>(Json.depth (dq x.1)+2)) ho (aA2 R)) (aA3 R)
section
variable (uC:EA R) (yO:nn R)
def aA5:List (aY R):=[aO 103 (Lk uC),aO 104 (EK yO)]
def ai6 (x1:Json) (k0:ad->Option R):Option R:=
 uC (⟨x1.kind,⟨x1.num.aj,x1.num.exp⟩,x1.text,x1.names,x1.items⟩:Json) (fun y2=>bif(!y2)then(k0 ([]:ad))else(yO (⟨x1.kind,⟨x1.num.aj,x1.num.exp⟩,x1.text,x1.names,x1.items⟩:Json) (fun y3=>k0 y3)))
theorem aA6:aP (R:=R) tt (aA5 uC yO) bm false Tryz.f60 gK topic_Name_q (sS (ai6 uC yO)):=fun x y k=>by kernel_rfl
end
def xd:nn R:=ai6 uC yO
theorem aA7 (R:Type):aN ao 60 (EK (xd (R:=R))):=aR (aA6 uC yO) TT mixed (.c (aAv R) <| .p (aA4 R _ (iB _)) <| .n) rfl rfl bp
abbrev WB (R:Type):Type:=ad->Int->Int->(Int->Option R)->Option R
abbrev E5 (R:Type):Type:=Nat->WB R
abbrev xe:Type:=ad×Int×Int
def ai7:xe->St:=fun d=>⟨.str d.1::U 2 (.int .u32 d.2.1::af d.2.2::U 14 ([])),[]⟩
def aA8 (K:KT R) (q0:Int):Option R:=K (.exit 0) ⟨U 3 (.int .u32 q0::U 15 ([])),[]⟩
abbrev WC (K:KT R) (d:xe) (f:WB R):Option R:=f d.1 d.2.1 d.2.2 (aA8 K)
abbrev Nt:List ax:=dU::PU 2 (.leaf (.int .u32)::bG::PU 14 ([]))
def ai8 (x:ax.aA Nt) (y:aH.aA topic_Name_q):Nat:=(av x.1+64)
def ai9 (x:ax.aA Nt) (y:aH.aA topic_Name_q):xe:=(x.1,x.2.2.2.1,x.2.2.2.2.1)
def aA9 (L:E5 R):dC R Nt topic_Name_q:=fun x y K=>WC K (ai9 x y) (L (ai8 x y))
section
variable (rY:E5 R)
def Nu (aD:ad->Int->Int->Option R) (x2:ad) (x3:Int) (x4:Int) (e0:Int->Option R):Option R:=
 bif(decide (x4<(x2.length:Int)))then(ag (decide ((0:Int)<=x4)&&decide (x4<x2.length)) (aD x2 (bz.wrap ((bz.wrap ((aJ bz.bits x3^^^aJ bz.bits (bz.wrap ((x2.getD x4.toNat 0).toNat:Int))).toNat:Int))*16777619)) (ae.wrap (x4+1))))else(e0 x3)
def aja (K:KT R) (rc:xe->Option R) (d:xe):Option R:=WC K d (Nu (fun z0 z1 z2=>rc (z0,z1,z2)))
def ajb:Nat->Option (Hint×bX R):=fun i=>match i with
 | 3=>some (Ep,(cY Nt topic_Name_q (aA9 rY) dz))
 | _=>none
theorem aBa:dn (R:=R) tt [] (ajb rY) 0 Tryz.f102 0 Ep ai7 (aja):=fun K rc d=>by kernel_rfl
def ajc (x1:ad) (k0:Int->Option R):Option R:=
 rY (av x1+64) x1 2166136261 0 (fun y5=>k0 y5)
theorem aBb:aP (R:=R) tt [] (ajb rY) false Tryz.f102 topic_Name_p topic_Name_q (Uv (ajc rY)):=fun x y k=>by kernel_rfl
end
def rY:E5 R
 | 0,_,_,_,_=>none
 | n+1,aB,aC,aG,e0=>Nu (fun aB aC aG=>rY n aB aC aG e0) aB aC aG e0
def aBd:=dD (R:=R) ai7 (aja) WC (rY) ai8 ai9 (aBa rY) (fun _ _=>by kernel_rfl) (fun _ _ _=>by kernel_rfl) (fun _ _=>by kernel_rfl)
def yP:EL R:=ajc rY
theorem aBe (R:Type):aN ao 102 (LI (yP (R:=R))):=aR (aBb rY) TT mixed .n rfl rfl (dE.all (by kernel_rfl) (.s .z (dJ (by kernel_rfl) (aBd _ dH))))
section
variable (yP:EL R)
def aBf:List (aY R):=[aO 102 (LI yP)]
def WD (x1:ad) (k0:ad->Option R):Option R:=
 let gN:=([48,49,50,51,52,53,54,55,56,57,97,98,99,100,101,102]:ad); yP x1 (fun y2=>let WE:=(bz.wrap ((aJ bz.bits (fb y2 (2 ^ (min 28 bz.bits)))&&&aJ bz.bits 15).toNat:Int)); let WG:=(bz.wrap ((aJ bz.bits (fb y2 (2 ^ (min 24 bz.bits)))&&&aJ bz.bits 15).toNat:Int)); let yA:=(bz.wrap ((aJ bz.bits (fb y2 (2 ^ (min 0 bz.bits)))&&&aJ bz.bits 15).toNat:Int)); let wC:=(bz.wrap ((aJ bz.bits (fb y2 (2 ^ (min 4 bz.bits)))&&&aJ bz.bits 15).toNat:Int)); let AI:=(bz.wrap ((aJ bz.bits (fb y2 (2 ^ (min 8 bz.bits)))&&&aJ bz.bits 15).toNat:Int)); let Nv:=([((gN.getD (AI.toNat) 0).toNat:Int)]:List Int); let rM:=(bz.wrap ((aJ bz.bits (fb y2 (2 ^ (min 12 bz.bits)))&&&aJ bz.bits 15).toNat:Int)); let wB:=([((gN.getD (rM.toNat) 0).toNat:Int)]:List Int); let o6:=(bz.wrap ((aJ bz.bits (fb y2 (2 ^ (min 16 bz.bits)))&&&aJ bz.bits 15).toNat:Int)); let uc:=([((gN.getD (o6.toNat) 0).toNat:Int)]:List Int); let o5:=(bz.wrap ((aJ bz.bits (fb y2 (2 ^ (min 20 bz.bits)))&&&aJ bz.bits 15).toNat:Int)); let sU:=([((gN.getD (o5.toNat) 0).toNat:Int)]:List Int); let lG:=([((gN.getD (WG.toNat) 0).toNat:Int)]:List Int); let eM:=([((gN.getD (WE.toNat) 0).toNat:Int)]:List Int); ag (decide (x1.length+1<=9223372036854775807)) (ag (decide ((0:Int)<=WE)&&decide (WE<(16:Int))) (ag (decide ((x1++([35]:ad)).length+(cU (fun n:Int=>bl n.toNat) eM:ad).length<=9223372036854775807)) (ag (decide ((0:Int)<=WG)&&decide (WG<(16:Int))) (ag (decide (((x1++([35]:ad))++(cU (fun n:Int=>bl n.toNat) eM:ad)).length+(cU (fun n:Int=>bl n.toNat) lG:ad).length<=9223372036854775807)) (ag (decide ((0:Int)<=o5)&&decide (o5<(16:Int))) (ag (decide ((((x1++([35]:ad))++(cU (fun n:Int=>bl n.toNat) eM:ad))++(cU (fun n:Int=>bl n.toNat) lG:ad)).length+(cU (fun n:Int=>bl n.toNat) sU:ad).length<=9223372036854775807)) (ag (decide ((0:Int)<=o6)&&decide (o6<(16:Int))) (ag (decide (((((x1++([35]:ad))++(cU (fun n:Int=>bl n.toNat) eM:ad))++(cU (fun n:Int=>bl n.toNat) lG:ad))++(cU (fun n:Int=>bl n.toNat) sU:ad)).length+(cU (fun n:Int=>bl n.toNat) uc:ad).length<=9223372036854775807)) (ag (decide ((0:Int)<=rM)&&decide (rM<(16:Int))) (ag (decide ((((((x1++([35]:ad))++(cU (fun n:Int=>bl n.toNat) eM:ad))++(cU (fun n:Int=>bl n.toNat) lG:ad))++(cU (fun n:Int=>bl n.toNat) sU:ad))++(cU (fun n:Int=>bl n.toNat) uc:ad)).length+(cU (fun n:Int=>bl n.toNat) wB:ad).length<=9223372036854775807)) (ag (decide ((0:Int)<=AI)&&decide (AI<(16:Int))) (ag (decide (((((((x1++([35]:ad))++(cU (fun n:Int=>bl n.toNat) eM:ad))++(cU (fun n:Int=>bl n.toNat) lG:ad))++(cU (fun n:Int=>bl n.toNat) sU:ad))++(cU (fun n:Int=>bl n.toNat) uc:ad))++(cU (fun n:Int=>bl n.toNat) wB:ad)).length+(cU (fun n:Int=>bl n.toNat) Nv:ad).length<=9223372036854775807)) (ag (decide ((0:Int)<=wC)&&decide (wC<(16:Int))) (ag (decide ((((((((x1++([35]:ad))++(cU (fun n:Int=>bl n.toNat) eM:ad))++(cU (fun n:Int=>bl n.toNat) lG:ad))++(cU (fun n:Int=>bl n.toNat) sU:ad))++(cU (fun n:Int=>bl n.toNat) uc:ad))++(cU (fun n:Int=>bl n.toNat) wB:ad))++(cU (fun n:Int=>bl n.toNat) Nv:ad)).length+(cU (fun n:Int=>bl n.toNat) ([((gN.getD (wC.toNat) 0).toNat:Int)]:List Int):ad).length<=9223372036854775807)) (ag (decide ((0:Int)<=yA)&&decide (yA<(16:Int))) (ag (decide (((((((((x1++([35]:ad))++(cU (fun n:Int=>bl n.toNat) eM:ad))++(cU (fun n:Int=>bl n.toNat) lG:ad))++(cU (fun n:Int=>bl n.toNat) sU:ad))++(cU (fun n:Int=>bl n.toNat) uc:ad))++(cU (fun n:Int=>bl n.toNat) wB:ad))++(cU (fun n:Int=>bl n.toNat) Nv:ad))++(cU (fun n:Int=>bl n.toNat) ([((gN.getD (wC.toNat) 0).toNat:Int)]:List Int):ad)).length+(cU (fun n:Int=>bl n.toNat) ([((gN.getD (yA.toNat) 0).toNat:Int)]:List Int):ad).length<=9223372036854775807)) (k0 (((((((((x1++([35]:ad))++(cU (fun n:Int=>bl n.toNat) eM:ad))++(cU (fun n:Int=>bl n.toNat) lG:ad))++(cU (fun n:Int=>bl n.toNat) sU:ad))++(cU (fun n:Int=>bl n.toNat) uc:ad))++(cU (fun n:Int=>bl n.toNat) wB:ad))++(cU (fun n:Int=>bl n.toNat) Nv:ad))++(cU (fun n:Int=>bl n.toNat) ([((gN.getD (wC.toNat) 0).toNat:Int)]:List Int):ad))++(cU (fun n:Int=>bl n.toNat) ([((gN.getD (yA.toNat) 0).toNat:Int)]:List Int):ad))))))))))))))))))))
theorem aBg:aP (R:=R) tt (aBf yP) bm false Tryz.f59 topic_Name_p topic_Name_q (LL (WD yP)):=fun x y k=>by kernel_rfl
end
def nE:rP R:=WD yP
theorem ajd (R:Type):aN ao 59 (wA (nE (R:=R))):=aR (aBg yP) TT mixed (.c (aBe R) <| .n) rfl rfl bp
variable {R:Type}
section
variable (xd:nn R) (ot:sO R) (wY:Cg R) (yK:Et R) (wX:Ce R) (nE:rP R) (iY:n9 R)
def aBh:List (aY R):=[aO 60 (EK xd),aO 56 (wg ot),aO 55 (K4 wY),aO 57 (KO yK),aO 88 (G7 wX),aO 59 (wA nE),aO 42 (yt iY)]
def WH (x1:ak.State) (k0:ad->Int->Option R):Option R:=
 iY x1 (fun y2=>bif(!y2)then(k0 ([]:ad) 1)else(ot x1.header (fun y3=>ot x1.bC (fun y4=>yK x1.bW (fun y5=>ot x1.order (fun y6=>ot x1.update (fun y7=>wX x1.live (fun y8=>ot x1.node (fun y9=>ot x1.seq (fun bu=>wX x1.cB (fun aS=>ot x1.accepted (fun bg=>wY ([([104,101,97,100,101,114,73,100]:ad),([98,111,111,116]:ad),([115,101,114,105,97,108,78,117,109,98,101,114]:ad),([111,114,100,101,114,73,100]:ad),([111,114,100,101,114,85,112,100,97,116,101,73,100]:ad),([108,105,118,101]:ad),([108,97,115,116,78,111,100,101,73,100]:ad),([108,97,115,116,78,111,100,101,83,101,113,117,101,110,99,101,73,100]:ad),([100,114,105,118,105,110,103]:ad),([97,99,99,101,112,116,101,100]:ad)]:List ad) ([(⟨y3.kind,⟨y3.num.aj,y3.num.exp⟩,y3.text,y3.names,y3.items⟩:Json),(⟨y4.kind,⟨y4.num.aj,y4.num.exp⟩,y4.text,y4.names,y4.items⟩:Json),(⟨y5.kind,⟨y5.num.aj,y5.num.exp⟩,y5.text,y5.names,y5.items⟩:Json),(⟨y6.kind,⟨y6.num.aj,y6.num.exp⟩,y6.text,y6.names,y6.items⟩:Json),(⟨y7.kind,⟨y7.num.aj,y7.num.exp⟩,y7.text,y7.names,y7.items⟩:Json),(⟨y8.kind,⟨y8.num.aj,y8.num.exp⟩,y8.text,y8.names,y8.items⟩:Json),(⟨y9.kind,⟨y9.num.aj,y9.num.exp⟩,y9.text,y9.names,y9.items⟩:Json),(⟨bu.kind,⟨bu.num.aj,bu.num.exp⟩,bu.text,bu.names,bu.items⟩:Json),(⟨aS.kind,⟨aS.num.aj,aS.num.exp⟩,aS.text,aS.names,aS.items⟩:Json),(⟨bg.kind,⟨bg.num.aj,bg.num.exp⟩,bg.text,bg.names,bg.items⟩:Json)]:List Json) (fun cd=>xd (⟨cd.kind,⟨cd.num.aj,cd.num.exp⟩,cd.text,cd.names,cd.items⟩:Json) (fun aU=>nE aU (fun bU=>k0 bU 0)))))))))))))))
theorem aBi:aP (R:=R) tt (aBh xd ot wY yK wX nE iY) bm false Tryz.f40 tW topic_Name_q (Uy (WH xd ot wY yK wX nE iY)):=fun x y k=>by kernel_rfl
end
def pb:Cm R:=WH xd ot wY yK wX nE iY
theorem aBj (R:Type):aN ao 40 (Ho (pb (R:=R))):=aR (aBi xd ot wY yK wX nE iY) TT mixed (.c (aA7 R) <| .c (azC R) <| .c (azS R) <| .c (azE R) <| .c (azG R) <| .c (ajd R) <| .c (VV R) <| .n) rfl rfl bp
abbrev CB (R:Type):Type:=ak.State->ak.State->(Bool->Option R)->Option R
abbrev Nw:List ax:=[G0,G0]
def WI (fn:CB R):br R Nw topic_Name_q:=fun x y k=>fn (iC x.1) (iC x.2.1) (fun q0=>k (.bool q0) [])
def HW (fn:CB R):=aL Nw topic_Name_q (WI fn)
section
def WJ (x1:ak.State) (x2:ak.State) (k0:Bool->Option R):Option R:=
 bif(decide (x1.bC>x2.bC))then(k0 true)else(bif(x1.bC==x2.bC)then(k0 (decide (x1.header>x2.header)))else(k0 false))
theorem aBk:aP (R:=R) tt [] bm false Tryz.f44 Nw topic_Name_q (WI WJ):=fun x y k=>by kernel_rfl
end
def s9:CB R:=WJ
theorem aBl (R:Type):aN ao 44 (HW (s9 (R:=R))):=aR (aBk) TT mixed .n rfl rfl bp
section
variable (nE:rP R)
def aBm:List (aY R):=[aO 59 (wA nE)]
def WK (x1:ad) (k0:ad->Int->Option R):Option R:=
 bif(decide ((x1.length:Int)<(9:Int)))then(k0 ([]:ad) 60)else(ag (decide ((0:Int)<=(ae.wrap ((x1.length:Int) - 9)))&&decide ((ae.wrap ((x1.length:Int) - 9))<=x1.length)) (ag (decide ((0:Int)<=(ae.wrap ((x1.length:Int) - 9)))) (nE ((x1.drop 0).take ((ae.wrap ((x1.length:Int) - 9)).toNat - 0)) (fun y2=>bif(!(y2==x1))then(k0 ([]:ad) 60)else(k0 ((x1.drop 0).take ((ae.wrap ((x1.length:Int) - 9)).toNat - 0)) 0)))))
theorem aBn:aP (R:=R) tt (aBm nE) bm false Tryz.f72 topic_Name_p topic_Name_q (UA (WK nE)):=fun x y k=>by kernel_rfl
end
def xf:wD R:=WK nE
theorem aBo (R:Type):aN ao 72 (LO (xf (R:=R))):=aR (aBn nE) TT mixed (.c (ajd R) <| .n) rfl rfl bp
abbrev aje (R:Type):Type:=ad->Int->Int->Int->(Int->Option R)->(Int->Int->Option R)->Option R
abbrev WL (R:Type):Type:=Nat->aje R
def ajf:Hint:=⟨[0,1,5,6],[],[],[],[],[4,5]⟩
abbrev HX:Type:=ad×Int×Int×Int
def ajg:HX->St:=fun d=>⟨.str d.1::af d.2.1::U 3 (af d.2.2.1::af d.2.2.2::U 54 ([])),[]⟩
def aBp (K:KT R) (q0:Int):Option R:=K (.exit 0) ⟨U 5 (af q0::U 55 ([])),[]⟩
def aBq (K:KT R) (q0:Int) (q1:Int):Option R:=K (.ret) ⟨U 4 (af q0::af q1::U 55 ([])),[]⟩
abbrev WM (K:KT R) (d:HX) (f:aje R):Option R:=f d.1 d.2.1 d.2.2.1 d.2.2.2 (aBp K) (aBq K)
abbrev Nx:List ax:=dU::bG::PU 3 (bG::bG::PU 54 ([]))
def ajh (x:ax.aA Nx) (y:aH.aA topic_Name_q):Nat:=(av x.1+ah x.2.1+ah x.2.2.2.2.2.1+ah x.2.2.2.2.2.2.1+64)
def aji (x:ax.aA Nx) (y:aH.aA topic_Name_q):HX:=(x.1,x.2.1,x.2.2.2.2.2.1,x.2.2.2.2.2.2.1)
def aBr (L:WL R):dC R Nx topic_Name_q:=fun x y K=>WM K (aji x y) (L (ajh x y))
section
variable (mM:WL R)
def CC (aD:ad->Int->Int->Int->Option R) (x3:ad) (x4:Int) (x5:Int) (x6:Int) (e0:Int->Option R) (e1:Int->Int->Option R):Option R:=
 bif(decide (x6<(ae.wrap (x4+4))))then(ag (decide ((0:Int)<=x6)&&decide (x6<x3.length)) (let wI:=fun(z7:Bool)=>bif z7 then(aD x3 x4 (ae.wrap ((ae.wrap (16*x5))+(ae.wrap (aM.wrap (((x3.getD x6.toNat 0).toNat:Int) - 48))))) (ae.wrap (x6+1)))else(bif(decide (((x3.getD x6.toNat 0).toNat:Int)>=(97:Int)))then(bif(decide (((x3.getD x6.toNat 0).toNat:Int)<=(102:Int)))then(aD x3 x4 (ae.wrap ((ae.wrap (16*x5))+(ae.wrap ((ae.wrap (aM.wrap (((x3.getD x6.toNat 0).toNat:Int) - 97)))+10)))) (ae.wrap (x6+1)))else(bif(decide (((x3.getD x6.toNat 0).toNat:Int)>=(65:Int)))then(bif(decide (((x3.getD x6.toNat 0).toNat:Int)<=(70:Int)))then(aD x3 x4 (ae.wrap ((ae.wrap (16*x5))+(ae.wrap ((ae.wrap (aM.wrap (((x3.getD x6.toNat 0).toNat:Int) - 65)))+10)))) (ae.wrap (x6+1)))else(e1 (-1) x5))else(e1 (-1) x5)))else(bif(decide (((x3.getD x6.toNat 0).toNat:Int)>=(65:Int)))then(bif(decide (((x3.getD x6.toNat 0).toNat:Int)<=(70:Int)))then(aD x3 x4 (ae.wrap ((ae.wrap (16*x5))+(ae.wrap ((ae.wrap (aM.wrap (((x3.getD x6.toNat 0).toNat:Int) - 65)))+10)))) (ae.wrap (x6+1)))else(e1 (-1) x5))else(e1 (-1) x5))); bif(decide (((x3.getD x6.toNat 0).toNat:Int)>=(48:Int)))then(wI (decide (((x3.getD x6.toNat 0).toNat:Int)<=(57:Int))))else(wI false)))else(e0 x5)
def ajj (K:KT R) (rc:HX->Option R) (d:HX):Option R:=WM K d (CC (fun z0 z1 z2 z3=>rc (z0,z1,z2,z3)))
def ajk:Nat->Option (Hint×bX R):=fun i=>match i with
 | 5=>some (ajf,(cY Nx topic_Name_q (aBr mM) dz))
 | _=>none
theorem aBs:dn (R:=R) tt [] (ajk mM) 0 Tryz.f233 0 ajf ajg (ajj):=fun K rc d=>by kernel_rfl
def Ny (x1:ad) (x2:Int) (k0:Int->Option R):Option R:=
 bif(decide ((ae.wrap (x2+4))>(x1.length:Int)))then(k0 (-1))else(mM (av x1+ah x2+ah 0+ah x2+64) x1 x2 0 x2 (fun bU=>k0 bU) (fun cA cP=>k0 cA))
theorem aBt:aP (R:=R) tt [] (ajk mM) false Tryz.f233 uB topic_Name_q (M5 (Ny mM)):=fun x y k=>by kernel_rfl
end
def mM:WL R
 | 0,_,_,_,_,_,_=>none
 | n+1,aB,aC,aG,bq,e0,e1=>CC (fun aB aC aG bq=>mM n aB aC aG bq e0 e1) aB aC aG bq e0 e1
def aBu:=dD (R:=R) ajg (ajj) WM (mM) ajh aji (aBs mM) (fun _ _=>by kernel_rfl) (fun _ _ _=>by kernel_rfl) (fun _ _=>by kernel_rfl)
def nF:yL R:=Ny mM
theorem aBv (R:Type):aN ao 233 (Cz (nF (R:=R))):=aR (aBt mM) TT mixed .n rfl rfl (dE.all (by kernel_rfl) (.s .z (dJ (by kernel_rfl) (aBu _ dH))))
def ajl (fn:wo R):br R lg topic_Name_q:=fun x y k=>fn x.1 (fun q0=>k (.sl (.int .u8) q0 .no) [])
def ajm (fn:wo R):=aL lg topic_Name_q (ajl fn)
section
def Nz (x1:Int) (k0:(List Int)->Option R):Option R:=
 bif(decide (x1<(128:Int)))then(k0 ([(aM.wrap x1)]:List Int))else(bif(decide (x1<(2048:Int)))then(k0 ([(aM.wrap (ae.wrap ((aJ ae.bits 192 ||| aJ ae.bits (fb x1 (2 ^ (min 6 ae.bits)))).toNat:Int))),(aM.wrap (ae.wrap ((aJ ae.bits 128 ||| aJ ae.bits (ae.wrap ((aJ ae.bits x1&&&aJ ae.bits 63).toNat:Int))).toNat:Int)))]:List Int))else(bif(decide (x1<(65536:Int)))then(k0 ([(aM.wrap (ae.wrap ((aJ ae.bits 224 ||| aJ ae.bits (fb x1 (2 ^ (min 12 ae.bits)))).toNat:Int))),(aM.wrap (ae.wrap ((aJ ae.bits 128 ||| aJ ae.bits (ae.wrap ((aJ ae.bits (fb x1 (2 ^ (min 6 ae.bits)))&&&aJ ae.bits 63).toNat:Int))).toNat:Int))),(aM.wrap (ae.wrap ((aJ ae.bits 128 ||| aJ ae.bits (ae.wrap ((aJ ae.bits x1&&&aJ ae.bits 63).toNat:Int))).toNat:Int)))]:List Int))else(k0 ([(aM.wrap (ae.wrap ((aJ ae.bits 240 ||| aJ ae.bits (fb x1 (2 ^ (min 18 ae.bits)))).toNat:Int))),(aM.wrap (ae.wrap ((aJ ae.bits 128 ||| aJ ae.bits (ae.wrap ((aJ ae.bits (fb x1 (2 ^ (min 12 ae.bits)))&&&aJ ae.bits 63).toNat:Int))).toNat:Int))),(aM.wrap (ae.wrap ((aJ ae.bits 128 ||| aJ ae.bits (ae.wrap ((aJ ae.bits (fb x1 (2 ^ (min 6 ae.bits)))&&&aJ ae.bits 63).toNat:Int))).toNat:Int))),(aM.wrap (ae.wrap ((aJ ae.bits 128 ||| aJ ae.bits (ae.wrap ((aJ ae.bits x1&&&aJ ae.bits 63).toNat:Int))).toNat:Int)))]:List Int))))
theorem aBw:aP (R:=R) tt [] bm false Tryz.f234 lg topic_Name_q (ajl Nz):=fun x y k=>by kernel_rfl
end
def me:wo R:=Nz
theorem aBx (R:Type):aN ao 234 (ajm (me (R:=R))):=aR (aBw) TT mixed .n rfl rfl bp
abbrev NA (R:Type):Type:=ad->Int->((List Int)->Int->Option R)->Option R
def ajn (fn:NA R):br R uB topic_Name_q:=fun x y k=>fn x.1 x.2.1 (fun q0 q1=>k (.tuple [.sl (.int .u8) q0 .no,af q1]) [])
def ajo (fn:NA R):=aL uB topic_Name_q (ajn fn)
section
variable (nF:yL R) (me:wo R)
def aBy:List (aY R):=[aO 233 (Cz nF),aO 234 (ajm me)]
def NB (x1:ad) (x2:Int) (k0:(List Int)->Int->Option R):Option R:=
 bif(decide (x2>=(x1.length:Int)))then(k0 ([]:List Int) 0)else(ag (decide ((0:Int)<=x2)&&decide (x2<x1.length)) (let CD:=fun(z3:Bool)=>bif z3 then(ag (decide ((0:Int)<=x2)&&decide (x2<x1.length)) (k0 ([((x1.getD x2.toNat 0).toNat:Int)]:List Int) 1))else(bif(((x1.getD x2.toNat 0).toNat:Int)==98)then(k0 ([8]:List Int) 1)else(bif(((x1.getD x2.toNat 0).toNat:Int)==102)then(k0 ([12]:List Int) 1)else(bif(((x1.getD x2.toNat 0).toNat:Int)==110)then(k0 ([10]:List Int) 1)else(bif(((x1.getD x2.toNat 0).toNat:Int)==114)then(k0 ([13]:List Int) 1)else(bif(((x1.getD x2.toNat 0).toNat:Int)==116)then(k0 ([9]:List Int) 1)else(bif(((x1.getD x2.toNat 0).toNat:Int)==117)then(nF x1 (ae.wrap (x2+1)) (fun y4=>let lJ:=bif(decide (y4<(55296:Int)))then(me y4 (fun y8=>k0 y8 5))else(bif(decide (y4>(57343:Int)))then(me y4 (fun y9=>k0 y9 5))else(bif(decide ((ae.wrap (x2+7))>(x1.length:Int)))then(k0 ([]:List Int) 0)else(ag (decide ((0:Int)<=(ae.wrap (x2+5)))&&decide ((ae.wrap (x2+5))<x1.length)) (bif(((x1.getD ((ae.wrap (x2+5)).toNat) 0).toNat:Int) != 92)then(k0 ([]:List Int) 0)else(ag (decide ((0:Int)<=(ae.wrap (x2+6)))&&decide ((ae.wrap (x2+6))<x1.length)) (bif(((x1.getD ((ae.wrap (x2+6)).toNat) 0).toNat:Int) != 117)then(k0 ([]:List Int) 0)else(nF x1 (ae.wrap (x2+7)) (fun aS=>bif(decide (aS<(56320:Int)))then(k0 ([]:List Int) 0)else(bif(decide (aS>(57343:Int)))then(k0 ([]:List Int) 0)else(me (ae.wrap ((ae.wrap ((ae.wrap (65536+(ae.wrap ((ae.wrap (y4 - 55296))*2 ^ (min 10 ae.bits)))))+aS)) - 56320)) (fun cd=>k0 cd 11))))))))))); bif(decide (y4<(0:Int)))then(k0 ([]:List Int) 0)else(bif(decide (y4>=(56320:Int)))then(bif(decide (y4<=(57343:Int)))then(k0 ([]:List Int) 0)else(lJ))else(lJ))))else(k0 ([]:List Int) 0))))))); bif(((x1.getD x2.toNat 0).toNat:Int)==34)then(CD (((x1.getD x2.toNat 0).toNat:Int)==34))else(bif(((x1.getD x2.toNat 0).toNat:Int)==92)then(CD (((x1.getD x2.toNat 0).toNat:Int)==92))else(CD (((x1.getD x2.toNat 0).toNat:Int)==47)))))
theorem aBz:aP (R:=R) tt (aBy nF me) bm false Tryz.f213 uB topic_Name_q (ajn (NB nF me)):=fun x y k=>by kernel_rfl
end
def oz:NA R:=NB nF me
theorem aBA (R:Type):aN ao 213 (ajo (oz (R:=R))):=aR (aBz nF me) TT mixed (.c (aBv R) <| .c (aBx R) <| .n) rfl rfl bp
abbrev ajp (R:Type):Type:=ad->(List Int)->Int->(Option R)->(ad->Int->Bool->Option R)->Option R
abbrev WN (R:Type):Type:=Nat->ajp R
def ajq:Hint:=⟨[0,5,6],[(5,(.int .u8))],[],[],[],[2,3,4]⟩
def ajr:xc->St:=fun d=>⟨.str d.1::U 4 (.sl (.int .u8) d.2.1 (.own 0)::af d.2.2::U 66 ([])),[.tok]⟩
def aBB (K:KT R):Option R:=K (.exit 0) ⟨U 73 ([]),[]⟩
def aBC (K:KT R) (q0:ad) (q1:Int) (q2:Bool):Option R:=K (.ret) ⟨U 2 (.str q0::af q1::.bool q2::U 68 ([])),[]⟩
abbrev WO (K:KT R) (d:xc) (f:ajp R):Option R:=f d.1 d.2.1 d.2.2 (aBB K) (aBC K)
abbrev NC:List ax:=dU::PU 4 (.leaf (.k9 (.int .u8) 0)::bG::PU 66 ([]))
def ajs (x:ax.aA NC) (y:aH.aA jD):Nat:=(av x.1+av x.2.2.2.2.2.1+ah x.2.2.2.2.2.2.1+64)
def ajt (x:ax.aA NC) (y:aH.aA jD):xc:=(x.1,x.2.2.2.2.2.1,x.2.2.2.2.2.2.1)
def aBD (L:WN R):dC R NC jD:=fun x y K=>WO K (ajt x y) (L (ajs x y))
section
variable (oz:NA R) (iK:yL R) (mN:WN R)
def aju:List (aY R):=[aO 213 (ajo oz),aO 209 (Cz iK)]
def ND (aD:ad->(List Int)->Int->Option R) (x3:ad) (x4:List Int) (x5:Int) (e0:Option R) (e1:ad->Int->Bool->Option R):Option R:=
 bif(decide (x5<(x3.length:Int)))then(ag (decide ((0:Int)<=x5)&&decide (x5<x3.length)) (bif(((x3.getD x5.toNat 0).toNat:Int)==34)then(e1 (cU (fun n:Int=>bl n.toNat) x4:ad) (ae.wrap (x5+1)) true)else(ag (decide ((0:Int)<=x5)&&decide (x5<x3.length)) (bif(decide (((x3.getD x5.toNat 0).toNat:Int)<(32:Int)))then(e1 ([]:ad) 0 false)else(ag (decide ((0:Int)<=x5)&&decide (x5<x3.length)) (bif(((x3.getD x5.toNat 0).toNat:Int)==92)then(oz x3 (ae.wrap (x5+1)) (fun y6 y7=>bif(y7==0)then(e1 ([]:ad) 0 false)else(ag (decide ((x4.length+y6.length)*1<=140737488355328)) (aD x3 ((x4:List Int)++(y6:List Int)) (ae.wrap ((ae.wrap (x5+1))+y7))))))else(iK x3 x5 (fun y8=>bif(y8==0)then(e1 ([]:ad) 0 false)else(ag (decide ((0:Int)<=(ae.wrap (x5+y8)))&&decide ((ae.wrap (x5+y8))<=x3.length)) (ag (decide ((0:Int)<=x5)&&decide (x5<=(ae.wrap (x5+y8)))) (ag (decide ((x4.length+(fX ((x3.drop x5.toNat).take ((ae.wrap (x5+y8)).toNat - x5.toNat))).length)*1<=140737488355328)) (aD x3 ((x4:List Int)++((fX ((x3.drop x5.toNat).take ((ae.wrap (x5+y8)).toNat - x5.toNat))):List Int)) (ae.wrap (x5+y8))))))))))))))else(e0)
def ajv (K:KT R) (rc:xc->Option R) (d:xc):Option R:=WO K d (ND oz iK (fun z0 z1 z2=>rc (z0,z1,z2)))
def ajw:Nat->Option (Hint×bX R):=fun i=>match i with
 | 5=>some (ajq,(cY NC jD (aBD mN) dz))
 | _=>none
theorem aBE:dn (R:=R) tt (aju oz iK) (ajw mN) 0 Tryz.f187 0 ajq ajr (ajv oz iK):=fun K rc d=>by kernel_rfl
def NF (x1:ad) (k0:ad->Int->Bool->Option R):Option R:=
 bif(decide ((x1.length:Int)<(2:Int)))then(k0 ([]:ad) 0 false)else(ag (decide ((0:Int)<x1.length)) (bif(((x1.getD 0 0).toNat:Int) != 34)then(k0 ([]:ad) 0 false)else(mN (av x1+av ([]:List Int)+ah 1+64) x1 ([]:List Int) 1 (k0 ([]:ad) 0 false) (fun y9 bu aS=>k0 y9 bu aS))))
theorem aBF:aP (R:=R) tt (aju oz iK) (ajw mN) false Tryz.f187 topic_Name_p topic_Name_q (UQ (NF mN)):=fun x y k=>by kernel_rfl
end
def mN:WN R
 | 0,_,_,_,_,_=>none
 | n+1,aB,aC,aG,e0,e1=>ND oz iK (fun aB aC aG=>mN n aB aC aG e0 e1) aB aC aG e0 e1
def aBG:=dD (R:=R) ajr (ajv oz iK) WO (mN) ajs ajt (aBE oz iK mN) (fun _ _=>by kernel_rfl) (fun _ _ _=>by kernel_rfl) (fun _ _=>by kernel_rfl)
def uD:EU R:=NF mN
theorem aBH (R:Type):aN ao 187 (Mf (uD (R:=R))):=aR (aBF oz iK mN) TT mixed (.c (aBA R) <| .c (ah2 R) <| .n) rfl rfl (dE.all (by kernel_rfl) (.s .z (dJ (by kernel_rfl) (aBG _ dH))))
abbrev NG (R:Type):Type:=ad->Int->Bool->(ad->Option R)->Option R
abbrev WQ:List ax:=[dU,bG,.leaf (.bool)]
def ajx (fn:NG R):br R WQ topic_Name_q:=fun x y k=>fn x.1 x.2.1 x.2.2.1 (fun q0=>k (.str q0) [])
def ajy (fn:NG R):=aL WQ topic_Name_q (ajx fn)
abbrev ajz (R:Type):Type:=ad->Int->Bool->Int->(ad->Int->Int->Option R)->Option R
abbrev WR (R:Type):Type:=Nat->ajz R
def ajA:Hint:=⟨[0,1,2,7],[],[],[],[],[0,1,6,7]⟩
abbrev HY:Type:=ad×Int×Bool×Int
def ajB:HY->St:=fun d=>⟨.str d.1::af d.2.1::.bool d.2.2.1::U 4 (af d.2.2.2::U 62 ([])),[]⟩
def aBI (K:KT R) (q0:ad) (q1:Int) (q2:Int):Option R:=K (.exit 0) ⟨.str q0::af q1::U 5 (af q2::U 62 ([])),[]⟩
abbrev WS (K:KT R) (d:HY) (f:ajz R):Option R:=f d.1 d.2.1 d.2.2.1 d.2.2.2 (aBI K)
abbrev NH:List ax:=dU::bG::.leaf (.bool)::PU 4 (bG::PU 62 ([]))
def ajC (x:ax.aA NH) (y:aH.aA topic_Name_q):Nat:=(av x.1+ah x.2.1+ah x.2.2.2.2.2.2.2.1+64)
def ajD (x:ax.aA NH) (y:aH.aA topic_Name_q):HY:=(x.1,x.2.1,x.2.2.1,x.2.2.2.2.2.2.2.1)
def aBJ (L:WR R):dC R NH topic_Name_q:=fun x y K=>WS K (ajD x y) (L (ajC x y))
section
variable (oA:WR R)
def WT (aD:ad->Int->Bool->Int->Option R) (x4:ad) (x5:Int) (x6:Bool) (x7:Int) (e0:ad->Int->Int->Option R):Option R:=
 bif(decide ((ae.wrap (x5+x7))<(x4.length:Int)))then(ag (decide ((0:Int)<=(ae.wrap (x5+x7)))&&decide ((ae.wrap (x5+x7))<x4.length)) (bif x6 then(bif(decide (((x4.getD ((ae.wrap (x5+x7)).toNat) 0).toNat:Int)>=(48:Int)))then(bif(decide (((x4.getD ((ae.wrap (x5+x7)).toNat) 0).toNat:Int)<=(57:Int)))then(bif(!x6)then(bif(decide (((x4.getD ((ae.wrap (x5+x7)).toNat) 0).toNat:Int)<(97:Int)))then(e0 x4 x5 x7)else(bif(decide (((x4.getD ((ae.wrap (x5+x7)).toNat) 0).toNat:Int)>(122:Int)))then(e0 x4 x5 x7)else(aD x4 x5 x6 (ae.wrap (x7+1)))))else(aD x4 x5 x6 (ae.wrap (x7+1))))else(bif(((x4.getD ((ae.wrap (x5+x7)).toNat) 0).toNat:Int)==43)then(bif(!x6)then(bif(decide (((x4.getD ((ae.wrap (x5+x7)).toNat) 0).toNat:Int)<(97:Int)))then(e0 x4 x5 x7)else(bif(decide (((x4.getD ((ae.wrap (x5+x7)).toNat) 0).toNat:Int)>(122:Int)))then(e0 x4 x5 x7)else(aD x4 x5 x6 (ae.wrap (x7+1)))))else(aD x4 x5 x6 (ae.wrap (x7+1))))else(bif(((x4.getD ((ae.wrap (x5+x7)).toNat) 0).toNat:Int)==45)then(bif(!x6)then(bif(decide (((x4.getD ((ae.wrap (x5+x7)).toNat) 0).toNat:Int)<(97:Int)))then(e0 x4 x5 x7)else(bif(decide (((x4.getD ((ae.wrap (x5+x7)).toNat) 0).toNat:Int)>(122:Int)))then(e0 x4 x5 x7)else(aD x4 x5 x6 (ae.wrap (x7+1)))))else(aD x4 x5 x6 (ae.wrap (x7+1))))else(bif(((x4.getD ((ae.wrap (x5+x7)).toNat) 0).toNat:Int)==46)then(bif(!x6)then(bif(decide (((x4.getD ((ae.wrap (x5+x7)).toNat) 0).toNat:Int)<(97:Int)))then(e0 x4 x5 x7)else(bif(decide (((x4.getD ((ae.wrap (x5+x7)).toNat) 0).toNat:Int)>(122:Int)))then(e0 x4 x5 x7)else(aD x4 x5 x6 (ae.wrap (x7+1)))))else(aD x4 x5 x6 (ae.wrap (x7+1))))else(bif(((x4.getD ((ae.wrap (x5+x7)).toNat) 0).toNat:Int)==101)then(bif(!x6)then(bif(decide (((x4.getD ((ae.wrap (x5+x7)).toNat) 0).toNat:Int)<(97:Int)))then(e0 x4 x5 x7)else(bif(decide (((x4.getD ((ae.wrap (x5+x7)).toNat) 0).toNat:Int)>(122:Int)))then(e0 x4 x5 x7)else(aD x4 x5 x6 (ae.wrap (x7+1)))))else(aD x4 x5 x6 (ae.wrap (x7+1))))else(bif(!(((x4.getD ((ae.wrap (x5+x7)).toNat) 0).toNat:Int)==69))then(e0 x4 x5 x7)else(bif(!x6)then(bif(decide (((x4.getD ((ae.wrap (x5+x7)).toNat) 0).toNat:Int)<(97:Int)))then(e0 x4 x5 x7)else(bif(decide (((x4.getD ((ae.wrap (x5+x7)).toNat) 0).toNat:Int)>(122:Int)))then(e0 x4 x5 x7)else(aD x4 x5 x6 (ae.wrap (x7+1)))))else(aD x4 x5 x6 (ae.wrap (x7+1))))))))))else(bif(((x4.getD ((ae.wrap (x5+x7)).toNat) 0).toNat:Int)==43)then(bif(!x6)then(bif(decide (((x4.getD ((ae.wrap (x5+x7)).toNat) 0).toNat:Int)<(97:Int)))then(e0 x4 x5 x7)else(bif(decide (((x4.getD ((ae.wrap (x5+x7)).toNat) 0).toNat:Int)>(122:Int)))then(e0 x4 x5 x7)else(aD x4 x5 x6 (ae.wrap (x7+1)))))else(aD x4 x5 x6 (ae.wrap (x7+1))))else(bif(((x4.getD ((ae.wrap (x5+x7)).toNat) 0).toNat:Int)==45)then(bif(!x6)then(bif(decide (((x4.getD ((ae.wrap (x5+x7)).toNat) 0).toNat:Int)<(97:Int)))then(e0 x4 x5 x7)else(bif(decide (((x4.getD ((ae.wrap (x5+x7)).toNat) 0).toNat:Int)>(122:Int)))then(e0 x4 x5 x7)else(aD x4 x5 x6 (ae.wrap (x7+1)))))else(aD x4 x5 x6 (ae.wrap (x7+1))))else(bif(((x4.getD ((ae.wrap (x5+x7)).toNat) 0).toNat:Int)==46)then(bif(!x6)then(bif(decide (((x4.getD ((ae.wrap (x5+x7)).toNat) 0).toNat:Int)<(97:Int)))then(e0 x4 x5 x7)else(bif(decide (((x4.getD ((ae.wrap (x5+x7)).toNat) 0).toNat:Int)>(122:Int)))then(e0 x4 x5 x7)else(aD x4 x5 x6 (ae.wrap (x7+1)))))else(aD x4 x5 x6 (ae.wrap (x7+1))))else(bif(((x4.getD ((ae.wrap (x5+x7)).toNat) 0).toNat:Int)==101)then(bif(!x6)then(bif(decide (((x4.getD ((ae.wrap (x5+x7)).toNat) 0).toNat:Int)<(97:Int)))then(e0 x4 x5 x7)else(bif(decide (((x4.getD ((ae.wrap (x5+x7)).toNat) 0).toNat:Int)>(122:Int)))then(e0 x4 x5 x7)else(aD x4 x5 x6 (ae.wrap (x7+1)))))else(aD x4 x5 x6 (ae.wrap (x7+1))))else(bif(!(((x4.getD ((ae.wrap (x5+x7)).toNat) 0).toNat:Int)==69))then(e0 x4 x5 x7)else(bif(!x6)then(bif(decide (((x4.getD ((ae.wrap (x5+x7)).toNat) 0).toNat:Int)<(97:Int)))then(e0 x4 x5 x7)else(bif(decide (((x4.getD ((ae.wrap (x5+x7)).toNat) 0).toNat:Int)>(122:Int)))then(e0 x4 x5 x7)else(aD x4 x5 x6 (ae.wrap (x7+1)))))else(aD x4 x5 x6 (ae.wrap (x7+1))))))))))else(bif(!x6)then(bif(decide (((x4.getD ((ae.wrap (x5+x7)).toNat) 0).toNat:Int)<(97:Int)))then(e0 x4 x5 x7)else(bif(decide (((x4.getD ((ae.wrap (x5+x7)).toNat) 0).toNat:Int)>(122:Int)))then(e0 x4 x5 x7)else(aD x4 x5 x6 (ae.wrap (x7+1)))))else(aD x4 x5 x6 (ae.wrap (x7+1))))))else(e0 x4 x5 x7)
def ajE (K:KT R) (rc:HY->Option R) (d:HY):Option R:=WS K d (WT (fun z0 z1 z2 z3=>rc (z0,z1,z2,z3)))
def ajF:Nat->Option (Hint×bX R):=fun i=>match i with
 | 2=>some (ajA,(cY NH topic_Name_q (aBJ oA) dz))
 | _=>none
theorem aBK:dn (R:=R) tt [] (ajF oA) 0 Tryz.f188 0 ajA ajB (ajE):=fun K rc d=>by kernel_rfl
def NI (x1:ad) (x2:Int) (x3:Bool) (k0:ad->Option R):Option R:=
 oA (av x1+ah x2+ah 0+64) x1 x2 x3 0 (fun y9 bu aS=>ag (decide ((0:Int)<=(ae.wrap (bu+aS)))&&decide ((ae.wrap (bu+aS))<=y9.length)) (ag (decide ((0:Int)<=bu)&&decide (bu<=(ae.wrap (bu+aS)))) (k0 ((y9.drop bu.toNat).take ((ae.wrap (bu+aS)).toNat - bu.toNat)))))
theorem aBL:aP (R:=R) tt [] (ajF oA) false Tryz.f188 WQ topic_Name_q (ajx (NI oA)):=fun x y k=>by kernel_rfl
end
def oA:WR R
 | 0,_,_,_,_,_=>none
 | n+1,aB,aC,aG,bq,e0=>WT (fun aB aC aG bq=>oA n aB aC aG bq e0) aB aC aG bq e0
def aBM:=dD (R:=R) ajB (ajE) WS (oA) ajC ajD (aBK oA) (fun _ _=>by kernel_rfl) (fun _ _ _=>by kernel_rfl) (fun _ _=>by kernel_rfl)
def qk:NG R:=NI oA
theorem aBN (R:Type):aN ao 188 (ajy (qk (R:=R))):=aR (aBL oA) TT mixed .n rfl rfl (dE.all (by kernel_rfl) (.s .z (dJ (by kernel_rfl) (aBM _ dH))))
variable {R:Type}
def ajG:Hint:=⟨[0,1,5],[],[],[],[],[4,5]⟩
def ajH:xe->St:=fun d=>⟨.str d.1::af d.2.1::U 3 (af d.2.2::U 25 ([])),[]⟩
def aBO (K:KT R) (q0:Int):Option R:=K (.exit 0) ⟨U 5 (af q0::U 25 ([])),[]⟩
abbrev WU (K:KT R) (d:xe) (f:WB R):Option R:=f d.1 d.2.1 d.2.2 (aBO K)
abbrev NJ:List ax:=dU::bG::PU 3 (bG::PU 25 ([]))
def ajI (x:ax.aA NJ) (y:aH.aA topic_Name_q):Nat:=(av x.1+ah x.2.1+ah x.2.2.2.2.2.1+64)
def ajJ (x:ax.aA NJ) (y:aH.aA topic_Name_q):xe:=(x.1,x.2.1,x.2.2.2.2.2.1)
def aBP (L:E5 R):dC R NJ topic_Name_q:=fun x y K=>WU K (ajJ x y) (L (ajI x y))
section
variable (rZ:E5 R)
def WV (aD:ad->Int->Int->Option R) (x3:ad) (x4:Int) (x5:Int) (e0:Int->Option R):Option R:=
 bif(decide ((ae.wrap (x4+x5))<(x3.length:Int)))then(ag (decide ((0:Int)<=(ae.wrap (x4+x5)))&&decide ((ae.wrap (x4+x5))<x3.length)) (bif(decide (((x3.getD ((ae.wrap (x4+x5)).toNat) 0).toNat:Int)>=(48:Int)))then(ag (decide ((0:Int)<=(ae.wrap (x4+x5)))&&decide ((ae.wrap (x4+x5))<x3.length)) (bif(decide (((x3.getD ((ae.wrap (x4+x5)).toNat) 0).toNat:Int)<=(57:Int)))then(aD x3 x4 (ae.wrap (x5+1)))else(e0 x5)))else(e0 x5)))else(e0 x5)
def ajK (K:KT R) (rc:xe->Option R) (d:xe):Option R:=WU K d (WV (fun z0 z1 z2=>rc (z0,z1,z2)))
def ajL:Nat->Option (Hint×bX R):=fun i=>match i with
 | 2=>some (ajG,(cY NJ topic_Name_q (aBP rZ) dz))
 | _=>none
theorem aBQ:dn (R:=R) tt [] (ajL rZ) 0 Tryz.f214 0 ajG ajH (ajK):=fun K rc d=>by kernel_rfl
def ajM (x1:ad) (x2:Int) (k0:Int->Option R):Option R:=
 rZ (av x1+ah x2+ah 0+64) x1 x2 0 (fun y7=>k0 y7)
theorem aBR:aP (R:=R) tt [] (ajL rZ) false Tryz.f214 uB topic_Name_q (M5 (ajM rZ)):=fun x y k=>by kernel_rfl
end
def rZ:E5 R
 | 0,_,_,_,_=>none
 | n+1,aB,aC,aG,e0=>WV (fun aB aC aG=>rZ n aB aC aG e0) aB aC aG e0
def aBS:=dD (R:=R) ajH (ajK) WU (rZ) ajI ajJ (aBQ rZ) (fun _ _=>by kernel_rfl) (fun _ _ _=>by kernel_rfl) (fun _ _=>by kernel_rfl)
def jR:yL R:=ajM rZ
theorem aBT (R:Type):aN ao 214 (Cz (jR (R:=R))):=aR (aBR rZ) TT mixed .n rfl rfl (dE.all (by kernel_rfl) (.s .z (dJ (by kernel_rfl) (aBS _ dH))))
abbrev ajN (R:Type):Type:=ad->Int->Int->Int->ad->Int->Bool->Int->Int->au->(ad->Int->Int->Int->ad->Int->Bool->Int->au->Option R)->Option R
abbrev WW (R:Type):Type:=Nat->ajN R
abbrev WX (R:Type):Type:=Int->ad->Int->au->(Int->ad->Int->au->Option R)->Option R
abbrev E6 (R:Type):Type:=Nat->WX R
abbrev ajO (R:Type):Type:=Int->ad->Int->Int->Int->au->(Int->Int->Int->au->Option R)->Option R
abbrev WY (R:Type):Type:=Nat->ajO R
def ajP:Hint:=⟨[0,2,4,5,6,7,8,9,10,11],[],[],[],[],[0,2,3,4,5,6,7,8,9,10]⟩
abbrev HZ:Type:=ad×Int×Int×Int×ad×Int×Bool×Int×Int×au
def ajQ:HZ->St:=fun d=>⟨.str d.1::.undef::.ptr 0 0::.undef::af d.2.1::af d.2.2.1::af d.2.2.2.1::.str d.2.2.2.2.1::af d.2.2.2.2.2.1::.bool d.2.2.2.2.2.2.1::af d.2.2.2.2.2.2.2.1::af d.2.2.2.2.2.2.2.2.1::U 206 ([]),[.cells [af d.2.2.2.2.2.2.2.2.2.aj,af d.2.2.2.2.2.2.2.2.2.exp]]⟩
def aBU (K:KT R) (q0:ad) (q1:Int) (q2:Int) (q3:Int) (q4:ad) (q5:Int) (q6:Bool) (q7:Int) (q8:au):Option R:=K (.exit 0) ⟨.str q0::.undef::.ptr 0 0::.undef::af q1::af q2::af q3::.str q4::af q5::.bool q6::af q7::U 207 ([]),[.cells [af q8.aj,af q8.exp]]⟩
abbrev WZ (K:KT R) (d:HZ) (f:ajN R):Option R:=f d.1 d.2.1 d.2.2.1 d.2.2.2.1 d.2.2.2.2.1 d.2.2.2.2.2.1 d.2.2.2.2.2.2.1 d.2.2.2.2.2.2.2.1 d.2.2.2.2.2.2.2.2.1 d.2.2.2.2.2.2.2.2.2 (aBU K)
abbrev NK:List ax:=dU::.leaf (.undef)::.leaf (.ptr 0 0)::.leaf (.undef)::bG::bG::bG::dU::bG::.leaf (.bool)::bG::bG::PU 206 ([])
def ajR (x:ax.aA NK) (y:aH.aA fN):Nat:=(av x.1+ah x.2.2.2.2.1+ah x.2.2.2.2.2.1+ah x.2.2.2.2.2.2.1+av x.2.2.2.2.2.2.2.1+ah ((t8 x).1)+ah ((t8 x).2.2.1)+ah ((t8 x).2.2.2.1)+au.fu (⟨y.1.1,y.1.2.1⟩:au)+64)
def ajS (x:ax.aA NK) (y:aH.aA fN):HZ:=(x.1,x.2.2.2.2.1,x.2.2.2.2.2.1,x.2.2.2.2.2.2.1,x.2.2.2.2.2.2.2.1,(t8 x).1,(t8 x).2.1,(t8 x).2.2.1,(t8 x).2.2.2.1,(⟨y.1.1,y.1.2.1⟩:au))
def aBV (L:WW R):dC R NK fN:=fun x y K=>WZ K (ajS x y) (L (ajR x y))
def NL:Hint:=⟨[2,5,7,8],[],[],[],[],[2,3,5,7,8]⟩
abbrev AP:Type:=Int×ad×Int×au
def NM:AP->St:=fun d=>⟨U 2 (.ptr 0 0::U 2 (af d.1::.undef::.str d.2.1::af d.2.2.1::U 209 ([]))),[.cells [af d.2.2.2.aj,af d.2.2.2.exp]]⟩
def aBW (K:KT R) (q0:Int) (q1:ad) (q2:Int) (q3:au):Option R:=K (.exit 2) ⟨U 2 (.ptr 0 0::U 2 (af q0::.undef::.str q1::af q2::U 209 ([]))),[.cells [af q3.aj,af q3.exp]]⟩
abbrev W0 (K:KT R) (d:AP) (f:WX R):Option R:=f d.1 d.2.1 d.2.2.1 d.2.2.2 (aBW K)
abbrev E7:List ax:=PU 2 (.leaf (.ptr 0 0)::PU 2 (bG::.leaf (.undef)::dU::bG::PU 209 ([])))
def NN (x:ax.aA E7) (y:aH.aA fN):Nat:=(ah x.2.2.2.2.2.1+av x.2.2.2.2.2.2.2.1+ah ((t8 x).1)+au.fu (⟨y.1.1,y.1.2.1⟩:au)+64)
def NO (x:ax.aA E7) (y:aH.aA fN):AP:=(x.2.2.2.2.2.1,x.2.2.2.2.2.2.2.1,(t8 x).1,(⟨y.1.1,y.1.2.1⟩:au))
def aBX (L:E6 R):dC R E7 fN:=fun x y K=>W0 K (NO x y) (L (NN x y))
def aBY (K:KT R) (q0:Int) (q1:ad) (q2:Int) (q3:au):Option R:=K (.exit 4) ⟨U 2 (.ptr 0 0::U 2 (af q0::.undef::.str q1::af q2::U 209 ([]))),[.cells [af q3.aj,af q3.exp]]⟩
abbrev W1 (K:KT R) (d:AP) (f:WX R):Option R:=f d.1 d.2.1 d.2.2.1 d.2.2.2 (aBY K)
def aBZ (L:E6 R):dC R E7 fN:=fun x y K=>W1 K (NO x y) (L (NN x y))
def ajT:Hint:=⟨[2,5,7,8,12,13],[],[],[],[],[2,3,5,8,12]⟩
abbrev H0:Type:=Int×ad×Int×Int×Int×au
def ajU:H0->St:=fun d=>⟨U 2 (.ptr 0 0::U 2 (af d.1::.undef::.str d.2.1::af d.2.2.1::U 3 (af d.2.2.2.1::af d.2.2.2.2.1::U 204 ([])))),[.cells [af d.2.2.2.2.2.aj,af d.2.2.2.2.2.exp]]⟩
def aB0 (K:KT R) (q0:Int) (q1:Int) (q2:Int) (q3:au):Option R:=K (.exit 6) ⟨U 2 (.ptr 0 0::U 2 (af q0::U 2 (af q1::U 3 (af q2::U 205 ([]))))),[.cells [af q3.aj,af q3.exp]]⟩
abbrev W2 (K:KT R) (d:H0) (f:ajO R):Option R:=f d.1 d.2.1 d.2.2.1 d.2.2.2.1 d.2.2.2.2.1 d.2.2.2.2.2 (aB0 K)
abbrev NP:List ax:=PU 2 (.leaf (.ptr 0 0)::PU 2 (bG::.leaf (.undef)::dU::bG::PU 3 (bG::bG::PU 204 ([]))))
def ajV (x:ax.aA NP) (y:aH.aA fN):Nat:=(ah x.2.2.2.2.2.1+av x.2.2.2.2.2.2.2.1+ah ((t8 x).1)+ah ((t8 x).2.2.2.2.1)+ah ((t8 x).2.2.2.2.2.1)+au.fu (⟨y.1.1,y.1.2.1⟩:au)+64)
def ajW (x:ax.aA NP) (y:aH.aA fN):H0:=(x.2.2.2.2.2.1,x.2.2.2.2.2.2.2.1,(t8 x).1,(t8 x).2.2.2.2.1,(t8 x).2.2.2.2.2.1,(⟨y.1.1,y.1.2.1⟩:au))
def aB1 (L:WY R):dC R NP fN:=fun x y K=>W2 K (ajW x y) (L (ajV x y))
section
variable (dQ:yu R) (jR:yL R) (kT:WW R) (kU:E6 R) (jr:E6 R) (kn:WY R)
def H2:List (aY R):=[aO 101 (Cc dQ),aO 214 (Cz jR)]
def W3 (aD:ad->Int->Int->Int->ad->Int->Bool->Int->Int->au->Option R) (cm:ad) (dN:Int) (dk:Int) (nq:Int) (x22:ad) (ib:Int) (qa:Bool) (iF:Int) (jj:Int) (gU:au) (e0:ad->Int->Int->Int->ad->Int->Bool->Int->au->Option R):Option R:=
 bif(decide (jj<(ae.wrap (dN+nq))))then(ag (decide ((0:Int)<=jj)&&decide (jj<cm.length)) (aD cm dN dk nq x22 ib qa (min (ae.wrap ((ae.wrap (10*iF))+(ae.wrap (aM.wrap (((cm.getD jj.toNat 0).toNat:Int) - 48))))) 100000) (ae.wrap (jj+1)) gU))else(e0 cm dN dk nq x22 ib qa iF gU)
def ajX (K:KT R) (rc:HZ->Option R) (d:HZ):Option R:=WZ K d (W3 (fun z0 z1 z2 z3 z4 z5 z6 z7 z8 z9=>rc (z0,z1,z2,z3,z4,z5,z6,z7,z8,z9)))
def W4 (aD:Int->ad->Int->au->Option R) (W5:Int) (uE:ad) (W6:Int) (W7:au) (e0:Int->ad->Int->au->Option R):Option R:=
 bif(decide ((uE.length:Int)>(1:Int)))then(ag (decide ((0:Int)<uE.length)) (bif(((uE.getD 0 0).toNat:Int)==48)then(ag (decide ((0:Int)<=(uE.length:Int))&&decide ((uE.length:Int)<=uE.length)) (ag (decide ((1:Int)<=(uE.length:Int))) (aD W5 ((uE.drop 1).take ((uE.length:Int).toNat - 1)) W6 W7)))else(e0 W5 uE W6 W7)))else(e0 W5 uE W6 W7)
def ajY (K:KT R) (rc:AP->Option R) (d:AP):Option R:=W0 K d (W4 (fun z0 z1 z2 z3=>rc (z0,z1,z2,z3)))
def NQ (aD:Int->ad->Int->au->Option R) (CE:Int) (nG:ad) (ql:Int) (pc:au) (e0:Int->ad->Int->au->Option R):Option R:=
 bif(decide ((nG.length:Int)>(1:Int)))then(ag (decide ((0:Int)<=(ae.wrap ((nG.length:Int) - 1)))&&decide ((ae.wrap ((nG.length:Int) - 1))<nG.length)) (bif(((nG.getD ((ae.wrap ((nG.length:Int) - 1)).toNat) 0).toNat:Int)==48)then(ag (decide ((0:Int)<=(ae.wrap ((nG.length:Int) - 1)))&&decide ((ae.wrap ((nG.length:Int) - 1))<=nG.length)) (ag (decide ((0:Int)<=(ae.wrap ((nG.length:Int) - 1)))) (aD CE ((nG.drop 0).take ((ae.wrap ((nG.length:Int) - 1)).toNat - 0)) (ae.wrap (ql+1)) pc)))else(e0 CE nG ql pc)))else(e0 CE nG ql pc)
def ajZ (K:KT R) (rc:AP->Option R) (d:AP):Option R:=W1 K d (NQ (fun z0 z1 z2 z3=>rc (z0,z1,z2,z3)))
def W8 (aD:Int->ad->Int->Int->Int->au->Option R) (yQ:Int) (uF:ad) (yR:Int) (yS:Int) (qm:Int) (CF:au) (e0:Int->Int->Int->au->Option R):Option R:=
 bif(decide (qm<(uF.length:Int)))then(ag (decide ((0:Int)<=qm)&&decide (qm<uF.length)) (aD yQ uF yR (ae.wrap ((ae.wrap (10*yS))+(ae.wrap (aM.wrap (((uF.getD qm.toNat 0).toNat:Int) - 48))))) (ae.wrap (qm+1)) CF))else(e0 yQ yR yS CF)
def aj0 (K:KT R) (rc:H0->Option R) (d:H0):Option R:=W2 K d (W8 (fun z0 z1 z2 z3 z4 z5=>rc (z0,z1,z2,z3,z4,z5)))
def H3:Nat->Option (Hint×bX R):=fun i=>match i with
 | 32=>some (ajP,(cY NK fN (aBV kT) dz))
 | 41=>some (NL,(cY E7 fN (aBX kU) dz))
 | 43=>some (NL,(cY E7 fN (aBZ jr) dz))
 | 50=>some (ajT,(cY NP fN (aB1 kn) dz))
 | _=>none
theorem aB2:dn (R:=R) tt (H2 dQ jR) (H3 kT kU jr kn) 0 Tryz.f189 0 ajP ajQ (ajX):=fun K rc d=>by kernel_rfl
theorem aB3:dn (R:=R) tt (H2 dQ jR) (H3 kT kU jr kn) 0 Tryz.f189 1 NL NM (ajY):=fun K rc d=>by kernel_rfl
theorem aB4:dn (R:=R) tt (H2 dQ jR) (H3 kT kU jr kn) 0 Tryz.f189 2 NL NM (ajZ):=fun K rc d=>by kernel_rfl
theorem aB5:dn (R:=R) tt (H2 dQ jR) (H3 kT kU jr kn) 0 Tryz.f189 3 ajT ajU (aj0):=fun K rc d=>by kernel_rfl
def NR (x1:ad) (k0:au->Bool->Option R):Option R:=
 bif(decide ((x1.length:Int)>(400:Int)))then(k0 (⟨0,0⟩:au) false)else(let W9:=fun(z3:Int) (z4:Int)=>jR x1 z3 (fun y5=>let j78:=ag (decide ((0:Int)<=(ae.wrap (z3+y5)))&&decide ((ae.wrap (z3+y5))<=x1.length)) (ag (decide ((0:Int)<=z3)&&decide (z3<=(ae.wrap (z3+y5)))) (let j77:=fun(bM:Int) (bH:ad) (z12:Int)=>let Xa:=fun(z40:ad) (Xb:Int) (H4:Int) (H5:ad) (H6:Int) (H7:au)=>bif(Xb != (z40.length:Int))then(k0 (⟨0,0⟩:au) false)else(kU (ah H4+av H5+ah H6+au.fu H7+64) H4 H5 H6 H7 (fun nr ll lH lI=>jr (ah nr+av ll+ah lH+au.fu lI+64) nr ll lH lI (fun wM sY wN sZ=>bif(decide ((sY.length:Int)>(17:Int)))then(k0 (⟨0,0⟩:au) false)else(kn (ah wM+av sY+ah wN+ah 0+ah 0+au.fu sZ+64) wM sY wN 0 0 sZ (fun AL AM yT E8=>dQ (ae.wrap (AL*yT)) AM (fun uG rR=>k0 uG rR)))))); let ER:=fun(mE:Bool)=>bif mE then(let Co:=fun(lk:Int) (wH:Bool)=>jR x1 lk (fun cP=>bif(cP==0)then(k0 (⟨0,0⟩:au) false)else(kT (av x1+ah lk+ah z4+ah cP+av bH+ah z12+ah 0+ah lk+au.fu (⟨0,0⟩:au)+64) x1 lk z4 cP bH z12 wH 0 lk (⟨0,0⟩:au) (fun cN fo dG fv ff iX kN kO ia=>bif kN then(Xa cN (ae.wrap (fo+fv)) dG ff (ae.wrap (iX+(ae.wrap (0 - kO)))) ia)else(Xa cN (ae.wrap (fo+fv)) dG ff (ae.wrap (iX+kO)) ia)))); bif(decide ((ae.wrap (bM+1))<(x1.length:Int)))then(ag (decide ((0:Int)<=(ae.wrap (bM+1)))&&decide ((ae.wrap (bM+1))<x1.length)) (bif(((x1.getD ((ae.wrap (bM+1)).toNat) 0).toNat:Int)==43)then(ag (decide ((0:Int)<=(ae.wrap (bM+1)))&&decide ((ae.wrap (bM+1))<x1.length)) (Co (ae.wrap ((ae.wrap (bM+1))+1)) (((x1.getD ((ae.wrap (bM+1)).toNat) 0).toNat:Int)==45)))else(ag (decide ((0:Int)<=(ae.wrap (bM+1)))&&decide ((ae.wrap (bM+1))<x1.length)) (bif(((x1.getD ((ae.wrap (bM+1)).toNat) 0).toNat:Int)==45)then(ag (decide ((0:Int)<=(ae.wrap (bM+1)))&&decide ((ae.wrap (bM+1))<x1.length)) (Co (ae.wrap ((ae.wrap (bM+1))+1)) (((x1.getD ((ae.wrap (bM+1)).toNat) 0).toNat:Int)==45)))else(Co (ae.wrap (bM+1)) false)))))else(Co (ae.wrap (bM+1)) false))else(Xa x1 bM z4 bH z12 (⟨0,0⟩:au)); bif(decide (bM<(x1.length:Int)))then(ag (decide ((0:Int)<=bM)&&decide (bM<x1.length)) (bif(((x1.getD bM.toNat 0).toNat:Int)==101)then(ER true)else(ag (decide ((0:Int)<=bM)&&decide (bM<x1.length)) (ER (((x1.getD bM.toNat 0).toNat:Int)==69)))))else(ER false); let j9:=fun(z7:Bool)=>bif z7 then(jR x1 (ae.wrap ((ae.wrap (z3+y5))+1)) (fun y8=>bif(y8==0)then(k0 (⟨0,0⟩:au) false)else(ag (decide ((0:Int)<=(ae.wrap ((ae.wrap ((ae.wrap (z3+y5))+1))+y8)))&&decide ((ae.wrap ((ae.wrap ((ae.wrap (z3+y5))+1))+y8))<=x1.length)) (ag (decide ((0:Int)<=(ae.wrap ((ae.wrap (z3+y5))+1)))&&decide ((ae.wrap ((ae.wrap (z3+y5))+1))<=(ae.wrap ((ae.wrap ((ae.wrap (z3+y5))+1))+y8)))) (ag (decide (((x1.drop z3.toNat).take ((ae.wrap (z3+y5)).toNat - z3.toNat)).length+((x1.drop (ae.wrap ((ae.wrap (z3+y5))+1)).toNat).take ((ae.wrap ((ae.wrap ((ae.wrap (z3+y5))+1))+y8)).toNat - (ae.wrap ((ae.wrap (z3+y5))+1)).toNat)).length<=9223372036854775807)) (j77 (ae.wrap ((ae.wrap ((ae.wrap (z3+y5))+1))+y8)) (((x1.drop z3.toNat).take ((ae.wrap (z3+y5)).toNat - z3.toNat))++((x1.drop (ae.wrap ((ae.wrap (z3+y5))+1)).toNat).take ((ae.wrap ((ae.wrap ((ae.wrap (z3+y5))+1))+y8)).toNat - (ae.wrap ((ae.wrap (z3+y5))+1)).toNat))) (ae.wrap (0 - y8))))))))else(j77 (ae.wrap (z3+y5)) ((x1.drop z3.toNat).take ((ae.wrap (z3+y5)).toNat - z3.toNat)) 0); bif(decide ((ae.wrap (z3+y5))<(x1.length:Int)))then(ag (decide ((0:Int)<=(ae.wrap (z3+y5)))&&decide ((ae.wrap (z3+y5))<x1.length)) (j9 (((x1.getD ((ae.wrap (z3+y5)).toNat) 0).toNat:Int)==46)))else(j9 false))); bif(y5==0)then(k0 (⟨0,0⟩:au) false)else(bif(decide (y5>(1:Int)))then(ag (decide ((0:Int)<=z3)&&decide (z3<x1.length)) (bif(((x1.getD z3.toNat 0).toNat:Int)==48)then(k0 (⟨0,0⟩:au) false)else(j78)))else(j78))); bif(decide ((0:Int)<(x1.length:Int)))then(ag (decide ((0:Int)<x1.length)) (bif(((x1.getD 0 0).toNat:Int)==45)then(W9 1 (-1))else(W9 0 1)))else(W9 0 1))
theorem aB6:aP (R:=R) tt (H2 dQ jR) (H3 kT kU jr kn) false Tryz.f189 topic_Name_p topic_Name_q (UE (NR dQ jR kT kU jr kn)):=fun x y k=>by kernel_rfl
end
def kT:WW R
 | 0,_,_,_,_,_,_,_,_,_,_,_=>none
 | n+1,aB,aC,aG,bq,cg,cw,dP,eC,eD,eE,e0=>W3 (fun aB aC aG bq cg cw dP eC eD eE=>kT n aB aC aG bq cg cw dP eC eD eE e0) aB aC aG bq cg cw dP eC eD eE e0
def kU:E6 R
 | 0,_,_,_,_,_=>none
 | n+1,aB,aC,aG,bq,e0=>W4 (fun aB aC aG bq=>kU n aB aC aG bq e0) aB aC aG bq e0
def jr:E6 R
 | 0,_,_,_,_,_=>none
 | n+1,aB,aC,aG,bq,e0=>NQ (fun aB aC aG bq=>jr n aB aC aG bq e0) aB aC aG bq e0
def kn:WY R
 | 0,_,_,_,_,_,_,_=>none
 | n+1,aB,aC,aG,bq,cg,cw,e0=>W8 (fun aB aC aG bq cg cw=>kn n aB aC aG bq cg cw e0) aB aC aG bq cg cw e0
def aB7:=dD (R:=R) ajQ (ajX) WZ (kT) ajR ajS (aB2 dQ jR kT kU jr kn) (fun _ _=>by kernel_rfl) (fun _ _ _=>by kernel_rfl) (fun _ _=>by kernel_rfl)
def aB8:=dD (R:=R) NM (ajY) W0 (kU) NN NO (aB3 dQ jR kT kU jr kn) (fun _ _=>by kernel_rfl) (fun _ _ _=>by kernel_rfl) (fun _ _=>by kernel_rfl)
def aB9:=dD (R:=R) NM (ajZ) W1 (jr) NN NO (aB4 dQ jR kT kU jr kn) (fun _ _=>by kernel_rfl) (fun _ _ _=>by kernel_rfl) (fun _ _=>by kernel_rfl)
def aCa:=dD (R:=R) ajU (aj0) W2 (kn) ajV ajW (aB5 dQ jR kT kU jr kn) (fun _ _=>by kernel_rfl) (fun _ _ _=>by kernel_rfl) (fun _ _=>by kernel_rfl)
def ta:EM R:=NR dQ jR kT kU jr kn
theorem aCb (R:Type):aN ao 189 (LW (ta (R:=R))):=aR (aB6 dQ jR kT kU jr kn) TT mixed (.c (VY R) <| .c (aBT R) <| .n) rfl rfl (dE.all (by kernel_rfl) (.s (.s (.s (.s .z (dJ (by kernel_rfl) (aB7 _ dH))) (dJ (by kernel_rfl) (aB8 _ dH))) (dJ (by kernel_rfl) (aB9 _ dH))) (dJ (by kernel_rfl) (aCa _ dH))))
abbrev NS (R:Type):Type:=ad->Int->(Token->Int->Option R)->Option R
def aj1 (fn:NS R):br R uB topic_Name_q:=fun x y k=>fn x.1 x.2.1 (fun q0 q1=>k (.tuple [acy q0,af q1]) [])
def aj2 (fn:NS R):=aL uB topic_Name_q (aj1 fn)
section
variable (uD:EU R) (ta:EM R) (qk:NG R)
def aCc:List (aY R):=[aO 187 (Mf uD),aO 189 (LW ta),aO 188 (ajy qk)]
def NT (x1:ad) (x2:Int) (k0:Token->Int->Option R):Option R:=
 ag (decide ((0:Int)<=x2)&&decide (x2<x1.length)) (let wO:=fun(z3:Bool)=>bif z3 then(ag (decide ((0:Int)<=(ae.wrap (x2+1)))&&decide ((ae.wrap (x2+1))<=x1.length)) (ag (decide ((0:Int)<=x2)&&decide (x2<=(ae.wrap (x2+1)))) (k0 (⟨1,((x1.drop x2.toNat).take ((ae.wrap (x2+1)).toNat - x2.toNat)),⟨0,0⟩,x2⟩:Token) 1)))else(bif(((x1.getD x2.toNat 0).toNat:Int)==34)then(ag (decide ((0:Int)<=(x1.length:Int))&&decide ((x1.length:Int)<=x1.length)) (ag (decide ((0:Int)<=x2)&&decide (x2<=(x1.length:Int))) (uD ((x1.drop x2.toNat).take ((x1.length:Int).toNat - x2.toNat)) (fun y4 y5 y6=>bif(!y6)then(k0 (⟨0,([]:ad),⟨0,0⟩,0⟩:Token) 0)else(k0 (⟨2,y4,⟨0,0⟩,x2⟩:Token) y5)))))else(let CD:=fun(z7:Bool)=>bif z7 then(qk x1 x2 true (fun y8=>ta y8 (fun y9 bu=>bif(!bu)then(k0 (⟨0,([]:ad),⟨0,0⟩,0⟩:Token) 0)else(k0 (⟨3,y8,⟨y9.aj,y9.exp⟩,x2⟩:Token) (y8.length:Int)))))else(let lJ:=fun(bH:Bool)=>bif bH then(qk x1 x2 false (fun bg=>bif(bg==([116,114,117,101]:ad))then(k0 (⟨4,bg,⟨0,0⟩,x2⟩:Token) (bg.length:Int))else(bif(bg==([102,97,108,115,101]:ad))then(k0 (⟨4,bg,⟨0,0⟩,x2⟩:Token) (bg.length:Int))else(bif(bg==([110,117,108,108]:ad))then(k0 (⟨4,bg,⟨0,0⟩,x2⟩:Token) (bg.length:Int))else(k0 (⟨0,([]:ad),⟨0,0⟩,0⟩:Token) 0)))))else(k0 (⟨0,([]:ad),⟨0,0⟩,0⟩:Token) 0); bif(decide (((x1.getD x2.toNat 0).toNat:Int)>=(97:Int)))then(lJ (decide (((x1.getD x2.toNat 0).toNat:Int)<=(122:Int))))else(lJ false)); bif(decide (((x1.getD x2.toNat 0).toNat:Int)>=(48:Int)))then(bif(decide (((x1.getD x2.toNat 0).toNat:Int)<=(57:Int)))then(CD true)else(CD (((x1.getD x2.toNat 0).toNat:Int)==45)))else(CD (((x1.getD x2.toNat 0).toNat:Int)==45)))); bif(((x1.getD x2.toNat 0).toNat:Int)==123)then(wO true)else(bif(((x1.getD x2.toNat 0).toNat:Int)==125)then(wO true)else(bif(((x1.getD x2.toNat 0).toNat:Int)==91)then(wO true)else(bif(((x1.getD x2.toNat 0).toNat:Int)==93)then(wO true)else(bif(((x1.getD x2.toNat 0).toNat:Int)==44)then(wO true)else(wO (((x1.getD x2.toNat 0).toNat:Int)==58)))))))
theorem aCd:aP (R:=R) tt (aCc uD ta qk) bm false Tryz.f151 uB topic_Name_q (aj1 (NT uD ta qk)):=fun x y k=>by kernel_rfl
end
def qo:NS R:=NT uD ta qk
theorem aCe (R:Type):aN ao 151 (aj2 (qo (R:=R))):=aR (aCd uD ta qk) TT mixed (.c (aBH R) <| .c (aCb R) <| .c (aBN R) <| .n) rfl rfl bp
abbrev aj3 (R:Type):Type:=ad->(List Token)->Int->((List Token)->Int->Option R)->(Int->Int->(List Token)->Int->Option R)->Option R
abbrev Xc (R:Type):Type:=Nat->aj3 R
def aj4:Hint:=⟨[0,5,6],[(5,.token)],[],[],[],[2,3,4,5,6]⟩
def aj5:wL->St:=fun d=>⟨.str d.1::U 4 (.sl .token d.2.1 (.own 0)::af d.2.2::U 54 ([])),[.tok]⟩
def aCf (K:KT R) (q0:List Token) (q1:Int):Option R:=K (.exit 0) ⟨U 5 (.sl .token q0 (.own 0)::af q1::U 54 ([])),[.tok]⟩
def aCg (K:KT R) (q0:Int) (q1:Int) (q2:List Token) (q3:Int):Option R:=K (.ret) ⟨U 2 (.bk::af q0::af q1::.sl .token q2 (.own 0)::af q3::U 54 ([])),[.tok]⟩
abbrev Xd (K:KT R) (d:wL) (f:aj3 R):Option R:=f d.1 d.2.1 d.2.2 (aCf K) (aCg K)
abbrev NU:List ax:=dU::PU 4 (.leaf (.k9 .token 0)::bG::PU 54 ([]))
def aj6 (x:ax.aA NU) (y:aH.aA jD):Nat:=(av x.1+av x.2.2.2.2.2.1+ah x.2.2.2.2.2.2.1+64)
def aj7 (x:ax.aA NU) (y:aH.aA jD):wL:=(x.1,x.2.2.2.2.2.1,x.2.2.2.2.2.2.1)
def aCh (L:Xc R):dC R NU jD:=fun x y K=>Xd K (aj7 x y) (L (aj6 x y))
section
variable (qo:NS R) (pd:Xc R)
def aj8:List (aY R):=[aO 151 (aj2 qo)]
def Xe (aD:ad->(List Token)->Int->Option R) (x2:ad) (x3:List Token) (x4:Int) (e0:(List Token)->Int->Option R) (e1:Int->Int->(List Token)->Int->Option R):Option R:=
 bif(decide (x4<(x2.length:Int)))then(ag (decide ((0:Int)<=x4)&&decide (x4<x2.length)) (bif(((x2.getD x4.toNat 0).toNat:Int)==32)then(aD x2 x3 (ae.wrap (x4+1)))else(ag (decide ((0:Int)<=x4)&&decide (x4<x2.length)) (bif(((x2.getD x4.toNat 0).toNat:Int)==9)then(aD x2 x3 (ae.wrap (x4+1)))else(ag (decide ((0:Int)<=x4)&&decide (x4<x2.length)) (bif(((x2.getD x4.toNat 0).toNat:Int)==10)then(aD x2 x3 (ae.wrap (x4+1)))else(ag (decide ((0:Int)<=x4)&&decide (x4<x2.length)) (bif(((x2.getD x4.toNat 0).toNat:Int)==13)then(aD x2 x3 (ae.wrap (x4+1)))else(qo x2 x4 (fun y6 y7=>bif(y7==0)then(e1 30 x4 x3 x4)else(ag (decide ((x3.length+1)*48<=140737488355328)) (aD x2 (x3++([y6]:List Token)) (ae.wrap (x4+y7))))))))))))))else(e0 x3 x4)
def aj9 (K:KT R) (rc:wL->Option R) (d:wL):Option R:=Xd K d (Xe qo (fun z0 z1 z2=>rc (z0,z1,z2)))
def aka:Nat->Option (Hint×bX R):=fun i=>match i with
 | 5=>some (aj4,(cY NU jD (aCh pd) dz))
 | _=>none
theorem aCi:dn (R:=R) tt (aj8 qo) (aka pd) 0 Tryz.f113 0 aj4 aj5 (aj9 qo):=fun K rc d=>by kernel_rfl
def NV (x1:ad) (k0:(List Token)->Int->Int->Option R):Option R:=
 bif(decide ((x1.length:Int)>(20000:Int)))then(k0 ([]:List Token) 30 0)else(pd (av x1+av ([]:List Token)+ah 0+64) x1 ([]:List Token) 0 (fun y8 y9=>ag (decide ((y8.length+1)*48<=140737488355328)) (k0 (y8++([(⟨5,([]:ad),⟨0,0⟩,y9⟩:Token)]:List Token)) 0 0)) (fun bu aS bg cd=>k0 ([]:List Token) bu aS))
theorem aCj:aP (R:=R) tt (aj8 qo) (aka pd) false Tryz.f113 topic_Name_p topic_Name_q (UT (NV pd)):=fun x y k=>by kernel_rfl
end
def pd:Xc R
 | 0,_,_,_,_,_=>none
 | n+1,aB,aC,aG,e0,e1=>Xe qo (fun aB aC aG=>pd n aB aC aG e0 e1) aB aC aG e0 e1
def aCk:=dD (R:=R) aj5 (aj9 qo) Xd (pd) aj6 aj7 (aCi qo pd) (fun _ _=>by kernel_rfl) (fun _ _ _=>by kernel_rfl) (fun _ _=>by kernel_rfl)
def uH:EV R:=NV pd
theorem aCl (R:Type):aN ao 113 (Mm (uH (R:=R))):=aR (aCj qo pd) TT mixed (.c (aCe R) <| .n) rfl rfl (dE.all (by kernel_rfl) (.s .z (dJ (by kernel_rfl) (aCk _ dH))))
abbrev H8 (R:Type):Type:=ad->(List Token)->Int->Int->(Bool->(List Token)->Int->Int->Option R)->Option R
abbrev r5:List aH:=[.cells [.sl .token,aF,aF]]
def akb (fn:H8 R):br R lh r5:=fun x y k=>fn x.2.1 y.1.1 y.1.2.1 y.1.2.2.1 (fun q0 q1 q2 q3=>k (.bool q0) [.cells [.sl .token q1 .no,af q2,af q3]])
def Xf (fn:H8 R):=aL lh r5 (akb fn)
section
def E9 (x1:ad) (x2:List Token) (x3:Int) (x4:Int) (k0:Bool->(List Token)->Int->Int->Option R):Option R:=
 bif(x4==0)then(ag (decide ((0:Int)<=x3)&&decide (x3<x2.length)) (bif((x2.getD x3.toNat (Ty.az .token)).kind==1)then(ag (decide ((0:Int)<=x3)&&decide (x3<x2.length)) (bif((x2.getD x3.toNat (Ty.az .token)).text==x1)then(k0 ((x2.getD x3.toNat (Ty.az .token)).text==x1) x2 (ae.wrap (x3+1)) x4)else(k0 ((x2.getD x3.toNat (Ty.az .token)).text==x1) x2 x3 x4)))else(k0 false x2 x3 x4)))else(k0 false x2 x3 x4)
theorem aCm:aP (R:=R) (tt.mode [.json]) [] bm false Tryz.f152 lh r5 (akb E9):=fun x y k=>by kernel_rfl
end
def dT:H8 R:=E9
theorem akc (R:Type):aN ao 152 (Xf (dT (R:=R))):=aR (aCm) (TT.mode [.json]) mixed .n rfl rfl bp
variable {R:Type}
abbrev NW (R:Type):Type:=ad->(List Token)->Int->Int->((List Token)->Int->Int->Option R)->Option R
def akd (fn:NW R):br R lh r5:=fun x y k=>fn x.2.1 y.1.1 y.1.2.1 y.1.2.2.1 (fun q0 q1 q2=>k (.tuple []) [.cells [.sl .token q0 .no,af q1,af q2]])
def ake (fn:NW R):=aL lh r5 (akd fn)
section
variable (dT:H8 R)
def aCn:List (aY R):=[dp 152 (Xf dT)]
def Fa (x1:ad) (x2:List Token) (x3:Int) (x4:Int) (k0:(List Token)->Int->Int->Option R):Option R:=
 dT x1 x2 x3 x4 (fun y5 y6 y7 y8=>bif(!y5)then(bif(y8==0)then(k0 y6 y7 40)else(k0 y6 y7 y8))else(k0 y6 y7 y8))
theorem aCo:aP (R:=R) (tt.mode [.json]) (aCn dT) bm false Tryz.f153 lh r5 (akd (Fa dT)):=fun x y k=>by kernel_rfl
end
def ic:NW R:=Fa dT
theorem aCp (R:Type):aN ao 153 (ake (ic (R:=R))):=aR (aCo dT) (TT.mode [.json]) mixed (.d (akc R) rfl <| .n) rfl rfl bp
abbrev nH (R:Type):Type:=Int->(List Token)->Int->Int->(Json->(List Token)->Int->Int->Option R)->Option R
def xg (fn:nH R):br R lK r5:=fun x y k=>fn x.2.1 y.1.1 y.1.2.1 y.1.2.2.1 (fun q0 q1 q2 q3=>k (lE q0) [.cells [.sl .token q1 .no,af q2,af q3]])
def akf (fn:nH R):=aL lK r5 (xg fn)
abbrev akg (R:Type):Type:=Int->Bool->(List Token)->Int->Int->Int->Int->Int->ad->Int->Int->Int->ad->Nat->(List Json)->((List Token)->Int->Int->Int->Int->Int->ad->Int->Int->Int->ad->Nat->(List Json)->Option R)->Option R
abbrev Xg (R:Type):Type:=Nat->akg R
abbrev akh (R:Type):Type:=Int->Bool->(List Token)->Int->Int->Int->Int->Int->ad->Int->Int->Int->ad->(List ad)->Nat->(List Json)->((List Token)->Int->Int->Int->Int->Int->ad->Int->Int->Int->ad->(List ad)->Nat->(List Json)->Option R)->Option R
abbrev Xh (R:Type):Type:=Nat->akh R
def aki:Hint:=⟨[0,1,4,7,8],[],[],[(2,5,.json,true)],[],[4,7]⟩
abbrev H9:Type:=Int×Bool×(List Token)×Int×Int×Int×Int×Int×ad×Int×Int×Int×ad×Nat×(List Json)
def akj:H9->St:=fun d=>⟨.ptr 0 0::af d.1::U 2 (.ptr 1 0::U 2 (.ptr 2 0::.bool d.2.1::U 184 ([]))),[.cells [.sl .token d.2.2.1 .no,af d.2.2.2.1,af d.2.2.2.2.1],.cells [af d.2.2.2.2.2.1,af d.2.2.2.2.2.2.1,af d.2.2.2.2.2.2.2.1,.str d.2.2.2.2.2.2.2.2.1,.bk,.bk],.cells [af d.2.2.2.2.2.2.2.2.2.1,af d.2.2.2.2.2.2.2.2.2.2.1,af d.2.2.2.2.2.2.2.2.2.2.2.1,.str d.2.2.2.2.2.2.2.2.2.2.2.2.1,.bk,.row 3 d.2.2.2.2.2.2.2.2.2.2.2.2.2.1],.row .json d.2.2.2.2.2.2.2.2.2.2.2.2.2.2]⟩
def aCq (K:KT R) (q0:List Token) (q1:Int) (q2:Int) (q3:Int) (q4:Int) (q5:Int) (q6:ad) (q7:Int) (q8:Int) (q9:Int) (lF:ad) (Xi:Nat) (Ia:List Json):Option R:=K (.exit 1) ⟨U 4 (.ptr 1 0::U 2 (.ptr 2 0::U 185 ([]))),[.cells [.sl .token q0 .no,af q1,af q2],.cells [af q3,af q4,af q5,.str q6,.bk,.bk],.cells [af q7,af q8,af q9,.str lF,.bk,.row 3 Xi],.row .json Ia]⟩
abbrev Xj (K:KT R) (d:H9) (f:akg R):Option R:=f d.1 d.2.1 d.2.2.1 d.2.2.2.1 d.2.2.2.2.1 d.2.2.2.2.2.1 d.2.2.2.2.2.2.1 d.2.2.2.2.2.2.2.1 d.2.2.2.2.2.2.2.2.1 d.2.2.2.2.2.2.2.2.2.1 d.2.2.2.2.2.2.2.2.2.2.1 d.2.2.2.2.2.2.2.2.2.2.2.1 d.2.2.2.2.2.2.2.2.2.2.2.2.1 d.2.2.2.2.2.2.2.2.2.2.2.2.2.1 d.2.2.2.2.2.2.2.2.2.2.2.2.2.2 (aCq K)
abbrev NX:List ax:=.leaf (.ptr 0 0)::bG::PU 2 (.leaf (.ptr 1 0)::PU 2 (.leaf (.ptr 2 0)::.leaf (.bool)::PU 184 ([])))
abbrev NY:List aH:=[.cells [.sl .token,aF,aF],.cells [aF,aF,aF,.str,.bk,.bk],.cells [aF,aF,aF,.str,.bk,.row 3],.row .json]
def akk (x:ax.aA NX) (y:aH.aA NY):Nat:=(ah x.2.1+av y.1.1+ah y.1.2.1+ah y.1.2.2.1+ah y.2.1.1+ah y.2.1.2.1+ah y.2.1.2.2.1+av y.2.1.2.2.2.1+ah y.2.2.1.1+ah y.2.2.1.2.1+ah y.2.2.1.2.2.1+av y.2.2.1.2.2.2.1+av y.2.2.2.1+64)
def akl (x:ax.aA NX) (y:aH.aA NY):H9:=(x.2.1,(t8 x).1,y.1.1,y.1.2.1,y.1.2.2.1,y.2.1.1,y.2.1.2.1,y.2.1.2.2.1,y.2.1.2.2.2.1,y.2.2.1.1,y.2.2.1.2.1,y.2.2.1.2.2.1,y.2.2.1.2.2.2.1,y.2.2.1.2.2.2.2.2.1,y.2.2.2.1)
def aCr (L:Xg R):dC R NX NY:=fun x y K=>Xj K (akl x y) (L (akk x y))
def akm:Hint:=⟨[0,1,4,10,11],[],[],[(2,4,.str,false),(2,5,.json,true)],[],[4,10]⟩
abbrev Ib:Type:=Int×Bool×(List Token)×Int×Int×Int×Int×Int×ad×Int×Int×Int×ad×(List ad)×Nat×(List Json)
def akn:Ib->St:=fun d=>⟨.ptr 0 0::af d.1::U 2 (.ptr 1 0::U 5 (.ptr 2 0::.bool d.2.1::U 181 ([]))),[.cells [.sl .token d.2.2.1 .no,af d.2.2.2.1,af d.2.2.2.2.1],.cells [af d.2.2.2.2.2.1,af d.2.2.2.2.2.2.1,af d.2.2.2.2.2.2.2.1,.str d.2.2.2.2.2.2.2.2.1,.bk,.bk],.cells [af d.2.2.2.2.2.2.2.2.2.1,af d.2.2.2.2.2.2.2.2.2.2.1,af d.2.2.2.2.2.2.2.2.2.2.2.1,.str d.2.2.2.2.2.2.2.2.2.2.2.2.1,.sl .str d.2.2.2.2.2.2.2.2.2.2.2.2.2.1 (.own 3),.row 4 d.2.2.2.2.2.2.2.2.2.2.2.2.2.2.1],.tok,.row .json d.2.2.2.2.2.2.2.2.2.2.2.2.2.2.2]⟩
def aCs (K:KT R) (q0:List Token) (q1:Int) (q2:Int) (q3:Int) (q4:Int) (q5:Int) (q6:ad) (q7:Int) (q8:Int) (q9:Int) (lF:ad) (Xi:List ad) (Ia:Nat) (Xk:List Json):Option R:=K (.exit 3) ⟨U 4 (.ptr 1 0::U 5 (.ptr 2 0::U 182 ([]))),[.cells [.sl .token q0 .no,af q1,af q2],.cells [af q3,af q4,af q5,.str q6,.bk,.bk],.cells [af q7,af q8,af q9,.str lF,.sl .str Xi (.own 3),.row 4 Ia],.tok,.row .json Xk]⟩
abbrev Xl (K:KT R) (d:Ib) (f:akh R):Option R:=f d.1 d.2.1 d.2.2.1 d.2.2.2.1 d.2.2.2.2.1 d.2.2.2.2.2.1 d.2.2.2.2.2.2.1 d.2.2.2.2.2.2.2.1 d.2.2.2.2.2.2.2.2.1 d.2.2.2.2.2.2.2.2.2.1 d.2.2.2.2.2.2.2.2.2.2.1 d.2.2.2.2.2.2.2.2.2.2.2.1 d.2.2.2.2.2.2.2.2.2.2.2.2.1 d.2.2.2.2.2.2.2.2.2.2.2.2.2.1 d.2.2.2.2.2.2.2.2.2.2.2.2.2.2.1 d.2.2.2.2.2.2.2.2.2.2.2.2.2.2.2 (aCs K)
abbrev NZ:List ax:=.leaf (.ptr 0 0)::bG::PU 2 (.leaf (.ptr 1 0)::PU 5 (.leaf (.ptr 2 0)::.leaf (.bool)::PU 181 ([])))
abbrev N0:List aH:=[.cells [.sl .token,aF,aF],.cells [aF,aF,aF,.str,.bk,.bk],.cells [aF,aF,aF,.str,.k9 .str 3,.row 4],.tok,.row .json]
def ako (x:ax.aA NZ) (y:aH.aA N0):Nat:=(ah x.2.1+av y.1.1+ah y.1.2.1+ah y.1.2.2.1+ah y.2.1.1+ah y.2.1.2.1+ah y.2.1.2.2.1+av y.2.1.2.2.2.1+ah y.2.2.1.1+ah y.2.2.1.2.1+ah y.2.2.1.2.2.1+av y.2.2.1.2.2.2.1+av y.2.2.1.2.2.2.2.1+av y.2.2.2.2.1+64)
def akp (x:ax.aA NZ) (y:aH.aA N0):Ib:=(x.2.1,(t8 x).2.2.2.1,y.1.1,y.1.2.1,y.1.2.2.1,y.2.1.1,y.2.1.2.1,y.2.1.2.2.1,y.2.1.2.2.2.1,y.2.2.1.1,y.2.2.1.2.1,y.2.2.1.2.2.1,y.2.2.1.2.2.2.1,y.2.2.1.2.2.2.2.1,y.2.2.1.2.2.2.2.2.1,y.2.2.2.2.1)
def aCt (L:Xh R):dC R NZ N0:=fun x y K=>Xl K (akp x y) (L (ako x y))
section
variable (dT:H8 R) (ic:NW R) (eW:nH R) (gv:AE R) (jS:Xg R) (iZ:Xh R)
def Xm:List (aY R):=[dp 152 (Xf dT),dp 153 (ake ic),dp 114 (aL lK r5 (xg eW)),aO 154 (Ev gv)]
def akq (aD:Int->Bool->(List Token)->Int->Int->Int->Int->Int->ad->Int->Int->Int->ad->Nat->(List Json)->Option R) (hU:Int) (hY:Bool) (eK:List Token) (fC:Int) (bw:Int) (bZ:Int) (bt:Int) (cm:Int) (dN:ad) (dk:Int) (nq:Int) (x22:Int) (ib:ad) (qa:Nat) (iF:List Json) (e0:(List Token)->Int->Int->Int->Int->Int->ad->Int->Int->Int->ad->Nat->(List Json)->Option R):Option R:=
 bif(!hY)then(bif(bw==0)then(eW (ae.wrap (hU+1)) eK fC bw (fun cH cN fo dG=>ag (decide ((iF.length+1)*88<=140737488355328)) (dT ([44]:ad) cN fo dG (fun fv ff iX kN=>bif(!fv)then(ic ([93]:ad) ff iX kN (fun kO ia l8=>aD hU true kO ia l8 bZ bt cm dN dk nq x22 ib (iF.length+1) (iF++([(⟨cH.kind,⟨cH.num.aj,cH.num.exp⟩,cH.text,cH.names,cH.items⟩:Json)]:List Json))))else(aD hU hY ff iX kN bZ bt cm dN dk nq x22 ib (iF.length+1) (iF++([(⟨cH.kind,⟨cH.num.aj,cH.num.exp⟩,cH.text,cH.names,cH.items⟩:Json)]:List Json)))))))else(e0 eK fC bw bZ bt cm dN dk nq x22 ib qa iF))else(e0 eK fC bw bZ bt cm dN dk nq x22 ib qa iF)
def akr (K:KT R) (rc:H9->Option R) (d:H9):Option R:=Xj K d (akq dT ic eW (fun z0 z1 z2 z3 z4 z5 z6 z7 z8 z9 bM bH z12 mE Xn=>rc (z0,z1,z2,z3,z4,z5,z6,z7,z8,z9,bM,bH,z12,mE,Xn)))
def N1 (aD:Int->Bool->(List Token)->Int->Int->Int->Int->Int->ad->Int->Int->Int->ad->(List ad)->Nat->(List Json)->Option R) (CE:Int) (nG:Bool) (ql:List Token) (pc:Int) (N2:Int) (Fb:Int) (Fc:Int) (Fe:Int) (Ff:ad) (yQ:Int) (uF:Int) (yR:Int) (yS:ad) (qm:List ad) (CF:Nat) (yU:List Json) (e0:(List Token)->Int->Int->Int->Int->Int->ad->Int->Int->Int->ad->(List ad)->Nat->(List Json)->Option R):Option R:=
 bif(!nG)then(bif(N2==0)then(ag (decide ((0:Int)<=pc)&&decide (pc<ql.length)) (bif((ql.getD pc.toNat (Ty.az .token)).kind != 2)then(e0 ql pc 40 Fb Fc Fe Ff yQ uF yR yS qm CF yU)else(gv qm ((ql.getD pc.toNat (Ty.az .token)).text) (fun yT=>bif yT then(e0 ql pc 42 Fb Fc Fe Ff yQ uF yR yS qm CF yU)else(ic ([58]:ad) ql (ae.wrap (pc+1)) N2 (fun E8 uG rR=>ag (decide ((qm.length+1)*16<=140737488355328)) (eW (ae.wrap (CE+1)) E8 uG rR (fun mK EW HE HF=>ag (decide ((yU.length+1)*88<=140737488355328)) (dT ([44]:ad) EW HE HF (fun Cr ui uj Ic=>bif(!Cr)then(ic ([125]:ad) ui uj Ic (fun Xo Xp Cs=>aD CE true Xo Xp Cs Fb Fc Fe Ff yQ uF yR yS (qm++([(ql.getD pc.toNat (Ty.az .token)).text]:List ad)) (yU.length+1) (yU++([(⟨mK.kind,⟨mK.num.aj,mK.num.exp⟩,mK.text,mK.names,mK.items⟩:Json)]:List Json))))else(aD CE nG ui uj Ic Fb Fc Fe Ff yQ uF yR yS (qm++([(ql.getD pc.toNat (Ty.az .token)).text]:List ad)) (yU.length+1) (yU++([(⟨mK.kind,⟨mK.num.aj,mK.num.exp⟩,mK.text,mK.names,mK.items⟩:Json)]:List Json)))))))))))))else(e0 ql pc N2 Fb Fc Fe Ff yQ uF yR yS qm CF yU))else(e0 ql pc N2 Fb Fc Fe Ff yQ uF yR yS qm CF yU)
def aks (K:KT R) (rc:Ib->Option R) (d:Ib):Option R:=Xl K d (N1 dT ic eW gv (fun z0 z1 z2 z3 z4 z5 z6 z7 z8 z9 bM bH z12 mE Xn lk=>rc (z0,z1,z2,z3,z4,z5,z6,z7,z8,z9,bM,bH,z12,mE,Xn,lk)))
def Xq:Nat->Option (Hint×bX R):=fun i=>match i with
 | 22=>some (aki,(cY NX NY (aCr jS) dz))
 | 31=>some (akm,(cY NZ N0 (aCt iZ) dz))
 | _=>none
theorem aCu:dn (R:=R) (tt.mode [.json]) (Xm dT ic eW gv) (Xq jS iZ) 1 Tryz.f114 0 aki akj (akr dT ic eW):=fun K rc d=>by kernel_rfl
theorem aCv:dn (R:=R) (tt.mode [.json]) (Xm dT ic eW gv) (Xq jS iZ) 1 Tryz.f114 1 akm akn (aks dT ic eW gv):=fun K rc d=>by kernel_rfl
def Ie (x1:Int) (x2:List Token) (x3:Int) (x4:Int) (k0:Json->(List Token)->Int->Int->Option R):Option R:=
 bif(x4 != 0)then(k0 (⟨0,⟨0,0⟩,([]:ad),([]:List ad),([]:List Json)⟩:Json) x2 x3 x4)else(ag (decide ((0:Int)<=x3)&&decide (x3<x2.length)) (let Xr:=fun(z5:Bool)=>let akt:=bif(decide (x1>(16:Int)))then(k0 (⟨0,⟨0,0⟩,([]:ad),([]:List ad),([]:List Json)⟩:Json) x2 x3 41)else(bif((x2.getD x3.toNat (Ty.az .token)).kind==2)then(k0 (⟨5,⟨0,0⟩,(x2.getD x3.toNat (Ty.az .token)).text,([]:List ad),([]:List Json)⟩:Json) x2 (ae.wrap (x3+1)) x4)else(bif((x2.getD x3.toNat (Ty.az .token)).kind==3)then(k0 (⟨4,⟨(x2.getD x3.toNat (Ty.az .token)).num.aj,(x2.getD x3.toNat (Ty.az .token)).num.exp⟩,([]:ad),([]:List ad),([]:List Json)⟩:Json) x2 (ae.wrap (x3+1)) x4)else(bif((x2.getD x3.toNat (Ty.az .token)).kind==4)then(k0 (⟨((iu .str (.int .i64) ((x2.getD x3.toNat (Ty.az .token)).text) ([(([110,117,108,108]:ad),1),(([102,97,108,115,101]:ad),2),(([116,114,117,101]:ad),3)]:List (ad×Int))):Int),⟨0,0⟩,([]:ad),([]:List ad),([]:List Json)⟩:Json) x2 (ae.wrap (x3+1)) x4)else(bif((x2.getD x3.toNat (Ty.az .token)).text==([91]:ad))then(dT ([93]:ad) x2 (ae.wrap (x3+1)) x4 (fun y7 y8 y9 bu=>jS (ah x1+av y8+ah y9+ah bu+ah 0+ah 0+ah 0+av ([]:ad)+ah 6+ah 0+ah 0+av ([]:ad)+av ([]:List Json)+64) x1 y7 y8 y9 bu 0 0 0 ([]:ad) 6 0 0 ([]:ad) 0 ([]:List Json) (fun l9 jk kJ lY lZ mF mG od nj oY pZ wi oZ=>k0 (⟨od,⟨nj,oY⟩,pZ,([]:List ad),oZ⟩:Json) l9 jk kJ)))else(dT ([125]:ad) x2 (ae.wrap (x3+1)) x4 (fun nr ll lH lI=>iZ (ah x1+av ll+ah lH+ah lI+ah 0+ah 0+ah 0+av ([]:ad)+ah 7+ah 0+ah 0+av ([]:ad)+av ([]:List ad)+av ([]:List Json)+64) x1 nr ll lH lI 0 0 0 ([]:ad) 7 0 0 ([]:ad) ([]:List ad) 0 ([]:List Json) (fun uk um yD EX Mv HG HH Ig Ih Ii Ct AN HI Cu=>k0 (⟨Ig,⟨Ih,Ii⟩,Ct,AN,Cu⟩:Json) uk um yD))))))); bif((x2.getD x3.toNat (Ty.az .token)).kind==5)then(k0 (⟨0,⟨0,0⟩,([]:ad),([]:List ad),([]:List Json)⟩:Json) x2 x3 40)else(bif((x2.getD x3.toNat (Ty.az .token)).kind==1)then(bif(!z5)then(k0 (⟨0,⟨0,0⟩,([]:ad),([]:List ad),([]:List Json)⟩:Json) x2 x3 40)else(akt))else(akt)); bif((x2.getD x3.toNat (Ty.az .token)).kind==1)then(bif((x2.getD x3.toNat (Ty.az .token)).text==([91]:ad))then(Xr true)else(Xr ((x2.getD x3.toNat (Ty.az .token)).text==([123]:ad))))else(Xr false)))
theorem aCw:aP (R:=R) (tt.mode [.json]) (Xm dT ic eW gv) (Xq jS iZ) false Tryz.f114 lK r5 (xg (Ie dT jS iZ)):=fun x y k=>by kernel_rfl
end
def jS (eW:nH R):Xg R
 | 0,_,_,_,_,_,_,_,_,_,_,_,_,_,_,_,_=>none
 | n+1,aB,aC,aG,bq,cg,cw,dP,eC,eD,eE,fm,jm,l0,o0,CG,e0=>akq dT ic eW (fun aB aC aG bq cg cw dP eC eD eE fm jm l0 o0 CG=>jS eW n aB aC aG bq cg cw dP eC eD eE fm jm l0 o0 CG e0) aB aC aG bq cg cw dP eC eD eE fm jm l0 o0 CG e0
def iZ (eW:nH R):Xh R
 | 0,_,_,_,_,_,_,_,_,_,_,_,_,_,_,_,_,_=>none
 | n+1,aB,aC,aG,bq,cg,cw,dP,eC,eD,eE,fm,jm,l0,o0,CG,Xs,e0=>N1 dT ic eW gv (fun aB aC aG bq cg cw dP eC eD eE fm jm l0 o0 CG Xs=>iZ eW n aB aC aG bq cg cw dP eC eD eE fm jm l0 o0 CG Xs e0) aB aC aG bq cg cw dP eC eD eE fm jm l0 o0 CG Xs e0
def aCx (eW:nH R):=dD (R:=R) akj (akr dT ic eW) Xj (jS eW) akk akl (aCu dT ic eW gv (jS eW) (iZ eW)) (fun _ _=>by kernel_rfl) (fun _ _ _=>by kernel_rfl) (fun _ _=>by kernel_rfl)
def aCy (eW:nH R):=dD (R:=R) akn (aks dT ic eW gv) Xl (iZ eW) ako akp (aCv dT ic eW gv (jS eW) (iZ eW)) (fun _ _=>by kernel_rfl) (fun _ _ _=>by kernel_rfl) (fun _ _=>by kernel_rfl)
def Xt (eW:nH R):nH R:=Ie dT (jS eW) (iZ eW)
theorem aCz (R:Type) (eW:nH R) (aCA:ak.Spec.Ok ao 114 (aL lK r5 (xg eW) dy)):aN ao 114 (akf (Xt eW)):=aR (aCw dT ic eW gv (jS eW) (iZ eW)) (TT.mode [.json]) mixed (.d (akc R) rfl <| .d (aCp R) rfl <| .f aCA rfl <| .c (ail R) <| .n) rfl rfl (dE.all (by kernel_rfl) (.s (.s .z (dJ (by kernel_rfl) (aCx eW _ dH))) (dJ (by kernel_rfl) (aCy eW _ dH))))
def jT:Nat->nH R
 | 0,_,_,_,_,_=>none
 | n+1,aB,aC,aG,bq,o3=>Xt (jT n) aB aC aG bq o3
theorem aJp (n:Nat):jT (R:=R) (n+1)=Xt (jT n):=by kernel_rfl
theorem aCB (R:Type):∀n,ak.Spec.Ok ao 114 (aL lK r5 (xg (jT (R:=R) n)) dy):=
 yo (run:=fun n=>xg (jT (R:=R) n)) (fun x y k=>by kernel_rfl) fun n hyp=>aCz R (jT n) hyp dy (iB _)
def uI:nH R:=fun x1 x2 x3 x4 k0=>jT 40 x1 x2 x3 x4 k0
theorem aCC (R:Type):xg (R:=R) uI=fun x y k=>xg (jT 40) x y k:=by kernel_rfl
theorem aCD (R:Type) (other:ak.Spec R) (ho:ak.Spec.Ok ao 114 other):ak.Spec.Ok ao 114 (aL lK r5 (xg uI) other):=
 Ax (Aw (run:=fun n=>xg (jT (R:=R) n)) (fun x y=>40) ho (aCB R)) (aCC R)
section
variable (uI:nH R) (uH:EV R)
def aCE:List (aY R):=[dp 114 (akf uI),aO 113 (Mm uH)]
def N3 (x1:ad) (k0:Json->Int->Int->Option R):Option R:=
 uH x1 (fun y2 y3 y4=>bif(y3 != 0)then(k0 (⟨0,⟨0,0⟩,([]:ad),([]:List ad),([]:List Json)⟩:Json) y3 y4)else(uI 1 y2 0 0 (fun y5 y6 y7 y8=>let j10:=bif(y8 != 0)then(ag (decide ((0:Int)<=y7)&&decide (y7<y6.length)) (k0 (⟨0,⟨0,0⟩,([]:ad),([]:List ad),([]:List Json)⟩:Json) y8 ((y6.getD y7.toNat (Ty.az .token)).at_)))else(k0 (⟨y5.kind,⟨y5.num.aj,y5.num.exp⟩,y5.text,y5.names,y5.items⟩:Json) 0 0); bif(y8==0)then(ag (decide ((0:Int)<=y7)&&decide (y7<y6.length)) (bif((y6.getD y7.toNat (Ty.az .token)).kind != 5)then(ag (decide ((0:Int)<=y7)&&decide (y7<y6.length)) (k0 (⟨0,⟨0,0⟩,([]:ad),([]:List ad),([]:List Json)⟩:Json) 40 ((y6.getD y7.toNat (Ty.az .token)).at_)))else(j10)))else(j10))))
theorem aCF:aP (R:=R) tt (aCE uI uH) bm false Tryz.f73 topic_Name_p topic_Name_q (Vc (N3 uI uH)):=fun x y k=>by kernel_rfl
end
def uJ:wP R:=N3 uI uH
theorem aCG (R:Type):aN ao 73 (MA (uJ (R:=R))):=aR (aCF uI uH) TT mixed (.f (aCD R _ (iB _)) rfl <| .c (aCl R) <| .n) rfl rfl bp
abbrev aku (R:Type):Type:=Int->Int->au->(Int->Option R)->(Int->Bool->Int->Option R)->Option R
abbrev Xu (R:Type):Type:=Nat->aku R
def akv:Hint:=⟨[1,5,6],[],[],[],[],[2,3,5]⟩
def akw:oU->St:=fun d=>⟨.undef::.ptr 0 0::U 3 (af d.1::af d.2.1::U 26 ([])),[.cells [af d.2.2.aj,af d.2.2.exp]]⟩
def aCH (K:KT R) (q0:Int):Option R:=K (.exit 0) ⟨U 5 (af q0::U 27 ([])),[]⟩
def aCI (K:KT R) (q0:Int) (q1:Bool) (q2:Int):Option R:=K (.ret) ⟨U 2 (af q0::.bool q1::.undef::af q2::U 27 ([])),[]⟩
abbrev Xv (K:KT R) (d:oU) (f:aku R):Option R:=f d.1 d.2.1 d.2.2 (aCH K) (aCI K)
abbrev N4:List ax:=.leaf (.undef)::.leaf (.ptr 0 0)::PU 3 (bG::bG::PU 26 ([]))
def akx (x:ax.aA N4) (y:aH.aA fN):Nat:=(ah x.2.2.2.2.2.1+ah x.2.2.2.2.2.2.1+au.fu (⟨y.1.1,y.1.2.1⟩:au)+64)
def aky (x:ax.aA N4) (y:aH.aA fN):oU:=(x.2.2.2.2.2.1,x.2.2.2.2.2.2.1,(⟨y.1.1,y.1.2.1⟩:au))
def aCJ (L:Xu R):dC R N4 fN:=fun x y K=>Xv K (aky x y) (L (akx x y))
section
variable (eV:wk R) (r6:Xu R)
def akz:List (aY R):=[aO 155 (AG eV)]
def N5 (aD:Int->Int->au->Option R) (x4:Int) (x5:Int) (x6:au) (e0:Int->Option R) (e1:Int->Bool->Int->Option R):Option R:=
 bif(decide (x5<x6.exp))then(bif(decide (x4>(100000000000000000:Int)))then(e1 0 false x4)else(bif(decide (x4<(-100000000000000000:Int)))then(e1 0 false x4)else(aD (ae.wrap (10*x4)) (ae.wrap (x5+1)) x6)))else(e0 x4)
def akA (K:KT R) (rc:oU->Option R) (d:oU):Option R:=Xv K d (N5 (fun z0 z1 z2=>rc (z0,z1,z2)))
def akB:Nat->Option (Hint×bX R):=fun i=>match i with
 | 6=>some (akv,(cY N4 fN (aCJ r6) dz))
 | _=>none
theorem aCK:dn (R:=R) tt (akz eV) (akB r6) 0 Tryz.f115 0 akv akw (akA):=fun K rc d=>by kernel_rfl
def Xw (x1:au) (k0:Int->Bool->Option R):Option R:=
 eV x1 (fun y2=>bif(!y2)then(k0 0 false)else(bif(decide (x1.exp<(0:Int)))then(k0 0 false)else(r6 (ah x1.aj+ah 0+au.fu x1+64) x1.aj 0 x1 (fun y8=>k0 y8 true) (fun y9 bu aS=>k0 y9 bu))))
theorem aCL:aP (R:=R) tt (akz eV) (akB r6) false Tryz.f115 sQ topic_Name_q (Vk (Xw eV r6)):=fun x y k=>by kernel_rfl
end
def r6:Xu R
 | 0,_,_,_,_,_=>none
 | n+1,aB,aC,aG,e0,e1=>N5 (fun aB aC aG=>r6 n aB aC aG e0 e1) aB aC aG e0 e1
def aCM:=dD (R:=R) akw (akA) Xv (r6) akx aky (aCK eV r6) (fun _ _=>by kernel_rfl) (fun _ _ _=>by kernel_rfl) (fun _ _=>by kernel_rfl)
def xh:EZ R:=Xw eV r6
theorem aCN (R:Type):aN ao 115 (MF (xh (R:=R))):=aR (aCL eV r6) TT mixed (.c (V6 R) <| .n) rfl rfl (dE.all (by kernel_rfl) (.s .z (dJ (by kernel_rfl) (aCM _ dH))))
section
variable (xh:EZ R) (fw:uu R)
def aCO:List (aY R):=[aO 115 (MF xh),aO 100 (yE fw)]
def Xx (x1:Json) (x2:ad) (k0:Int->Bool->Option R):Option R:=
 fw (⟨x1.kind,⟨x1.num.aj,x1.num.exp⟩,x1.text,x1.names,x1.items⟩:Json) x2 (fun y3 y4=>bif(!y4)then(k0 0 false)else(bif(y3.kind != 4)then(k0 0 false)else(xh y3.num (fun y6 y7=>k0 y6 y7))))
theorem aCP:aP (R:=R) tt (aCO xh fw) bm false Tryz.f74 om topic_Name_q (Vp (Xx xh fw)):=fun x y k=>by kernel_rfl
end
def mf:oo R:=Xx xh fw
theorem aCQ (R:Type):aN ao 74 (wS (mf (R:=R))):=aR (aCP xh fw) TT mixed (.c (aCN R) <| .c (M1 R) <| .n) rfl rfl bp
section
variable (fw:uu R)
def aCR:List (aY R):=[aO 100 (yE fw)]
def Xy (x1:Json) (x2:ad) (k0:ad->Bool->Option R):Option R:=
 fw (⟨x1.kind,⟨x1.num.aj,x1.num.exp⟩,x1.text,x1.names,x1.items⟩:Json) x2 (fun y3 y4=>bif(!y4)then(k0 ([]:ad) false)else(bif(y3.kind != 5)then(k0 ([]:ad) false)else(k0 y3.text true)))
theorem aCS:aP (R:=R) tt (aCR fw) bm false Tryz.f75 om topic_Name_q (Vw (Xy fw)):=fun x y k=>by kernel_rfl
end
def r7:wT R:=Xy fw
theorem aCT (R:Type):aN ao 75 (MK (r7 (R:=R))):=aR (aCS fw) TT mixed (.c (M1 R) <| .n) rfl rfl bp
section
variable (fw:uu R)
def aCU:List (aY R):=[aO 100 (yE fw)]
def Xz (x1:Json) (x2:ad) (k0:Bool->Bool->Option R):Option R:=
 fw (⟨x1.kind,⟨x1.num.aj,x1.num.exp⟩,x1.text,x1.names,x1.items⟩:Json) x2 (fun y3 y4=>bif y4 then(bif y4 then(bif(y3.kind==3)then(k0 (y3.kind==3) true)else(k0 (y3.kind==3) (y3.kind==2)))else(k0 (y3.kind==3) false))else(bif y4 then(bif(y3.kind==3)then(k0 false true)else(k0 false (y3.kind==2)))else(k0 false false)))
theorem aCV:aP (R:=R) tt (aCU fw) bm false Tryz.f96 om topic_Name_q (VE (Xz fw)):=fun x y k=>by kernel_rfl
end
def qp:uw R:=Xz fw
theorem aCW (R:Type):aN ao 96 (HK (qp (R:=R))):=aR (aCV fw) TT mixed (.c (M1 R) <| .n) rfl rfl bp
end Go.Proofs.YtidfokedcnhahaaGreatDoor
namespace Go.Proofs.YtidfokedcnhahaaGreatDoor.Pu
open Go Go.ak
theorem tmod_zero {m:Int} (h0:m≠0) (h:bK m 10=0):∃c:Int,m=10*c/\c≠0/\pz m 10=c:=by
 obtain ⟨c,rfl⟩:=Int.dvd_of_tmod_eq_zero h;exact⟨c,rfl,by rintro rfl; exact h0 rfl,Int.mul_tdiv_cancel_left c (by decide)⟩
theorem aCX {R:Type} (d:au):∀(j:Nat) (m e:Int) (n:Nat),m≠0->m.natAbs<10 ^ j->m.natAbs<n->0<=e->e+j<=19->bR m ->
  ∃m' e':Int,bR m'/\bR e'/\(∀e0,kI (R:=R) n m e d e0=e0 m' e' d)/\(∀e0 e1,jO (R:=R) n m e d e0 e1=e0 m' e' d):=by
 intro j
 induction j with
 | zero=>intro m e n h0 h; omega
 | succ j ih=>
  intro m e n h0 h hn he JR hm;obtain ⟨XA,sI⟩:=hm;cases n with
  | zero=>omega
  | succ n=>
   by_cases hq:bK m 10=0
   ·have c1:(bK m 10==0)=true:=by simpa using hq
    have c2:decide (e>(1099511627776:Int))=false:=decide_eq_false (by omega);obtain ⟨c,hc,fL,Ij⟩:=tmod_zero h0 hq;have hp:10 ^ (j+1)=10*10 ^ j:=by rw[Bk,u7]
    obtain ⟨m',e',g1,g2,g3,g4⟩:=ih c (e+1) n fL (by rw[hp]at h; omega) (by omega) (by omega) (by omega) ⟨by omega,by omega⟩;refine⟨m',e',g1,g2,fun e0 => ?_,fun e0 e1 => ?_⟩
    ·show wc (fun a b c=>kI n a b c e0) m e d e0=_;unfold wc;rw[c1,cond_true,Ij,aV (by omega) (by omega),aV (by omega) (by omega)];exact g3 e0
    ·show qi (fun a b c=>jO n a b c e0 e1) m e d e0 e1=_;unfold qi;rw[c1,cond_true,c2,cond_false,Ij,aV (by omega) (by omega),aV (by omega) (by omega)];exact g4 e0 e1
   ·have c1:(bK m 10==0)=false:=by simpa using hq
    refine⟨m,e,⟨XA,sI⟩,⟨by omega,by omega⟩,fun e0 => ?_,fun e0 e1 => ?_⟩
    ·show wc _ m e d e0=_;unfold wc;rw[c1,cond_false]
    ·show qi _ m e d e0 e1=_;unfold qi;rw[c1,cond_false]
theorem akC {R:Type} (n:Int) (hn:bR n):∃(d:au) (b:Bool),bR d.aj/\bR d.exp/\(∀k:au->Bool->Option R,dM n 0 k=k d b)/\∀k:au->Bool->Option R,dQ n 0 k=k d b:=by
 obtain ⟨DV,hn2⟩:=hn;by_cases h0:n=0
 ·subst h0;exact⟨⟨0,0⟩,true,⟨by decide,by decide⟩,⟨by decide,by decide⟩,fun k=>rfl,fun k=>rfl⟩
 ·have c0:(n==0)=false:=by simpa using h0
  have c5:min (0:Int) 1000000=0:=by decide
  obtain ⟨m',e',g1,g2,g3,g4⟩:=aCX (R:=R) ⟨0,0⟩ 19 n 0 (ah n+ah 0+au.fu (⟨0,0⟩:au)+64) h0 (by omega) (by omega) (by omega) (by omega) ⟨DV,hn2⟩;by_cases hb:(-1000000000000000<=m'/\m'<=1000000000000000)/\(-9<=e'/\e'<=9)
  ·refine⟨⟨m',e'⟩,true,g1,g2,fun k => ?_,fun k => ?_⟩
   ·unfold dM yv;rw[c0,cond_false,c5,g3,E3];have d1:(decide (-1000000000000000<=m')&&decide (m'<=1000000000000000))=true:=by simp; omega
    have d2:(decide (-9<=e')&&decide (e'<=9))=true:=by simp; omega
    rw[d1,cE,cond_false,E3,d2,cE,cond_false]
   ·unfold dQ AO;rw[c0,cond_false,g4];have d1:decide (m'>(1000000000000000:Int))=false:=decide_eq_false (by omega);have d2:decide (m'<(-1000000000000000:Int))=false:=decide_eq_false (by omega);have d3:decide (e'>(9:Int))=false:=decide_eq_false (by omega);have d4:decide (e'<(-9:Int))=false:=decide_eq_false (by omega);simp only[d1,d2,d3,d4,cond_false]
  ·refine⟨⟨0,0⟩,false,⟨by decide,by decide⟩,⟨by decide,by decide⟩,fun k => ?_,fun k => ?_⟩
   ·unfold dM yv;rw[c0,cond_false,c5,g3,E3];by_cases hm : -1000000000000000<=m'/\m'<=1000000000000000
    ·have d1:(decide (-1000000000000000<=m')&&decide (m'<=1000000000000000))=true:=by simp; omega
     have d2:(decide (-9<=e')&&decide (e'<=9))=false:=by simp only[Bool.and_eq_false_imp,decide_eq_true_eq,decide_eq_false_iff_not]; omega
     rw[d1,cE,cond_false,E3,d2,iq,cond_true]
    ·have d1:(decide (-1000000000000000<=m')&&decide (m'<=1000000000000000))=false:=by simp only[Bool.and_eq_false_imp,decide_eq_true_eq,decide_eq_false_iff_not]; omega
     rw[d1,iq,cond_true]
   ·unfold dQ AO;rw[c0,cond_false,g4];by_cases d1:m'>(1000000000000000:Int)
    ·simp only[decide_eq_true d1,cond_true]
    ·by_cases d2:m'<(-1000000000000000:Int)
     ·simp only[decide_eq_false d1,decide_eq_true d2,cond_true,cond_false]
     ·by_cases d3:e'>(9:Int)
      ·simp only[decide_eq_false d1,decide_eq_false d2,decide_eq_true d3,cond_true,cond_false]
      ·have d4:e'<(-9:Int):=by omega
       simp only[decide_eq_false d1,decide_eq_false d2,decide_eq_false d3,decide_eq_true d4,cond_true,cond_false]
theorem aCY {R:Type} (d:au):∀(n:Nat) (m e:Int),m≠0->m.natAbs<n->bR m->bR e ->
  (∃m' e':Int,m'.natAbs<=m.natAbs/\bK m' 10≠0/\(bK m 10≠0->m'=m/\e'=e)/\(bK m 10=0->m'≠m)/\∀e0 e1,jO (R:=R) n m e d e0 e1=e0 m' e' d) \/
  (bK m 10=0/\∃m' e':Int,∀e0 e1,jO (R:=R) n m e d e0 e1=e1 m' e' false ⟨0,0⟩):=by
 intro n
 induction n with
 | zero=>intro m e _ h; omega
 | succ n ih=>
  intro m e h0 hn hm he;obtain ⟨XA,sI⟩:=hm;obtain ⟨Ik,he2⟩:=he;by_cases hq:bK m 10=0
  ·have c1:(bK m 10==0)=true:=by simpa using hq
   obtain ⟨c,hc,fL,Ij⟩:=tmod_zero h0 hq;by_cases hb:e>(1099511627776:Int)
   ·refine .inr ⟨hq,ae.wrap c,e,fun e0 e1 => ?_⟩;show qi (fun a b c=>jO n a b c e0 e1) m e d e0 e1=_;unfold qi;rw[c1,cond_true,decide_eq_true hb,cond_true,Ij]
   ·have c2:decide (e>(1099511627776:Int))=false:=decide_eq_false hb;have step:∀e0 e1,jO (R:=R) (n+1) m e d e0 e1=jO n c (e+1) d e0 e1:=fun e0 e1=>by
     show qi (fun a b c=>jO n a b c e0 e1) m e d e0 e1=_;unfold qi;rw[c1,cond_true,c2,cond_false,Ij,aV (by omega) (by omega),aV (by omega) (by omega)]
    rcases ih c (e+1) fL (by omega) ⟨by omega,by omega⟩ ⟨by omega,by omega⟩with ⟨m',e',g1,g2,g3,g4,g5⟩|⟨_,m',e',g⟩
    ·refine .inl ⟨m',e',by omega,g2,fun h=>(h hq).elim,fun _ h => ?_,fun e0 e1=>(step e0 e1).trans (g5 e0 e1)⟩;rw[h]at g2;exact g2 hq
    ·exact .inr ⟨hq,m',e',fun e0 e1=>(step e0 e1).trans (g e0 e1)⟩
  ·have c1:(bK m 10==0)=false:=by simpa using hq
   refine .inl ⟨m,e,cD _,hq,fun _=>⟨rfl,rfl⟩,fun h=>(hq h).elim,fun e0 e1 => ?_⟩;show qi _ m e d e0 e1=_;unfold qi;rw[c1,cond_false]
theorem aCZ {R:Type} (d:au) (h1:bR d.aj) (h2:bR d.exp) (k:Bool->Option R):eV d k=k (uz d):=by
 unfold eV HQ dQ AO uz;by_cases h:d.aj=0
 ·have c:(d.aj==0)=true:=by simpa using h
  rw[c,cond_true,if_pos h];show k ((0:Int)==d.aj&&((0:Int)==d.exp&&true))=_;congr 1;rw[h];by_cases hq:d.exp=0
  ·rw[hq]; rfl
  ·have G4:¬(0:Int)=d.exp:=fun e=>hq e.symm
   simp[hq,G4]
 ·have c:(d.aj==0)=false:=by simpa using h
  rw[c,cond_false,if_neg h];rcases aCY (R:=R) ⟨0,0⟩ (ah d.aj+ah d.exp+au.fu (⟨0,0⟩:au)+64) d.aj d.exp h (by omega) h1 h2 with ⟨m',e',g1,g2,g3,g4,g5⟩|⟨hq,m',e',g⟩
  ·rw[g5];by_cases hq:bK d.aj 10=0
   ·have aT:=g4 hq;have hf:(decide (bK d.aj 10≠0)&&(decide (-1000000000000000<=d.aj)&&decide (d.aj<=1000000000000000))&&(decide (-9<=d.exp)&&decide (d.exp<=9)))=false:=by simp[hq]
    rw[hf];have hm:(m'==d.aj)=false:=by simpa using aT
    cases decide (m'>(1000000000000000:Int))<;>cases decide (m'<(-1000000000000000:Int))<;>cases decide (e'>(9:Int))<;>cases decide (e'<(-9:Int))<;>simp only[cond_true,cond_false,hm,lu]
   ·obtain ⟨rfl,rfl⟩:=g3 hq;have t:decide (bK d.aj 10≠0)=true:=decide_eq_true hq;rw[t,oJ];by_cases d1:d.aj>(1000000000000000:Int)
    ·have:(decide (-1000000000000000<=d.aj)&&decide (d.aj<=1000000000000000)&&(decide (-9<=d.exp)&&decide (d.exp<=9)))=false:=by simp; omega
     rw[this];simp only[decide_eq_true d1,cond_true,cond_false]
    ·by_cases d2:d.aj<(-1000000000000000:Int)
     ·have:(decide (-1000000000000000<=d.aj)&&decide (d.aj<=1000000000000000)&&(decide (-9<=d.exp)&&decide (d.exp<=9)))=false:=by simp; omega
      rw[this];simp only[decide_eq_false d1,decide_eq_true d2,cond_true,cond_false]
     ·by_cases d3:d.exp>(9:Int)
      ·have:(decide (-1000000000000000<=d.aj)&&decide (d.aj<=1000000000000000)&&(decide (-9<=d.exp)&&decide (d.exp<=9)))=false:=by simp; omega
       rw[this];simp only[decide_eq_false d1,decide_eq_false d2,decide_eq_true d3,cond_true,cond_false]
      ·by_cases d4:d.exp<(-9:Int)
       ·have:(decide (-1000000000000000<=d.aj)&&decide (d.aj<=1000000000000000)&&(decide (-9<=d.exp)&&decide (d.exp<=9)))=false:=by simp; omega
        rw[this];simp only[decide_eq_false d1,decide_eq_false d2,decide_eq_false d3,decide_eq_true d4,cond_true,cond_false]
       ·have:(decide (-1000000000000000<=d.aj)&&decide (d.aj<=1000000000000000)&&(decide (-9<=d.exp)&&decide (d.exp<=9)))=true:=by simp; omega
        rw[this];simp only[decide_eq_false d1,decide_eq_false d2,decide_eq_false d3,decide_eq_false d4,cond_true,cond_false,beq_self_eq_true,Jk]
  ·rw[g];have hf:(decide (bK d.aj 10≠0)&&(decide (-1000000000000000<=d.aj)&&decide (d.aj<=1000000000000000))&&(decide (-9<=d.exp)&&decide (d.exp<=9)))=false:=by simp[hq]
   rw[hf];rfl
theorem aC0 {R:Type} (d:au) (e0:Int->Option R) (e1:Int->Bool->Int->Option R) (f:Int->Bool->Option R) (h1:∀x,e1 0 false x=f 0 false) (h0:∀x,e0 x=f x true) (m:Nat) (hm:d.exp=(m:Int)) (sI:m<=9223372036854775806) :
  ∀(n i:Nat) (x:Int),i<=m->m - i<n -> -1000000000000000000<=x->x<=1000000000000000000 ->
  r6 n x (i:Int) d e0 e1=match s7 (m - i) x with|some y=>f y true|none=>f 0 false:=by
 intro n
 induction n with
 | zero=>intro i x _ h; omega
 | succ n ih=>
  intro i x hi hn Gr Gs;show N5 (fun a b c=>r6 n a b c e0 e1) _ _ _ e0 e1=_;unfold N5;rw[hm];by_cases h:i<m
  ·have c1:decide ((i:Int)<(m:Int))=true:=decide_eq_true (by omega);have hw:ae.wrap ((i:Int)+1)=((i+1:Nat):Int):=by rw[aV (by omega) (by omega)]; omega
   have e:m - i=(m - (i+1))+1:=by omega
   rw[c1,cond_true,e];simp only[s7];by_cases b1:x>(100000000000000000:Int)
   ·rw[decide_eq_true b1,cond_true,if_neg (by omega)];exact h1 x
   ·rw[decide_eq_false b1,cond_false];by_cases b2:x<(-100000000000000000:Int)
    ·rw[decide_eq_true b2,cond_true,if_neg (by omega)];exact h1 x
    ·rw[decide_eq_false b2,cond_false,if_pos (by omega),hw,aV (by omega) (by omega),Int.mul_comm 10 x];exact ih (i+1) (x*10) (by omega) (by omega) (by omega) (by omega)
  ·have c1:decide ((i:Int)<(m:Int))=false:=decide_eq_false (by omega);have e:m - i=0:=by omega
   rw[c1,cond_false,e];exact h0 x
theorem aC1 {R:Type} (d:au) (h1:bR d.aj) (h2:bR d.exp) (k:Int->Bool->Option R):xh d k=match iQ d with|some n=>k n true|none=>k 0 false:=by
 unfold xh Xw;rw[aCZ d h1 h2];cases hr:uz d with
 | false=>
  have:iQ d=none:=by unfold iQ; rw[if_neg (by simp[hr])]
  rw[this]; rfl
 | true=>
  by_cases he:d.exp<0
  ·have:iQ d=none:=by unfold iQ; rw[if_neg (by omega)]
   rw[this];simp only[cE,cond_false,decide_eq_true he,cond_true]
  ·have hb : -1000000000000000<=d.aj/\d.aj<=1000000000000000/\d.exp<=9:=by
    unfold uz at hr;split at hr
    ·simp at hr; omega
    ·simp at hr; omega
   have e:iQ d=s7 d.exp.toNat d.aj:=by unfold iQ; rw[if_pos ⟨hr,by omega⟩]
   rw[e];simp only[cE,cond_false,decide_eq_false he];exact aC0 d _ _ (fun a b=>k a b) (fun x=>rfl) (fun x=>rfl) d.exp.toNat (by omega) (by omega) _ 0 d.aj (by omega) (by unfold au.fu; omega) (by omega) (by omega)
theorem aC2 {R:Type} (v:Json) (hv:cy v) (s:ad) (a b c:Int) (t:ad) (k:Json->Bool->Option R):∀(n i:Nat),i<=v.names.length->v.names.length - i<n ->
  rU n s (i:Int) v a b c t (fun _ _ _ _=>k MS false) (fun y z=>k z y)=match (if v.kind=7 then look s (v.names.drop i) (v.items.drop i)else none)with|some x=>k x true|none=>k MS false:=by
 intro n
 induction n with
 | zero=>intro i _ h; omega
 | succ n ih=>
  intro i hi hn;show M0 (fun x1 x2 x3 x4 x5 x6 x7=>rU n x1 x2 x3 x4 x5 x6 x7 _ _) _ _ _ _ _ _ _ _ _=_;unfold M0;simp only[Json.eta];have iz:=hv.names;by_cases h:i<v.names.length
  ·have c1:decide ((i:Int)<(v.names.length:Int))=true:=decide_eq_true (by omega);by_cases h2:i<v.items.length
   ·have c2:decide ((i:Int)<(v.items.length:Int))=true:=decide_eq_true (by omega);by_cases h7:v.kind=7
    ·have c7:(v.kind==7)=true:=by simpa using h7
     have p1:(decide ((0:Int)<=(i:Int))&&decide ((i:Int)<v.names.length))=true:=by simp; omega
     have p2:(decide ((0:Int)<=(i:Int))&&decide ((i:Int)<v.items.length))=true:=by simp; omega
     have p3:(decide ((0:Int)<=(i:Int))&&true)=true:=by simp
     have hw:ae.wrap ((i:Int)+1)=((i+1:Nat):Int):=by rw[aV (by omega) (by omega)]; omega
     have hg:v.names.getD (i:Int).toNat (Ty.az .str)=v.names[i]:=getD_at h _;have BA:v.items.getD (i:Int).toNat (Ty.az .json)=v.items[i]:=getD_at h2 _;have qR:=ih (i+1) (by omega) (by omega);rw[c1,cond_true,c2,cond_true,c7,cond_true,aw (by first|exact p1|exact p3),hg,hw];simp only[BA];rw[aw (by first|exact p2|exact p3),if_pos h7,im h,im h2];simp only[look];rw[show(s==v.names[i])=(v.names[i]==s)from aze _ _];cases hq:(v.names[i]==s)with
     | true=>simp
     | false=>
      rw[if_pos h7]at qR;simpa using qR
    ·have c7:(v.kind==7)=false:=by simpa using h7
     rw[c1,cond_true,c2,cond_true,c7,cond_false,if_neg h7]
   ·have c2:decide ((i:Int)<(v.items.length:Int))=false:=decide_eq_false (by omega);rw[c1,cond_true,c2,cond_false,gQ (show v.items.length<=i by omega)];have:∀l:List ad,look s l []=none:=fun l=>by cases l<;>rfl
    simp[this]
  ·have c1:decide ((i:Int)<(v.names.length:Int))=false:=decide_eq_false (by omega);rw[c1,cond_false,gQ (show v.names.length<=i by omega)];simp[look]
theorem N6 {R:Type} (v:Json) (hv:cy v) (s:ad) (k:Json->Bool->Option R):fw v s k=match iJ v s with|some x=>k x true|none=>k MS false:=by
 unfold fw V2;simp only[Json.eta];have h:=aC2 (R:=R) v hv s 0 0 0 [] k (av s+ah 0+Json.fu v+ah 0+ah 0+ah 0+av ([]:ad)+64) 0 (by omega) (by unfold Json.fu; omega);simp only[fV]at h;exact h
theorem aC3 {R:Type} (v:Json) (hv:cy v) (s:ad):∃(x:Int) (b:Bool),(∀k:Int->Bool->Option R,cW v s k=k x b)/\∀k:Int->Bool->Option R,mf v s k=k x b:=by
 have hr:∀k:Int->Bool->Option R,mf v s k=match (iJ v s).bind nw with|some n=>k n true|none=>k 0 false:=fun k=>by
  unfold mf Xx;simp only[Json.eta];rw[N6 v hv];cases hq:iJ v s with
  | none=>rfl
  | some x=>
   have eta:(⟨x.num.aj,x.num.exp⟩:au)=x.num:=rfl;have hx:=ahq hv hq;simp only[cE,cond_false,sj,nw,eta];by_cases h:x.kind=4
   ·have c:(x.kind != 4)=false:=by simp[h]
    rw[c,cond_false,if_pos h,aC1 x.num hx.aj hx.exp]
   ·have c:(x.kind != 4)=true:=by simp[h]
    rw[c,cond_true,if_neg h]
 cases hq:(iJ v s).bind nw with
 | none=>exact⟨0,false,fun k=>by rw[nA v hv,hq],fun k=>by rw[hr,hq]⟩
 | some n=>exact⟨n,true,fun k=>by rw[nA v hv,hq],fun k=>by rw[hr,hq]⟩
theorem aC4 {R:Type} (v:Json) (hv:cy v) (s:ad):∃(x:ad) (b:Bool),(∀k:ad->Bool->Option R,uv v s k=k x b)/\∀k:ad->Bool->Option R,r7 v s k=k x b:=by
 have hr:∀k:ad->Bool->Option R,r7 v s k=match (iJ v s).bind Cx with|some n=>k n true|none=>k [] false:=fun k=>by
  unfold r7 Xy;simp only[Json.eta];rw[N6 v hv];cases hq:iJ v s with
  | none=>rfl
  | some x=>
   simp only[cE,cond_false,sj,Cx];by_cases h:x.kind=5
   ·have c:(x.kind != 5)=false:=by simp[h]
    rw[c,cond_false,if_pos h]
   ·have c:(x.kind != 5)=true:=by simp[h]
    rw[c,cond_true,if_neg h]
 cases hq:(iJ v s).bind Cx with
 | none=>exact⟨[],false,fun k=>by rw[HN v hv,hq],fun k=>by rw[hr,hq]⟩
 | some n=>exact⟨n,true,fun k=>by rw[HN v hv,hq],fun k=>by rw[hr,hq]⟩
theorem aC5 {R:Type} (v:Json) (hv:cy v) (s:ad):∃(x:Bool) (b:Bool),(∀k:Bool->Bool->Option R,mL v s k=k x b)/\∀k:Bool->Bool->Option R,qp v s k=k x b:=by
 have hr:∀k:Bool->Bool->Option R,qp v s k=match (iJ v s).bind uA with|some n=>k n true|none=>k false false:=fun k=>by
  unfold qp Xz;simp only[Json.eta];rw[N6 v hv];cases hq:iJ v s with
  | none=>rfl
  | some x=>
   simp only[cond_true,sj,uA];by_cases h:x.kind=3
   ·have c:(x.kind==3)=true:=by simpa using h
    rw[c,cond_true,if_pos h]
   ·have c:(x.kind==3)=false:=by simpa using h
    rw[c,cond_false,if_neg h];by_cases h2:x.kind=2
    ·have c2:(x.kind==2)=true:=by simpa using h2
     rw[c2,if_pos h2]
    ·have c2:(x.kind==2)=false:=by simpa using h2
     rw[c2,if_neg h2]
 cases hq:(iJ v s).bind uA with
 | none=>exact⟨false,false,fun k=>by rw[Cy v hv,hq],fun k=>by rw[hr,hq]⟩
 | some n=>exact⟨n,true,fun k=>by rw[Cy v hv,hq],fun k=>by rw[hr,hq]⟩
theorem aC6 {R:Type} (ns:List ad) (xs:List Json) (hn:ns.length<=1099511627776) (ei:∀s∈ns,s.length<=1099511627776) (hj:∀y∈xs,cy y) (p q r:Int) (t:ad)
  (e0:Int->Int->Int->ad->Int->Int->Int->ad->List ad->List Json->Option R):∀(n i:Nat) (l:List ad) (m:List Json),i<=ns.length->ns.length - i<n->l.length=m.length->l.length<=i ->
  (∀s∈l,s.length<=1099511627776)->(∀y∈m,cy y) ->
  rV n ns xs (i:Int) p q r t 7 0 0 [] l m e0=e0 p q r t 7 0 0 [] (mk (ns.drop i) (xs.drop i) l m).1 (mk (ns.drop i) (xs.drop i) l m).2:=by
 intro n
 induction n with
 | zero=>intro i l m _ h; omega
 | succ n ih=>
  intro i l m hi qh Ak BM XB XC;show M4 fw (fun x1 x2 x3 x4 x5 x6 x7 x8 x9 gL hU hY eK=>rV n x1 x2 x3 x4 x5 x6 x7 x8 x9 gL hU hY eK e0) _ _ _ _ _ _ _ _ _ _ _ _ _ e0=_;unfold M4;by_cases h:i<ns.length
  ·have h1:decide ((i:Int)<(ns.length:Int))=true:=decide_eq_true (by omega);by_cases h2:i<xs.length
   ·have c2:decide ((i:Int)<(xs.length:Int))=true:=decide_eq_true (by omega);have p1:(decide ((0:Int)<=(i:Int))&&decide ((i:Int)<ns.length))=true:=by simp; omega
    have p2:(decide ((0:Int)<=(i:Int))&&decide ((i:Int)<xs.length))=true:=by simp; omega
    have p3:(decide ((0:Int)<=(i:Int))&&true)=true:=by simp
    have hw:ae.wrap ((i:Int)+1)=((i+1:Nat):Int):=by rw[aV (by omega) (by omega)]; omega
    have hg:xs.getD (i:Int).toNat (Ty.az .json)=xs[i]:=getD_at h2 _;have BA:ns.getD (i:Int).toNat (Ty.az .str)=ns[i]:=getD_at h _;have HM:decide ((l.length+1)*16<=140737488355328)=true:=by simp; omega
    have uy:decide ((m.length+1)*88<=140737488355328)=true:=by simp; omega
    have hv:cy ⟨7,⟨0,0⟩,[],l,m⟩:=aho ⟨by decide,by decide⟩ ⟨by decide,by decide⟩ ⟨by decide,by decide⟩ (by simp) (by omega) XB (by omega) XC;rw[h1,cond_true,c2,cond_true,aw (by first|exact p1|exact p3),hg,BA,N6 _ hv,hw,Json.eta];rw[im h2,im h];have hlk:iJ ⟨7,⟨0,0⟩,[],l,m⟩ ns[i]=look ns[i] l m:=by unfold iJ; rw[if_pos rfl]
    have r8:=ahp ns[i] l m Ak;rw[hlk];simp only[mk];cases hq:look ns[i] l m with
    | some x=>
     rw[hq]at r8;rw[<-r8];simp only[cE,cond_false,Option.isSome_some,if_true];exact ih (i+1) l m (by omega) (by omega) Ak (by omega) XB XC
    | none=>
     rw[hq]at r8;rw[<-r8];simp only[iq,cond_true,Option.isSome_none,jy,if_false];rw[aw (by first|exact p1|exact p3),aw HM,aw (by first|exact p2|exact p3),aw uy];refine ih (i+1) (l++[ns[i]]) (m++[xs[i]]) (by omega) (by omega) (by simp[Ak]) (by simp; omega) (fun s hs => ?_) (fun y hy => ?_)
     ·rcases fU.1 hs with hs|hs
      ·exact XB s hs
      ·simp only[pA]at hs; subst hs; exact ei _ (jd h)
     ·rcases fU.1 hy with hy|hy
      ·exact XC y hy
      ·simp only[pA]at hy; subst hy; exact hj _ (jd h2)
   ·have c2:decide ((i:Int)<(xs.length:Int))=false:=decide_eq_false (by omega);rw[h1,cond_true,c2,cond_false,gQ (show xs.length<=i by omega)];have:∀ns:List ad,mk ns [] l m=(l,m):=fun ns=>by cases ns<;>rfl
    rw[this]
  ·have h1:decide ((i:Int)<(ns.length:Int))=false:=decide_eq_false (by omega);rw[h1,cond_false,gQ (show ns.length<=i by omega)];have:∀xs:List Json,mk [] xs l m=(l,m):=fun xs=>by cases xs<;>rfl
   rw[this]
theorem aC7 {R:Type} (ns:List ad) (xs:List Json) (hn:ns.length<=1099511627776) (ei:∀s∈ns,s.length<=1099511627776) (hj:∀y∈xs,cy y) (k:Json->Option R) :
  wY ns xs k=k ⟨7,⟨0,0⟩,[],(mk ns xs [] []).1,(mk ns xs [] []).2⟩:=by
 unfold wY V5;exact aC6 ns xs hn ei hj 0 0 0 [] _ _ 0 [] [] (by omega) (by omega) rfl (by simp) (by simp) (by simp)
end Go.Proofs.YtidfokedcnhahaaGreatDoor.Pu
set_option maxRecDepth 100000
namespace Go.Proofs.YtidfokedcnhahaaGreatDoor
open Go Go.ak
end Go.Proofs.YtidfokedcnhahaaGreatDoor
namespace Go.Proofs.YtidfokedcnhahaaGreatDoor
open Go Go.ak
end Go.Proofs.YtidfokedcnhahaaGreatDoor
set_option maxRecDepth 100000
namespace Go.Proofs.YtidfokedcnhahaaGreatDoor
open Go Go.ak
theorem XD:∀(b:Nat) (m:Int),m≠0->m.natAbs<b->∃(j:Nat) (u:Int),m=u*10 ^ j/\bK u 10≠0
 | 0,m,_,h=>by omega
 | b+1,m,h0,hb=>by
  by_cases h:bK m 10=0
  ·have hd:m=pz m 10*10:=by have:=Int.tmod_add_mul_tdiv m 10; omega
   have hn:(pz m 10).natAbs<m.natAbs:=by rw[Int.natAbs_tdiv]; show m.natAbs / 10<m.natAbs; omega
   obtain ⟨j,u,e,hu⟩:=XD b (pz m 10) (by omega) (by omega);refine⟨j+1,u,?_,hu⟩;rw[tE,<-zE,<-e];exact hd
  ·exact⟨0,m,by simp,h⟩
theorem akD:∀(i j:Nat) (u v:Int),bK u 10≠0->bK v 10≠0->u*10 ^ i=v*10 ^ j->i=j/\u=v
 | 0,0,u,v,_,_,h=>⟨rfl,by simpa using h⟩
 | 0,j+1,u,v,hu,_,h=>by
  exfalso;apply hu;have:u=(v*10 ^ j)*10:=by rw[tE,<-zE]at h; simpa using h
  rw[this];exact Jl _ _
 | i+1,0,u,v,_,hv,h=>by
  exfalso;apply hv;have:v=(u*10 ^ i)*10:=by rw[tE,<-zE]at h; simpa using h.symm
  rw[this];exact Jl _ _
 | i+1,j+1,u,v,hu,hv,h=>by
  have h2:u*10 ^ i=v*10 ^ j:=by
   rw[tE,tE,<-zE,<-zE]at h;omega
  obtain ⟨h3,h4⟩:=akD i j u v hu hv h2;exact⟨by omega,h4⟩
theorem N7 (j:Nat):(1:Int)<=10 ^ j:=by
 induction j with
 | zero=>simp
 | succ j ih=>rw[tE]; omega
theorem N8 (u:Int) (j:Nat):u.natAbs<=(u*10 ^ j).natAbs:=by
 rw[PQ];have h:=N7 j;have:1<=((10:Int) ^ j).natAbs:=by omega
 exact FR _ this
theorem aC8 (u:Int) (hu:u≠0):∀j:Nat,j<=(u*10 ^ j).natAbs:=by
 intro j;rw[PQ];have h1:1<=u.natAbs:=by omega
 have h2:j<=((10:Int) ^ j).natAbs:=by
  induction j with
  | zero=>simp
  | succ j ih=>
   have:=N7 j;rw[tE,PQ];show j+1<=((10:Int) ^ j).natAbs*10;omega
 calc j<=((10:Int) ^ j).natAbs:=h2
  _<=u.natAbs*((10:Int) ^ j).natAbs:=Nat.le_mul_of_pos_left _ h1
theorem aC9 (u:Int) (hu:u≠0) (j:Nat):2 ^ j<=(u*10 ^ j).natAbs:=by
 rw[PQ];have h2:∀j:Nat,2 ^ j<=((10:Int) ^ j).natAbs:=by
  intro j
  induction j with
  | zero=>simp
  | succ j ih=>
   rw[tE,PQ,Bk];show 2 ^ j*2<=((10:Int) ^ j).natAbs*10;omega
 exact pw (h2 j) (Nat.le_mul_of_pos_left _ (by omega))
theorem akE {u:Int} (hu:u≠0) {j:Nat} (hb:bR (u*10 ^ j)):j<64:=by
 have h:=aC9 u hu j;unfold bR at hb;rcases mo j 64 with h1|h1
 ·exact h1
 ·have h2:(2:Nat) ^ 64<=2 ^ j:=zF (by omega) h1;have h3:(2:Nat) ^ 64=18446744073709551616:=rfl;omega
theorem VO {R:Type} (d:au) (e0:Int->Int->au->Option R):∀(j n:Nat) (u x:Int),j<n->bK u 10≠0->bR (u*10 ^ j) -> -9223372036854775808<=x->x+j<=4000000000000000000 ->
  kI n (u*10 ^ j) x d e0=e0 u (x+j) d:=by
 intro j
 induction j with
 | zero=>
  intro n u x hn hu hb h1 h2;obtain ⟨m,rfl⟩:∃m,n=m+1:=⟨n - 1,by omega⟩;have e:kI (m+1) (u*10 ^ 0) x d e0=wc (fun aB aC aG=>kI m aB aC aG e0) (u*10 ^ 0) x d e0:=rfl;rw[e];unfold wc;have e1:u*10 ^ 0=u:=by simp
  have e2:(bK u 10==0)=false:=by rw[beq_eq_false_iff_ne]; exact hu
  rw[e1,e2,cond_false];simp
 | succ j ih=>
  intro n u x hn hu hb h1 h2;obtain ⟨m,rfl⟩:∃m,n=m+1:=⟨n - 1,by omega⟩;have e:kI (m+1) (u*10 ^ (j+1)) x d e0=wc (fun aB aC aG=>kI m aB aC aG e0) (u*10 ^ (j+1)) x d e0:=rfl;rw[e];unfold wc;have ep:u*10 ^ (j+1)=u*10 ^ j*10:=by rw[tE,zE]
  unfold bR at hb;rw[ep]at hb ⊢;have e1:(bK (u*10 ^ j*10) 10==0)=true:=by rw[Jl]; rfl
  have e2:pz (u*10 ^ j*10) 10=u*10 ^ j:=Int.mul_tdiv_cancel _ (by omega);rw[e1,cond_true,e2,aV (n:=u*10 ^ j) (by omega) (by omega),aV (n:=x+1) (by omega) (by omega)];show kI m (u*10 ^ j) (x+1) d e0=_;rw[ih m u (x+1) (by omega) hu (by unfold bR; omega) (by omega) (by omega)];have:x+1+(j:Int)=x+((j+1:Nat):Int):=by omega
  rw[this]
theorem Il {R:Type} (a b c:Int) (k:Bool->Option R):er a b c k=k (decide (a<=b)&&decide (b<=c)):=by
 have e:er a b c k=G6 a b c k:=rfl;rw[e];unfold G6;by_cases h1:a<=b
 ·rw[ai h1]; first|rfl|simp
 ·rw[aE h1]; first|rfl|simp
def gf (u x:Int):au×Bool:=if -1000000000000000<=u/\u<=1000000000000000 /\ -9<=x/\x<=9 then(⟨u,x⟩,true)else(⟨0,0⟩,false)
theorem XE {R:Type} (u:Int) (j:Nat) (x:Int) (hu:bK u 10≠0) (hb:bR (u*10 ^ j)) (h1 : -9223372036854775808<=x) (h2:x<=1000000) (k:au->Bool->Option R) :
  dM (u*10 ^ j) x k=k (gf u (x+j)).1 (gf u (x+j)).2:=by
 have e:dM (u*10 ^ j) x k=yv er kI (u*10 ^ j) x k:=rfl;rw[e];unfold yv;have yr:u≠0:=by rintro rfl; exact hu rfl
 have ha:=N8 u j;have hn:=aC8 u yr j;have h64:=akE yr hb;have h0:(u*10 ^ j==0)=false:=by rw[beq_eq_false_iff_ne]; omega
 have hm:min x 1000000=x:=Int.min_eq_left h2;unfold bR at hb;rw[h0,cond_false,hm,VO _ _ j _ u x (by omega) hu (by unfold bR; exact hb) h1 (by omega)];rw[Il];unfold gf;by_cases c1 : -1000000000000000<=u/\u<=1000000000000000
 ·rw[ai c1.1,ai c1.2];simp only[Jk,cE,cond_false];rw[Il];by_cases c2 : -9<=x+(j:Int)/\x+(j:Int)<=9
  ·rw[ai c2.1,ai c2.2,if_pos ⟨c1.1,c1.2,c2.1,c2.2⟩];rfl
  ·rw[if_neg (fun h=>c2 h.2.2)];have:(decide (-9<=x+(j:Int))&&decide (x+(j:Int)<=9))=false:=by
    rw[Z1,decide_eq_false_iff_not,decide_eq_false_iff_not]; omega
   rw[this];rfl
 ·rw[if_neg (fun h=>c1 ⟨h.1,h.2.1⟩)];have:(decide (-1000000000000000<=u)&&decide (u<=1000000000000000))=false:=by
   rw[Z1,decide_eq_false_iff_not,decide_eq_false_iff_not]; omega
  rw[this];rfl
theorem XF {R:Type} (x:Int) (k:au->Bool->Option R):dM 0 x k=k ⟨0,0⟩ true:=by
 have e:dM 0 x k=yv er kI 0 x k:=rfl;rw[e];rfl
theorem aDa {R:Type} {u x:Int} (hu:bK u 10≠0) (h : -1000000000000000<=u/\u<=1000000000000000 /\ -9<=x/\x<=9) (k:Bool->Option R):fY ⟨u,x⟩ k=k true:=by
 have e:fY ⟨u,x⟩ k=yx er ⟨u,x⟩ k:=rfl;rw[e];unfold yx;have yr:u≠0:=by rintro rfl; exact hu rfl
 have e1:(u==0)=false:=by rw[beq_eq_false_iff_ne]; exact yr
 have e2:(bK u 10 != 0)=true:=bne_iff_ne.2 hu;simp only[e1,e2,cond_false,cond_true,Il];rw[ai h.1,ai h.2.1,ai h.2.2.1,ai h.2.2.2];rfl
variable {R:Type}
abbrev XG:List aH:=[.cells [.str],.cells [.ptr 2 7],.cells [aF,aF,.str,aF,aF,.bool,aF,aF,.bool,aF]]
def akF (fn:bV R):br R gO XG:=fun x y k=>fn (dq x.1) y.1.1 (iC y.2.2.1) (fun q0 q1 q2=>k (.bool q0) [.cells [.str q1],.cells [.ptr 2 7],.cells [af q2.header,af q2.bC,.str q2.bW,af q2.order,af q2.update,.bool q2.live,af q2.node,af q2.seq,.bool q2.cB,af q2.accepted]])
def akG (fn:bV R):=aL gO XG (akF fn)
section
variable (cW:oo R)
def aDb:List (aY R):=[aO 110 (wS cW)]
def N9 (x1:Json) (x2:ad) (x3:ak.State) (k0:Bool->ad->ak.State->Option R):Option R:=
 cW (⟨x1.kind,⟨x1.num.aj,x1.num.exp⟩,x1.text,x1.names,x1.items⟩:Json) x2 (fun y4 y5=>k0 y5 x2 (⟨x3.header,x3.bC,x3.bW,x3.order,x3.update,x3.live,x3.node,y4,x3.cB,x3.accepted⟩:ak.State))
theorem aDc:aP (R:=R) tt (aDb cW) bm false FX gO XG (akF (N9 cW)):=fun x y k=>by kernel_rfl
end
def jU:bV R:=N9 cW
theorem aDd (R:Type):aN ao 175 (akG (jU (R:=R))):=aR (aDc cW) TT mixed (.c (Cv R) <| .n) rfl rfl bp
abbrev XH:List aH:=[.cells [.str],.cells [.ptr 2 8],.cells [aF,aF,.str,aF,aF,.bool,aF,aF,.bool,aF]]
def akH (fn:bV R):br R gO XH:=fun x y k=>fn (dq x.1) y.1.1 (iC y.2.2.1) (fun q0 q1 q2=>k (.bool q0) [.cells [.str q1],.cells [.ptr 2 8],.cells [af q2.header,af q2.bC,.str q2.bW,af q2.order,af q2.update,.bool q2.live,af q2.node,af q2.seq,.bool q2.cB,af q2.accepted]])
def akI (fn:bV R):=aL gO XH (akH fn)
section
variable (mL:uw R)
def aDe:List (aY R):=[aO 112 (HK mL)]
def Oa (x1:Json) (x2:ad) (x3:ak.State) (k0:Bool->ad->ak.State->Option R):Option R:=
 mL (⟨x1.kind,⟨x1.num.aj,x1.num.exp⟩,x1.text,x1.names,x1.items⟩:Json) x2 (fun y4 y5=>k0 y5 x2 (⟨x3.header,x3.bC,x3.bW,x3.order,x3.update,x3.live,x3.node,x3.seq,y4,x3.accepted⟩:ak.State))
theorem aDf:aP (R:=R) tt (aDe mL) bm false Tryz.f179 gO XH (akH (Oa mL)):=fun x y k=>by kernel_rfl
end
def jV:bV R:=Oa mL
theorem aDg (R:Type):aN ao 179 (akI (jV (R:=R))):=aR (aDf mL) TT mixed (.c (ahc R) <| .n) rfl rfl bp
abbrev XI:List aH:=[.cells [.str],.cells [.ptr 2 9],.cells [aF,aF,.str,aF,aF,.bool,aF,aF,.bool,aF]]
def akJ (fn:bV R):br R gO XI:=fun x y k=>fn (dq x.1) y.1.1 (iC y.2.2.1) (fun q0 q1 q2=>k (.bool q0) [.cells [.str q1],.cells [.ptr 2 9],.cells [af q2.header,af q2.bC,.str q2.bW,af q2.order,af q2.update,.bool q2.live,af q2.node,af q2.seq,.bool q2.cB,af q2.accepted]])
def akK (fn:bV R):=aL gO XI (akJ fn)
section
variable (cW:oo R)
def aDh:List (aY R):=[aO 110 (wS cW)]
def Ob (x1:Json) (x2:ad) (x3:ak.State) (k0:Bool->ad->ak.State->Option R):Option R:=
 cW (⟨x1.kind,⟨x1.num.aj,x1.num.exp⟩,x1.text,x1.names,x1.items⟩:Json) x2 (fun y4 y5=>k0 y5 x2 (⟨x3.header,x3.bC,x3.bW,x3.order,x3.update,x3.live,x3.node,x3.seq,x3.cB,y4⟩:ak.State))
theorem aDi:aP (R:=R) tt (aDh cW) bm false FX gO XI (akJ (Ob cW)):=fun x y k=>by kernel_rfl
end
def jW:bV R:=Ob cW
theorem aDj (R:Type):aN ao 175 (akK (jW (R:=R))):=aR (aDi cW) TT mixed (.c (Cv R) <| .n) rfl rfl bp
abbrev CH (R:Type):Type:=ad->(ak.State->Int->Option R)->Option R
def XJ (fn:CH R):br R topic_Name_p topic_Name_q:=fun x y k=>fn x.1 (fun q0 q1=>k (.tuple [acz q0,af q1]) [])
def Im (fn:CH R):=aL topic_Name_p topic_Name_q (XJ fn)
def akL (km:wP R) (kL:wD R) (dt:n9 R) (jM:bV R) (jV:bV R) (jH:bV R) (jI:bV R) (jK:bV R) (jL:bV R) (jN:bV R) (jU:bV R) (jW:bV R) (jJ:bV R):List (aY R):=[(132,false,(nV tt (kg []) (fun _=>none) false Tryz.f132 (lW Tryz.f132))),(130,false,(nV tt (kg []) (fun _=>none) false Tryz.f130 (lW Tryz.f130))),(131,false,(nV tt (kg []) (fun _=>none) false Tryz.f131 (lW Tryz.f131)))]
def akM (km:wP R) (kL:wD R) (dt:n9 R) (jM:bV R) (jV:bV R) (jH:bV R) (jI:bV R) (jK:bV R) (jL:bV R) (jN:bV R) (jU:bV R) (jW:bV R) (jJ:bV R):List (aY R):=[(179,false,(akI jV (ahe jM dy))),(175,false,(akK jW (akG jU (ahg jN (ag7 jL (ag5 jK (agX jI (agV jH dy)))))))),dp 177 (ag3 jJ)]
def akN (km:wP R) (kL:wD R) (dt:n9 R) (jM:bV R) (jV:bV R) (jH:bV R) (jI:bV R) (jK:bV R) (jL:bV R) (jN:bV R) (jU:bV R) (jW:bV R) (jJ:bV R):List (aY R):=[(95,false,(nV tt (kg (akM km kL dt jM jV jH jI jK jL jN jU jW jJ)) (fun _=>none) false Tryz.f95 (lW Tryz.f95)))]
def akO (km:wP R) (kL:wD R) (dt:n9 R) (jM:bV R) (jV:bV R) (jH:bV R) (jI:bV R) (jK:bV R) (jL:bV R) (jN:bV R) (jU:bV R) (jW:bV R) (jJ:bV R):List (aY R):=[(134,false,(nV tt (kg (akN km kL dt jM jV jH jI jK jL jN jU jW jJ)) (fun _=>none) false Tryz.f134 (lW Tryz.f134)))]
section
variable (km:wP R) (kL:wD R) (dt:n9 R) (jM:bV R) (jV:bV R) (jH:bV R) (jI:bV R) (jK:bV R) (jL:bV R) (jN:bV R) (jU:bV R) (jW:bV R) (jJ:bV R)
def aDk:List (aY R):=[aO 32 (MA km),aO 31 (LO kL),aO 41 (yt dt),(87,false,(nV tt (kg (akL km kL dt jM jV jH jI jK jL jN jU jW jJ)) (fun _=>none) false Tryz.f87 (lW Tryz.f87))),(94,false,(nV tt (kg (akO km kL dt jM jV jH jI jK jL jN jU jW jJ)) (fun _=>none) false Tryz.f94 (lW Tryz.f94)))]
def XK (x1:ad) (k0:ak.State->Int->Option R):Option R:=
 kL x1 (fun y2 y3=>bif(y3 != 0)then(k0 (⟨0,0,([]:ad),0,0,false,0,0,false,0⟩:ak.State) y3)else(km y2 (fun y4 y5 y6=>bif(y5 != 0)then(k0 (⟨0,0,([]:ad),0,0,false,0,0,false,0⟩:ak.State) y5)else(jH (⟨y4.kind,⟨y4.num.aj,y4.num.exp⟩,y4.text,y4.names,y4.items⟩:Json) ([104,101,97,100,101,114,73,100]:ad) (⟨0,0,([]:ad),0,0,false,0,0,false,0⟩:ak.State) (fun y7 y8 y9=>bif(!y7)then(k0 (⟨0,0,([]:ad),0,0,false,0,0,false,0⟩:ak.State) 90)else(jI (⟨y4.kind,⟨y4.num.aj,y4.num.exp⟩,y4.text,y4.names,y4.items⟩:Json) ([98,111,111,116]:ad) y9 (fun bu aS bg=>bif(!bu)then(k0 (⟨0,0,([]:ad),0,0,false,0,0,false,0⟩:ak.State) 90)else(jJ (⟨y4.kind,⟨y4.num.aj,y4.num.exp⟩,y4.text,y4.names,y4.items⟩:Json) ([115,101,114,105,97,108,78,117,109,98,101,114]:ad) bg (fun cd aU bU=>bif(!cd)then(k0 (⟨0,0,([]:ad),0,0,false,0,0,false,0⟩:ak.State) 90)else(jK (⟨y4.kind,⟨y4.num.aj,y4.num.exp⟩,y4.text,y4.names,y4.items⟩:Json) ([111,114,100,101,114,73,100]:ad) bU (fun cA cP cV=>bif(!cA)then(k0 (⟨0,0,([]:ad),0,0,false,0,0,false,0⟩:ak.State) 90)else(jL (⟨y4.kind,⟨y4.num.aj,y4.num.exp⟩,y4.text,y4.names,y4.items⟩:Json) ([111,114,100,101,114,85,112,100,97,116,101,73,100]:ad) cV (fun eA eB bB=>bif(!eA)then(k0 (⟨0,0,([]:ad),0,0,false,0,0,false,0⟩:ak.State) 90)else(jM (⟨y4.kind,⟨y4.num.aj,y4.num.exp⟩,y4.text,y4.names,y4.items⟩:Json) ([108,105,118,101]:ad) bB (fun jl fe iG=>bif(!jl)then(k0 (⟨0,0,([]:ad),0,0,false,0,0,false,0⟩:ak.State) 90)else(jN (⟨y4.kind,⟨y4.num.aj,y4.num.exp⟩,y4.text,y4.names,y4.items⟩:Json) ([108,97,115,116,78,111,100,101,73,100]:ad) iG (fun dK fO cH=>bif(!dK)then(k0 (⟨0,0,([]:ad),0,0,false,0,0,false,0⟩:ak.State) 90)else(jU (⟨y4.kind,⟨y4.num.aj,y4.num.exp⟩,y4.text,y4.names,y4.items⟩:Json) ([108,97,115,116,78,111,100,101,83,101,113,117,101,110,99,101,73,100]:ad) cH (fun cN fo dG=>bif(!cN)then(k0 (⟨0,0,([]:ad),0,0,false,0,0,false,0⟩:ak.State) 90)else(jV (⟨y4.kind,⟨y4.num.aj,y4.num.exp⟩,y4.text,y4.names,y4.items⟩:Json) ([100,114,105,118,105,110,103]:ad) dG (fun fv ff iX=>bif(!fv)then(k0 (⟨0,0,([]:ad),0,0,false,0,0,false,0⟩:ak.State) 90)else(jW (⟨y4.kind,⟨y4.num.aj,y4.num.exp⟩,y4.text,y4.names,y4.items⟩:Json) ([97,99,99,101,112,116,101,100]:ad) iX (fun kN kO ia=>bif(!kN)then(k0 (⟨0,0,([]:ad),0,0,false,0,0,false,0⟩:ak.State) 90)else(dt ia (fun sZ=>bif(!sZ)then(k0 (⟨0,0,([]:ad),0,0,false,0,0,false,0⟩:ak.State) 90)else(k0 ia 0))))))))))))))))))))))))))
theorem aDl:aP (R:=R) tt (aDk km kL dt jM jV jH jI jK jL jN jU jW jJ) bm false Tryz.f46 topic_Name_p topic_Name_q (XJ (XK km kL dt jM jV jH jI jK jL jN jU jW jJ)):=fun x y k=>by kernel_rfl
end
theorem aDm:kH (R:=R) ao (akL (R:=R) km kL dt jM jV jH jI jK jL jN jU jW jJ):=.f (tT TT mixed .n false rfl rfl rfl rfl) rfl <| .f (tT TT mixed .n false rfl rfl rfl rfl) rfl <| .f (tT TT mixed .n false rfl rfl rfl rfl) rfl <| .n
theorem aDn:kH (R:=R) ao (akM (R:=R) km kL dt jM jV jH jI jK jL jN jU jW jJ):=.f (aDg R _ (ayW R _ (iB _))) rfl <| .f (aDj R _ (aDd R _ (ayZ R _ (ayM R _ (ayJ R _ (ayv R _ (ays R _ (iB _)))))))) rfl <| .d (ayG R) rfl <| .n
theorem aDo:kH (R:=R) ao (akN (R:=R) km kL dt jM jV jH jI jK jL jN jU jW jJ):=.f (tT TT mixed (aDn (R:=R)) false rfl rfl rfl rfl) rfl <| .n
theorem aDp:kH (R:=R) ao (akO (R:=R) km kL dt jM jV jH jI jK jL jN jU jW jJ):=.f (tT TT mixed (aDo (R:=R)) false rfl rfl rfl rfl) rfl <| .n
def kV:CH R:=XK km kL dt jM jV jH jI jK jL jN jU jW jJ
theorem akP (R:Type):aN ao 46 (Im (kV (R:=R))):=aR (aDl km kL dt jM jV jH jI jK jL jN jU jW jJ) TT mixed (.c (ax5 R) <| .c (awg R) <| .c (KK R) <| .f (tT TT mixed (aDm (R:=R)) false rfl rfl rfl rfl) rfl <| .f (tT TT mixed (aDp (R:=R)) false rfl rfl rfl rfl) rfl <| .n) rfl rfl bp
section
def XL (x1:Int) (k0:Bool->Option R):Option R:=
 k0 (x1 != x1)
theorem aDq:aP (R:=R) tt [] bm false Tryz.f133 lg topic_Name_q (VS XL):=fun x y k=>by kernel_rfl
end
def xi:E4 R:=XL
theorem aDr (R:Type):aN ao 133 (MW (xi (R:=R))):=aR (aDq) TT mixed .n rfl rfl bp
abbrev CI (R:Type):Type:=Int->Int->(Int->Option R)->Option R
def XM (fn:CI R):br R AD topic_Name_q:=fun x y k=>fn x.1 x.2.1 (fun q0=>k (af q0) [])
def Io (fn:CI R):=aL AD topic_Name_q (XM fn)
section
variable (xi:E4 R)
def aDs:List (aY R):=[aO 133 (MW xi)]
def XO (x1:Int) (x2:Int) (k0:Int->Option R):Option R:=
 xi x1 (fun y3=>xi x2 (fun y4=>bif y3 then(bif y4 then(k0 0)else(k0 (-1)))else(bif y4 then(k0 1)else(bif(decide (x1<x2))then(k0 (-1))else(bif(decide (x1>x2))then(k0 1)else(k0 0))))))
theorem aDt:aP (R:=R) tt (aDs xi) bm false Tryz.f93 AD topic_Name_q (XM (XO xi)):=fun x y k=>by kernel_rfl
end
def uK:CI R:=XO xi
theorem aDu (R:Type):aN ao 93 (Io (uK (R:=R))):=aR (aDt xi) TT mixed (.c (aDr R) <| .n) rfl rfl bp
abbrev akQ (R:Type):Type:=Int->(List Int)->Int->Int->(Int->Option R)->(Int->Int->Option R)->Option R
abbrev XP (R:Type):Type:=Nat->akQ R
def akR:Hint:=⟨[3,6,7,8],[],[],[],[],[2,3]⟩
abbrev Ip:Type:=Int×(List Int)×Int×Int
def akS:Ip->St:=fun d=>⟨U 3 (af d.1::U 2 (.sl (.int .i64) d.2.1 .no::af d.2.2.1::af d.2.2.2::U 9 ([]))),[]⟩
def aDv (K:KT R) (q0:Int):Option R:=K (.exit 0) ⟨U 3 (af q0::U 14 ([])),[]⟩
def aDw (K:KT R) (q0:Int) (q1:Int):Option R:=K (.ret) ⟨U 2 (af q0::af q1::U 14 ([])),[]⟩
abbrev XQ (K:KT R) (d:Ip) (f:akQ R):Option R:=f d.1 d.2.1 d.2.2.1 d.2.2.2 (aDv K) (aDw K)
abbrev Oc:List ax:=PU 3 (bG::PU 2 (.leaf (.sl (.int .i64))::bG::bG::PU 9 ([])))
def akT (x:ax.aA Oc) (y:aH.aA topic_Name_q):Nat:=(ah x.2.2.2.1+av x.2.2.2.2.2.2.1+ah x.2.2.2.2.2.2.2.1+ah ((t8 x).1)+64)
def akU (x:ax.aA Oc) (y:aH.aA topic_Name_q):Ip:=(x.2.2.2.1,x.2.2.2.2.2.2.1,x.2.2.2.2.2.2.2.1,(t8 x).1)
def aDx (L:XP R):dC R Oc topic_Name_q:=fun x y K=>XQ K (akU x y) (L (akT x y))
section
variable (r9:XP R)
def Od (aD:Int->(List Int)->Int->Int->Option R) (x2:Int) (x3:List Int) (x4:Int) (x5:Int) (e0:Int->Option R) (e1:Int->Int->Option R):Option R:=
 bif(decide (x5<x4))then(ag (decide ((0:Int)<=x5)&&decide (x5<x3.length)) (bif((x3.getD x5.toNat (Ty.az (.int .i64))) != x2)then(e1 (x3.getD x5.toNat (Ty.az (.int .i64))) x2)else(aD x2 x3 x4 (ae.wrap (x5+1)))))else(e0 x2)
def akV (K:KT R) (rc:Ip->Option R) (d:Ip):Option R:=XQ K d (Od (fun z0 z1 z2 z3=>rc (z0,z1,z2,z3)))
def akW:Nat->Option (Hint×bX R):=fun i=>match i with
 | 3=>some (akR,(cY Oc topic_Name_q (aDx r9) dz))
 | _=>none
theorem aDy:dn (R:=R) tt [] (akW r9) 0 Tryz.f92 0 akR akS (akV):=fun K rc d=>by kernel_rfl
def XR (x1:List Int) (k0:Int->Option R):Option R:=
 r9 (ah 0+av x1+ah (x1.length:Int)+ah 0+64) 0 x1 (x1.length:Int) 0 (fun y6=>k0 y6) (fun y7 y8=>k0 y7)
theorem aDz:aP (R:=R) tt [] (akW r9) false Tryz.f92 G5 topic_Name_q (KE (XR r9)):=fun x y k=>by kernel_rfl
end
def r9:XP R
 | 0,_,_,_,_,_,_=>none
 | n+1,aB,aC,aG,bq,e0,e1=>Od (fun aB aC aG bq=>r9 n aB aC aG bq e0 e1) aB aC aG bq e0 e1
def aDA:=dD (R:=R) akS (akV) XQ (r9) akT akU (aDy r9) (fun _ _=>by kernel_rfl) (fun _ _ _=>by kernel_rfl) (fun _ _=>by kernel_rfl)
def xj:AA R:=XR r9
theorem aDB (R:Type):aN ao 92 (En (xj (R:=R))):=aR (aDz r9) TT mixed .n rfl rfl (dE.all (by kernel_rfl) (.s .z (dJ (by kernel_rfl) (aDA _ dH))))
section
variable (uK:CI R) (xj:AA R)
def aDC:List (aY R):=[aO 93 (Io uK),aO 92 (En xj)]
def XS (x1:ak.State) (x2:ak.State) (k0:Bool->Option R):Option R:=
 uK x1.bC x2.bC (fun y3=>uK x1.header x2.header (fun y4=>xj ([y3,y4]:List Int) (fun y5=>k0 (decide (y5>(0:Int))))))
theorem aDD:aP (R:=R) tt (aDC uK xj) bm false Tryz.f43 Nw topic_Name_q (WI (XS uK xj)):=fun x y k=>by kernel_rfl
end
def mg:CB R:=XS uK xj
theorem akX (R:Type):aN ao 43 (HW (mg (R:=R))):=aR (aDD uK xj) TT mixed (.c (aDu R) <| .c (aDB R) <| .n) rfl rfl bp
abbrev Oe (R:Type):Type:=(Bool->Option R)->Option R
abbrev XT:List ax:=[]
def akY (fn:Oe R):br R XT topic_Name_q:=fun x y k=>fn (fun q0=>k (.bool q0) [])
def akZ (fn:Oe R):=aL XT topic_Name_q (akY fn)
section
variable (eT:rP R) (kk:Cm R) (mg:CB R) (dt:n9 R) (kV:CH R)
def aDE:List (aY R):=[aO 28 (wA eT),aO 39 (Ho kk),aO 43 (HW mg),aO 41 (yt dt),aO 46 (Im kV)]
def XU (k0:Bool->Option R):Option R:=
 kk (⟨1,2,([118]:ad),3,4,true,5,6,true,7⟩:ak.State) (fun y1 y2=>kV y1 (fun y3 y4=>kk (⟨0,0,([]:ad),0,0,false,0,0,false,0⟩:ak.State) (fun y5 y6=>bif(y2==0)then(eT ([123,34,104,101,97,100,101,114,73,100,34,58,49,44,34,98,111,111,116,34,58,50,44,34,115,101,114,105,97,108,78,117,109,98,101,114,34,58,34,118,34,44,34,111,114,100,101,114,73,100,34,58,51,44,34,111,114,100,101,114,85,112,100,97,116,101,73,100,34,58,52,44,34,108,105,118,101,34,58,116,114,117,101,44,34,108,97,115,116,78,111,100,101,73,100,34,58,53,44,34,108,97,115,116,78,111,100,101,83,101,113,117,101,110,99,101,73,100,34,58,54,44,34,100,114,105,118,105,110,103,34,58,116,114,117,101,44,34,97,99,99,101,112,116,101,100,34,58,55,125]:ad) (fun y7=>bif(y1==y7)then(bif(decide ((y1.length:Int)>(100:Int)))then(bif(y4==0)then(bif(y3.header==1&&(y3.bC==2&&(y3.bW==([118]:ad)&&(y3.order==3&&(y3.update==4&&(y3.live==true&&(y3.node==5&&(y3.seq==6&&(y3.cB==true&&(y3.accepted==7&&true))))))))))then(bif(y6==1)then(mg (⟨5,1,([]:ad),0,0,false,0,0,false,0⟩:ak.State) (⟨0,2,([]:ad),0,0,false,0,0,false,0⟩:ak.State) (fun y8=>bif(!y8)then(dt (⟨1,2,([118]:ad),3,4,true,5,6,true,7⟩:ak.State) (fun y9=>k0 y9))else(k0 false)))else(k0 false))else(k0 false))else(k0 false))else(k0 false))else(k0 false)))else(k0 false))))
theorem aDF:aP (R:=R) tt (aDE eT kk mg dt kV) bm false Tryz.f37 XT topic_Name_q (akY (XU eT kk mg dt kV)):=fun x y k=>by kernel_rfl
end
def td:Oe R:=XU eT kk mg dt kV
theorem aDG (R:Type):aN ao 37 (akZ (td (R:=R))):=aR (aDF eT kk mg dt kV) TT mixed (.c (LN R) <| .c (aff R) <| .c (akX R) <| .c (KK R) <| .c (akP R) <| .n) rfl rfl bp
section
def ak0 (x1:Int) (x2:Int) (k0:Int->Option R):Option R:=
 bif(decide (x1<(0:Int)))then(ag (!decide (x2=0)) (k0 (bK (ae.wrap (0 - (ae.wrap (x1+1)))) x2)))else(ag (!decide (x2=0)) (k0 (bK x1 x2)))
theorem aDH:aP (R:=R) tt [] bm false Tryz.f45 AD topic_Name_q (XM ak0):=fun x y k=>by kernel_rfl
end
def iM:CI R:=ak0
theorem ak1 (R:Type):aN ao 45 (Io (iM (R:=R))):=aR (aDH) TT mixed .n rfl rfl bp
abbrev ak2 (R:Type):Type:=Nat->Int->(List Int)->(Nat->(List Int)->Option R)->Option R
abbrev XV (R:Type):Type:=Nat->ak2 R
def ak3:Hint:=⟨[3,4],[],[],[],[],[2,3]⟩
abbrev Iq:Type:=Nat×Int×(List Int)
def ak4:Iq->St:=fun d=>⟨U 3 (.row 0 d.1::af d.2.1::U 25 ([])),[.row (.int .u8) d.2.2]⟩
def aDI (K:KT R) (q0:Nat) (q1:List Int):Option R:=K (.exit 0) ⟨U 3 (.row 0 q0::U 26 ([])),[.row (.int .u8) q1]⟩
abbrev XW (K:KT R) (d:Iq) (f:ak2 R):Option R:=f d.1 d.2.1 d.2.2 (aDI K)
abbrev Of:List ax:=PU 3 (.leaf (.row 0)::bG::PU 25 ([]))
def ak5 (x:ax.aA Of) (y:aH.aA sT):Nat:=(ah x.2.2.2.2.1+av y.1+64)
def ak6 (x:ax.aA Of) (y:aH.aA sT):Iq:=(x.2.2.2.1,x.2.2.2.2.1,y.1)
def aDJ (L:XV R):dC R Of sT:=fun x y K=>XW K (ak6 x y) (L (ak5 x y))
section
variable (sa:XV R)
def Og (aD:Nat->Int->(List Int)->Option R) (x2:Nat) (x3:Int) (x4:List Int) (e0:Nat->(List Int)->Option R):Option R:=
 bif(decide (x3<(x2:Int)))then(ag (decide ((0:Int)<=x3)&&decide (x3<x2)) (ag (decide (x3.toNat<x4.length)) (ag (decide ((0:Int)<=(bK (ae.wrap (x4.getD x3.toNat (Ty.az (.int .u8)))) 20))&&decide ((bK (ae.wrap (x4.getD x3.toNat (Ty.az (.int .u8)))) 20)<(20:Int))) (ag (decide ((0:Int)<=x3)&&decide (x3<x2)) (ag (decide (x3.toNat<x4.length)) (aD x2 (ae.wrap (x3+1)) (x4.set x3.toNat ((([97,98,99,120,121,122,65,66,67,88,89,90,48,49,56,57,95,46,58,45]:ad).getD ((bK (ae.wrap (x4.getD x3.toNat (Ty.az (.int .u8)))) 20).toNat) 0).toNat:Int))))))))else(e0 x2 x4)
def ak7 (K:KT R) (rc:Iq->Option R) (d:Iq):Option R:=XW K d (Og (fun z0 z1 z2=>rc (z0,z1,z2)))
def ak8:Nat->Option (Hint×bX R):=fun i=>match i with
 | 3=>some (ak3,(cY Of sT (aDJ sa) dz))
 | _=>none
theorem aDK:dn (R:=R) tt [] (ak8 sa) 0 Tryz.f33 0 ak3 ak4 (ak7):=fun K rc d=>by kernel_rfl
def XX (x1:ad) (k0:ad->Option R):Option R:=
 ag (decide ((0:Int)<=(min (x1.length:Int) 15))&&decide ((min (x1.length:Int) 15)<=x1.length)) (ag (decide ((0:Int)<=(min (x1.length:Int) 15))) (ag (decide (1+((x1.drop 0).take ((min (x1.length:Int) 15).toNat - 0)).length<=9223372036854775807)) (sa (ah 1+av (fX (([110]:ad)++((x1.drop 0).take ((min (x1.length:Int) 15).toNat - 0))))+64) ((([110]:ad)++((x1.drop 0).take ((min (x1.length:Int) 15).toNat - 0))).length) 1 (fX (([110]:ad)++((x1.drop 0).take ((min (x1.length:Int) 15).toNat - 0)))) (fun y5 y6=>k0 (cU (fun n:Int=>bl n.toNat) y6:ad)))))
theorem aDL:aP (R:=R) tt [] (ak8 sa) false Tryz.f33 topic_Name_p topic_Name_q (LL (XX sa)):=fun x y k=>by kernel_rfl
end
def sa:XV R
 | 0,_,_,_,_=>none
 | n+1,aB,aC,aG,e0=>Og (fun aB aC aG=>sa n aB aC aG e0) aB aC aG e0
def aDM:=dD (R:=R) ak4 (ak7) XW (sa) ak5 ak6 (aDK sa) (fun _ _=>by kernel_rfl) (fun _ _ _=>by kernel_rfl) (fun _ _=>by kernel_rfl)
def xk:rP R:=XX sa
theorem aDN (R:Type):aN ao 33 (wA (xk (R:=R))):=aR (aDL sa) TT mixed .n rfl rfl (dE.all (by kernel_rfl) (.s .z (dJ (by kernel_rfl) (aDM _ dH))))
abbrev Oh (R:Type):Type:=ak.State->(ak.State->Option R)->Option R
def ak9 (fn:Oh R):br R tW topic_Name_q:=fun x y k=>fn (iC x.1) (fun q0=>k (acz q0) [])
def ala (fn:Oh R):=aL tW topic_Name_q (ak9 fn)
section
variable (xk:rP R) (iM:CI R)
def aDO:List (aY R):=[aO 33 (wA xk),aO 45 (Io iM)]
def XY (x1:ak.State) (k0:ak.State->Option R):Option R:=
 iM x1.header 1000000001 (fun y2=>iM x1.bC 1000000001 (fun y3=>xk x1.bW (fun y4=>iM x1.order 1000000001 (fun y5=>iM x1.update 1000000001 (fun y6=>bif x1.live then(iM x1.node 1000000001 (fun y7=>iM x1.seq 500000001 (fun y8=>iM x1.accepted 1000000001 (fun y9=>k0 (⟨y2,y3,y4,y5,y6,true,y7,(ae.wrap (2*y8)),x1.cB,y9⟩:ak.State)))))else(iM x1.node 1000000001 (fun bu=>iM x1.seq 500000001 (fun aS=>iM x1.accepted 1000000001 (fun bg=>k0 (⟨y2,y3,y4,y5,y6,x1.cB,bu,(ae.wrap (2*aS)),x1.cB,bg⟩:ak.State))))))))))
theorem aDP:aP (R:=R) tt (aDO xk iM) bm false Tryz.f38 tW topic_Name_q (ak9 (XY xk iM)):=fun x y k=>by kernel_rfl
end
def tf:Oh R:=XY xk iM
theorem aDQ (R:Type):aN ao 38 (ala (tf (R:=R))):=aR (aDP xk iM) TT mixed (.c (aDN R) <| .c (ak1 R) <| .n) rfl rfl bp
end Go.Proofs.YtidfokedcnhahaaGreatDoor
set_option maxRecDepth 100000
namespace Go.Proofs.YtidfokedcnhahaaGreatDoor
open Go Go.ak Go.Lib
def Fm (d:au):Prop:=(d.aj=0/\d.exp=0)\/(bK d.aj 10≠0 /\ -1000000000000000<=d.aj/\d.aj<=1000000000000000 /\ -9<=d.exp/\d.exp<=9)
theorem Fm.bounds {d:au} (h:Fm d) : -1000000000000000<=d.aj/\d.aj<=1000000000000000 /\ -9<=d.exp/\d.exp<=9:=by
 rcases h with h|h<;>omega
theorem Fm.nz {d:au} (h:Fm d) (h0:d.aj≠0):bK d.aj 10≠0:=by
 rcases h with h|h
 ·exact(h0 h.1).elim
 ·exact h.1
theorem Fm.zero {d:au} (h:Fm d) (h0:d.aj=0):d=⟨0,0⟩:=by
 rcases h with h|h
 ·cases d; simp only at h; rw[h.1,h.2]
 ·exact(h.1 (by rw[h0]; rfl)).elim
theorem Fm.yV:Fm ⟨0,0⟩:=.inl ⟨rfl,rfl⟩
theorem tmod_neg {m:Int} (h:bK m 10≠0):bK (-m) 10≠0:=by rw[Int.neg_tmod]; omega
theorem Fm.neg {d:au} (h:Fm d):Fm ⟨-d.aj,d.exp⟩:=by
 rcases h with h|h
 ·exact .inl ⟨by simp only; omega,h.2⟩
 ·exact .inr ⟨tmod_neg h.1,by simp only; omega,by simp only; omega,h.2.2.2⟩
theorem aDR {R:Type} {d:au} (h:Fm d) (k:Bool->Option R):fY d k=k true:=by
 rcases h with h|h
 ·have e:fY d k=yx er d k:=rfl;rw[e];unfold yx;rw[h.1,h.2];rfl
 ·cases d; exact aDa h.1 h.2 k
def Made (m x:Int) (r:au×Bool):Prop:=(m=0/\r=(⟨0,0⟩,true))\/∃(u:Int) (j:Nat),m=u*10 ^ j/\bK u 10≠0/\r=gf u (x+j)
theorem aDS {R:Type} (m x:Int) (hm:bR m) (h1 : -4000000000000000000<=x) (h2:x<=1000000):∃r:au×Bool,Made m x r/\∀k:au->Bool->Option R,dM m x k=k r.1 r.2:=by
 by_cases h0:m=0
 ·subst h0;exact⟨_,.inl ⟨rfl,rfl⟩,fun k=>XF x k⟩
 ·obtain ⟨j,u,hu,hd⟩:=XD (m.natAbs+1) m h0 (by omega);exact⟨_,.inr ⟨u,j,hu,hd,rfl⟩,fun k=>by subst hu; exact XE u j x hd hm (by omega) h2 k⟩
def val (d:au):Int:=d.aj*10 ^ (d.exp+9).toNat
theorem aDT (u:Nat) (h:0<u):10 ^ (nDigits u - 1)<=u:=by
 induction u using Nat.strongRecOn with
 | _ u ih=>
  by_cases h1:u<10
  ·rw[nDigits_small h1]; exact h
  ·rw[nDigits_big h1,FY];have h2:=ih (u / 10) (by omega) (by omega);have h3:=nDigits_pos (u / 10);have e:nDigits (u / 10)=(nDigits (u / 10) - 1)+1:=by omega
   rw[e,Bk];omega
theorem Ir {u:Nat} (h:u<=1000000000000000):nDigits u<=16:=by
 rcases Nat.eq_zero_or_pos u with rfl|h0
 ·rw[nDigits_small (by omega)]; omega
 ·have h1:=aDT u h0;rcases mo (nDigits u) 17 with h2|h2
  ·omega
  ·have h3:(10:Nat) ^ 16<=10 ^ (nDigits u - 1):=zF (by omega) (by omega);have e:(10:Nat) ^ 16=10000000000000000:=rfl;omega
theorem alb {u x:Int} (hu:bK u 10≠0) (h:(gf u x).2=true):gf u x=(⟨u,x⟩,true)/\Fm ⟨u,x⟩:=by
 unfold gf at h ⊢;split at h
 ·rename_i hc;rw[if_pos hc];exact⟨rfl,.inr ⟨hu,hc⟩⟩
 ·cases h
theorem akC {d:au} (h:Fm d) (h0:d.aj≠0) {j:Nat} {x:Int} (hx:x+j=d.exp) {r:au×Bool} (hr:Made (d.aj*10 ^ j) x r):r=(d,true):=by
 have hz:=h.nz h0;have Eb:=N8 d.aj j;rcases hr with ⟨h1,_⟩|⟨u,i,e,hu,rfl⟩
 ·omega
 ·obtain ⟨rfl,rfl⟩:=akD i j u d.aj hu hz e.symm;have b:=h.bounds;unfold gf;rw[if_pos (by omega),hx]
end Go.Proofs.YtidfokedcnhahaaGreatDoor
set_option maxRecDepth 100000
namespace Go.Proofs.YtidfokedcnhahaaGreatDoor
open Go Go.ak
abbrev zs (s:ad):List Int:=s.map fun b=>(b.toNat:Int)
theorem qq (s t:ad):zs (s++t)=zs s++zs t:=ZO
theorem CJ (s:ad):fX s=zs s:=rfl
theorem mh (s:ad):(zs s).length=s.length:=oH _
theorem pe (s:ad):ft (zs s)=s:=by
 unfold ft zs;rw[Jf]
 conv=>rhs; rw[<-List.map_id s]
 exact xy fun b _=>by simp
theorem ko (n:Nat) (h:n<256):((bl n).toNat:Int)=n:=by rw[eU n h]
def gV (s:ad):Prop:=s.length<=100000000000
theorem wb {R:Type} (b:UInt8) (s:ad) (hl:gV s) (k:List Int->Option R):cj (b.toNat:Int) (zs s) k=k (zs (s++[b])):=by
 show ag (decide (((zs s).length+1)*1<=140737488355328)) (k (zs s++[(b.toNat:Int)]))=_;unfold gV at hl;rw[aw (ai (by rw[mh]; omega)),qq];rfl
theorem ws {R:Type} (x:ad) (s:ad) (hx:x.length<=100000000000) (hl:gV s) (k:Int->List Int->Option R):di x (zs s) k=k (x.length:Int) (zs (s++x)):=by
 show ag (decide (((zs s).length+(fX x).length)*1<=140737488355328)) (k (x.length:Int) (zs s++fX x))=_;unfold gV at hl;rw[CJ,aw (ai (by rw[mh,mh]; omega)),qq]
theorem aDU:∀x:Fin 64,aM.wrap ((aJ aM.bits 128 ||| aJ aM.bits (x.val:Int)).toNat:Int)=((128+x.val:Nat):Int):=by decide +kernel
theorem aDV:∀x:Fin 32,aM.wrap ((aJ aM.bits 192 ||| aJ aM.bits (aM.wrap (x.val:Int))).toNat:Int)=((192+x.val:Nat):Int):=by decide +kernel
theorem alc:∀x:Fin 16,aM.wrap ((aJ aM.bits 224 ||| aJ aM.bits (aM.wrap (x.val:Int))).toNat:Int)=((224+x.val:Nat):Int):=by decide +kernel
theorem aDW:∀x:Fin 8,aM.wrap ((aJ aM.bits 240 ||| aJ aM.bits (aM.wrap (x.val:Int))).toNat:Int)=((240+x.val:Nat):Int):=by decide +kernel
theorem ald:∀x:Fin 256,aM.wrap ((aJ aM.bits (x.val:Int)&&&aJ aM.bits 63).toNat:Int)=((x.val%64:Nat):Int):=by decide +kernel
theorem Fg (n:Nat):aM.wrap (n:Int)=((n%256:Nat):Int):=by
 simp only[FM,kv,ku];simp
theorem ale {n:Nat} (h:n<1114112):bz.wrap (n:Int)=(n:Int):=by
 simp only[FM,kv,ku];simp;omega
theorem shr (c n:Nat) (h:n<=32):fb (c:Int) (2 ^ (min n eI.bits))=((c / 2 ^ n:Nat):Int):=by
 have e:min n eI.bits=n:=PR h;rw[e,Pg _ (by exact Ph (Pf (by omega)))];rw[Int.natCast_ediv];congr 1
theorem cont (c:Nat):aM.wrap ((aJ aM.bits 128 ||| aJ aM.bits (aM.wrap ((aJ aM.bits (aM.wrap (c:Int))&&&aJ aM.bits 63).toNat:Int))).toNat:Int)=((128+c%64:Nat):Int):=by
 have h1:=ald ⟨c%256,xA _ (by omega)⟩;simp only at h1;rw[Fg c,h1,show c%256%64=c%64 by omega];exact aDU ⟨c%64,xA _ (by omega)⟩
theorem alf (n:Nat) (h:n<256):zs [bl n]=[(n:Int)]:=by simp only[zs,kz,sq,ko n h]
theorem ar {R:Type} {c:Nat} (hv:vr c) (s:ad) (hl:gV s) (k:List Int->Option R):wu (zs s) (c:Int) k=k (zs (s++enc c)):=by
 have aX:=E0 hv;unfold gV at hl;show Lv yz (zs s) (c:Int) k=_;unfold Lv;rw[ale aX,qq];rcases E1 hv with ⟨h1,e⟩|⟨h0,h1,e⟩|⟨h0,h1,e⟩|⟨h0,e⟩
 ·rw[ai (show(c:Int)<=127 by omega),cond_true,aw (ai (by rw[mh]; omega)),e,alf c (by omega),Fg,u6 (by omega)]
 all_goals
  rw[aE (show ¬(c:Int)<=127 by omega),cond_false];show Lu (zs s) (c:Int) _=_;unfold Lu;rw[ale aX,e];simp only[cont,shr _ 6 (by omega),shr _ 12 (by omega),shr _ 18 (by omega),mh]
 ·rw[ai (show(c:Int)<=2047 by omega),cond_true,aw (ai (by omega))];have:=aDV ⟨c / 64,by omega⟩;simp only at this;rw[show c / 2 ^ 6=c / 64 from rfl,this];simp only[zs,kz,sq,ko (192+c / 64) (by omega),ko (128+c%64) (by omega)]
 ·rw[aE (show ¬(c:Int)<=2047 by omega),cond_false];unfold vr at hv;by_cases h2:c<55296
  ·rw[ai (show(c:Int)<55296 by omega),cond_true,cond_true,aw (ai (by omega))];have:=alc ⟨c / 4096,by omega⟩;simp only at this;rw[show c / 2 ^ 12=c / 4096 from rfl,this];simp only[zs,kz,sq,ko (224+c / 4096) (by omega),ko (128+c%64) (by omega),ko (128+c / 64%64) (by omega)]
  rw[aE (show ¬(c:Int)<55296 by omega),cond_false,ai (show(57343:Int)<(c:Int) by omega),cond_true,ai (show(c:Int)<=65535 by omega),cond_true,aw (ai (by omega))];have:=alc ⟨c / 4096,by omega⟩;simp only at this;rw[show c / 2 ^ 12=c / 4096 from rfl,this];simp only[zs,kz,sq,ko (224+c / 4096) (by omega),ko (128+c%64) (by omega),ko (128+c / 64%64) (by omega)]
 ·rw[aE (show ¬(c:Int)<=2047 by omega),cond_false];rw[aE (show ¬(c:Int)<55296 by omega),cond_false,ai (show(57343:Int)<(c:Int) by omega),cond_true,aE (show ¬(c:Int)<=65535 by omega),cond_false,
   ai (show(c:Int)>65535 by omega),cond_true,ai (show(c:Int)<=1114111 by omega),cond_true,aw (ai (by omega))]
  have:=aDW ⟨c / 262144,by omega⟩;simp only at this;rw[show c / 2 ^ 18=c / 262144 from rfl,this];simp only[zs,kz,sq,ko (240+c / 262144) (by omega),ko (128+c%64) (by omega),ko (128+c / 64%64) (by omega),ko (128+c / 4096%64) (by omega)]
theorem wr {R:Type} {c:Nat} (hv:vr c) (s:ad) (hl:gV s) (k:Int->List Int->Option R):∃n:Int,gu (c:Int) (zs s) k=k n (zs (s++enc c)):=by
 refine⟨ae.wrap (((zs (s++enc c)).length:Int) - ((zs s).length:Int)),?_⟩;show Lw wu (c:Int) (zs s) k=_;unfold Lw;rw[ar hv s hl]
end Go.Proofs.YtidfokedcnhahaaGreatDoor
set_option maxRecDepth 100000
namespace Go.Proofs.YtidfokedcnhahaaGreatDoor
open Go Go.ak Go.Lib
def bS (n:Nat):ad:=jx n 48
theorem lN (n:Nat):(bS n).length=n:=List.length_replicate
theorem alg:∀n:Nat,repeatL [48] n=bS n
 | 0=>rfl
 | n+1=>by
  have:=alg n;simp[repeatL,bS,List.replicate_succ]at this ⊢
  try exact this
theorem aDX (z:Int):tV [48] z=bS z.toNat:=alg _
def body (L:ad) (e:Int):ad:=
 if 0<=e then L++bS e.toNat
 else
  let t:=bS (max 0 (1 - e - (L.length:Int))).toNat++L
  t.take ((t.length:Int)+e).toNat++[46]++t.drop ((t.length:Int)+e).toNat
def ie (d:au):ad:=(if d.aj<0 then [45]else [])++body (decDigits d.aj.natAbs) d.exp
theorem CK {R:Type} (x:ad) (hx:x.length<=100000000000) (k:Int->List Int->Option R):eS x k=k (x.length:Int) (zs x):=by
 show ag (decide ((0+(fX x).length)*1<=140737488355328)) (k (x.length:Int) (fX x))=_;rw[CJ,aw (ai (by rw[mh]; omega))]
theorem aDY {R:Type} {d:au} (h:Fm d) (k:ad->Option R):hZ d k=k (ie d):=by
 have b:=h.bounds;have e:hZ d k=ED fY fZ di eS d k:=rfl;rw[e];unfold ED
 try dsimp only
 rw[aDR h,cE,cond_false];have hL:Kv (max d.aj (ae.wrap (0 - d.aj)))=decDigits d.aj.natAbs:=by
  rw[aV (n:=0 - d.aj) (by omega) (by omega)];have hm:max d.aj (0 - d.aj)=(d.aj.natAbs:Int):=by omega
  rw[hm];exact itoa_nonneg _
 have hlen:(decDigits d.aj.natAbs).length<=16:=by rw[decDigits_length]; exact Ir (by omega)
 simp only[hL,aDX];unfold ie;generalize decDigits d.aj.natAbs=L at *;have w1:ae.wrap (1 - d.exp)=1 - d.exp:=aV (by omega) (by omega);have w2:ae.wrap (1 - d.exp - (L.length:Int))=1 - d.exp - (L.length:Int):=aV (by omega) (by omega);rw[w1,w2];have one:(([48]:ad).length:Int)=1:=rfl;rw[one];have z0:0<=max 0 (1 - d.exp - (L.length:Int)):=by omega
 have zl:max 0 (1 - d.exp - (L.length:Int))<=10:=by omega
 have zL:1 - d.exp<=max 0 (1 - d.exp - (L.length:Int))+L.length:=by omega
 unfold body;simp only;generalize max 0 (1 - d.exp - (L.length:Int))=z at *;have tl:(bS z.toNat++L).length=z.toNat+L.length:=by rw[bf,lN]
 generalize bS z.toNat++L=t at *;have tg:∀a b:ad,(a++b).length=a.length+b.length:=fun a b=>bf
 have lone:([46]:ad).length=1:=rfl;have Fh:([45]:List Int)=zs [45]:=rfl;have q2:∀(x:Int) (f:List Int->Option R),fZ x f=f [x]:=fun _ _=>rfl
 have alh:gV [45]:=by unfold gV; simp
 by_cases he:0<=d.exp
 ·rw[ai (show d.exp>=0 from he),if_pos he];by_cases hm:d.aj<0
  ·rw[ai hm,if_pos hm];simp only[cond_true];rw[q2,aw (by rw[ai (show 1*d.exp<=140737488355328 by omega)]; rfl),aw (ai (by rw[lN]; omega)),Fh,ws _ _ (by rw[tg,lN]; omega) alh,pe]
  ·rw[aE hm,if_neg hm];simp only[cond_true,cond_false];rw[aw (by rw[ai (show 1*d.exp<=140737488355328 by omega)]; rfl),aw (ai (by rw[lN]; omega)),CK _ (by rw[tg,lN]; omega),pe];rfl
 ·have wt:ae.wrap ((t.length:Int)+d.exp)=(t.length:Int)+d.exp:=aV (by omega) (by omega);rw[aE (show ¬d.exp>=0 from he),if_neg he];simp only[wt,fV,vl,cM,cond_false];have l1:(t.take ((t.length:Int)+d.exp).toNat).length<=t.length:=by rw[eP]; omega
  have l2:(t.drop ((t.length:Int)+d.exp).toNat).length<=t.length:=by rw[ct]; omega
  have c1:(decide ((0:Int)<=(t.length:Int)+d.exp)&&decide ((t.length:Int)+d.exp<=(t.length:Int)))=true:=by rw[ai (by omega),ai (by omega)]; rfl
  have c2:(decide ((0:Int)<=(t.length:Int))&&decide ((t.length:Int)<=(t.length:Int)))=true:=by rw[ai (by omega),ai (by omega)]; rfl
  have c3:(decide ((0:Int)<=z)&&decide (1*z<=140737488355328))=true:=by rw[ai z0,ai (by omega)]; rfl
  have et:(t.drop ((t.length:Int)+d.exp).toNat).take (t.length - ((t.length:Int)+d.exp).toNat)=t.drop ((t.length:Int)+d.exp).toNat:=sk (by rw[ct]; exact cD _);rw[et];by_cases hm:d.aj<0
  ·rw[ai hm,if_pos hm];simp only[cond_true];rw[q2,aw c3,aw (ai (by rw[lN]; omega)),aw c1,aw (ai (by omega)),aw (ai (by omega)),aw c2,aw c1,aw (ai (by rw[tg,lone]; omega)),Fh,ws _ _ (by rw[tg,tg,lone]; omega) alh,pe]
  ·rw[aE hm,if_neg hm];simp only[cond_false];rw[aw c3,aw (ai (by rw[lN]; omega)),aw c1,aw (ai (by omega)),aw (ai (by omega)),aw c2,aw c1,aw (ai (by rw[tg,lone]; omega)),CK _ (by rw[tg,tg,lone]; omega),pe];rfl
theorem Oi {p q:Prop} [Decidable p] [Decidable q] (hp:p) (hq:q):(decide p&&decide q)=true:=by rw[ai hp,ai hq]; rfl
theorem XZ:∀(p s:ad),(s.take p.length==p)=p.isPrefixOf s
 | [],s=>by simp
 | a::p,[]=>by simp
 | a::p,b::s=>by
  have:=XZ p s;simp only[bj,FT,PS];rw[List.cons_beq_cons,this];congr 1;exact Bool.beq_comm
theorem Oj {R:Type} (p s:ad) (hp:p.length<=1000) (hs:s.length<=9000000000000000000) (k:Bool->ad->Option R) :
  iI p s k=if p.isPrefixOf s then k true (s.drop p.length)else k false s:=by
 have e1:∀f:ad->Bool->Option R,wG s p f=yB s p f:=fun _=>rfl
 show wG s p (fun y3 y4=>k y4 y3)=_;rw[e1];show L0 wF s p (fun y3 y4=>k y4 y3)=_;unfold L0;have e2:∀f:Bool->Option R,wF s p f=f (p.isPrefixOf s):=by
  intro f;show LY s p f=_;unfold LY;by_cases h:p.length<=s.length
  ·rw[ai (show(s.length:Int)>=(p.length:Int) by omega),cond_true,aw (by rw[ai (show(0:Int)<=(p.length:Int) by omega)]; rfl),aw (ai (by omega))];rw[fV,cM,vl,XZ]
  ·rw[aE (show ¬(s.length:Int)>=(p.length:Int) by omega),cond_false];congr 1;rw[<-XZ]
   symm
   rw[beq_eq_false_iff_ne];intro e;have:=congrArg av e;rw[eP]at this;omega
 rw[e2];cases Ka:p.isPrefixOf s with
 | false=>simp
 | true=>
  have hle:p.length<=s.length:=(List.IsPrefix.length_le (List.isPrefixOf_iff_prefix.1 Ka));rw[cE,cond_false,aw (Oi (by omega) (by omega)),aw (Oi (by omega) (by omega))];simp only[cM,if_true];rw[sk (by rw[ct]; exact cD _)]
theorem aDZ {s:ad} (h:s≠[]):mC s=decodeL s:=by
 unfold mC;have:s.isEmpty=false:=by cases s with|nil=>exact(h rfl).elim|cons _ _=>rfl
 rw[this];rfl
def oB (s:ad):Option (Nat×ad):=
 if s=[]then none else if(decodeL s).1=65533/\(decodeL s).2=1 then none else if(decodeL s).1<32 then none else some ((decodeL s).1,s.drop (decodeL s).2)
theorem aD0 {R:Type} (s:ad) (hs:s.length<=9000000000000000000) (k:Int->ad->Option R) :
  qd s k=match oB s with|some (c,r)=>k (c:Int) r|none=>k (-1) s:=by
 show Me s k=_;unfold Me;by_cases h0:s=[]
 ·subst h0; rfl
 rw[aDZ h0];have hw:=decodeL_width s;have hle:=decodeL_le s h0;have hj:(ag (decide ((0:Int)<=(s.length:Int))&&decide ((s.length:Int)<=s.length)) (ag (decide ((0:Int)<=((decodeL s).2:Int))&&decide (((decodeL s).2:Int)<=(s.length:Int))) (k ((decodeL s).1:Int) ((s.drop ((decodeL s).2:Int).toNat).take ((s.length:Int).toNat - ((decodeL s).2:Int).toNat)))))=k ((decodeL s).1:Int) (s.drop (decodeL s).2):=by
  rw[aw (Oi (by omega) (by omega)),aw (Oi (by omega) (by omega)),cM,cM,sk (by rw[ct]; exact cD _)]
 simp only[hj];unfold oB;rw[if_neg h0];by_cases h1:(decodeL s).1=65533
 ·have e1:(((decodeL s).1:Int)==65533)=true:=by rw[h1]; rfl
  rw[e1,cond_true];by_cases h2:(decodeL s).2=1
  ·rw[ai (show((decodeL s).2:Int)<2 by omega),cond_true,if_pos ⟨h1,h2⟩]
  ·rw[aE (show ¬((decodeL s).2:Int)<2 by omega),cond_false,aE (show ¬((decodeL s).1:Int)<32 by omega),cond_false,if_neg (fun h=>h2 h.2),if_neg (by omega)]
 ·have e1:(((decodeL s).1:Int)==65533)=false:=by rw[beq_eq_false_iff_ne]; omega
  rw[e1,cond_false,if_neg (fun h=>h1 h.1)];by_cases h3:(decodeL s).1<32
  ·rw[ai (show((decodeL s).1:Int)<32 by omega),cond_true,if_pos h3]
  ·rw[aE (show ¬((decodeL s).1:Int)<32 by omega),cond_false,if_neg h3]
def pf (b:UInt8):Option Nat:=
 let n:=b.toNat
 if 48<=n/\n<=57 then some (n - 48)else if 65<=n/\n<=70 then some (n - 55)else if 97<=n/\n<=102 then some (n - 87)else none
def mO:ad->Nat->Option Nat
 | [],v=>some v
 | b::t,v=>match pf b with|some d=>mO t (16*v+d)|none=>none
def ja (b:Int):Int:=aM.wrap ((aJ aM.bits b ||| aJ aM.bits 32).toNat:Int)
def ali (b:Nat):Bool:=
 (!(decide (48<=b)&&decide (b<=57))||decide (aM.wrap ((b:Int) - 48)=((b - 48:Nat):Int))) &&
 (!(decide ((97:Int)<=ja b)&&decide (ja b<=122))||(!(decide (48<=b)&&decide (b<=57))&&decide (b≠95)&&decide (aM.wrap ((aM.wrap (ja b - 97))+10)=ja b - 87) &&
  (!decide (ja b - 87<16)||((decide (65<=b)&&decide (b<=70)&&decide (ja b - 87=((b - 55:Nat):Int)))||(decide (97<=b)&&decide (b<=102)&&decide (ja b - 87=((b - 87:Nat):Int))))) &&
  (!decide (16<=ja b - 87)||(!(decide (65<=b)&&decide (b<=70))&&!(decide (97<=b)&&decide (b<=102)))))) &&
 ((decide ((97:Int)<=ja b)&&decide (ja b<=122))||(!(decide (65<=b)&&decide (b<=70))&&!(decide (97<=b)&&decide (b<=102))))
theorem aD1:∀b:Fin 256,ali b.val=true:=by decide +kernel
theorem aD2 (b:Nat) (hb:b<256) :
  ((48<=b/\b<=57)->aM.wrap ((b:Int) - 48)=((b - 48:Nat):Int)) /\
  ((97:Int)<=ja b->ja b<=122->¬(48<=b/\b<=57)/\b≠95/\aM.wrap ((aM.wrap (ja b - 97))+10)=ja b - 87 /\
   (ja b - 87<16->((65<=b/\b<=70)/\ja b - 87=((b - 55:Nat):Int))\/((97<=b/\b<=102)/\ja b - 87=((b - 87:Nat):Int))) /\
   (16<=ja b - 87->¬(65<=b/\b<=70)/\¬(97<=b/\b<=102))) /\
  (¬((97:Int)<=ja b/\ja b<=122)->¬(65<=b/\b<=70)/\¬(97<=b/\b<=102)):=by
 have h:=aD1 ⟨b,hb⟩;unfold ali at h;generalize ja (b:Int)=l at *;simp only[bF,je,xx,Z1,decide_eq_true_eq,decide_eq_false_iff_not]at h;obtain ⟨⟨h1,h2⟩,h3⟩:=h;refine⟨fun q => ?_,fun q1 q2 => ?_,fun q => ?_⟩
 ·rcases h1 with h1|h1
  ·omega
  ·exact h1
 ·rcases h2 with h2|⟨⟨⟨⟨g1,g2⟩,g3⟩,g4⟩,g5⟩
  ·omega
  ·refine⟨by omega,g2,g3,fun q => ?_,fun q => ?_⟩
   ·rcases g4 with g4|g4
    ·omega
    ·rcases g4 with ⟨⟨k1,k2⟩,k3⟩|⟨⟨k1,k2⟩,k3⟩
     ·exact .inl ⟨⟨k1,k2⟩,k3⟩
     ·exact .inr ⟨⟨k1,k2⟩,k3⟩
   ·rcases g5 with g5|⟨k1,k2⟩
    ·omega
    ·exact⟨by omega,by omega⟩
 ·rcases h3 with h3|⟨k1,k2⟩
  ·omega
  ·exact⟨by omega,by omega⟩
theorem X0 {b:UInt8} {d:Nat} (h:pf b=some d):d<16:=by
 unfold pf at h;simp only at h;split at h
 ·cases h; omega
 ·split at h
  ·cases h; omega
  ·split at h
   ·cases h; omega
   ·cases h
theorem X1 {n:Int} (h0:0<=n) (h:n<=18446744073709551615):cO.wrap n=n:=by
 simp only[FM,kv,ku];simp;omega
theorem aD3 {R:Type} {s x22:ad} {i v:Nat} (hi:i<s.length) (hs:s.length<=1000) (hv:v<4096) (aD:Int->Bool->ad->Int->Int->Bool->Int->Nat->Int->Int->(List Int)->Option R) (e0:ad->Bool->Int->Option R) (e1 e2:Int->ad->Bool->Int->Option R) (e3:Int->ad->Bool->Option R) :
  Cn internal_strconv_lower aD 16 false x22 1152921504606846976 65535 false (v:Int) s.length (s.length:Int) (i:Int) (fX s) e0 e1 e2 e3 =
   match pf (s[i])with
   | some d=>aD 16 false x22 1152921504606846976 65535 false ((16*v+d:Nat):Int) s.length (s.length:Int) ((i+1:Nat):Int) (fX s)
   | none=>e1 0 x22 false (v:Int):=by
 unfold Cn;have BY:∀(n:Int) (f:Int->Option R),internal_strconv_lower n f=f (ja n):=fun _ _=>rfl
 have ka:(fX s).getD (i:Int).toNat (Ty.az (.int .u8))=(s[i].toNat:Int):=by
  rw[cM];show(s.map fun b=>(b.toNat:Int)).getD i _=_;simp[ca,hi];rfl
 rw[ai (show(i:Int)<(s.length:Int) by omega),cond_true,aw (by rw[ai (show(0:Int)<=(i:Int) by omega)]; rfl),
  aw (ai (by rw[cM,CJ,mh]; exact hi))]
 simp only[ka,BY];obtain ⟨f1,f2,f3⟩:=aD2 s[i].toNat (fa _);have hb:=fa s[i];generalize hbn:s[i].toNat=b at *;have alj:aM.wrap 16=16:=by decide
 have aD4:cO.wrap 16=16:=by decide
 have hi1:ae.wrap ((i:Int)+1)=((i+1:Nat):Int):=by rw[aV (by omega) (by omega)]; omega
 
 have fit:∀d:Nat,d<16->∀z:Int,z=(d:Int)->(bif(decide (z>=(aM.wrap 16)))then(e1 0 x22 false (v:Int))else(bif(decide ((v:Int)>=1152921504606846976))then(e2 65535 x22 false (v:Int))else(bif(decide ((cO.wrap ((cO.wrap ((v:Int)*(cO.wrap 16)))+(cO.wrap z)))<(cO.wrap ((v:Int)*(cO.wrap 16)))))then(e2 65535 x22 false (cO.wrap ((v:Int)*(cO.wrap 16))))else(bif(decide ((cO.wrap ((cO.wrap ((v:Int)*(cO.wrap 16)))+(cO.wrap z)))>65535))then(e2 65535 x22 false (cO.wrap ((v:Int)*(cO.wrap 16))))else(aD 16 false x22 1152921504606846976 65535 false (cO.wrap ((cO.wrap ((v:Int)*(cO.wrap 16)))+(cO.wrap z))) s.length (s.length:Int) (ae.wrap ((i:Int)+1)) (fX s)))))) =
   aD 16 false x22 1152921504606846976 65535 false ((16*v+d:Nat):Int) s.length (s.length:Int) ((i+1:Nat):Int) (fX s):=by
  intro d hd z hz;subst hz;have k1:cO.wrap ((v:Int)*16)=(v:Int)*16:=X1 (by omega) (by omega);have k2:cO.wrap (d:Int)=d:=X1 (by omega) (by omega);have k3:cO.wrap ((v:Int)*16+(d:Int))=(v:Int)*16+(d:Int):=X1 (by omega) (by omega);rw[alj,aD4,k1,k2,k3,hi1,aE (show ¬(d:Int)>=16 by omega),cond_false,aE (show ¬(v:Int)>=1152921504606846976 by omega),cond_false,aE (show ¬(v:Int)*16+(d:Int)<(v:Int)*16 by omega),cond_false,
   aE (show ¬(v:Int)*16+(d:Int)>65535 by omega),cond_false]
  have:(v:Int)*16+(d:Int)=((16*v+d:Nat):Int):=by omega
  rw[this]
 rw[cond_false,Dq];unfold pf;simp only[hbn];by_cases h1:48<=b/\b<=57
 ·rw[ai (show(48:Int)<=(b:Int) by omega),cond_true,ai (show(b:Int)<=57 by omega),cond_true,if_pos h1];exact fit (b - 48) (by omega) _ (f1 h1)
 ·rw[if_neg h1];have mj:∀x z:Option R,(bif(decide ((48:Int)<=(b:Int)))then(bif(decide ((b:Int)<=(57:Int)))then x else z)else z)=z:=by
   intro x z;by_cases h:(48:Int)<=(b:Int)
   ·rw[ai h,cond_true,aE (show ¬(b:Int)<=57 by omega),cond_false]
   ·rw[aE h,cond_false]
  simp only[cond_false];rw[mj];by_cases h2:(97:Int)<=ja b
  ·rw[ai h2,cond_true];by_cases h3:ja b<=122
   ·rw[ai h3,cond_true];obtain ⟨_,_,g1,g2,g3⟩:=f2 h2 h3;rw[g1];by_cases h4:ja b - 87<16
    ·rcases g2 h4 with ⟨q1,q2⟩|⟨q1,q2⟩
     ·rw[if_pos q1];exact fit (b - 55) (by omega) _ q2
     ·rw[if_neg (by omega),if_pos q1];exact fit (b - 87) (by omega) _ q2
    ·obtain ⟨q1,q2⟩:=g3 (by omega);rw[alj,ai (show ja b - 87>=16 by omega),cond_true,if_neg q1,if_neg q2]
   ·rw[aE h3,cond_false];obtain ⟨q1,q2⟩:=f3 (by omega);rw[if_neg q1,if_neg q2]
  ·rw[aE h2,cond_false];obtain ⟨q1,q2⟩:=f3 (by omega);rw[if_neg q1,if_neg q2]
theorem aD5 (s:ad) (i v:Nat) (hi:i<s.length):mO (s.drop i) v=match pf s[i]with|some d=>mO (s.drop (i+1)) (16*v+d)|none=>none:=by
 rw[im hi];rfl
theorem aD6 {R:Type} {s x22:ad} (hs:s.length<=4) (e0:ad->Bool->Int->Option R) (e1 e2:Int->ad->Bool->Int->Option R) (e3:Int->ad->Bool->Option R):∀(n i v:Nat),s.length - i<n->i<=s.length->v<16 ^ i ->
  (match mO (s.drop i) v with
   | some u=>np n 16 false x22 1152921504606846976 65535 false (v:Int) s.length (s.length:Int) (i:Int) (fX s) e0 e1 e2 e3=e0 x22 false (u:Int)
   | none=>∃w,np n 16 false x22 1152921504606846976 65535 false (v:Int) s.length (s.length:Int) (i:Int) (fX s) e0 e1 e2 e3=e1 0 x22 false w):=by
 intro n
 induction n with
 | zero=>intro i v h; omega
 | succ n ih=>
  intro i v h hi hv;by_cases aX:i<s.length
  ·have oT:v<4096:=by
    have:16 ^ i<=16 ^ 3:=zF (by omega) (by omega);have e:(16:Nat) ^ 3=4096:=rfl;omega
   have hr:=aD3 (R:=R) (x22:=x22) aX (by omega) oT (fun aB aC aG bq cg cw dP eC eD eE fm=>np n aB aC aG bq cg cw dP eC eD eE fm e0 e1 e2 e3) e0 e1 e2 e3;have hL:np (n+1) 16 false x22 1152921504606846976 65535 false (v:Int) s.length (s.length:Int) (i:Int) (fX s) e0 e1 e2 e3 =
    Cn internal_strconv_lower (fun aB aC aG bq cg cw dP eC eD eE fm=>np n aB aC aG bq cg cw dP eC eD eE fm e0 e1 e2 e3) 16 false x22 1152921504606846976 65535 false (v:Int) s.length (s.length:Int) (i:Int) (fX s) e0 e1 e2 e3:=rfl
   rw[hL,hr,aD5 s i v aX];cases hx:pf s[i]with
   | none=>exact⟨_,rfl⟩
   | some d=>
    have hd:=X0 hx;have:(16:Nat) ^ (i+1)=16 ^ i*16:=Bk ..;exact ih (i+1) (16*v+d) (by omega) (by omega) (by omega)
  ·have e:s.drop i=[]:=gQ (by omega);rw[e];simp only[mO];show Cn internal_strconv_lower _ 16 false x22 1152921504606846976 65535 false (v:Int) s.length (s.length:Int) (i:Int) (fX s) e0 e1 e2 e3=_;unfold Cn;rw[aE (show ¬(i:Int)<(s.length:Int) by omega),cond_false]
theorem aD7 {R:Type} {s:ad} (hs:s.length=4) (k0 k1:Int->Option R):wJ s 16 16 k0 k1=match mO s 0 with|some u=>k1 (u:Int)|none=>k0 0:=by
 show Ma yC s 16 16 k0 k1=_;unfold Ma;show L8 internal_strconv_lower uf np s 16 16 _ _ _ _ _=_;unfold L8;have h1:(s==([]:ad))=false:=by rw[beq_eq_false_iff_ne]; rintro rfl; simp at hs
 rw[h1,cond_false];have c1:decide ((2:Int)<=16)=true:=by decide
 have c2:decide ((16:Int)<=36)=true:=by decide
 have c3:((16:Int)==0)=false:=by decide
 have c4:decide ((16:Int)<0)=false:=by decide
 have c5:decide ((16:Int)>64)=false:=by decide
 have c6:((16:Int)==10)=false:=by decide
 have c7:((16:Int)==16)=true:=by decide
 have c8:decide ((0:Int)<=cO.wrap 16)=true:=by decide
 have c9:(cO.wrap ((cO.wrap (1*2 ^ (min ((cO.wrap 16).toNat) cO.bits))) - 1))=65535:=by decide +kernel
 dsimp only;rw[c1,cond_true,c2,cond_true,c3,cond_false,c4,cond_false,c5,cond_false,c6,cond_false,c7,cond_true];rw[c8,aw rfl,c9];have hb:decide (s.length<=281474976710656)=true:=ai (by omega);have key:=fun(n:Nat) (hn:4<n) (e0:ad->Bool->Int->Option R) (e1 e2:Int->ad->Bool->Int->Option R) (e3:Int->ad->Bool->Option R)=>aD6 (R:=R) (s:=s) (x22:=s) (by omega) e0 e1 e2 e3 n 0 0 (by omega) (by omega) (by omega)
 have z0:(((0:Nat):Int))=0:=rfl;simp only[fV,z0]at key;cases hx:mO s 0 with
 | some u=>
  simp only[hx]at key;rw[key _ (by omega)];rfl
 | none=>
  simp only[hx]at key;generalize hF:(ah 16+av s+ah 1152921504606846976+ah 65535+ah 0+ah (s.length:Int)+ah 0+av (fX s)+64)=F at *;obtain ⟨w,hw⟩:=key F (by rw[<-hF]; omega) _ _ _ _;rw[hw,aw (by rfl),hb,aw rfl]
end Go.Proofs.YtidfokedcnhahaaGreatDoor
end
