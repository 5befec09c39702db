/-
  StateTells, part 9 of 10.
-/
import Derived.Test.YtidfokedcnhahaaGreatDoorStateTellsB8
set_option linter.unusedSimpArgs false
set_option linter.unusedVariables false
open BitVec renaming ofInt->aJ
open Bool renaming and_assoc->Dn,and_eq_true->bF,and_false->xB,and_self->Jk,and_true->qD,eq_iff_iff->FQ,false_and->lu,false_eq_true->jy,false_or->sn,not_eq_true'->xx,not_false->iq,not_true->cE,or_eq_true->je,or_false->Bj,true_and->oJ
open Go.IntKind renaming i64->ae,u32->bz
open Go.Proofs.Tryz renaming f10->ir,prog->ao
open Int renaming fdiv->fb,fdiv_eq_ediv_of_nonneg->Pg,le_of_lt->Ph,mul_assoc->zE,natAbs->ah,pow_pos->Pf,pow_succ->tE,tdiv->pz,tmod->bK,tmod_eq_emod_of_nonneg->PX,toNat_natCast->cM
open List renaming all_eq_true->gF,append_assoc->gG,append_nil->oK,cons_append->gg,contains_cons->nR,contains_nil->PT,dropWhile_cons->tD,drop_drop->py,drop_eq_getElem_cons->im,drop_eq_nil_of_le->gQ,drop_left->Jm,drop_of_length_le->Z4,drop_zero->fV,eq_nil_of_length_eq_zero->gH,flatMap_cons->Dr,foldl_cons->FO,foldl_nil->ZR,getD_cons_succ->Z0,getElem_mem->jd,headD_cons->Ds,length->av,length_append->bf,length_cons->bj,length_drop->ct,length_map->oH,length_nil->cu,length_pos_iff->Ba,length_take->eP,map_append->ZO,map_cons->kz,map_nil->sq,mem_append->fU,mem_cons->eJ,mem_map->Dj,mem_singleton->pA,nil_append->jf,nodup_cons->Ps,not_mem_nil->Dp,tail_cons->Dt,takeWhile_append_dropWhile->vm,takeWhile_cons->Bg,take_left->PW,take_length->PV,take_of_length_le->sk
open List.cons renaming injEq->Jd
open Nat renaming add_sub_cancel->FY,add_sub_cancel_left->Ji,add_zero->zk,le_refl->cD,le_trans->pw,lt_or_ge->mo,lt_trichotomy->ZT,min_eq_left->PR,mod_eq_of_lt->u6,mod_lt->xA,mul_comm->u7,mul_le_mul_right->iP,pow_le_pow_right->zF,pow_succ->Bk,sub_zero->vl,zero_le->nQ
open Option renaming bind_some->sj
open Option.some renaming injEq->ij
open Prod.mk renaming injEq->kA
open UInt8 renaming ofNat->bl,toNat_inj->xC,toNat_lt->fa
noncomputable section
set_option maxRecDepth 100000
namespace Go.Proofs.YtidfokedcnhahaaGreatDoor
open Go Go.ak Go.Lib
theorem aF7 {b:UInt8} {t:ad} (h:b.toNat<32):oB (b::t)=none:=by
 unfold oB;rw[if_neg (by simp),decodeL_ascii b t (by omega)];simp only;rw[if_neg (by omega),if_pos h]
theorem aF8 {s r:ad} {c:Nat} (h:oB s=some (c,r)):s=enc c++r/\o9 s/\(decodeL s).2=(enc c).length/\c=(decodeL s).1:=by
 unfold oB at h;split at h
 ·cases h
 ·rename_i aT;split at h
  ·cases h
  ·rename_i hg;split at h
   ·cases h
   ·simp only[ij,kA]at h;obtain ⟨rfl,rfl⟩:=h;obtain ⟨e1,e2⟩:=VL aT hg;exact⟨e1,hg,e2.symm,rfl⟩
theorem aF9 {R:Type} (s:ad) (hs:s.length<=9000000000) (e1:ad->Int->Bool->Option R):∀(n i:Nat) (o:ad),s.length - i<n->1<=i->i<=s.length->o.length+4*(s.length - i)<=90000000000 ->
  mN n s (zs o) (i:Int) (e1 [] 0 false) e1=match uq n (s.drop i) o with|some (o',r)=>e1 o' (((s.length - r.length:Nat)):Int) true|none=>e1 [] 0 false:=by
 intro n
 induction n with
 | zero=>intro i o h; omega
 | succ n ih=>
  intro i o h h1 nc hb;have e:mN (n+1) s (zs o) (i:Int) (e1 [] 0 false) e1=ND oz iK (fun aB aC aG=>mN n aB aC aG (e1 [] 0 false) e1) s (zs o) (i:Int) (e1 [] 0 false) e1:=rfl;rw[e];unfold ND;simp only[uq];have w1:ae.wrap ((i:Int)+1)=((i+1:Nat):Int):=by rw[aV (by omega) (by omega)]; omega
  by_cases hi:i<s.length
  ·have hd:=drop_cons hi;have fin:∀(c j:Nat),vr c->i<j->j<=s.length->(fun aB aC aG=>mN n aB aC aG (e1 [] 0 false) e1) s (zs o++zs (enc c)) (j:Int)=match uq n (s.drop j) (o++enc c)with|some (o',r)=>e1 o' (((s.length - r.length:Nat)):Int) true|none=>e1 [] 0 false:=fun c j hv hj hjl=>by
    have:=ux hv;show mN n s (zs o++zs (enc c)) (j:Int) (e1 [] 0 false) e1=_;rw[<-qq];exact ih j (o++enc c) (by omega) (by omega) hjl (by rw[bf]; omega)
   have BF:(decide ((0:Int)<=(i:Int))&&decide ((i:Int)<(s.length:Int)))=true:=by rw[ai (by omega),ai (by omega)]; rfl
   rw[ai (show(i:Int)<(s.length:Int) by omega),cond_true];simp only[qD,ai (show(0:Int)<=(i:Int) by omega),aw rfl,cM,w1];have hbt:=fa (s.getD i 0);have yX:([34]:ad).isPrefixOf (s.drop i)=decide ((s.getD i 0).toNat=34):=by rw[hd,Fj]; exact ID _ 34 (by omega)
   have Ei:(s.drop i).drop 1=s.drop (i+1):=by rw[py]
   have th:(((s.getD i 0).toNat:Int)==34)=decide ((s.getD i 0).toNat=34):=fP _ 34;have CL:(((s.getD i 0).toNat:Int)==92)=decide ((s.getD i 0).toNat=92):=fP _ 92;rw[yX,th,CL];by_cases du:(s.getD i 0).toNat=34
   ·rw[ai du,cond_true];simp only[if_true];rw[unz];rw[Ei];have:s.length - (s.drop (i+1)).length=i+1:=by rw[ct]; omega
    rw[this]
   rw[aE du,cond_false];simp only[jy,if_false];have Yq:([92]:ad).isPrefixOf (s.drop i)=decide ((s.getD i 0).toNat=92):=by rw[hd,Fj]; exact ID _ 92 (by omega)
   unfold xl;rw[Yq];by_cases lx:(s.getD i 0).toNat<32
   ·rw[ai (show((s.getD i 0).toNat:Int)<32 by omega),cond_true,aE (show ¬(s.getD i 0).toNat=92 by omega)];simp only[jy,if_false];have pH:oB (s.drop i)=none:=by rw[hd]; exact aF7 lx
    rw[pH]
   rw[aE (show ¬((s.getD i 0).toNat:Int)<32 by omega),cond_false];by_cases gw:(s.getD i 0).toNat=92
   ·rw[ai gw,cond_true];simp only[if_true,Ei];have hk:=aEQ (R:=R) s (i+1) (by omega) (fun y6 y7=>bif(y7==0)then(e1 ([]:ad) 0 false)else(ag (decide (((zs o).length+y6.length)*1<=140737488355328)) (mN n s ((zs o:List Int)++(y6:List Int)) (ae.wrap (((i+1:Nat):Int)+y7)) (e1 [] 0 false) e1)));cases he:uM (s.drop (i+1))with
    | none=>
     rw[he]at hk;simp only at hk ⊢;exact hk.trans rfl
    | some q=>
     obtain ⟨c,r⟩:=q;rw[he]at hk;obtain ⟨m,m1,m2,rfl,hk⟩:=hk;obtain ⟨hv,_⟩:=Yb he;have Ai:=ux hv;simp only;refine hk.trans ?_;have em:((m:Int)==0)=false:=by rw[beq_eq_false_iff_ne]; omega
     rw[em,cond_false,aw (ai (by rw[mh,mh]; omega))];have ew:ae.wrap (((i+1:Nat):Int)+(m:Int))=((i+1+m:Nat):Int):=by rw[aV (by omega) (by omega)]; omega
     rw[ew];exact fin c (i+1+m) hv (by omega) m2
   rw[aE gw,cond_false];simp only[jy,if_false];rw[alx s i hi (by omega)];cases he:oB (s.drop i)with
   | none=>
    have hz:ti (s.drop i)=0:=by
     rw[aly];intro hg;have aT:s.drop i≠[]:=by rw[hd]; simp
     obtain ⟨g1,g2⟩:=VL aT hg;unfold oB at he;unfold o9 at hg;rw[if_neg aT,if_neg hg]at he;split at he
     ·rename_i hc;have g3:=MT (show(decodeL (s.drop i)).1<128 by omega);rw[g3,hd]at g1;have g4:s.getD i 0=bl (decodeL (s.getD i 0::s.drop (i+1))).1:=by
       have:=congrArg (fun l=>l.head?) g1;simpa using this
      rw[hd]at hc;rw[g4,eU _ (by omega)]at lx;omega
     ·cases he
    rw[hz];rfl
   | some q=>
    obtain ⟨c,r⟩:=q;obtain ⟨g1,g2,g3,g4⟩:=aF8 he;obtain ⟨hv,_⟩:=Yc he;have Ai:=ux hv;have ho:ti (s.drop i)=(enc c).length:=by unfold ti; rw[if_pos g2,g3]
    have hlen:i+(enc c).length<=s.length:=by
     have:=congrArg av g1;rw[ct,bf]at this;omega
    have hr:r=s.drop (i+(enc c).length):=by
     have:=congrArg (List.drop (enc c).length) g1;rw[Jm,py]at this;exact this.symm
    rw[ho];have em:(((enc c).length:Int)==0)=false:=by rw[beq_eq_false_iff_ne]; omega
    have ew:ae.wrap ((i:Int)+((enc c).length:Int))=((i+(enc c).length:Nat):Int):=by rw[aV (by omega) (by omega)]; omega
    have et:(s.drop i).take (((i+(enc c).length:Nat):Int).toNat - i)=enc c:=by
     rw[cM,Ji];have:=congrArg (List.take (enc c).length) g1;rw[PW]at this;exact this
    simp only;rw[em,cond_false,ew,aw (by rw[ai (by omega),ai (by omega)]; rfl),aw (by rw[ai (show(i:Int)<=((i+(enc c).length:Nat):Int) by omega)]; rfl),aw (ai (by rw[et,CJ,mh,mh]; omega)),et,CJ,hr];exact fin c (i+(enc c).length) hv (by omega) hlen
  ·have:s.drop i=[]:=gQ (by omega);rw[this,aE (show ¬(i:Int)<(s.length:Int) by omega),cond_false];rfl
theorem aGa {R:Type} (s:ad) (hs:s.length<=9000000000) (k:ad->Int->Bool->Option R) :
  uD s k=match nI s with|some (o,r)=>k o (((s.length - r.length:Nat)):Int) true|none=>k [] 0 false:=by
 have e:uD s k=NF mN s k:=rfl;rw[e];unfold NF nI
 match s,hs with
 | [],_=>rfl
 | [b],_=>
  by_cases h:([34]:ad).isPrefixOf [b]=true
  ·rw[if_pos h]; rfl
  ·rw[if_neg h]; rfl
 | b::c::t,hs=>
  generalize hS:b::c::t=s at *;have hl:2<=s.length:=by rw[<-hS]; simp
  have hg:s.getD 0 0=b:=by rw[<-hS]; rfl
  rw[aE (show ¬(s.length:Int)<2 by omega),cond_false,aw (ai (by omega)),hg];have q:((b.toNat:Int) != 34)=decide (b.toNat≠34):=Yo _ 34;have yX:([34]:ad).isPrefixOf s=decide (b.toNat=34):=by rw[<-hS,Fj]; exact ID _ 34 (by omega)
  rw[q,yX];by_cases h:b.toNat=34
  ·rw[ai h,aE (show ¬b.toNat≠34 from fun x=>x h),cond_false];simp only[if_true];have key:=aF9 (R:=R) s hs (fun y9 bu aS=>k y9 bu aS) (av s+av ([]:List Int)+ah 1+64) 1 [] (by omega) (by omega) (by omega) (by simp only[cu]; omega);rw[Ye _ (s.length+1) _ _ (by rw[ct]; omega) (by rw[ct]; omega)]at key;exact key
  ·rw[aE h,ai (show b.toNat≠34 from h),cond_true];rfl
theorem aGb (p:UInt8->Bool) (t:ad) (j:Nat) (h1:j<=(t.takeWhile p).length) (h2:j<t.length):p (t.getD j 0)=decide (j<(t.takeWhile p).length):=by
 by_cases h:j<(t.takeWhile p).length
 ·rw[ai h];have e:=vm (p:=p) (l:=t);have e2:=E2 (s:=t.takeWhile p) (t:=t.dropWhile p) h;rw[e]at e2;rw[e2,getD_at h];have:=gF.1 (List.all_takeWhile (l:=t) (p:=p)) _ (jd h);exact this
 ·rw[aE h];have hj:j=(t.takeWhile p).length:=by omega
  have hd:t.dropWhile p=t.drop j:=by rw[hj,aml]
  have hc:=drop_cons h2;have h3:=List.head?_dropWhile_not p t;rw[hd,hc]at h3;simpa using h3
theorem aGc (b:UInt8):dV b=(decide (48<=b.toNat/\b.toNat<=57)||(decide (b.toNat=43)||(decide (b.toNat=45)||(decide (b.toNat=46)||(decide (b.toNat=101)||decide (b.toNat=69)))))):=by
 have all:∀n:Fin 256,dV (bl n.val)=(decide (48<=n.val/\n.val<=57)||(decide (n.val=43)||(decide (n.val=45)||(decide (n.val=46)||(decide (n.val=101)||decide (n.val=69)))))):=by decide +kernel
 have:=all ⟨b.toNat,fa b⟩;simpa using this
theorem Y5 (b:UInt8):dv b=decide (97<=b.toNat/\b.toNat<=122):=by
 have all:∀n:Fin 256,dv (bl n.val)=decide (97<=n.val/\n.val<=122):=by decide +kernel
 have:=all ⟨b.toNat,fa b⟩;simpa using this
def nL (number:Bool):UInt8->Bool:=if number then dV else dv
theorem aGd {R:Type} (b:UInt8) (number:Bool) (x y:Option R) :
  (bif number then(bif(decide ((b.toNat:Int)>=(48:Int)))then(bif(decide ((b.toNat:Int)<=(57:Int)))then x else(bif((b.toNat:Int)==43)then x else(bif((b.toNat:Int)==45)then x else(bif((b.toNat:Int)==46)then x else(bif((b.toNat:Int)==101)then x else(bif(!((b.toNat:Int)==69))then y else x))))))else(bif((b.toNat:Int)==43)then x else(bif((b.toNat:Int)==45)then x else(bif((b.toNat:Int)==46)then x else(bif((b.toNat:Int)==101)then x else(bif(!((b.toNat:Int)==69))then y else x))))))else
   (bif(decide ((b.toNat:Int)<(97:Int)))then y else(bif(decide ((b.toNat:Int)>(122:Int)))then y else x)))=if nL number b then x else y:=by
 have q:∀m:Nat,((b.toNat:Int)==(m:Int))=decide (b.toNat=m):=fun m=>fP _ m
 have OC:=q 43;have sc:=q 45;have OF:=q 46;have ams:=q 101;have q69:=q 69;cases number with
 | true=>
  show _=if dV b then x else y
  rw[aGc,cond_true];have e43:(((43:Nat):Int))=43:=rfl;have Fh:(((45:Nat):Int))=45:=rfl;have e46:(((46:Nat):Int))=46:=rfl;have aGe:(((101:Nat):Int))=101:=rfl;have e69:(((69:Nat):Int))=69:=rfl;rw[e43]at OC; rw[Fh]at sc; rw[e46]at OF; rw[aGe]at ams; rw[e69]at q69;rw[OC,sc,OF,ams,q69];have tail:(bif decide (b.toNat=43)then x else(bif decide (b.toNat=45)then x else(bif decide (b.toNat=46)then x else(bif decide (b.toNat=101)then x else(bif(!decide (b.toNat=69))then y else x)))))=if(decide (b.toNat=43)||(decide (b.toNat=45)||(decide (b.toNat=46)||(decide (b.toNat=101)||decide (b.toNat=69)))))=true then x else y:=by
   cases decide (b.toNat=43)<;>cases decide (b.toNat=45)<;>cases decide (b.toNat=46)<;>cases decide (b.toNat=101)<;>cases decide (b.toNat=69)<;>rfl
  rw[tail];by_cases h1:48<=b.toNat
  ·rw[ai (show(b.toNat:Int)>=48 by omega),cond_true];by_cases h2:b.toNat<=57
   ·rw[ai (show(b.toNat:Int)<=57 by omega),cond_true,ai (show 48<=b.toNat/\b.toNat<=57 from⟨h1,h2⟩),Bool.true_or,if_pos rfl]
   ·rw[aE (show ¬(b.toNat:Int)<=57 by omega),cond_false,aE (show ¬(48<=b.toNat/\b.toNat<=57) by omega),sn]
  ·rw[aE (show ¬(b.toNat:Int)>=48 by omega),cond_false,aE (show ¬(48<=b.toNat/\b.toNat<=57) by omega),sn]
 | false=>
  show _=if dv b then x else y
  rw[Y5,cond_false];by_cases h1:97<=b.toNat
  ·rw[aE (show ¬(b.toNat:Int)<97 by omega),cond_false];by_cases h2:b.toNat<=122
   ·rw[aE (show ¬(b.toNat:Int)>122 by omega),cond_false,ai (show 97<=b.toNat/\b.toNat<=122 from⟨h1,h2⟩),if_pos rfl]
   ·rw[ai (show(b.toNat:Int)>122 by omega),cond_true,aE (show ¬(97<=b.toNat/\b.toNat<=122) by omega),if_neg (by simp)]
  ·rw[ai (show(b.toNat:Int)<97 by omega),cond_true,aE (show ¬(97<=b.toNat/\b.toNat<=122) by omega),if_neg (by simp)]
theorem aGf {R:Type} (s:ad) (i:Nat) (number:Bool) (hs:s.length<=4000000000) (hi:i<=s.length) (e0:ad->Int->Int->Option R):∀(n j:Nat),((s.drop i).takeWhile (nL number)).length - j<n->j<=((s.drop i).takeWhile (nL number)).length ->
  oA n s (i:Int) number (j:Int) e0=e0 s (i:Int) (((s.drop i).takeWhile (nL number)).length:Int):=by
 intro n
 induction n with
 | zero=>intro j h; omega
 | succ n ih=>
  intro j h1 h2;rw[oA];unfold WT;have hl:=zf (nL number) (s.drop i);rw[ct]at hl;rw[aV (n:=(i:Int)+(j:Int)) (by omega) (by omega)];by_cases hj:i+j<s.length
  ·have hd:=aGb (nL number) (s.drop i) j h2 (by rw[ct]; omega);rw[CM]at hd;have e1:((i:Int)+(j:Int)).toNat=i+j:=by omega
   rw[ai (show(i:Int)+(j:Int)<(s.length:Int) by omega),cond_true,e1,aw (by rw[ai (show(0:Int)<=(i:Int)+(j:Int) by omega)]; rfl)];have fin:(if nL number (s.getD (i+j) 0)=true then oA n s (i:Int) number (ae.wrap ((j:Int)+1)) e0 else e0 s (i:Int) (j:Int))=e0 s (i:Int) (((s.drop i).takeWhile (nL number)).length:Int):=by
    rw[hd];by_cases aX:j<((s.drop i).takeWhile (nL number)).length
    ·rw[ai aX,if_pos rfl,aV (n:=(j:Int)+1) (by omega) (by omega)];exact ih (j+1) (by omega) (by omega)
    ·have:j=((s.drop i).takeWhile (nL number)).length:=by omega
     rw[aE aX,if_neg (by simp),<-this]
   have key:=(aGd (R:=R) (s.getD (i+j) 0) number (oA n s (i:Int) number (ae.wrap ((j:Int)+1)) e0) (e0 s (i:Int) (j:Int))).trans fin;cases number with
   | true=>exact key
   | false=>exact key
  ·rw[aE (show ¬(i:Int)+(j:Int)<(s.length:Int) by omega),cond_false];have:j=((s.drop i).takeWhile (nL number)).length:=by omega
   rw[<-this]
theorem amt {R:Type} (s:ad) (i:Nat) (number:Bool) (hs:s.length<=4000000000) (hi:i<=s.length) (k:ad->Option R):qk s (i:Int) number k=k ((s.drop i).takeWhile (nL number)):=by
 have hl:=zf (nL number) (s.drop i);rw[ct]at hl;have e:qk s (i:Int) number k=NI oA s (i:Int) number k:=rfl;rw[e];unfold NI;have key:=aGf (R:=R) s i number hs hi;have c0:((0:Nat):Int)=0:=rfl;have IM:=fun(e0:ad->Int->Int->Option R) (F:Nat) (hF:s.length<F)=>key e0 F 0 (by omega) (by omega)
 rw[c0]at IM;rw[IM _ _ (by omega),aV (by omega) (by omega),aw (by rw[ai (by omega),ai (by omega)]; rfl),aw (by rw[ai (by omega),ai (by omega)]; rfl)];have e2:((i:Int)+(((s.drop i).takeWhile (nL number)).length:Int)).toNat - (i:Int).toNat=((s.drop i).takeWhile (nL number)).length:=by omega
 rw[e2,cM,amk]
theorem amu (b:UInt8):lP b=(decide (b.toNat=123)||(decide (b.toNat=125)||(decide (b.toNat=91)||(decide (b.toNat=93)||(decide (b.toNat=44)||decide (b.toNat=58)))))):=by
 have all:∀n:Fin 256,lP (bl n.val)=(decide (n.val=123)||(decide (n.val=125)||(decide (n.val=91)||(decide (n.val=93)||(decide (n.val=44)||decide (n.val=58)))))):=by decide +kernel
 have:=all ⟨b.toNat,fa b⟩;simpa using this
theorem amv (b:UInt8):da b=(decide (b.toNat=32)||(decide (b.toNat=9)||(decide (b.toNat=10)||decide (b.toNat=13)))):=by
 have all:∀n:Fin 256,da (bl n.val)=(decide (n.val=32)||(decide (n.val=9)||(decide (n.val=10)||decide (n.val=13)))):=by decide +kernel
 have:=all ⟨b.toNat,fa b⟩;simpa using this
theorem aGg {R:Type} (s:ad) (i:Nat) (hs:s.length<=4000000000) (hi:i<s.length) (k:Token->Int->Option R) :
  qo s (i:Int) k=match tokS (s.drop i)with|some (t,r)=>k (zd t (i:Int)) (((s.drop i).length - r.length:Nat):Int)|none=>k ⟨0,[],⟨0,0⟩,0⟩ 0:=by
 have e:qo s (i:Int) k=NT uD ta qk s (i:Int) k:=rfl;rw[e];unfold NT;have hd:=drop_cons hi;have CQ:(s.drop i).length=s.length - i:=ct;rw[aw (by rw[ai (by omega),ai (by omega)]; rfl),cM];simp only;have w1:ae.wrap ((i:Int)+1)=((i+1:Nat):Int):=by rw[aV (by omega) (by omega)]; omega
 have CR:(s.drop i).take ((s.length:Int).toNat - i)=s.drop i:=sk (by rw[ct,cM]; exact cD _);have one:(s.drop i).take (((i+1:Nat):Int).toNat - i)=[s.getD i 0]:=by
  rw[hd];have:((i+1:Nat):Int).toNat - i=1:=by omega
  rw[this]; rfl
 have Ag:=zf dV (s.drop i);have jB:=zf dv (s.drop i);have num:=amt (R:=R) s i true hs (by omega);have OM:=amt (R:=R) s i false hs (by omega);have kt:nL true=dV:=rfl;have kf:nL false=dv:=rfl;rw[kt]at num;rw[kf]at OM;rw[w1,CR,one];have unq:=aGa (R:=R) (s.drop i) (by omega);generalize hc:s.getD i 0=c at *;generalize hD:s.drop i=D at *;have q:∀m:Nat,((c.toNat:Int)==(m:Int))=decide (c.toNat=m):=fun m=>fP _ m
 by_cases hs:lP c=true
 ·have hk:k (⟨1,[c],⟨0,0⟩,(i:Int)⟩:Token) 1=match tokS D with|some (t,r)=>k (zd t (i:Int)) ((D.length - r.length:Nat):Int)|none=>k ⟨0,[],⟨0,0⟩,0⟩ 0:=by
   have:=(alZ c hs).2;have all:∀n:Fin 256,lP (bl n.val)=true->¬(n.val=45\/(48<=n.val/\n.val<=57))/\¬n.val=34:=by decide +kernel
   obtain ⟨h2,h3⟩:=all ⟨c.toNat,fa c⟩ (by simpa using hs);rw[hd];simp only[tokS];rw[if_neg h2,if_neg h3,if_pos hs];have e1:(c::s.drop (i+1):ad).length - (s.drop (i+1)).length=1:=by simp
   simp only[e1];rfl
  rw[<-hk];rw[aw (by rw[ai (by omega),ai (by omega)]; rfl),aw (by rw[ai (by omega),ai (by omega)]; rfl)];rw[amu]at hs;simp only[je,decide_eq_true_eq]at hs;rcases hs with h|h|h|h|h|h
  all_goals (rw[h]; rfl)
 ·have GX:lP c=false:=by simpa using hs
  rw[amu]at hs;simp only[je,decide_eq_true_eq,not_or]at hs;obtain ⟨n1,n2,n3,n4,n5,n6⟩:=hs;have f:∀m:Nat,c.toNat≠m->((c.toNat:Int)==(m:Int))=false:=fun m h=>by rw[q,aE h]
  have f1:=f 123 n1;have f2:=f 125 n2;have f3:=f 91 n3;have f4:=f 93 n4;have f5:=f 44 n5;have f6:=f 58 n6;have e1:((123:Nat):Int)=123:=rfl;have e2:((125:Nat):Int)=125:=rfl;have e3:((91:Nat):Int)=91:=rfl;have e4:((93:Nat):Int)=93:=rfl;have e5:((44:Nat):Int)=44:=rfl;have e6:((58:Nat):Int)=58:=rfl;rw[e1]at f1; rw[e2]at f2; rw[e3]at f3; rw[e4]at f4; rw[e5]at f5; rw[e6]at f6;rw[f1,f2,f3,f4,f5,f6];simp only[cond_false];have th:=q 34;have yX:((34:Nat):Int)=34:=rfl;rw[yX]at th;have sc:=q 45;have Fh:((45:Nat):Int)=45:=rfl;rw[Fh]at sc;rw[th,sc,hd];simp only[tokS];rw[GX,<-hd];by_cases du:c.toNat=34
  ·rw[ai du,cond_true,if_neg (by omega),if_pos du,aw (by rw[ai (by omega),ai (by omega)]; rfl),aw (by rw[ai (by omega),ai (by omega)]; rfl),unq];cases nI D with
   | none=>rfl
   | some p=>rfl
  ·rw[aE du,cond_false]
   
   have amw:(c.toNat=45\/(48<=c.toNat/\c.toNat<=57))->(qk s (i:Int) true (fun y8=>ta y8 (fun y9 bu=>bif(!bu)then(k (⟨0,([]:ad),⟨0,0⟩,0⟩:Token) 0)else(k (⟨3,y8,⟨y9.aj,y9.exp⟩,(i:Int)⟩:Token) (y8.length:Int))))) =
     match (if c.toNat=45\/(48<=c.toNat/\c.toNat<=57)then(if(kW (D.takeWhile dV)).2 then some (⟨3,D.takeWhile dV,(kW (D.takeWhile dV)).1,0⟩,D.dropWhile dV)else none)else if c.toNat=34 then(match nI D with|some (o,r)=>some (⟨2,o,⟨0,0⟩,0⟩,r)|none=>none)else if false=true then some ((⟨1,[c],⟨0,0⟩,0⟩:Token),s.drop (i+1))else if D.takeWhile dv=jb\/D.takeWhile dv=gC\/D.takeWhile dv=gD then some (⟨4,D.takeWhile dv,⟨0,0⟩,0⟩,D.dropWhile dv)else none)with
     | some (t,r)=>k (zd t (i:Int)) ((D.length - r.length:Nat):Int)|none=>k ⟨0,[],⟨0,0⟩,0⟩ 0:=by
    intro h;rw[if_pos h,num,aFE];have el:D.length - (D.dropWhile dV).length=(D.takeWhile dV).length:=by omega
    cases (kW (D.takeWhile dV)).2 with
    | true=>simp only[if_true]; rw[el]; rfl
    | false=>rfl
   have amx:¬(c.toNat=45\/(48<=c.toNat/\c.toNat<=57))->(let lJ:=fun(bH:Bool)=>bif bH then(qk s (i:Int) false (fun bg=>bif(bg==([116,114,117,101]:ad))then(k (⟨4,bg,⟨0,0⟩,(i:Int)⟩:Token) (bg.length:Int))else(bif(bg==([102,97,108,115,101]:ad))then(k (⟨4,bg,⟨0,0⟩,(i:Int)⟩:Token) (bg.length:Int))else(bif(bg==([110,117,108,108]:ad))then(k (⟨4,bg,⟨0,0⟩,(i:Int)⟩:Token) (bg.length:Int))else(k (⟨0,([]:ad),⟨0,0⟩,0⟩:Token) 0)))))else(k (⟨0,([]:ad),⟨0,0⟩,0⟩:Token) 0); bif(decide ((c.toNat:Int)>=(97:Int)))then(lJ (decide ((c.toNat:Int)<=(122:Int))))else(lJ false)) =
     match (if c.toNat=45\/(48<=c.toNat/\c.toNat<=57)then(if(kW (D.takeWhile dV)).2 then some (⟨3,D.takeWhile dV,(kW (D.takeWhile dV)).1,0⟩,D.dropWhile dV)else none)else if c.toNat=34 then(match nI D with|some (o,r)=>some (⟨2,o,⟨0,0⟩,0⟩,r)|none=>none)else if false=true then some ((⟨1,[c],⟨0,0⟩,0⟩:Token),s.drop (i+1))else if D.takeWhile dv=jb\/D.takeWhile dv=gC\/D.takeWhile dv=gD then some (⟨4,D.takeWhile dv,⟨0,0⟩,0⟩,D.dropWhile dv)else none)with
     | some (t,r)=>k (zd t (i:Int)) ((D.length - r.length:Nat):Int)|none=>k ⟨0,[],⟨0,0⟩,0⟩ 0:=by
    intro h;rw[if_neg h,if_neg du,if_neg (show ¬(false=true) by simp)];have el:D.length - (D.dropWhile dv).length=(D.takeWhile dv).length:=by omega
    simp only;by_cases amy:dv c=true
    ·have hl:=amy;rw[Y5]at hl;have hl:=of_decide_eq_true hl;rw[ai (show(c.toNat:Int)>=97 by omega),ai (show(c.toNat:Int)<=122 by omega),cond_true,cond_true,OM];generalize D.takeWhile dv=w at *;have eq:∀a:ad,(w==a)=decide (w=a):=fun a=>by
      by_cases h:w=a
      ·rw[ai h]; exact beq_iff_eq.2 h
      ·rw[aE h]; exact beq_eq_false_iff_ne.2 h
     rw[eq,eq,eq];by_cases h1:w=jb
     ·rw[ai (show w=[116,114,117,101]from h1),if_pos (.inl h1)]; simp only[el]; rfl
     ·by_cases h2:w=gC
      ·rw[aE (show ¬w=[116,114,117,101]from h1),ai (show w=[102,97,108,115,101]from h2),if_pos (.inr (.inl h2))]; simp only[el]; rfl
      ·by_cases h3:w=gD
       ·rw[aE (show ¬w=[116,114,117,101]from h1),aE (show ¬w=[102,97,108,115,101]from h2),ai (show w=[110,117,108,108]from h3),if_pos (.inr (.inr h3))]; simp only[el]; rfl
       ·rw[aE (show ¬w=[116,114,117,101]from h1),aE (show ¬w=[102,97,108,115,101]from h2),aE (show ¬w=[110,117,108,108]from h3),if_neg (by rintro (h|h|h); exact h1 h; exact h2 h; exact h3 h)]; rfl
    ·have hlf:dv c=false:=by simpa using amy
     have hn:D.takeWhile dv=[]:=by rw[hd,Bg,hlf]; rfl
     rw[hn,if_neg (by rintro (h|h|h)<;>cases h)];have hl:=hlf;rw[Y5]at hl;have hl:=of_decide_eq_false hl;by_cases h97:97<=c.toNat
     ·rw[ai (show(c.toNat:Int)>=97 by omega),aE (show ¬(c.toNat:Int)<=122 by omega)]; rfl
     ·rw[aE (show ¬(c.toNat:Int)>=97 by omega)]; rfl
   by_cases mj:48<=c.toNat
   ·rw[ai (show(c.toNat:Int)>=48 by omega),cond_true];by_cases Fw:c.toNat<=57
    ·rw[ai (show(c.toNat:Int)<=57 by omega),cond_true,cond_true];exact amw (.inr ⟨mj,Fw⟩)
    ·rw[aE (show ¬(c.toNat:Int)<=57 by omega),cond_false,aE (show ¬c.toNat=45 by omega),cond_false];exact amx (by omega)
   ·rw[aE (show ¬(c.toNat:Int)>=48 by omega),cond_false];by_cases A1:c.toNat=45
    ·rw[ai A1,cond_true];exact amw (.inl A1)
    ·rw[aE A1,cond_false];exact amx (by omega)
theorem aGh (n p:Nat) (b:UInt8) (u:ad) (out:List Token) (hb:da b=true):fQ (n+1) p (b::u) out=fQ (n+1) (p+1) u out:=by
 have e1:(b::u).dropWhile da=u.dropWhile da:=by rw[tD,hb,if_pos rfl]
 have e2:p+((b::u).takeWhile da).length=p+1+(u.takeWhile da).length:=by rw[Bg,hb,if_pos rfl,bj]; omega
 simp only[fQ];rw[e1,e2];split
 ·rfl
 ·split
  ·rfl
  ·rename_i t r hr;have h1:=(tokS_sfx hr).2;have h2:=pW da u;have e3:p+((b::u).length - r.length)=p+1+(u.length - r.length):=by simp only[bj]; omega
   rw[e3]
theorem aGi {R:Type} (s:ad) (hs:s.length<=20000) (k:List Token->Int->Int->Option R):∀(n p:Nat) (out:List Token),s.length - p<n->p<=s.length->out.length<=p ->
  pd n s out (p:Int) (fun y8 y9=>ag (decide ((y8.length+1)*48<=140737488355328)) (k (y8++([(⟨5,([]:ad),⟨0,0⟩,y9⟩:Token)]:List Token)) 0 0)) (fun bu aS bg cd=>k ([]:List Token) bu aS) =
   k (fQ n p (s.drop p) out).1 (fQ n p (s.drop p) out).2.1 (fQ n p (s.drop p) out).2.2:=by
 intro n
 induction n with
 | zero=>intro p out h; omega
 | succ n ih=>
  intro p out h1 h2 h3;rw[pd];unfold Xe;by_cases hp:p<s.length
  ·have hd:=drop_cons hp;have CQ:(s.drop p).length=s.length - p:=ct;have w1:ae.wrap ((p:Int)+1)=((p+1:Nat):Int):=by rw[aV (by omega) (by omega)]; omega
   have BF:(decide ((0:Int)<=(p:Int))&&decide ((p:Int)<(s.length:Int)))=true:=by rw[ai (by omega),ai (by omega)]; rfl
   rw[ai (show(p:Int)<(s.length:Int) by omega),cond_true];simp only[qD,ai (show(0:Int)<=(p:Int) by omega),aw rfl,cM,w1];have qK:=fun(k:Token->Int->Option R)=>aGg s p (by omega) hp k
   generalize hc:s.getD p 0=c at *;by_cases hb:da c=true
   ·have bN:pd n s out ((p+1:Nat):Int) (fun y8 y9=>ag (decide ((y8.length+1)*48<=140737488355328)) (k (y8++([(⟨5,([]:ad),⟨0,0⟩,y9⟩:Token)]:List Token)) 0 0)) (fun bu aS bg cd=>k ([]:List Token) bu aS) =
      k (fQ (n+1) p (s.drop p) out).1 (fQ (n+1) p (s.drop p) out).2.1 (fQ (n+1) p (s.drop p) out).2.2:=by
     rw[ih (p+1) out (by omega) (by omega) (by omega),hd,aGh n p c _ out hb,Oz n (n+1) (p+1) _ out (by rw[ct]; omega) (by rw[ct]; omega)]
    rw[amv]at hb;simp only[je,decide_eq_true_eq]at hb;rcases hb with h|h|h|h
    all_goals (rw[h]; exact bN)
   ·have hbf:da c=false:=by simpa using hb
    rw[amv]at hb;simp only[je,decide_eq_true_eq,not_or]at hb;obtain ⟨n1,n2,n3,n4⟩:=hb;have f:∀m:Nat,c.toNat≠m->((c.toNat:Int)==(m:Int))=false:=fun m h=>by rw[fP,aE h]
    have f1:=f 32 n1;have f2:=f 9 n2;have f3:=f 10 n3;have f4:=f 13 n4;have e1:((32:Nat):Int)=32:=rfl;have e2:((9:Nat):Int)=9:=rfl;have e3:((10:Nat):Int)=10:=rfl;have e4:((13:Nat):Int)=13:=rfl;rw[e1]at f1; rw[e2]at f2; rw[e3]at f3; rw[e4]at f4;rw[f1,f2,f3,f4];simp only[cond_false];rw[qK];have tw:(s.drop p).takeWhile da=[]:=by rw[hd,Bg,hbf]; rfl
    have dw:(s.drop p).dropWhile da=s.drop p:=by rw[hd,tD,hbf]; rfl
    simp only[fQ];rw[tw,dw,if_neg (by rw[hd]; simp)];have ep:p+([]:ad).length=p:=rfl;rw[ep];cases ht:tokS (s.drop p)with
    | none=>rfl
    | some x=>
     obtain ⟨t,r⟩:=x;obtain ⟨g1,g2⟩:=tokS_sfx ht;have hn:(((s.drop p).length - r.length:Nat):Int)≠0:=by omega
     simp only;rw[beq_eq_false_iff_ne.2 hn,cond_false,aw (ai (by omega))];have oP:ae.wrap ((p:Int)+(((s.drop p).length - r.length:Nat):Int))=((p+((s.drop p).length - r.length):Nat):Int):=by rw[aV (by omega) (by omega)]; omega
     rw[oP];have hr:s.drop (p+((s.drop p).length - r.length))=r:=by rw[<-py,<-alW g1]
     have key:=ih (p+((s.drop p).length - r.length)) (out++[zd t (p:Int)]) (by omega) (by omega) (by simp; omega);rw[hr]at key;exact key
  ·have hpe:p=s.length:=by omega
   have AT:s.drop p=[]:=Z4 (by omega);rw[aE (show ¬(p:Int)<(s.length:Int) by omega),cond_false,AT];show ag (decide ((out.length+1)*48<=140737488355328)) (k (out++([(⟨5,([]:ad),⟨0,0⟩,(p:Int)⟩:Token)]:List Token)) 0 0)=_;rw[aw (ai (by omega))];rfl
theorem aGj {R:Type} (s:ad) (k:List Token->Int->Int->Option R):uH s k=k (eX s).1 (eX s).2.1 (eX s).2.2:=by
 have e:uH s k=NV pd s k:=rfl;rw[e];unfold NV eX;by_cases h:20000<s.length
 ·rw[ai (show(s.length:Int)>20000 by omega),cond_true,if_pos h]
 ·rw[aE (show ¬(s.length:Int)>20000 by omega),cond_false,if_neg h];have key:=aGi (R:=R) s (by omega) k (av s+av ([]:List Token)+ah 0+64) 0 [] (by omega) (by omega) (by simp);rw[fV,Oz _ (s.length+1) 0 s [] (by omega) (by omega)]at key;exact key
theorem amz:∀(n p:Nat) (s:ad) (out:List Token),(fQ n p s out).1.length<=out.length+s.length+1
 | 0,_,_,_=>by simp[fQ]
 | n+1,p,s,out=>by
  simp only[fQ];split
  ·simp<;>omega
  ·split
   ·simp
   ·rename_i t r hr;have h1:=(tokS_sfx hr).2;have h2:=pW da s;have h3:=amz n (p+(s.length - r.length)) r (out++[zd t ((p+(s.takeWhile da).length:Nat):Int)]);rw[bf,bj,cu]at h3;omega
theorem Y6 (s:ad):(eX s).1.length<=20002:=by
 unfold eX;split
 ·simp
 ·have:=amz (s.length+1) 0 s [];simp at this;omega
def mR (t:Token):Int×ad×au:=(t.kind,t.text,t.num)
theorem tokW_st:∀(l:List gX) (p:Nat),(tokW p l).map mR=l.map fun x=>mR x.2.2
 | [],_=>rfl
 | x::l,p=>by simp only[tokW,kz,tokW_st l]; rfl
theorem amA:∀(n p:Nat) (s:ad) (out:List Token),s.length<n->(fQ n p s out).2.1=0->fS (fQ n p s out).1
 | 0,_,_,_,h,_=>by omega
 | n+1,p,s,out,h,he=>by
  simp only[fQ]at he ⊢;by_cases hd:s.dropWhile da=[]
  ·rw[if_pos hd];exact⟨_,List.getLast?_concat ..,rfl⟩
  ·rw[if_neg hd]at he ⊢;cases hr:tokS (s.dropWhile da)with
   | none=>rw[hr]at he; cases he
   | some q=>
    obtain ⟨t,r⟩:=q;rw[hr]at he;have h3:=(tokS_sfx hr).2;have h4:=pW da s;exact amA n _ r _ (by omega) he
theorem Y7 (s:ad) (he:(eX s).2.1=0):fS (eX s).1:=by
 unfold eX at he ⊢;split at he
 ·cases he
 ·rename_i h;rw[if_neg h];exact amA _ _ _ _ (by omega) he
def ig (s:ad):Json×Int×Int:=
 if(eX s).2.1≠0 then(⟨0,⟨0,0⟩,[],[],[]⟩,(eX s).2.1,(eX s).2.2)else
 match eH 40 1 (eX s).1 with
 | .error b=>(⟨0,⟨0,0⟩,[],[],[]⟩,b.1,(b.2.getD 0 ⟨0,[],⟨0,0⟩,0⟩).at_)
 | .ok (v,r)=>if(r.getD 0 ⟨0,[],⟨0,0⟩,0⟩).kind≠5 then(⟨0,⟨0,0⟩,[],[],[]⟩,40,(r.getD 0 ⟨0,[],⟨0,0⟩,0⟩).at_)else(v,0,0)
theorem aGk {R:Type} (s:ad) (k:Json->Int->Int->Option R):km s k=k (ig s).1 (ig s).2.1 (ig s).2.2:=by
 have e0:km s k=MB dS ur uh s k:=rfl;rw[e0];unfold MB ig;rw[aFZ];by_cases h:(eX s).2.1=0;rotate_left
 ·have e1:((eX s).2.1 != 0)=true:=by simpa using h
  rw[if_pos h,e1];rfl
 have e1:((eX s).2.1 != 0)=false:=by simpa using h
 rw[if_neg (by simpa using h),e1,cond_false];have hE:=Y7 s h;have hL:=Y6 s;have hv:=amr (R:=R) 20002 (by omega) 40 1 (by omega) (by omega) (by omega) (eX s).1 hE hL;have e2:∀q,ur (R:=R) 1 (eX s).1 0 q=lL 40 1 (eX s).1 0 q:=fun q=>rfl
 rw[e2];cases hq:eH 40 1 (eX s).1 with
 | error b=>
  rw[hq]at hv;obtain ⟨⟨g1,g2⟩,v,g3⟩:=hv;rw[g3];obtain ⟨c,r⟩:=b;cases r with
  | nil=>exact(g1.ne rfl).elim
  | cons t r=>
   have e3:(c != 0)=true:=by simpa using g2
   have hf:∀q:List Token->Int->Option R,dS 40 (t::r) c q=q (t::r) c:=fun q=>by
    show(bif c==0 then q (t::r) 40 else q (t::r) c)=_;have e4:(c==0)=false:=by simpa using g2
    rw[e4]; rfl
   rw[aw xo];simp only[hf];have hz:∀z:Bool,(bif z then(bif(c != 0)then ag (decide ((0:Int)<((t::r).length:Int))) (k ⟨0,⟨0,0⟩,[],[],[]⟩ c t.at_)else k v 0 0)else(bif(c != 0)then ag (decide ((0:Int)<((t::r).length:Int))) (k ⟨0,⟨0,0⟩,[],[],[]⟩ c t.at_)else k v 0 0))=k ⟨0,⟨0,0⟩,[],[],[]⟩ c t.at_:=fun z=>by
    rw[e3,aw xo];cases z<;>rfl
   have:=hz (t.kind != 5);obtain ⟨kd,⟨n1,n2⟩,tx,ns,is⟩:=v;exact this
 | ok p=>
  rw[hq]at hv;obtain ⟨g1,g2⟩:=hv;obtain ⟨v,r⟩:=p;rw[g2];cases r with
  | nil=>exact(g1.ne rfl).elim
  | cons t r=>
   rw[aw xo];by_cases hk:t.kind=5
   ·have e3:(t.kind != 5)=false:=by simpa using hk
    have:((((v,t::r):Json×List Token).2).getD 0 (Ty.az .token)).kind=t.kind:=rfl;show(bif(t.kind != 5)then _ else _)=_;rw[e3,cond_false];obtain ⟨kd,⟨n1,n2⟩,tx,ns,is⟩:=v;show k ⟨kd,⟨n1,n2⟩,tx,ns,is⟩ 0 0=_;have bY:¬(((t::r).getD 0 ⟨0,[],⟨0,0⟩,0⟩).kind≠5):=fun h=>h hk
    simp only;rw[if_neg bY]
   ·have e3:(t.kind != 5)=true:=by simpa using hk
    show(bif(t.kind != 5)then _ else _)=_;rw[e3,cond_true];show ag (decide ((0:Int)<((t::r).length:Int))) (k ⟨0,⟨0,0⟩,[],[],[]⟩ 40 t.at_)=_;rw[aw xo];have bY:(((t::r).getD 0 ⟨0,[],⟨0,0⟩,0⟩).kind≠5):=hk;simp only;rw[if_pos bY];rfl
def pn (x:gX):Int×ad×au:=mR x.2.2
theorem CU {ts:List Token} {x:gX} {l:List gX} (h:ts.map mR=(x::l).map pn):∃t r,ts=t::r/\mR t=pn x/\r.map mR=l.map pn:=by
 cases ts with
 | nil=>cases h
 | cons t r=>
  simp only[kz,Jd]at h;exact⟨t,r,rfl,h.1,h.2⟩
theorem OS {ts:List Token} {a b:List gX} (h:ts.map mR=(a++b).map pn):∃u v,ts=u++v/\u.map mR=a.map pn/\v.map mR=b.map pn:=by
 rw[ZO]at h;obtain ⟨u,v,e,h1,h2⟩:=List.map_eq_append_iff.1 h;exact⟨u,v,e,h1,h2⟩
theorem IW {ts:List Token} {x:gX} (h:ts.map mR=[x].map pn):∃t,ts=[t]/\mR t=pn x:=by
 obtain ⟨t,r,e,h1,h2⟩:=CU h;cases r with
 | nil=>exact⟨t,e,h1⟩
 | cons u r=>cases h2
theorem uS {t:Token} {x:gX} (h:mR t=pn x):t.kind=x.2.2.kind/\t.text=x.2.2.text/\t.num=x.2.2.num:=by
 unfold pn mR at h;simp only[kA]at h;exact h
theorem aGl {n:Nat} {d:Int} (hd:d<=16) {t:Token} {rest:List Token} {x:ad} (hx:x=gD\/x=gC\/x=jb) (hk:t.kind=4) (ht:t.text=x) :
  eH (n+1) d (t::rest)=.ok (⟨iu .str (.int .i64) x Fx,⟨0,0⟩,[],[],[]⟩,rest):=by
 have h1:jY t=true:=by simp[jY,hk]
 have h2:qw t.text=true:=by
  rw[ht];rcases hx with rfl|rfl|rfl<;>rfl
 simp only[eH];rw[if_neg (by rw[h1]; simp),if_neg (by omega),if_neg (by rw[hk]; simp),if_pos ⟨hk,h2⟩,ht]
theorem aGm {n:Nat} {d:Int} {ts:List Token} {p:Json×List Token} (h:eH n d ts=.ok p):cJ [93] ts=none/\cJ [125] ts=none:=by
 cases n with
 | zero=>cases h
 | succ n=>
  cases ts with
  | nil=>cases h
  | cons t r=>
   simp only[eH]at h;by_cases hs:jY t=false
   ·rw[if_pos hs]at h; cases h
   ·have aT:∀x:ad,x=[93]\/x=[125]->¬(t.kind=1/\t.text=x):=fun x hx ⟨h1,h2⟩=>by
     apply hs;rcases hx with rfl|rfl<;>simp[jY,mP,h1,h2]
    simp only[cJ];rw[if_neg (aT _ (.inl rfl)),if_neg (aT _ (.inr rfl))];exact⟨rfl,rfl⟩
mutual
theorem Y8:∀(v:Json) (d:Int) (n:Nat) (ts rest:List Token),cC v d=true->17 - d<n->ts.map mR=(mm v).map pn->eH n d (ts++rest)=.ok (v,rest)
 | ⟨k,nm,t,ns,is⟩,d,0,ts,rest,h,hn,hw=>by
  have:d<=16:=by
   cases kq.1 h<;>assumption
  omega
 | ⟨k,nm,t,ns,is⟩,d,n+1,ts,rest,h,hn,hw=>by
  have hL:=amB is;have hO:=amC ns is;cases kq.1 h with
  | name _ _ hd hk=>
   have pU:∀x:ad,(x=gD\/x=gC\/x=jb)->ts.map mR=[(([],x,⟨4,x,⟨0,0⟩,0⟩):gX)].map pn->eH (n+1) d (ts++rest)=.ok (⟨iu .str (.int .i64) x Fx,⟨0,0⟩,[],[],[]⟩,rest):=fun x hx hw=>by
    obtain ⟨u,rfl,hu⟩:=IW hw;obtain ⟨h1,h2,_⟩:=uS hu;exact aGl hd hx h1 h2
   rcases hk with rfl|rfl|rfl
   ·exact pU gD (.inl rfl) hw
   ·exact pU gC (.inr (.inl rfl)) hw
   ·exact pU jb (.inr (.inr rfl)) hw
  | num _ _ hd jc=>
   obtain ⟨u,rfl,hu⟩:=IW (x:=([],fR nm,⟨3,fR nm,nm,0⟩)) hw;obtain ⟨h1,h2,h3⟩:=uS hu;simp only at h1 h2 h3;have hs:jY u=true:=by simp[jY,h1]
   show eH (n+1) d (u::rest)=_;simp only[eH];rw[if_neg (by rw[hs]; simp),if_neg (by omega),if_neg (by rw[h1]; simp),if_neg (by rw[h1]; simp),if_pos h1,h3]
  | text _ _ hd ht=>
   obtain ⟨u,rfl,hu⟩:=IW (x:=ph t) hw;obtain ⟨h1,h2,h3⟩:=uS hu;simp only[ph]at h1 h2 h3;have hs:jY u=true:=by simp[jY,h1]
   show eH (n+1) d (u::rest)=_;simp only[eH];rw[if_neg (by rw[hs]; simp),if_neg (by omega),if_neg (by rw[h1]; simp),if_neg (by rw[h1]; simp),if_neg (by rw[h1]; simp),h2]
  | arr _ _ hd hi=>
   obtain ⟨u,eG,rfl,hu,IX⟩:=CU (x:=sg 91) (l:=lr is true++[sg 93]) hw;obtain ⟨tl,tc,rfl,hl,fL⟩:=OS IX;obtain ⟨c,rfl,hc⟩:=IW fL;obtain ⟨h1,h2,_⟩:=uS hu;obtain ⟨c1,c2,_⟩:=uS hc;simp only[sg]at h1 h2 c1 c2;have dm:mP u.text=true:=by rw[h2]; rfl
   have hs:jY u=true:=by simp[jY,h1,dm]
   have Y9:(u.text==([123]:ad))=false:=by rw[h2]; rfl
   show eH (n+1) d (u::(tl++[c]++rest))=_;simp only[eH];rw[if_neg (by rw[hs]; simp),if_neg (by omega),if_pos ⟨h1,dm⟩,Y9];simp only[jy,if_false];cases is with
   | nil=>
    obtain rfl:tl=[]:=by simpa [lr]using hl
    show(match cJ [93] (c::rest)with|some r'=>_|none=>_)=_;have:cJ [93] (c::rest)=some rest:=by
     show(if c.kind=1/\c.text=[93]then some rest else none)=some rest;rw[if_pos ⟨c1,c2⟩]
    rw[this]
   | cons x l=>
    obtain ⟨e1,e2⟩:=hL d n (tl++[c]++rest).length.succ [] [] tl c rest (by simp) hi (by omega) (by simp; omega) hl c1 c2;rw[e1,e2];rfl
  | obj _ _ _ hd hlen hu7 hi=>
   obtain ⟨u,eG,rfl,hu,IX⟩:=CU (x:=sg 123) (l:=jt ns is true++[sg 125]) hw;obtain ⟨tl,tc,rfl,hl,fL⟩:=OS IX;obtain ⟨c,rfl,hc⟩:=IW fL;obtain ⟨h1,h2,_⟩:=uS hu;obtain ⟨c1,c2,_⟩:=uS hc;simp only[sg]at h1 h2 c1 c2;have dm:mP u.text=true:=by rw[h2]; rfl
   have hs:jY u=true:=by simp[jY,h1,dm]
   have Y9:(u.text==([123]:ad))=true:=by rw[h2]; rfl
   show eH (n+1) d (u::(tl++[c]++rest))=_;simp only[eH];rw[if_neg (by rw[hs]; simp),if_neg (by omega),if_pos ⟨h1,dm⟩,Y9];simp only[if_true];cases is with
   | nil=>
    obtain rfl:ns=[]:=gH hlen;obtain rfl:tl=[]:=by simpa [jt]using hl
    show(match cJ [125] (c::rest)with|some r'=>_|none=>_)=_;have:cJ [125] (c::rest)=some rest:=by
     show(if c.kind=1/\c.text=[125]then some rest else none)=some rest;rw[if_pos ⟨c1,c2⟩]
    rw[this]
   | cons x l=>
    obtain ⟨e1,e2⟩:=hO d n (tl++[c]++rest).length.succ [] [] [] tl c rest (by simp) hlen hi hu7 (fun n=>rfl) (by omega) (by simp; omega) hl c1 c2;rw[e1,e2];rfl
theorem amB:∀(is:List Json) (d:Int) (n m:Nat) (mS:List ad) (oE:List Json) (tl:List Token) (c:Token) (rest:List Token),is≠[]->cL is (d+1)=true->17 - (d+1)<n->tl.length<m ->
  tl.map mR=(lr is true).map pn->c.kind=1->c.text=[93]->cJ [93] (tl++[c]++rest)=none/\iN (eH n (d+1)) [93] false m mS oE (tl++[c]++rest)=.ok ((mS,oE++is),rest)
 | [],_,_,_,_,_,_,_,_,h,_,_,_,_,_,_=>(h rfl).elim
 | x::l,d,n,0,mS,oE,tl,c,rest,_,hr,hn,hm,hw,c1,c2=>by omega
 | x::l,d,n,m+1,mS,oE,tl,c,rest,_,hr,hn,hm,hw,c1,c2=>by
  obtain ⟨tv,tr,rfl,hv,ht⟩:=OS (a:=mm x) (b:=lr l false) hw;simp only[cL,bF]at hr;have hx:=Y8 x (d+1) n tv (tr++[c]++rest) hr.1 hn hv;have hL:=amB l;rw[show tv++tr++[c]++rest=tv++(tr++[c]++rest) by simp];refine⟨(aGm hx).1,?_⟩;have hp:jX (eH n (d+1)) false mS oE (tv++(tr++[c]++rest))=.ok ((mS,oE++[x]),tr++[c]++rest):=by
   simp only[jX,hx]
  simp only[iN,hp];cases l with
  | nil=>
   obtain rfl:tr=[]:=by simpa [lr]using ht
   have:cJ [93] ([]++[c]++rest)=some rest:=by
    show(if c.kind=1/\c.text=[93]then some rest else none)=some rest;rw[if_pos ⟨c1,c2⟩]
   rw[this]
  | cons y l'=>
   obtain ⟨u,sf,rfl,hu,Za⟩:=CU (x:=sg 44) (l:=lr (y::l') true) ht;obtain ⟨u1,u2,_⟩:=uS hu;simp only[sg]at u1 u2;have s1:cJ [93] (u::sf++[c]++rest)=none:=by
    show(if u.kind=1/\u.text=[93]then some (sf++[c]++rest)else none)=none;rw[if_neg (by rw[u2]; rintro ⟨_,h⟩; cases h)]
   have s2:cJ [44] (u::sf++[c]++rest)=some (sf++[c]++rest):=by
    show(if u.kind=1/\u.text=[44]then some (sf++[c]++rest)else none)=_;rw[if_pos ⟨u1,u2⟩]
   rw[s1,s2];obtain ⟨_,e2⟩:=hL d n m mS (oE++[x]) sf c rest (by simp) hr.2 hn (by simp at hm; omega) Za c1 c2;simp only;rw[e2];simp
theorem amC:∀(ns:List ad) (is:List Json) (d:Int) (n m:Nat) (mS:List ad) (oE:List Json) (seen:List ad) (tl:List Token) (c:Token) (rest:List Token),is≠[]->ns.length=is.length->cL is (d+1)=true->fG seen ns=true->(∀n,mS.contains n=seen.contains n) ->
  17 - (d+1)<n->tl.length<m ->
  tl.map mR=(jt ns is true).map pn->c.kind=1->c.text=[125]->cJ [125] (tl++[c]++rest)=none/\iN (eH n (d+1)) [125] true m mS oE (tl++[c]++rest)=.ok ((mS++ns,oE++is),rest)
 | _,[],_,_,_,_,_,_,_,_,_,h,_,_,_,_,_,_,_,_,_=>(h rfl).elim
 | [],x::l,d,n,m,mS,oE,seen,tl,c,rest,_,hlen,hr,hu,ze,hn,hm,hw,c1,c2=>by cases hlen
 | nm::ns,x::l,d,n,0,mS,oE,seen,tl,c,rest,_,hlen,hr,hu,ze,hn,hm,hw,c1,c2=>by omega
 | nm::ns,x::l,d,n,m+1,mS,oE,seen,tl,c,rest,_,hlen,hr,hu,ze,hn,hm,hw,c1,c2=>by
  obtain ⟨tn,tl1,rfl,DV,hw1⟩:=CU (x:=ph nm) (l:=sg 58::(mm x++jt ns l false)) hw;obtain ⟨tk,tl2,rfl,lT,IX⟩:=CU hw1;obtain ⟨tv,tr,rfl,hv,ht⟩:=OS IX;obtain ⟨n1,n2,_⟩:=uS DV;obtain ⟨k1,k2,_⟩:=uS lT;simp only[ph]at n1 n2;simp only[sg]at k1 k2;simp only[cL,bF]at hr;simp only[fG,bF,xx]at hu;have hx:=Y8 x (d+1) n tv (tr++[c]++rest) hr.1 hn hv;have hO:=amC ns l;rw[show tn::tk::(tv++tr)++[c]++rest=tn::tk::(tv++(tr++[c]++rest)) by simp];refine⟨?_,?_⟩
  ·show(if tn.kind=1/\tn.text=[125]then some _ else none)=none;rw[if_neg (by rw[n1]; rintro ⟨h,_⟩; cases h)]
  have jc:pj mS (tn::tk::(tv++(tr++[c]++rest)))=.ok (nm,tv++(tr++[c]++rest)):=by
   simp only[pj];rw[if_neg (by rw[n1]; simp),if_neg (by rw[n2,ze,hu.1.1]; simp)];have:cJ [58] (tk::(tv++(tr++[c]++rest)))=some (tv++(tr++[c]++rest)):=by
    show(if tk.kind=1/\tk.text=[58]then some (tv++(tr++[c]++rest))else none)=_;rw[if_pos ⟨k1,k2⟩]
   rw[this,n2]
  have hp:jX (eH n (d+1)) true mS oE (tn::tk::(tv++(tr++[c]++rest)))=.ok ((mS++[nm],oE++[x]),tr++[c]++rest):=by
   simp only[jX,jc,hx]
  simp only[iN,hp];cases l with
  | nil=>
   obtain rfl:ns=[]:=gH (by simpa using hlen);obtain rfl:tr=[]:=by simpa [jt]using ht
   have:cJ [125] ([]++[c]++rest)=some rest:=by
    show(if c.kind=1/\c.text=[125]then some rest else none)=some rest;rw[if_pos ⟨c1,c2⟩]
   rw[this]
  | cons y l'=>
   obtain ⟨u,sf,rfl,nX,Za⟩:=CU (x:=sg 44) (l:=jt ns (y::l') true) ht;obtain ⟨u1,u2,_⟩:=uS nX;simp only[sg]at u1 u2;have s1:cJ [125] (u::sf++[c]++rest)=none:=by
    show(if u.kind=1/\u.text=[125]then some (sf++[c]++rest)else none)=none;rw[if_neg (by rw[u2]; rintro ⟨_,h⟩; cases h)]
   have s2:cJ [44] (u::sf++[c]++rest)=some (sf++[c]++rest):=by
    show(if u.kind=1/\u.text=[44]then some (sf++[c]++rest)else none)=_;rw[if_pos ⟨u1,u2⟩]
   rw[s1,s2];obtain ⟨_,e2⟩:=hO d n m (mS++[nm]) (oE++[x]) (nm::seen) sf c rest (by simp) (by simpa using hlen) hr.2 hu.2 (fun z=>by
    rw[List.contains_append,ze,nR,nR,PT,Bj,Bool.or_comm]) hn (by simp at hm; omega) Za c1 c2
   simp only;rw[e2];simp
end
theorem amD {v:Json} (h:cC v 1=true) (ts:List Token) (rest:List Token) (hw:ts.map mR=(mm v).map pn):eH 40 1 (ts++rest)=.ok (v,rest):=Y8 v 1 40 ts rest h (by omega) hw
theorem aGn {v:Json} (h:cC v 1=true) (hl:(bT v).length<=20000):ig (bT v)=(v,0,0):=by
 have IJ:=OH v [];rw[oK]at IJ;have bP:=OI v 1 h [] (.inl rfl);have hlen:=YI (mm v) [];have hs:=aFl (mm v) [] (by simp) bP (by rw[IJ]at hlen; simp at hlen ⊢; omega);rw[IJ]at hs;have hv:=amD h (tokW 0 (mm v)) [⟨5,[],⟨0,0⟩,((nJ (mm v)+0:Nat):Int)⟩] (tokW_st _ _);unfold ig;rw[hs];simp only[ne_eq,not_true_eq_false,if_false,cu];rw[hv];rfl
def tight (l:List gX):Prop:=∀x∈l,x.1=[]
mutual
theorem amE:∀v:Json,tight (mm v)
 | ⟨k,n,t,ns,is⟩=>by
  have hL:=amF is;have hO:=amG ns is;intro x hx;simp only[mm]at hx;split at hx
  ·simp at hx; rw[hx]
  split at hx
  ·simp at hx; rw[hx]
  split at hx
  ·simp at hx; rw[hx]
  split at hx
  ·simp at hx; rw[hx]
  split at hx
  ·simp[ph]at hx; rw[hx]
  split at hx
  ·simp only[eJ,fU,Dp,or_false]at hx;rcases hx with rfl|hx|rfl
   ·rfl
   ·exact hO true x hx
   ·rfl
  ·simp only[eJ,fU,Dp,or_false]at hx;rcases hx with rfl|hx|rfl
   ·rfl
   ·exact hL true x hx
   ·rfl
theorem amF:∀(l:List Json) (first:Bool),tight (lr l first)
 | [],_=>by intro x hx; simp[lr]at hx
 | y::l,first=>by
  have h1:=amE y;have h2:=amF l false;intro x hx;simp only[lr,fU]at hx;rcases hx with hx|hx|hx
  ·cases first
   ·simp at hx; rw[hx]; rfl
   ·simp at hx
  ·exact h1 x hx
  ·exact h2 x hx
theorem amG:∀(ns:List ad) (l:List Json) (first:Bool),tight (jt ns l first)
 | _,[],_=>by intro x hx; simp[jt]at hx
 | ns,y::l,first=>by
  have h1:=amE y;have h2:=amG ns.tail l false;intro x hx;simp only[jt,fU,eJ]at hx;rcases hx with hx|rfl|rfl|hx|hx
  ·cases first
   ·simp at hx; rw[hx]; rfl
   ·simp at hx
  ·rfl
  ·rfl
  ·exact h1 x hx
  ·exact h2 x hx
end
theorem aGo (v:Json) (h:cC v 1=true):bT v≠[]:=by
 intro e;have h1:=OH v [];rw[oK,e]at h1;have bP:=OI v 1 h [] (.inl rfl);have hv:=amD h (tokW 0 (mm v)) [] (tokW_st _ _);cases hw:mm v with
 | nil=>rw[hw]at hv; cases hv
 | cons x l=>
  rw[hw]at h1 bP;obtain ⟨_,⟨c,u,hc,_⟩,_⟩:=bP;simp[eY,hc]at h1
theorem wq {R:Type} (t s:ad) (hv:dh t=true) (ht:t.length<=10000000000) (hl:(s++dW t).length<=100000000000) (k:List Int->Option R):fF t (zs s) k=k (zs (s++dW t)):=by
 obtain ⟨rs,hr,hc,rfl,_,hq⟩|⟨h,_⟩:=alw (R:=R) t ht
 ·have e:fF (bE rs) (zs s) k=lj (bE rs) (fun y3 y4=>di y3 (zs s) (fun y5 y6=>k y6)):=rfl;rw[IN hr]at hl ⊢;rw[bf]at hl;rw[e,hq];exact ws (qt rs) s (by omega) (by unfold gV; omega) _
 ·rw[hv]at h; cases h
def fT (v:Json) (i:Nat):ad:=if v.kind=7 then eO (v.names.drop i) (v.items.drop i) (i==0)else fx (v.items.drop i) (i==0)
theorem amH {R:Type} (f:sR R) (z:ad) (v:Json) (hl:v.items.length<=1099511627776) (h7:v.kind=7->v.names.length=v.items.length/\∀t∈v.names,dh t=true/\t.length<=10000000000)
  (hf:∀x∈v.items,∀(s:ad) (k:List Int->Option R),(s++bT x).length<=100000000000->f x (zs s) k=k (zs (s++bT x))) (e0:ad->List Int->Option R):∀(F i:Nat) (s:ad),i<=v.items.length->v.items.length - i<F->(s++fT v i).length<=100000000000 ->
  jE f F z v.items (v.items.length:Int) (i:Int) (zs s) v e0=e0 z (zs (s++fT v i)):=by
 intro F
 induction F with
 | zero=>intro i s _ h; omega
 | succ F ih=>
  intro i s hi hF hb;have eL:jE f (F+1) z v.items (v.items.length:Int) (i:Int) (zs s) v e0=EJ cj f fF (fun aB aC aG bq cg cw=>jE f F aB aC aG bq cg cw e0) z v.items (v.items.length:Int) (i:Int) (zs s) v e0:=rfl;rw[eL];unfold EJ;simp only[Json.eta];by_cases h:i<v.items.length;rotate_left
  ·have h1:decide ((i:Int)<(v.items.length:Int))=false:=by simp; omega
   rw[h1,cond_false];have hd:v.items.drop i=[]:=gQ (by omega);have:fT v i=[]:=by
    unfold fT;rw[hd];split
    ·cases v.names.drop i<;>rfl
    ·rfl
   rw[this,oK]
  have h1:decide ((i:Int)<(v.items.length:Int))=true:=by simp; omega
  have h2:(decide ((0:Int)<=(i:Int))&&true)=true:=by simp
  have hw:ae.wrap ((i:Int)+1)=((i+1:Nat):Int):=by rw[aV (by omega) (by omega)]; omega
  have hg:v.items.getD (i:Int).toNat (Ty.az .json)=v.items[i]:=getD_at h _;have hr:fT v i=(if i=0 then []else [44])++((if v.kind=7 then dW (v.names.getD i [])++[58]else [])++(bT v.items[i]++fT v (i+1))):=by
   unfold fT;rw[im h];by_cases kX:v.kind=7
   ·rw[if_pos kX,if_pos kX,if_pos kX];have hn:=(h7 kX).1;have qh:i<v.names.length:=by omega
    rw[im qh];simp only[eO,Ds,Dt];have:v.names.getD i []=v.names[i]:=getD_at qh _;rw[this];by_cases h0:i=0
    ·subst h0; simp
    ·have e1:(i==0)=false:=by simpa using h0
     have e2:(i+1==0)=false:=rfl;rw[e1,e2];simp[h0]
   ·rw[if_neg kX,if_neg kX,if_neg kX];simp only[fx];by_cases h0:i=0
    ·subst h0; simp
    ·have e1:(i==0)=false:=by simpa using h0
     have e2:(i+1==0)=false:=rfl;rw[e1,e2];simp[h0]
  rw[hr]at hb ⊢;rw[h1,cond_true,aw h2,hg,hw]
  
  have key:∀s':ad,(s'++((if v.kind=7 then dW (v.names.getD i [])++[58]else [])++(bT v.items[i]++fT v (i+1)))).length<=100000000000 ->
    (bif(v.kind==7)then(ag (decide ((0:Int)<=(i:Int))&&decide ((i:Int)<(v.names.length:Int))) (fF (v.names.getD (i:Int).toNat (Ty.az .str)) (zs s') (fun fO=>cj 58 fO (fun cH=>f v.items[i] cH (fun cN=>jE f F z v.items (v.items.length:Int) ((i+1:Nat):Int) cN v e0)))))else(f v.items[i] (zs s') (fun fo=>jE f F z v.items (v.items.length:Int) ((i+1:Nat):Int) fo v e0))) =
    e0 z (zs (s'++((if v.kind=7 then dW (v.names.getD i [])++[58]else [])++(bT v.items[i]++fT v (i+1))))):=by
   intro s' bI;by_cases kX:v.kind=7
   ·rw[if_pos kX]at bI ⊢;have hk:(v.kind==7)=true:=by simpa using kX
    have hn:=(h7 kX).1;have qh:i<v.names.length:=by omega
    have Zb:v.names.getD (i:Int).toNat (Ty.az .str)=v.names.getD i []:=rfl;have hgi:v.names.getD i []=v.names[i]:=getD_at qh _;obtain ⟨qL,oT⟩:=(h7 kX).2 v.names[i] (jd qh);rw[hk,cond_true,aw (by simp; omega),Zb];rw[hgi]at bI ⊢;have e58:((58:UInt8).toNat:Int)=58:=rfl;simp only[bf,bj,cu]at bI;rw[wq _ _ qL oT (by rw[bf]; omega),<-e58,wb _ _ (by unfold gV; rw[bf]; omega),hf _ (jd h) _ _ (by simp only[bf,bj,cu]; omega),
     ih (i+1) _ (by omega) (by omega) (by simp only[bf,bj,cu]; omega)]
    simp only[gG]
   ·rw[if_neg kX]at bI ⊢;have hk:(v.kind==7)=false:=by simpa using kX
    rw[jf]at bI ⊢;simp only[bf]at bI;rw[hk,cond_false,hf _ (jd h) _ _ (by rw[bf]; omega),ih (i+1) _ (by omega) (by omega) (by simp only[bf]; omega)];simp only[gG]
  by_cases h0:i=0
  ·subst h0;rw[if_pos rfl,jf]at hb ⊢;exact key s hb
  ·rw[if_neg h0]at hb ⊢;have e3:decide ((i:Int)>0)=true:=by simp; omega
   have e44:((44:UInt8).toNat:Int)=44:=rfl;have gn:=hb;simp only[bf,bj,cu]at gn;rw[e3,cond_true,<-e44,wb _ _ (by unfold gV; omega)];have:=key (s++[44]) (by simp only[bf,bj,cu]; omega);rw[gG]at this;exact this
theorem IY:∀(ns:List ad) (seen:List ad),fG seen ns=true->∀t∈ns,dh t=true
 | [],_,_,t,h=>by cases h
 | n::ns,seen,h,t,ht=>by
  simp only[fG,bF]at h;rcases eJ.1 ht with rfl|ht
  ·exact h.1.2
  ·exact IY ns _ h.2 t ht
theorem aGp {R:Type}:∀(n:Nat) (v:Json) (d:Int),cC v d=true->nK v=true->v.depth<n->∀(s:ad) (k:List Int->Option R),(s++bT v).length<=100000000000->oh n v (zs s) k=k (zs (s++bT v)):=by
 intro n
 induction n with
 | zero=>intro v d _ _ h; omega
 | succ n ih=>
  intro v d hr hl hn s k hb;obtain ⟨ei,ga,nc,CV,iz⟩:=uQ.1 hl;have e0:oh (n+1) v (zs s) k=Ur hZ cj di fF (jE (oh n)) v (zs s) k:=rfl;rw[e0];have mT:∀(z:ad) (e:ad->List Int->Option R) (F:Nat) (s':ad),(v.kind=7->v.names.length=v.items.length/\∀t∈v.names,dh t=true/\t.length<=10000000000)->cL v.items (d+1)=true->v.items.length<F->(s'++fT v 0).length<=100000000000 ->
    jE (oh n) F z v.items (v.items.length:Int) 0 (zs s') v e=e z (zs (s'++fT v 0)):=fun z e F s' h7 hi hF bI=>
   amH (oh n) z v ga h7 (fun x hx s k hb=>ih x (d+1) (OG hi hx) (Ft nc hx) (by have:=OK hx; omega) s k hb) e F 0 s' (by omega) (by omega) bI
  cases kq.1 hr with
  | name kd _ hd hk=>
   rcases hk with rfl|rfl|rfl
   ·show di gD (zs s) (fun y3 y4=>k y4)=k (zs (s++gD));exact ws gD s (by decide) (by unfold gV; rw[bf]at hb; omega) _
   ·show di gC (zs s) (fun y3 y4=>k y4)=k (zs (s++gC));exact ws gC s (by decide) (by unfold gV; rw[bf]at hb; omega) _
   ·show di jb (zs s) (fun y3 y4=>k y4)=k (zs (s++jb));exact ws jb s (by decide) (by unfold gV; rw[bf]at hb; omega) _
  | num nm _ hd jc=>
   have gn:(s++fR nm).length<=100000000000:=hb;rw[bf]at gn;show hZ ⟨nm.aj,nm.exp⟩ (fun y9=>di y9 (zs s) (fun bu aS=>k aS))=k (zs (s++fR nm));rw[amf];exact ws (fR nm) s (by omega) (by unfold gV; omega) _
  | text t _ hd ht=>exact wq t s ht CV hb k
  | arr is _ hd hi=>
   have gn:(s++(91::(fx is true++[93]))).length<=100000000000:=hb;simp only[bf,bj,cu]at gn;have e91:((91:UInt8).toNat:Int)=91:=rfl;have e93:((93:UInt8).toNat:Int)=93:=rfl;show cj ((91:UInt8).toNat:Int) (zs s) (fun aU=>jE (oh n) _ [91,93] is (is.length:Int) 0 aU ⟨6,⟨0,0⟩,[],[],is⟩ (fun dG fv=>ag (decide ((1:Int)<(dG.length:Int))) (cj ((dG.getD 1 0).toNat:Int) fv (fun ff=>k ff))))=k (zs (s++(91::(fx is true++[93]))));rw[wb _ _ (by unfold gV; omega)];simp only at mT;have hz:fT ⟨6,⟨0,0⟩,[],[],is⟩ 0=fx is true:=rfl;rw[hz]at mT;rw[mT _ _ _ _ (fun h=>by cases h) hi];rotate_left
   ·simp only[bj,cu]; omega
   ·simp only[bf,bj,cu]; omega
   show cj ((93:UInt8).toNat:Int) (zs ((s++[91])++fx is true)) (fun ff=>k ff)=_;rw[wb _ _ (by unfold gV; simp only[bf,bj,cu]; omega)];simp only[gG,gg,jf]
  | obj ns is _ hd hlen hu hi=>
   have gn:(s++(123::(eO ns is true++[125]))).length<=100000000000:=hb;simp only[bf,bj,cu]at gn;show cj ((123:UInt8).toNat:Int) (zs s) (fun aU=>jE (oh n) _ [123,125] is (is.length:Int) 0 aU ⟨7,⟨0,0⟩,[],ns,is⟩ (fun dG fv=>ag (decide ((1:Int)<(dG.length:Int))) (cj ((dG.getD 1 0).toNat:Int) fv (fun ff=>k ff))))=k (zs (s++(123::(eO ns is true++[125]))));rw[wb _ _ (by unfold gV; omega)];simp only at mT;have hz:fT ⟨7,⟨0,0⟩,[],ns,is⟩ 0=eO ns is true:=rfl;rw[hz]at mT;rw[mT _ _ _ _ (fun _=>⟨hlen,fun t ht=>⟨IY ns [] hu t ht,iz t ht⟩⟩) hi];rotate_left
   ·simp only[bj,cu]; omega
   ·simp only[bf,bj,cu]; omega
   show cj ((125:UInt8).toNat:Int) (zs ((s++[123])++eO ns is true)) (fun ff=>k ff)=_;rw[wb _ _ (by unfold gV; simp only[bf,bj,cu]; omega)];simp only[gG,gg,jf]
theorem amI {R:Type}:∀(F:Nat) (a:ad) (b:List Json) (c d:Int) (e:List Int) (f:Json) (g:ad->List Int->Option R),nk F a b c d e f g=jE kj F a b c d e f g:=by
 intro F
 induction F with
 | zero=>intros; rfl
 | succ F ih=>
  intro a b c d e f g;have h1:nk (F+1) a b c d e f g=EJ cj kj fF (fun aB aC aG bq cg cw=>nk F aB aC aG bq cg cw g) a b c d e f g:=rfl;have h2:jE kj (F+1) a b c d e f g=EJ cj kj fF (fun aB aC aG bq cg cw=>jE kj F aB aC aG bq cg cw g) a b c d e f g:=rfl;rw[h1,h2];simp only[ih]
theorem aGq {R:Type} (v:Json) (hr:cC v 1=true) (hl:nK v=true) (hb:(bT v).length<=100000000000) (k:ad->Option R):rO v k=k (bT v):=by
 have e0:rO v k=LH tZ wz v k:=rfl;rw[e0];unfold LH;simp only[Json.eta];rw[aFU v hl,hr,cE,cond_false];have e1:wz v (fun y3=>k (ft y3))=Uu hZ fZ cj eS ua nk v (fun y3=>k (ft y3)):=rfl;rw[e1];obtain ⟨ei,ga,nc,CV,iz⟩:=uQ.1 hl;have mT:∀(z:ad) (e:ad->List Int->Option R) (F:Nat) (s':ad),(v.kind=7->v.names.length=v.items.length/\∀t∈v.names,dh t=true/\t.length<=10000000000)->cL v.items (1+1)=true->v.items.length<F->(s'++fT v 0).length<=100000000000 ->
   jE kj F z v.items (v.items.length:Int) 0 (zs s') v e=e z (zs (s'++fT v 0)):=fun z e F s' h7 hi hF bI=>
  amH kj z v ga h7 (fun x hx s k hb=>aGp (x.depth+2) x (1+1) (OG hi hx) (Ft nc hx) (by omega) s k hb) e F 0 s' (by omega) (by omega) bI
 cases kq.1 hr with
 | name kd _ hd hk=>
  rcases hk with rfl|rfl|rfl
  ·show eS gD (fun y3 y4=>k (ft y4))=k gD;rw[CK gD (by decide),pe]
  ·show eS gC (fun y3 y4=>k (ft y4))=k gC;rw[CK gC (by decide),pe]
  ·show eS jb (fun y3 y4=>k (ft y4))=k jb;rw[CK jb (by decide),pe]
 | num nm _ hd jc=>
  have gn:(fR nm).length<=100000000000:=hb;show hZ ⟨nm.aj,nm.exp⟩ (fun y9=>eS y9 (fun bu aS=>k (ft aS)))=k (fR nm);rw[amf];show eS (fR nm) (fun bu aS=>k (ft aS))=k (fR nm);rw[CK _ gn,pe]
 | text t _ hd ht=>
  have gn:(dW t).length<=100000000000:=hb;show lj t (fun y2 y3=>eS y2 (fun y4 y5=>k (ft y5)))=k (dW t);obtain ⟨rs,BK,hc,rfl,_,hq⟩|⟨h,_⟩:=alw (R:=R) t CV
  ·rw[hq,IN BK];rw[IN BK]at gn;show eS (qt rs) (fun y4 y5=>k (ft y5))=k (qt rs);rw[CK _ gn,pe]
  ·rw[ht]at h; cases h
 | arr is _ hd hi=>
   have gn:(91::(fx is true++[93]):ad).length<=100000000000:=hb;simp only[bf,bj,cu]at gn;show nk _ [91,93] is (is.length:Int) 0 (zs ([]++[91])) ⟨6,⟨0,0⟩,[],[],is⟩ (fun fo dG=>ag (decide ((1:Int)<(fo.length:Int))) (cj ((fo.getD 1 0).toNat:Int) dG (fun fv=>k (ft fv))))=k (91::(fx is true++[93]));simp only at mT;have hz:fT ⟨6,⟨0,0⟩,[],[],is⟩ 0=fx is true:=rfl;rw[hz]at mT;rw[amI,mT _ _ _ _ (fun h=>by cases h) hi];rotate_left
   ·simp only[bj,cu]; omega
   ·simp only[bf,bj,cu]; omega
   show cj ((93:UInt8).toNat:Int) (zs (([]++[91])++fx is true)) (fun ff=>k (ft ff))=_;rw[wb _ _ (by unfold gV; simp only[bf,bj,cu]; omega),pe];simp only[gG,gg,jf]
 | obj ns is _ hd hlen hu hi=>
   have gn:(123::(eO ns is true++[125]):ad).length<=100000000000:=hb;simp only[bf,bj,cu]at gn;show nk _ [123,125] is (is.length:Int) 0 (zs ([]++[123])) ⟨7,⟨0,0⟩,[],ns,is⟩ (fun fo dG=>ag (decide ((1:Int)<(fo.length:Int))) (cj ((fo.getD 1 0).toNat:Int) dG (fun fv=>k (ft fv))))=k (123::(eO ns is true++[125]));simp only at mT;have hz:fT ⟨7,⟨0,0⟩,[],ns,is⟩ 0=eO ns is true:=rfl;rw[hz]at mT;rw[amI,mT _ _ _ _ (fun _=>⟨hlen,fun t ht=>⟨IY ns [] hu t ht,iz t ht⟩⟩) hi];rotate_left
   ·simp only[bj,cu]; omega
   ·simp only[bf,bj,cu]; omega
   show cj ((125:UInt8).toNat:Int) (zs (([]++[123])++eO ns is true)) (fun ff=>k (ft ff))=_;rw[wb _ _ (by unfold gV; simp only[bf,bj,cu]; omega),pe];simp only[gG,gg,jf]
end Go.Proofs.YtidfokedcnhahaaGreatDoor
namespace Go.ak
open Go.RowKit Go.Proofs.YtidfokedcnhahaaGreatDoor Go.ChangeShapes Go.WideShapes
mutual
inductive Wt:Nat->V->Prop where
 | int {n:Nat} {k:IntKind} {z:Int} (h1:1<=n) (h:k.has z):Wt n (.int k z)
 | bool {n:Nat} (h1:1<=n) (b:Bool):Wt n (.bool b)
 | str {n:Nat} {s:ad} (h:s.length+1<=n):Wt n (.str s)
 | sl {n m:Nat} {T:Ty} {l:List T.den} (h:m+1<=n) (he:uT m (l.map T.cells)):Wt n (.sl T l .no)
inductive po:Nat->List V->Prop where
 | nil:po 0 []
 | cons {a b:Nat} {v:V} {vs:List V} (h:Wt a v) (t:po b vs):po (a+b) (v::vs)
inductive uT:Nat->List (List V)->Prop where
 | nil:uT 0 []
 | cons {a b:Nat} {v:List V} {vs:List (List V)} (h:po a v) (t:uT b vs):uT (a+b) (v::vs)
end
section
variable {H:Type} {enc:TypeId×Value->H} {P:Program} {tt:aZ} {w:World} {spare:Nat->Bool} {held:Bool}
def amJ (w:World) (N:Nat) (ls:List bD) (cs:List Value):Prop:=∃vs n,pV ls vs/\aQ w [] tS vs cs/\po n vs/\n<=N
theorem amJ.nil {N:Nat}:amJ w N [] []:=⟨[],0,.nil,.nil,.nil,nQ _⟩
end
end Go.ak
set_option maxRecDepth 100000
namespace Go.Proofs.YtidfokedcnhahaaGreatDoor
open Go Go.ak Go.Lib
mutual
def Raw.tot:Raw->Nat
 | ⟨_,_,_,_,is⟩=>Raw.totL is+1
def Raw.totL:List Raw->Nat
 | []=>0
 | x::l=>Raw.tot x+Raw.totL l
end
mutual
def Raw.ok:Raw->Prop
 | ⟨k,m,e,t,is⟩=>(bR k/\bR m/\bR e/\∀c∈t,bR c)/\(t.length<=1048576/\is.length<=1048576)/\Raw.Zc is
def Raw.Zc:List Raw->Prop
 | []=>True
 | x::l=>Raw.ok x/\Raw.Zc l
end
theorem Zd {T:Ty}:∀(l:List T.den) (m:Nat),uT m (l.map T.cells)->(∀(x:T.den) n,po n (T.cells x)->1<=n)->l.length<=m
 | [],_,_,_=>nQ _
 | x::l,_,.cons h t,hh=>by
  have h1:=hh x _ h;have h2:=Zd l _ t hh;simp only[bj];omega
theorem amK {n:Nat} {v:V} (h:Wt n v):1<=n:=by
 cases h<;>omega
theorem amL:∀(l:List (Ty.den (.int .i64))) (m:Nat),uT m (l.map (Ty.cells (.int .i64)))->∀c∈(l:List Int),bR c
 | [],_,_,c,hc=>by cases hc
 | x::l,_,.cons h t,c,hc=>by
  rcases eJ.1 hc with rfl|hc
  ·have h':po _ [V.int .i64 c]:=h;cases h' with
   | cons a b=>cases a with|int _ hk=>exact mb.1 hk
  ·exact amL l _ t c hc
mutual
theorem aGr:∀(x:Raw) (n:Nat),n<=1048576->po n (Ty.cells .raw x)->Raw.tot x<=n/\Raw.ok x
 | ⟨k,m,e,t,is⟩,n,hn,h=>by
  have hL:=amM is;have h':po n [.int .i64 k,.int .i64 m,.int .i64 e,.sl (.int .i64) t .no,.sl .raw is .no]:=h;cases h' with
  | cons a1 h'=>cases h' with
   | cons a2 h'=>cases h' with
    | cons a3 h'=>cases h' with
     | cons a4 h'=>cases h' with
      | cons a5 h'=>
       cases h';cases a1 with|int p1 k1=>
       cases a2 with|int p2 k2=>
       cases a3 with|int p3 k3=>
       cases a4 with|sl p4 w4=>
       cases a5 with|sl p5 w5=>
       have hl4:=Zd (T:=.int .i64) t _ w4 (fun x n h=>by
        have h':po n [V.int .i64 x]:=h;cases h' with|cons a b=>have:=amK a; omega)
       have hl5:=Zd (T:=.raw) is _ w5 (fun x n h=>by
        have h':po n (.int .i64 x.kind::_):=h;cases h' with|cons a b=>have:=amK a; omega)
       obtain ⟨g1,g2⟩:=hL _ (by omega) w5;refine⟨by simp only[Raw.tot]; omega,⟨mb.1 k1,mb.1 k2,mb.1 k3,amL t _ w4⟩,⟨pw hl4 (by omega),pw hl5 (by omega)⟩,g2⟩
theorem amM:∀(l:List Raw) (n:Nat),n<=1048576->uT n (l.map (Ty.cells .raw))->Raw.totL l<=n/\Raw.Zc l
 | [],_,_,_=>⟨nQ _,trivial⟩
 | x::l,_,hn,.cons h t=>by
  obtain ⟨a1,a2⟩:=aGr x _ (by omega) h;obtain ⟨b1,b2⟩:=amM l _ (by omega) t;exact⟨by simp only[Raw.totL]; omega,a2,b2⟩
end
theorem amN:∀(ns seen:List ad) (n:ad),fG seen (ns++[n])=(fG seen ns&&((!(seen.contains n||ns.contains n))&&dh n))
 | [],seen,n=>by simp[fG]
 | m::ns,seen,n=>by
  simp only[gg,fG,amN ns (m::seen) n,nR];cases seen.contains m<;>cases dh m<;>cases fG (m::seen) ns<;>cases n==m<;>cases seen.contains n<;>rfl
theorem FA (t:ad):(dW t).length<=6*t.length+2:=by
 unfold dW;have:∀l:ad,(l.flatMap qb).length<=6*l.length:=by
  intro l
  induction l with
  | nil=>simp
  | cons b l ih=>
   have:=alz b;simp only[Dr,bf,bj];omega
 have:=this t;simp only[bj,bf,cu];omega
structure aJs (R:Type) (v:Json) (d:Int) (n:Nat):Prop where
 right:cC v d=true
 len:nK v=true
 size:(bT v).length+5000<=10000*n
theorem amO:∀(l:List Json) (x:Json) (b:Bool),(fx (l++[x]) b).length<=(fx l b).length+1+(bT x).length
 | [],x,b=>by cases b<;>simp[fx]<;>omega
 | y::l,x,b=>by
  have:=amO l x false;simp only[gg,fx,bf];omega
theorem amP:∀(ns:List ad) (l:List Json) (n:ad) (x:Json) (b:Bool),ns.length=l.length->(eO (ns++[n]) (l++[x]) b).length<=(eO ns l b).length+2+(dW n).length+(bT x).length
 | [],[],n,x,b,_=>by cases b<;>simp[eO]<;>omega
 | m::ns,y::l,n,x,b,h=>by
  have:=amP ns l n x false (by simpa using h);simp only[gg,eO,Ds,Dt,bf,bj];omega
 | [],_::_,_,_,_,h=>by cases h
 | _::_,[],_,_,_,h=>by cases h
theorem Ze:∀(l:List Json) (x:Json) (d:Int),cL (l++[x]) d=(cL l d&&cC x d)
 | [],x,d=>by simp[cL]
 | y::l,x,d=>by simp only[gg,cL,Ze l x d,Dn]
structure aJt (q:Int) (d:Int) (ns:List ad) (is:List Json) (n:Nat):Prop where
 right:cL is (d+1)=true
 len:qu is=true
 count:is.length<=12
 names:(q=7/\ns.length=is.length/\fG [] ns=true/\(∀t∈ns,t.length<=1000)/\(eO ns is true).length<=10000*n)\/(q=6/\ns=[]/\(fx is true).length<=10000*n)
theorem amQ {d:au} (h:Fm d):(fR d).length<=60:=by
 have e:fR d=ie d:=by unfold fR; rw[xn.2 h]; rfl
 rw[e];exact(al0 h).2.2
structure Lone (x:gX):Prop where
 head:∃c u,x.2.1=c::u/\da c=false
 met:∀r,xm r->tokS (x.2.1++r)=some (x.2.2,r)
 quo:x.2.2.kind=2->dh x.2.2.text=true/\x.2.1=dW x.2.2.text
 own:x.2.2.kind≠2->x.2.2.text=x.2.1
theorem FB {x:gX} (h:∀r,xm r->okW [x] r) (h2:x.2.2.kind=2->dh x.2.2.text=true/\x.2.1=dW x.2.2.text) (h3:x.2.2.kind≠2->x.2.2.text=x.2.1):Lone x:=by
 obtain ⟨_,g2,_⟩:=h [] (.inl rfl);exact⟨g2,fun r hr=>(h r hr).2.2.1,h2,h3⟩
theorem CW {c:UInt8} (hc:lP c=true):Lone (sg c):=FB (fun r _=>AW hc r) (fun h=>by cases h) (fun _=>rfl)
theorem amR {t:ad} (ht:dh t=true):Lone (ph t):=FB (fun r _=>YS ht r) (fun _=>⟨ht,rfl⟩) (fun h=>(h rfl).elim)
mutual
theorem amS:∀(v:Json) (d:Int),cC v d=true->∀x∈mm v,Lone x
 | ⟨k,n,t,ns,is⟩,d,h,x,hx=>by
  have hL:=amT is;have hO:=amU ns is;cases kq.1 h with
  | name _ _ hd hk=>
   rcases hk with rfl|rfl|rfl
   ·obtain rfl:=pA.1 hx;exact FB (fun r hr=>AV (Fp (.inr (.inr rfl))) hr) (fun h=>by cases h) (fun _=>rfl)
   ·obtain rfl:=pA.1 hx;exact FB (fun r hr=>AV (Fp (.inr (.inl rfl))) hr) (fun h=>by cases h) (fun _=>rfl)
   ·obtain rfl:=pA.1 hx;exact FB (fun r hr=>AV (Fp (.inl rfl)) hr) (fun h=>by cases h) (fun _=>rfl)
  | num _ _ hd hn=>
   have e:fR n=ie n:=by unfold fR; rw[xn.2 hn]; rfl
   have lU:x∈([([],fR n,⟨3,fR n,n,0⟩)]:List gX):=hx;obtain rfl:=pA.1 lU;refine FB (fun r hr => ?_) (fun h=>by cases h) (fun _=>rfl);rw[e];exact AV (al1 hn) hr
  | text _ _ hd ht=>
   have lU:x∈([ph t]:List gX):=hx;obtain rfl:=pA.1 lU;exact amR ht
  | arr _ _ hd hi=>
   have lU:x∈([sg 91]++(lr is true++[sg 93]):List gX):=hx;rw[fU,fU,pA,pA]at lU;rcases lU with rfl|hx|rfl
   ·exact CW (by decide)
   ·exact hL true (d+1) hi x hx
   ·exact CW (by decide)
  | obj _ _ _ hd hl hu hi=>
   have lU:x∈([sg 123]++(jt ns is true++[sg 125]):List gX):=hx;rw[fU,fU,pA,pA]at lU;rcases lU with rfl|hx|rfl
   ·exact CW (by decide)
   ·exact hO true (d+1) hi hl (fun t ht=>IY ns [] hu t ht) x hx
   ·exact CW (by decide)
theorem amT:∀(l:List Json) (first:Bool) (d:Int),cL l d=true->∀x∈lr l first,Lone x
 | [],_,_,_,x,hx=>by simp[lr]at hx
 | y::l,first,d,h,x,hx=>by
  simp only[cL,bF]at h;have h1:=amS y d h.1;have h2:=amT l false d h.2;simp only[lr,fU]at hx;rcases hx with hx|hx|hx
  ·cases first
   ·simp at hx; rw[hx]; exact CW (by decide)
   ·simp at hx
  ·exact h1 x hx
  ·exact h2 x hx
theorem amU:∀(ns:List ad) (l:List Json) (first:Bool) (d:Int),cL l d=true->ns.length=l.length->(∀t∈ns,dh t=true)->∀x∈jt ns l first,Lone x
 | _,[],_,_,_,_,_,x,hx=>by simp[jt]at hx
 | [],y::l,_,_,_,hl,_,_,_=>by cases hl
 | n::ns,y::l,first,d,h,hl,hv,x,hx=>by
  simp only[cL,bF]at h;have h1:=amS y d h.1;have h2:=amU ns l false d h.2 (by simpa using hl) (fun t ht=>hv t (by simp[ht]));simp only[jt,Ds,Dt,fU,eJ]at hx;rcases hx with hx|rfl|rfl|hx|hx
  ·cases first
   ·simp at hx; rw[hx]; exact CW (by decide)
   ·simp at hx
  ·exact amR (hv n (by simp))
  ·exact CW (by decide)
  ·exact h1 x hx
  ·exact h2 x hx
end
theorem aGs (b:UInt8):1<=(qb b).length:=by unfold qb; (repeat' split)<;>simp
theorem amV (t:ad):t.length<=(dW t).length:=by
 have:∀l:ad,l.length<=(l.flatMap qb).length:=by
  intro l
  induction l with
  | nil=>simp
  | cons b l ih=>
   have:=aGs b;simp only[Dr,bf,bj];omega
 have:=this t;unfold dW;simp only[bj,bf];omega
def nM (t:Token):Prop:=(t.kind=3->Fm t.num)/\(t.kind=2->dh t.text=true)/\(t.kind=4->qw t.text=true)
theorem amW {x:ad} (h:qw x=true):∃k:Int,(k=1\/k=2\/k=3)/\iu .str (.int .i64) x Fx=k:=by
 unfold qw at h;rw[je,je,beq_iff_eq,beq_iff_eq,beq_iff_eq]at h;rcases h with rfl|rfl|rfl
 ·exact⟨1,.inl rfl,rfl⟩
 ·exact⟨2,.inr (.inl rfl),rfl⟩
 ·exact⟨3,.inr (.inr rfl),rfl⟩
theorem FC {x:ad} {ts r:List Token} (h:∀t∈ts,nM t) (hs:cJ x ts=some r):∀t∈r,nM t:=by
 cases ts with
 | nil=>cases hs
 | cons t ts=>
  simp only[cJ]at hs;split at hs
  ·cases hs; exact fun u hu=>h u (by simp[hu])
  ·cases hs
theorem amX {ns:List ad} {ts:List Token} {p:ad×List Token} (h:∀t∈ts,nM t) (hs:pj ns ts=.ok p):dh p.1=true/\ns.contains p.1=false/\∀t∈p.2,nM t:=by
 cases ts with
 | nil=>cases hs
 | cons t ts=>
  simp only[pj]at hs;split at hs
  ·cases hs
  ·rename_i hk;split at hs
   ·cases hs
   ·rename_i hc;split at hs
    ·rename_i r hr;cases hs;exact⟨(h t (by simp)).2.1 (by simpa using hk),by simpa using hc,FC (fun u hu=>h u (by simp[hu])) hr⟩
    ·cases hs
def Sound (f:List Token->Except ju (Json×List Token)) (d:Int):Prop:=∀ts p,(∀t∈ts,nM t)->f ts=.ok p->cC p.1 d=true/\∀t∈p.2,nM t
def Inv (obj:Bool) (d:Int) (ns:List ad) (is:List Json):Prop:=cL is d=true/\(obj=true->ns.length=is.length/\fG [] ns=true)/\(obj=false->ns=[])
theorem amY {f:List Token->Except ju (Json×List Token)} {d:Int} (hf:Sound f d) {obj:Bool} {ns:List ad} {is:List Json} {ts:List Token} {p:(List ad×List Json)×List Token} (h:∀t∈ts,nM t) (hi:Inv obj d ns is) (hs:jX f obj ns is ts=.ok p) :
  Inv obj d p.1.1 p.1.2/\∀t∈p.2,nM t:=by
 obtain ⟨i1,i2,i3⟩:=hi;cases obj with
 | true=>
  simp only[jX]at hs;split at hs
  ·cases hs
  ·rename_i nm zg hn;obtain ⟨g1,g2,g3⟩:=amX h hn;split at hs
   ·cases hs
   ·rename_i v eG hv;obtain ⟨k1,k2⟩:=hf _ _ g3 hv;cases hs;obtain ⟨j1,j2⟩:=i2 rfl;refine⟨⟨by rw[Ze,i1,k1]; rfl,fun _=>⟨by simp[j1],?_⟩,fun h=>by cases h⟩,k2⟩;simp only at g1 g2;rw[amN,j2,g2,g1];rfl
 | false=>
  simp only[jX]at hs;split at hs
  ·cases hs
  ·rename_i v eG hv;obtain ⟨k1,k2⟩:=hf _ _ h hv;cases hs;exact⟨⟨by rw[Ze,i1,k1]; rfl,(fun h=>by cases h),i3⟩,k2⟩
theorem Zf {f:List Token->Except ju (Json×List Token)} {d:Int} (hf:Sound f d) {cl:ad} {obj:Bool}:∀(m:Nat) (ns:List ad) (is:List Json) (ts:List Token) (p:(List ad×List Json)×List Token),
  (∀t∈ts,nM t)->Inv obj d ns is->iN f cl obj m ns is ts=.ok p->Inv obj d p.1.1 p.1.2/\∀t∈p.2,nM t
 | 0,_,_,_,_,_,_,h=>by cases h
 | m+1,ns,is,ts,p,h,hi,hs=>by
  simp only[iN]at hs;split at hs
  ·cases hs
  ·rename_i q eG hq;obtain ⟨g1,g2⟩:=amY hf h hi hq;split at hs
   ·rename_i r hr;cases hs;exact⟨g1,FC g2 hr⟩
   ·split at hs
    ·rename_i r hr;exact Zf hf m _ _ _ _ (FC g2 hr) g1 hs
    ·cases hs
theorem IZ:∀(n:Nat) (d:Int),Sound (eH n d) d
 | 0,_,_,_,_,h=>by cases h
 | _+1,_,[],_,_,h=>by cases h
 | n+1,d,t::r,p,ht,h=>by
  have h0:=ht t (by simp);have xq:∀u∈r,nM u:=fun u hu=>ht u (by simp[hu])
  simp only[eH]at h;split at h
  ·cases h
  rename_i kG;split at h
  ·cases h
  rename_i hd;have CX:d<=16:=by omega
  split at h
  ·cases dm:t.text==([123]:ad)with
   | true=>
    rw[dm]at h;simp only[if_true]at h;split at h
    ·rename_i r' hr;cases h;exact⟨kq.2 (.obj [] [] d CX rfl rfl rfl),FC xq hr⟩
    ·split at h
     ·cases h
     ·rename_i q r' hq;cases h;obtain ⟨⟨g1,g2,_⟩,g4⟩:=Zf (IZ n (d+1)) _ _ _ _ _ xq ⟨rfl,fun _=>⟨rfl,rfl⟩,fun _=>rfl⟩ hq;obtain ⟨g5,g6⟩:=g2 rfl;exact⟨kq.2 (.obj _ _ d CX g5 g6 g1),g4⟩
   | false=>
    rw[dm]at h;simp only[jy,if_false]at h;split at h
    ·rename_i r' hr;cases h;exact⟨kq.2 (.arr [] d CX rfl),FC xq hr⟩
    ·split at h
     ·cases h
     ·rename_i q r' hq;cases h;obtain ⟨⟨g1,_,g3⟩,g4⟩:=Zf (IZ n (d+1)) _ _ _ _ _ xq ⟨rfl,(fun h=>by cases h),fun _=>rfl⟩ hq;have:=g3 rfl;simp only at this ⊢;rw[this];exact⟨kq.2 (.arr _ d CX g1),g4⟩
  rename_i lD;split at h
  ·rename_i jc;cases h;obtain ⟨k,hk,e⟩:=amW jc.2;simp only[e];exact⟨kq.2 (.name k d CX hk),xq⟩
  rename_i jc;split at h
  ·rename_i sK;cases h;exact⟨kq.2 (.num _ d CX (h0.1 sK)),xq⟩
  ·rename_i sK;cases h;have fj:t.kind=2:=by
    have amZ:jY t=true:=by simpa using kG
    simp only[jY,je,bF,beq_iff_eq]at amZ;rcases amZ with h|h|h|⟨h,h'⟩
    ·exact h
    ·exact(sK h).elim
    ·exact(jc ⟨h,h0.2.2 h⟩).elim
    ·exact(lD ⟨h,h'⟩).elim
   exact⟨kq.2 (.text _ d CX (h0.2.1 fj)),xq⟩
theorem am0 (neg:Bool) (all:ad) (x:Int) (h:∀c∈all,eN c) (ok:(lO neg all x).2=true):Fm (lO neg all x).1:=by
 unfold lO at ok ⊢;by_cases h0:bx (aK all [48]) [48]=[]
 ·rw[if_pos h0];exact Fm.yV
 rw[if_neg h0]at ok ⊢;obtain ⟨f1,f2,f3⟩:=YF all h h0;have hm:bK (cr (bx (aK all [48]) [48]) 0:Int) 10≠0:=by rw[PX (by omega)]; omega
 cases neg with
 | true=>
  rw[if_pos rfl]at ok ⊢;obtain ⟨e,g⟩:=alb (tmod_neg hm) ok;rw[e];exact g
 | false=>
  rw[if_neg (by simp)]at ok ⊢;obtain ⟨e,g⟩:=alb hm ok;rw[e];exact g
theorem am1 (neg:Bool) (all:ad) (x:Int) (X:ad) (h:∀c∈all,eN c) (ok:(tailD neg all x X).2=true):Fm (tailD neg all x X).1:=by
 unfold tailD at ok ⊢;split
 ·rename_i h1;rw[if_pos h1]at ok;split
  ·rename_i h2;rw[if_pos h2]at ok;exact am0 _ _ _ h ok
  ·exact Fm.yV
 ·rename_i h1;rw[if_neg h1]at ok;split
  ·exact Fm.yV
  ·rename_i h2;rw[if_neg h2]at ok;split
   ·rename_i h3;rw[if_pos h3]at ok;exact am0 _ _ _ h ok
   ·exact Fm.yV
theorem aGt (s:ad) (ok:(kW s).2=true):Fm (kW s).1:=by
 unfold kW at ok ⊢;simp only at ok ⊢;split
 ·exact Fm.yV
 rename_i h1;rw[if_neg h1]at ok;split
 ·exact Fm.yV
 rename_i h2;rw[if_neg h2]at ok;split
 ·exact Fm.yV
 rename_i h3;rw[if_neg h3]at ok;split
 ·rename_i h4;rw[if_pos h4]at ok;exact am1 _ _ _ _ (uO _) ok
 ·rename_i h4;rw[if_neg h4]at ok;split
  ·exact Fm.yV
  ·rename_i h5;rw[if_neg h5]at ok;exact am1 _ _ _ _ (fun c hc=>(fU.1 hc).elim (uO _ c) (uO _ c)) ok
theorem am2:∀(n:Nat) (s o o' r:ad),uq n s o=some (o',r)->o'.length+4*r.length<=o.length+4*s.length
 | 0,_,_,_,_,h=>by cases h
 | n+1,s,o,o',r,h=>by
  simp only[uq]at h;split at h
  ·simp only[ij,kA]at h;obtain ⟨rfl,rfl⟩:=h;rw[ct];omega
  ·split at h
   ·cases h
   ·rename_i c r1 hs;have h1:=am2 n r1 (o++enc c) o' r h;obtain ⟨hv,hl⟩:=Yd hs;have h2:=(ux hv).2;simp only[bf]at h1;omega
theorem tokS_ok {s r:ad} {t:Token} (h:tokS s=some (t,r)):nM t/\t.text.length<=4*s.length:=by
 cases s with
 | nil=>cases h
 | cons c u=>
  simp only[tokS]at h;split at h
  ·split at h
   ·rename_i hp;simp only[ij,kA]at h;rw[<-h.1];refine⟨⟨fun _=>aGt _ hp,(fun h=>by cases h),(fun h=>by cases h)⟩,?_⟩;have:=(List.takeWhile_prefix (l:=c::u) dV).length_le;simp only;omega
   ·cases h
  ·split at h
   ·split at h
    ·rename_i o q hq;simp only[ij,kA]at h;rw[<-h.1];obtain ⟨_,_,rs,h3,h4⟩:=YH hq;refine⟨⟨(fun h=>by cases h),fun _=>Cw.2 ⟨rs,h3,h4⟩,(fun h=>by cases h)⟩,?_⟩;unfold nI at hq;split at hq
     ·have:=am2 _ _ _ _ _ hq;rw[ct]at this;simp only[cu,bj]at this ⊢;omega
     ·cases hq
    ·cases h
   ·split at h
    ·simp only[ij,kA]at h;rw[<-h.1];exact⟨⟨(fun h=>by cases h),(fun h=>by cases h),(fun h=>by cases h)⟩,by simp; omega⟩
    ·split at h
     ·rename_i hw;simp only[ij,kA]at h;rw[<-h.1];refine⟨⟨(fun h=>by cases h),(fun h=>by cases h),fun _ => ?_⟩,?_⟩
      ·rcases hw with hw|hw|hw<;>simp only[hw]<;>rfl
      ·have:=(List.takeWhile_prefix (l:=c::u) dv).length_le;simp only;omega
     ·cases h
def OT (t:Token):Prop:=nM t/\t.text.length<=80000
theorem am3:∀(n p:Nat) (s:ad) (out:List Token),s.length<=20000->(∀t∈out,OT t)->∀t∈(fQ n p s out).1,OT t
 | 0,_,_,_,_,_=>by intro t ht; cases ht
 | n+1,p,s,out,hs,ho=>by
  simp only[fQ];split
  ·intro t ht;rcases fU.1 ht with ht|ht
   ·exact ho t ht
   ·obtain rfl:=pA.1 ht;exact⟨⟨(fun h=>by cases h),(fun h=>by cases h),(fun h=>by cases h)⟩,by simp⟩
  ·have hd:=pW da s;split
   ·intro t ht; cases ht
   ·rename_i t r hr;have h3:=(tokS_sfx hr).2;obtain ⟨g1,g2⟩:=tokS_ok hr;refine am3 n _ r _ (by omega) fun x hx => ?_
    rcases fU.1 hx with hx|hx
    ·exact ho x hx
    ·obtain rfl:=pA.1 hx;exact⟨g1,by show t.text.length<=80000; omega⟩
theorem aGu (s:ad):∀t∈(eX s).1,OT t:=by
 unfold eX;split
 ·intro t ht; cases ht
 ·exact am3 _ _ _ _ (by omega) (by intro t ht; cases ht)
def tokN (t:Token):Nat:=6*t.text.length+70
def tokL:List Token->Nat
 | []=>0
 | t::l=>tokN t+tokL l
theorem tokL_le:∀(l:List Token),(∀t∈l,OT t)->tokL l<=l.length*480070
 | [],_=>cD _
 | t::l,h=>by
  have h1:=tokL_le l fun x hx=>h x (by simp[hx])
  have h2:=(h t (by simp)).2;simp only[tokL,tokN,bj];omega
theorem I0 {x:ad} {ts r:List Token} (hs:cJ x ts=some r):tokL r+70<=tokL ts:=by
 cases ts with
 | nil=>cases hs
 | cons t ts=>
  simp only[cJ]at hs;split at hs
  ·cases hs; simp only[tokL,tokN]; omega
  ·cases hs
theorem aGv {ns:List ad} {ts:List Token} {p:ad×List Token} (hs:pj ns ts=.ok p):(dW p.1).length+tokL p.2+130<=tokL ts:=by
 cases ts with
 | nil=>cases hs
 | cons t ts=>
  simp only[pj]at hs;split at hs
  ·cases hs
  ·split at hs
   ·cases hs
   ·split at hs
    ·rename_i r hr;cases hs;have h1:=I0 hr;have h2:=FA t.text;simp only[tokL,tokN];omega
    ·cases hs
def Zg (f:List Token->Except ju (Json×List Token)):Prop:=∀ts p,(∀t∈ts,nM t)->f ts=.ok p->(bT p.1).length+tokL p.2<=tokL ts
def A3 (obj:Bool) (ns:List ad) (is:List Json):Nat:=if obj then(eO ns is true).length else(fx is true).length
theorem aGw {f:List Token->Except ju (Json×List Token)} {d:Int} (B7:Sound f d) (hf:Zg f) {obj:Bool} {ns:List ad} {is:List Json} {ts:List Token} {p:(List ad×List Json)×List Token} (h:∀t∈ts,nM t) (hi:Inv obj d ns is) (hs:jX f obj ns is ts=.ok p) :
  A3 obj p.1.1 p.1.2+tokL p.2<=A3 obj ns is+1+tokL ts:=by
 obtain ⟨i1,i2,i3⟩:=hi;cases obj with
 | true=>
  simp only[jX]at hs;split at hs
  ·cases hs
  ·rename_i nm zg hn;obtain ⟨_,_,g3⟩:=amX h hn;have g4:=aGv hn;split at hs
   ·cases hs
   ·rename_i v eG hv;have k1:=hf _ _ g3 hv;cases hs;have:=amP ns is nm v true (i2 rfl).1;simp only[A3,if_true]at g4 k1 ⊢;omega
 | false=>
  simp only[jX]at hs;split at hs
  ·cases hs
  ·rename_i v eG hv;have k1:=hf _ _ h hv;cases hs;have:=amO is v true;simp only[A3,jy,if_false]at k1 ⊢;omega
theorem Zh {f:List Token->Except ju (Json×List Token)} {d:Int} (B7:Sound f d) (hf:Zg f) {cl:ad} {obj:Bool}:∀(m:Nat) (ns:List ad) (is:List Json) (ts:List Token) (p:(List ad×List Json)×List Token),
  (∀t∈ts,nM t)->Inv obj d ns is->iN f cl obj m ns is ts=.ok p->A3 obj p.1.1 p.1.2+tokL p.2+60<=A3 obj ns is+1+tokL ts
 | 0,_,_,_,_,_,_,h=>by cases h
 | m+1,ns,is,ts,p,h,hi,hs=>by
  simp only[iN]at hs;split at hs
  ·cases hs
  ·rename_i q eG hq;obtain ⟨g1,g2⟩:=amY B7 h hi hq;have g3:=aGw B7 hf h hi hq;split at hs
   ·rename_i r hr;cases hs;have g4:=I0 hr;simp only at g3 g4 ⊢;omega
   ·split at hs
    ·rename_i r hr;have g4:=I0 hr;have g5:=Zh B7 hf m _ _ _ _ (FC g2 hr) g1 hs;simp only at g3 g4 g5 ⊢;omega
    ·cases hs
theorem aGx {k:Int} (hk:k=1\/k=2\/k=3):(bT ⟨k,⟨0,0⟩,[],[],[]⟩).length<=60:=by
 rcases hk with rfl|rfl|rfl<;>decide
theorem Zi:∀(n:Nat) (d:Int),Zg (eH n d)
 | 0,_,_,_,_,h=>by cases h
 | _+1,_,[],_,_,h=>by cases h
 | n+1,d,t::r,p,ht,h=>by
  have h0:=ht t (by simp);have xq:∀u∈r,nM u:=fun u hu=>ht u (by simp[hu])
  have et:tokL (t::r)=tokN t+tokL r:=rfl;have en:tokN t=6*t.text.length+70:=rfl;simp only[eH]at h;split at h
  ·cases h
  split at h
  ·cases h
  split at h
  ·cases dm:t.text==([123]:ad)with
   | true=>
    rw[dm]at h;simp only[if_true]at h;split at h
    ·rename_i r' hr;cases h;have:=I0 hr;show 2+tokL r'<=_;omega
    ·split at h
     ·cases h
     ·rename_i q r' hq;cases h;have g:=Zh (IZ n (d+1)) (Zi n (d+1)) _ _ _ _ _ xq ⟨rfl,fun _=>⟨rfl,rfl⟩,fun _=>rfl⟩ hq;have e:bT ⟨7,⟨0,0⟩,[],q.1,q.2⟩=123::(eO q.1 q.2 true++[125]):=by simp only[bT]; rfl
      simp only[A3,if_true,eO,cu]at g;show(bT ⟨7,⟨0,0⟩,[],q.1,q.2⟩).length+tokL r'<=_;rw[e];simp only[bj,bf,cu];omega
   | false=>
    rw[dm]at h;simp only[jy,if_false]at h;split at h
    ·rename_i r' hr;cases h;have:=I0 hr;show 2+tokL r'<=_;omega
    ·split at h
     ·cases h
     ·rename_i q r' hq;cases h;have g:=Zh (IZ n (d+1)) (Zi n (d+1)) _ _ _ _ _ xq ⟨rfl,(fun h=>by cases h),fun _=>rfl⟩ hq;have e:bT ⟨6,⟨0,0⟩,[],q.1,q.2⟩=91::(fx q.2 true++[93]):=by simp only[bT]; rfl
      simp only[A3,jy,if_false,fx,cu]at g;show(bT ⟨6,⟨0,0⟩,[],q.1,q.2⟩).length+tokL r'<=_;rw[e];simp only[bj,bf,cu];omega
  rename_i lD;split at h
  ·rename_i jc;cases h;obtain ⟨k,hk,e⟩:=amW jc.2;have:=aGx hk;simp only[e];omega
  rename_i jc;split at h
  ·rename_i sK;cases h;have:=amQ (h0.1 sK);have e:bT ⟨4,t.num,[],[],[]⟩=fR t.num:=by simp only[bT]; rfl
   simp only[e];omega
  ·cases h;have:=FA t.text;have e:bT ⟨5,⟨0,0⟩,t.text,[],[]⟩=dW t.text:=by simp only[bT]; rfl
   simp only[e];omega
mutual
theorem FD:∀(v:Json) (d:Int),cC v d=true->(bT v).length<=10000000000->nK v=true/\1<=(bT v).length
 | ⟨k,n,t,ns,is⟩,d,h,hl=>by
  have hL:=am4 is true;have hO:=am5 ns is true;cases kq.1 h with
  | name _ _ hd hk=>rcases hk with rfl|rfl|rfl<;>exact⟨rfl,by decide⟩
  | num _ _ hd hn=>
   refine⟨rfl,?_⟩;have:=aGo ⟨4,n,[],[],[]⟩ (by rw[kq]; exact .num n 1 (by omega) hn);cases hp:bT ⟨4,n,[],[],[]⟩with
   | nil=>exact(this hp).elim
   | cons _ _=>simp
  | text _ _ hd ht=>
   have e:bT ⟨5,⟨0,0⟩,t,[],[]⟩=dW t:=by simp only[bT]; rfl
   have:=amV t;rw[e]at hl ⊢;exact⟨uQ.2 ⟨by simp,by simp,rfl,by simp only; omega,by simp⟩,by simp[dW]⟩
  | arr _ _ hd hi=>
   have e:bT ⟨6,⟨0,0⟩,[],[],is⟩=91::(fx is true++[93]):=by simp only[bT]; rfl
   rw[e]at hl ⊢;simp only[bj,bf,cu]at hl;obtain ⟨g1,g2⟩:=hL (d+1) hi (by omega);exact⟨uQ.2 ⟨by simp,by simp only; omega,g1,by simp,by simp⟩,by simp⟩
  | obj _ _ _ hd hlen hu hi=>
   have e:bT ⟨7,⟨0,0⟩,[],ns,is⟩=123::(eO ns is true++[125]):=by simp only[bT]; rfl
   rw[e]at hl ⊢;simp only[bj,bf,cu]at hl;obtain ⟨g1,g2,g3⟩:=hO (d+1) hi hlen (by omega);exact⟨uQ.2 ⟨by simp only; omega,by simp only; omega,g1,by simp,g3⟩,by simp⟩
theorem am4:∀(l:List Json) (first:Bool) (d:Int),cL l d=true->(fx l first).length<=10000000000->qu l=true/\l.length<=(fx l first).length
 | [],_,_,_,_=>⟨rfl,by simp⟩
 | x::l,first,d,h,hl=>by
  simp only[cL,bF]at h;have h1:=FD x d h.1;have h2:=am4 l false d h.2;simp only[fx,bf]at hl ⊢;obtain ⟨a1,a2⟩:=h1 (by omega);obtain ⟨b1,b2⟩:=h2 (by omega);refine⟨by simp only[qu,a1,b1]; rfl,?_⟩;simp only[bj];omega
theorem am5:∀(ns:List ad) (l:List Json) (first:Bool) (d:Int),cL l d=true->ns.length=l.length->(eO ns l first).length<=10000000000->qu l=true/\l.length<=(eO ns l first).length/\∀n∈ns,n.length<=10000000000
 | ns,[],_,_,_,hlen,_=>by
  obtain rfl:ns=[]:=gH hlen;exact⟨rfl,by simp,by simp⟩
 | [],x::l,_,_,_,hlen,_=>by cases hlen
 | n::ns,x::l,first,d,h,hlen,hl=>by
  simp only[cL,bF]at h;have h1:=FD x d h.1;have h2:=am5 ns l false d h.2 (by simpa using hlen);simp only[eO,bf,Ds,Dt,bj]at hl ⊢;obtain ⟨a1,a2⟩:=h1 (by omega);obtain ⟨b1,b2,b3⟩:=h2 (by omega);have h3:=amV n;refine⟨by simp only[qu,a1,b1]; rfl,by omega,fun m hm => ?_⟩;rcases eJ.1 hm with rfl|hm
  ·omega
  ·exact b3 m hm
end
theorem aGy (s:ad) (h:(ig s).2.1=0):cC (ig s).1 1=true/\nK (ig s).1=true/\(bT (ig s).1).length<=10000000000:=by
 unfold ig at h ⊢;by_cases h0:(eX s).2.1=0;rotate_left
 ·rw[if_pos h0]at h;exact(h0 h).elim
 rw[if_neg (by simpa using h0)]at h ⊢;have hf:=aGu s;have hlen:=Y6 s;cases hq:eH 40 1 (eX s).1 with
 | error b=>
  rw[hq]at h;simp only at h;have hb:b.1≠0:=by
   have hv:=amr (R:=Unit) 20002 (by omega) 40 1 (by omega) (by omega) (by omega) (eX s).1 (Y7 s h0) hlen;rw[hq]at hv;exact hv.1.2
  exact(hb h).elim
 | ok p=>
  rw[hq]at h;obtain ⟨v,r⟩:=p;simp only at h ⊢;split
  ·rename_i hk;rw[if_pos hk]at h;cases h
  ·obtain ⟨g1,_⟩:=IZ 40 1 _ _ (fun t ht=>(hf t ht).1) hq;have g2:=Zi 40 1 _ _ (fun t ht=>(hf t ht).1) hq;have g3:=tokL_le _ hf;simp only at g1 g2 ⊢;have g4:(bT v).length<=10000000000:=by
    have:(eX s).1.length*480070<=20002*480070:=iP _ hlen;omega
   exact⟨g1,(FD v 1 g1 g4).1,g4⟩
abbrev tm:Json:=⟨0,⟨0,0⟩,[],[],[]⟩
theorem tp {T:List Token} {p:Nat} {t:Token} {r:List Token} (h:T.drop p=t::r) (d:Token):T.getD ((p:Int)).toNat d=t/\T.drop (p+1)=r/\p<T.length:=by
 have hp:p<T.length:=by
  rcases mo p T.length with h'|h'
  ·exact h'
  ·rw[gQ h']at h; cases h
 rw[im hp]at h;simp only[Jd]at h;refine⟨?_,h.2,hp⟩;rw[cM,List.getD_eq_getElem?_getD,List.getElem?_eq_getElem hp];exact h.1
theorem am6 {a b:ad} (Eb:a≠b) {ts r:List Token} (h:cJ a ts=some r):cJ b ts=none:=by
 cases ts with
 | nil=>cases h
 | cons t ts=>
  simp only[cJ]at h ⊢;split at h
  ·rename_i hc;rw[if_neg (fun g=>Eb (hc.2.symm.trans g.2))]
  ·cases h
theorem I1 {R:Type} (x:ad) {T:List Token} {p:Nat} (hT:T.length<=1000000000) (hn:T.drop p≠[]) (k:Bool->List Token->Int->Int->Option R) :
  dT x T (p:Int) 0 k=match cJ x (T.drop p)with|some _=>k true T ((p+1:Nat):Int) 0|none=>k false T (p:Int) 0:=by
 cases hd:T.drop p with
 | nil=>exact(hn hd).elim
 | cons t r=>
  obtain ⟨h1,h2,h3⟩:=tp hd (Ty.az .token);have c1:(decide ((0:Int)<=(p:Int))&&decide ((p:Int)<(T.length:Int)))=true:=by simp; omega
  have hw:ae.wrap ((p:Int)+1)=((p+1:Nat):Int):=by rw[aV (by omega) (by omega)]; omega
  have e0:dT x T (p:Int) 0 k=E9 x T (p:Int) 0 k:=rfl;rw[e0];unfold E9;rw[h1,aw c1,aw c1,hw];simp only[cJ];by_cases k1:t.kind=1
  ·have b1:(t.kind==1)=true:=by simpa using k1
   by_cases k2:t.text=x
   ·have b2:(t.text==x)=true:=by simpa using k2
    rw[if_pos ⟨k1,k2⟩,b1,b2];rfl
   ·have b2:(t.text==x)=false:=by simpa using k2
    rw[if_neg (fun h=>k2 h.2),b1,b2];rfl
  ·have b1:(t.kind==1)=false:=by simpa using k1
   rw[if_neg (fun h=>k1 h.1),b1];rfl
theorem OU {R:Type} (x:ad) (T:List Token) (p c:Int) (hc:c≠0) (k:Bool->List Token->Int->Int->Option R):dT x T p c k=k false T p c:=by
 have e0:dT x T p c k=E9 x T p c k:=rfl;rw[e0];unfold E9;have:(c==0)=false:=by simpa using hc
 rw[this];rfl
theorem Zj {R:Type} (x:ad) {T:List Token} {p:Nat} (hT:T.length<=1000000000) (hn:T.drop p≠[]) (k:List Token->Int->Int->Option R) :
  ic x T (p:Int) 0 k=match cJ x (T.drop p)with|some _=>k T ((p+1:Nat):Int) 0|none=>k T (p:Int) 40:=by
 have e0:ic x T (p:Int) 0 k=Fa dT x T (p:Int) 0 k:=rfl;rw[e0];unfold Fa;rw[I1 x hT hn];cases cJ x (T.drop p)<;>rfl
theorem Zk {R:Type} (x:ad) (T:List Token) (p c:Int) (hc:c≠0) (k:List Token->Int->Int->Option R):ic x T p c k=k T p c:=by
 have e0:ic x T p c k=Fa dT x T p c k:=rfl;rw[e0];unfold Fa;rw[OU x T p c hc];have:(c==0)=false:=by simpa using hc
 rw[this];rfl
theorem aGz {R:Type} (ns:List ad) (x:ad) (hl:ns.length<=1099511627776) (k:Bool->Option R):∀(F i:Nat),i<=ns.length->ns.length - i<F->rW F ns x (i:Int) (k false) (fun y=>k y)=k ((ns.drop i).contains x):=by
 intro F
 induction F with
 | zero=>intro i _ h; omega
 | succ F ih=>
  intro i hi hF;show Nc (fun x0 x1 x2=>rW F x0 x1 x2 _ _) ns x (i:Int) _ _=_;unfold Nc;by_cases h:i<ns.length
  ·have h1:decide ((i:Int)<(ns.length:Int))=true:=by simp; omega
   have c1:(decide ((0:Int)<=(i:Int))&&decide ((i:Int)<(ns.length:Int)))=true:=by simp; omega
   have hw:ae.wrap ((i:Int)+1)=((i+1:Nat):Int):=by rw[aV (by omega) (by omega)]; omega
   have hg:ns.getD (i:Int).toNat (Ty.az .str)=ns[i]:=getD_at h _;rw[h1,cond_true,aw (by simpa [h1]using c1),hg,im h,nR];have am7:(x==ns[i])=(ns[i]==x):=by rw[FQ,beq_iff_eq,beq_iff_eq]; exact eq_comm
   cases hq:ns[i]==x with
   | true=>rw[cond_true,am7,hq,Bool.true_or]
   | false=>
    rw[cond_false,am7,hq,sn,hw];exact ih (i+1) (by omega) (by omega)
  ·have h1:decide ((i:Int)<(ns.length:Int))=false:=by simp; omega
   rw[h1,cond_false,gQ (by omega)];rfl
theorem am8 {R:Type} (ns:List ad) (x:ad) (hl:ns.length<=1099511627776) (k:Bool->Option R):gv ns x k=k (ns.contains x):=by
 have:=aGz ns x hl k (av ns+av x+ah 0+64) 0 (by omega) (by omega);rw[fV]at this;exact this
def kindOk (t:Token):Prop:=(t.kind=1\/t.kind=2\/t.kind=3\/t.kind=4\/t.kind=5)/\(t.kind=4->qw t.text=true)
def aGA {R:Type} (bN:nH R) (d:Int) (T:List Token) (p:Nat) (q:Json×List Token):Prop:=
 fS q.2/\∃p':Nat,T.drop p'=q.2/\∀k:Json->List Token->Int->Int->Option R,bN d T (p:Int) 0 k=k q.1 T (p':Int) 0
def aGB {R:Type} (bN:nH R) (d:Int) (T:List Token) (p:Nat) (b:ju):Prop:=
 (fS b.2/\b.1≠0)/\∃(v:Json) (p':Nat),T.drop p'=b.2/\∀k:Json->List Token->Int->Int->Option R,bN d T (p:Int) 0 k=k v T (p':Int) b.1
def am9 {R:Type} (bN:nH R) (f:List Token->Except ju (Json×List Token)) (d:Int) (T:List Token):Prop:=
 (∀(p c:Int),c≠0->∀k:Json->List Token->Int->Int->Option R,bN d T p c k=k tm T p c) /\
 ∀p:Nat,fS (T.drop p)->zi (aGA bN d T p) (aGB bN d T p) (f (T.drop p))
section
variable {R:Type} (bN:nH R) (f:List Token->Except ju (Json×List Token)) (oD:∀ts p,f ts=.ok p->p.2.length<ts.length) (d:Int) (hd:0<=d/\d<=16) (T:List Token) (hT:T.length<=100000000)
 (hv:am9 bN f (d+1) T) (c1 c2 c3:Int) (c4:ad) (c5 c6 c7:Int) (c8:ad)
include oD hd hT hv
theorem aGC:∀(F m:Nat) (is:List Json) (p n:Nat),(T.drop p).length+1<F->(T.drop p).length<m->fS (T.drop p)->is.length+(T.drop p).length<=1000000000 ->
  zi (fun q:(List ad×List Json)×List Token=>fS q.2/\q.1.1=[]/\∃(p' n':Nat),T.drop p'=q.2/\∀e0,jS bN F d false T (p:Int) 0 c1 c2 c3 c4 c5 c6 c7 c8 n is e0=e0 T (p':Int) 0 c1 c2 c3 c4 c5 c6 c7 c8 n' q.1.2)
   (fun b=>(fS b.2/\b.1≠0)/\∃(p' n':Nat) (pk:List Json),T.drop p'=b.2/\∀e0,jS bN F d false T (p:Int) 0 c1 c2 c3 c4 c5 c6 c7 c8 n is e0=e0 T (p':Int) b.1 c1 c2 c3 c4 c5 c6 c7 c8 n' pk)
   (iN f [93] false m [] is (T.drop p)):=by
 have qv:∀(F:Nat) (p c:Int) (n:Nat) (is:List Json) e0,jS bN (F+1) d true T p c c1 c2 c3 c4 c5 c6 c7 c8 n is e0=e0 T p c c1 c2 c3 c4 c5 c6 c7 c8 n is:=fun F p c n is e0=>rfl
 intro F
 induction F with
 | zero=>intro m is p n h; omega
 | succ F ih=>
  intro m is p n hF hm he ga;obtain ⟨m,rfl⟩:∃j,m=j+1:=⟨m - 1,by omega⟩;obtain ⟨F,rfl⟩:∃j,F=j+1:=⟨F - 1,by have:0<(T.drop p).length:=Ba.2 he.ne; omega⟩;have hw:ae.wrap (d+1)=d+1:=aV (by omega) (by omega);have ck:decide ((is.length+1)*88<=140737488355328)=true:=by rw[decide_eq_true_eq]; omega
  have e1:∀e0,jS bN (F+1+1) d false T (p:Int) 0 c1 c2 c3 c4 c5 c6 c7 c8 n is e0 =
    bN (ae.wrap (d+1)) T (p:Int) 0 (fun cH cN fo dG=>ag (decide ((is.length+1)*88<=140737488355328)) (dT [44] cN fo dG (fun fv ff iX kN=>bif(!fv)then(ic [93] ff iX kN (fun kO ia l8=>jS bN (F+1) d true kO ia l8 c1 c2 c3 c4 c5 c6 c7 c8 (is.length+1) (is++[⟨cH.kind,⟨cH.num.aj,cH.num.exp⟩,cH.text,cH.names,cH.items⟩]) e0))else jS bN (F+1) d false ff iX kN c1 c2 c3 c4 c5 c6 c7 c8 (is.length+1) (is++[⟨cH.kind,⟨cH.num.aj,cH.num.exp⟩,cH.text,cH.names,cH.items⟩]) e0))):=fun e0=>rfl
  simp only[Json.eta]at e1;have h2:=hv.2 p he;simp only[iN,jX];cases hf:f (T.drop p)with
  | error q=>
   rw[hf]at h2;obtain ⟨⟨g1,g2⟩,v,p',g3,g4⟩:=h2;refine⟨⟨g1,g2⟩,p',is.length+1,is++[v],g3,fun e0 => ?_⟩;rw[e1,hw,g4,aw ck,OU _ _ _ _ g2,iq,cond_true,Zk _ _ _ _ g2,qv]
  | ok q=>
   obtain ⟨v,eG⟩:=q;rw[hf]at h2;obtain ⟨g1,p',g3,g4⟩:=h2;have hlen:=oD _ _ hf;simp only at g1 g3 g4 hlen ⊢;have aT:T.drop p'≠[]:=by rw[g3]; exact g1.ne
   have s1:=fun k:Bool->List Token->Int->Int->Option R=>I1 [44] (p:=p') (by omega) aT k
   have s2:=fun k:List Token->Int->Int->Option R=>Zj [93] (p:=p') (by omega) aT k
   rw[g3]at s1 s2;cases hs:cJ [93] eG with
   | some r=>
    have kr:=am6 (b:=[44]) (by decide) hs;rw[kr]at s1;rw[hs]at s2;simp only at s1 s2;have js:T.drop (p'+1)=r:=by
     cases eG with
     | nil=>cases hs
     | cons t u=>
      simp only[cJ]at hs;split at hs
      ·cases hs; exact(tp g3 (Ty.az .token)).2.1
      ·cases hs
    refine⟨tj g1 hs,rfl,p'+1,is.length+1,js,fun e0 => ?_⟩;rw[e1,hw,g4,aw ck,s1,iq,cond_true,s2,qv]
   | none=>
    simp only;cases kr:cJ [44] eG with
    | none=>
     rw[kr]at s1;rw[hs]at s2;simp only at s1 s2;refine⟨⟨g1,by show(_:Int)≠0; simp⟩,p',is.length+1,is++[v],g3,fun e0 => ?_⟩;rw[e1,hw,g4,aw ck,s1,iq,cond_true,s2,qv]
    | some r=>
     rw[kr]at s1;simp only at s1;have hl3:=zh kr;have js:T.drop (p'+1)=r:=by
      cases eG with
      | nil=>cases kr
      | cons t u=>
       simp only[cJ]at kr;split at kr
       ·cases kr; exact(tp g3 (Ty.az .token)).2.1
       ·cases kr
     have xp:=ih m (is++[v]) (p'+1) (is.length+1) (by rw[js]; omega) (by rw[js]; omega) (by rw[js]; exact tj g1 kr) (by rw[js]; simp; omega);rw[js]at xp;have e3:∀e0,jS bN (F+1+1) d false T (p:Int) 0 c1 c2 c3 c4 c5 c6 c7 c8 n is e0=jS bN (F+1) d false T ((p'+1:Nat):Int) 0 c1 c2 c3 c4 c5 c6 c7 c8 (is.length+1) (is++[v]) e0:=fun e0=>by
      rw[e1,hw,g4,aw ck,s1,cE,cond_false]
     simp only[e3];exact xp
theorem aGD:∀(F m:Nat) (ns:List ad) (is:List Json) (p n:Nat),(T.drop p).length+1<F->(T.drop p).length<m->fS (T.drop p)->is.length+(T.drop p).length<=1000000000->ns.length+(T.drop p).length<=1000000000 ->
  zi (fun q:(List ad×List Json)×List Token=>fS q.2/\∃(p' n':Nat),T.drop p'=q.2/\∀e0,iZ bN F d false T (p:Int) 0 c1 c2 c3 c4 c5 c6 c7 c8 ns n is e0=e0 T (p':Int) 0 c1 c2 c3 c4 c5 c6 c7 c8 q.1.1 n' q.1.2)
   (fun b=>(fS b.2/\b.1≠0)/\∃(p' n':Nat) (uR:List ad) (pk:List Json),T.drop p'=b.2/\∀e0,iZ bN F d false T (p:Int) 0 c1 c2 c3 c4 c5 c6 c7 c8 ns n is e0=e0 T (p':Int) b.1 c1 c2 c3 c4 c5 c6 c7 c8 uR n' pk)
   (iN f [125] true m ns is (T.drop p)):=by
 have qv:∀(F:Nat) (p c:Int) (ns:List ad) (n:Nat) (is:List Json) e0,iZ bN (F+1) d true T p c c1 c2 c3 c4 c5 c6 c7 c8 ns n is e0=e0 T p c c1 c2 c3 c4 c5 c6 c7 c8 ns n is:=fun F p c ns n is e0=>rfl
 intro F
 induction F with
 | zero=>intro m ns is p n h; omega
 | succ F ih=>
  intro m ns is p n hF hm he ga ei;obtain ⟨m,rfl⟩:∃j,m=j+1:=⟨m - 1,by omega⟩;obtain ⟨F,rfl⟩:∃j,F=j+1:=⟨F - 1,by have:0<(T.drop p).length:=Ba.2 he.ne; omega⟩;have hw:ae.wrap (d+1)=d+1:=aV (by omega) (by omega);have ck:decide ((is.length+1)*88<=140737488355328)=true:=by rw[decide_eq_true_eq]; omega
  have ck2:decide ((ns.length+1)*16<=140737488355328)=true:=by rw[decide_eq_true_eq]; omega
  cases si:T.drop p with
  | nil=>exact(he.ne si).elim
  | cons t ts=>
  rw[si]at he hF hm ga ei;obtain ⟨h1,h2,h3⟩:=tp si (Ty.az .token);have Zl:ae.wrap ((p:Int)+1)=((p+1:Nat):Int):=by rw[aV (by omega) (by omega)]; omega
  have cp:(decide ((0:Int)<=(p:Int))&&decide ((p:Int)<(T.length:Int)))=true:=by simp; omega
  have e1:∀e0,iZ bN (F+1+1) d false T (p:Int) 0 c1 c2 c3 c4 c5 c6 c7 c8 ns n is e0 =
    (bif(t.kind != 2)then(e0 T (p:Int) 40 c1 c2 c3 c4 c5 c6 c7 c8 ns n is)else(gv ns t.text (fun yT=>bif yT then(e0 T (p:Int) 42 c1 c2 c3 c4 c5 c6 c7 c8 ns n is)else(ic [58] T ((p+1:Nat):Int) 0 (fun E8 uG rR=>bN (d+1) E8 uG rR (fun mK EW HE HF=>dT [44] EW HE HF (fun Cr ui uj Ic=>bif(!Cr)then(ic [125] ui uj Ic (fun Xo Xp Cs=>iZ bN (F+1) d true Xo Xp Cs c1 c2 c3 c4 c5 c6 c7 c8 (ns++[t.text]) (is.length+1) (is++[mK]) e0))else iZ bN (F+1) d false ui uj Ic c1 c2 c3 c4 c5 c6 c7 c8 (ns++[t.text]) (is.length+1) (is++[mK]) e0)))))):Option R):=fun e0=>by
   have e2:iZ bN (F+1+1) d false T (p:Int) 0 c1 c2 c3 c4 c5 c6 c7 c8 ns n is e0=N1 dT ic bN gv (fun x0 x1 x2 x3 x4 x5 x6 x7 x8 x9 gL hU hY eK fC bw=>iZ bN (F+1) x0 x1 x2 x3 x4 x5 x6 x7 x8 x9 gL hU hY eK fC bw e0) d false T (p:Int) 0 c1 c2 c3 c4 c5 c6 c7 c8 ns n is e0:=rfl;rw[e2];unfold N1;simp only[Json.eta];rw[iq,cond_true,show((0:Int)==0)=true from rfl,cond_true,h1,aw cp,Zl];simp only[aw ck2,aw ck,hw]
  simp only[iN,jX,pj];by_cases hk:t.kind=2;rotate_left
  ·have b1:(t.kind != 2)=true:=by simpa using hk
   rw[if_pos hk];exact⟨⟨he,by show(_:Int)≠0; simp⟩,p,n,ns,is,si,fun e0=>by rw[e1,b1,cond_true]⟩
  have b1:(t.kind != 2)=false:=by simpa using hk
  have Ik:=he.tail (by rw[hk]; decide);have r8:=fun k:Bool->Option R=>am8 ns t.text (by omega) k
  rw[if_neg (by simp[hk])];cases hc:ns.contains t.text with
  | true=>
   rw[hc]at r8;rw[if_pos rfl];exact⟨⟨he,by show(_:Int)≠0; simp⟩,p,n,ns,is,si,fun e0=>by rw[e1,b1,cond_false,r8,cond_true]⟩
  | false=>
  rw[hc]at r8;rw[if_neg (by simp)];have OV:T.drop (p+1)≠[]:=by rw[h2]; exact Ik.ne
  have s0:=fun k:List Token->Int->Int->Option R=>Zj [58] (p:=p+1) (by omega) OV k
  rw[h2]at s0;cases zj:cJ [58] ts with
  | none=>
   rw[zj]at s0;simp only at s0;refine⟨⟨Ik,by show(_:Int)≠0; simp⟩,p+1,is.length+1,ns++[t.text],is++[tm],h2,fun e0 => ?_⟩;have Zm:(40:Int)≠0:=by decide
   rw[e1,b1,cond_false,r8,cond_false,s0,hv.1 _ _ Zm,OU _ _ _ _ Zm,iq,cond_true,Zk _ _ _ _ Zm,qv]
  | some r1=>
  rw[zj]at s0;simp only at s0;have HM:=tj Ik zj;have hlr:=zh zj;have ana:T.drop (p+1+1)=r1:=by
   cases ts with
   | nil=>cases zj
   | cons u us=>
    simp only[cJ]at zj;split at zj
    ·cases zj; exact(tp h2 (Ty.az .token)).2.1
    ·cases zj
  have h5:=hv.2 (p+1+1) (by rw[ana]; exact HM);rw[ana]at h5;simp only;cases hf:f r1 with
  | error q=>
   rw[hf]at h5;obtain ⟨⟨g1,g2⟩,v,p',g3,g4⟩:=h5;refine⟨⟨g1,g2⟩,p',is.length+1,ns++[t.text],is++[v],g3,fun e0 => ?_⟩;rw[e1,b1,cond_false,r8,cond_false,s0,g4,OU _ _ _ _ g2,iq,cond_true,Zk _ _ _ _ g2,qv]
  | ok q=>
   obtain ⟨v,eG⟩:=q;rw[hf]at h5;obtain ⟨g1,p',g3,g4⟩:=h5;have hlen:=oD _ _ hf;simp only at g1 g3 g4 hlen ⊢;simp only[bj]at hF hm ga ei;have aT:T.drop p'≠[]:=by rw[g3]; exact g1.ne
   have s1:=fun k:Bool->List Token->Int->Int->Option R=>I1 [44] (p:=p') (by omega) aT k
   have s2:=fun k:List Token->Int->Int->Option R=>Zj [125] (p:=p') (by omega) aT k
   rw[g3]at s1 s2;cases hs:cJ [125] eG with
   | some r=>
    have kr:=am6 (b:=[44]) (by decide) hs;rw[kr]at s1;rw[hs]at s2;simp only at s1 s2;have js:T.drop (p'+1)=r:=by
     cases eG with
     | nil=>cases hs
     | cons t u=>
      simp only[cJ]at hs;split at hs
      ·cases hs; exact(tp g3 (Ty.az .token)).2.1
      ·cases hs
    refine⟨tj g1 hs,p'+1,is.length+1,js,fun e0 => ?_⟩;rw[e1,b1,cond_false,r8,cond_false,s0,g4,s1,iq,cond_true,s2,qv]
   | none=>
    simp only;cases kr:cJ [44] eG with
    | none=>
     rw[kr]at s1;rw[hs]at s2;simp only at s1 s2;refine⟨⟨g1,by show(_:Int)≠0; simp⟩,p',is.length+1,ns++[t.text],is++[v],g3,fun e0 => ?_⟩;rw[e1,b1,cond_false,r8,cond_false,s0,g4,s1,iq,cond_true,s2,qv]
    | some r=>
     rw[kr]at s1;simp only at s1;have hl3:=zh kr;have js:T.drop (p'+1)=r:=by
      cases eG with
      | nil=>cases kr
      | cons t u=>
       simp only[cJ]at kr;split at kr
       ·cases kr; exact(tp g3 (Ty.az .token)).2.1
       ·cases kr
     have xp:=ih m (ns++[t.text]) (is++[v]) (p'+1) (is.length+1) (by rw[js]; omega) (by rw[js]; omega) (by rw[js]; exact tj g1 kr) (by rw[js]; simp; omega) (by rw[js]; simp; omega);rw[js]at xp;have e3:∀e0,iZ bN (F+1+1) d false T (p:Int) 0 c1 c2 c3 c4 c5 c6 c7 c8 ns n is e0=iZ bN (F+1) d false T ((p'+1:Nat):Int) 0 c1 c2 c3 c4 c5 c6 c7 c8 (ns++[t.text]) (is.length+1) (is++[v]) e0:=fun e0=>by
      rw[e1,b1,cond_false,r8,cond_false,s0,g4,s1,cE,cond_false]
     simp only[e3];exact xp
end
theorem aGE {R:Type} (T:List Token) (hT:T.length<=100000000) (hk:∀t∈T,kindOk t):∀(n:Nat) (d:Int),0<=d->d<=17->17 - d<n->am9 (R:=R) (jT n) (eH n d) d T:=by
 intro n
 induction n with
 | zero=>intro d h0 h1 h2; omega
 | succ n ih=>
  intro d h0 h1 h2;have e0:∀(p c:Int) (k:Json->List Token->Int->Int->Option R),jT (n+1) d T p c k=Ie dT (jS (jT n)) (iZ (jT n)) d T p c k:=fun _ _ _=>rfl
  refine⟨fun p c hc k => ?_,fun p he => ?_⟩
  ·rw[e0];unfold Ie;have:(c != 0)=true:=by simpa using hc
   rw[this];rfl
  cases si:T.drop p with
  | nil=>exact(he.ne si).elim
  | cons t r=>
  rw[si]at he;obtain ⟨g1,g2,g3⟩:=tp si (Ty.az .token);have hm:t∈T:=by
   have:t∈T.drop p:=by rw[si]; simp
   exact List.mem_of_mem_drop this
  obtain ⟨hkd,jc⟩:=hk t hm;have cp:(decide ((0:Int)<=(p:Int))&&decide ((p:Int)<(T.length:Int)))=true:=by simp; omega
  have Zl:ae.wrap ((p:Int)+1)=((p+1:Nat):Int):=by rw[aV (by omega) (by omega)]; omega
  have CQ:∀z:Json,(T.drop p).length=r.length+1:=fun _=>by rw[si]; rfl
  
  let J:(Json->List Token->Int->Int->Option R)->Option R:=fun k=>bif decide (d>16)then k tm T (p:Int) 41 else(bif t.kind==2 then k ⟨5,⟨0,0⟩,t.text,[],[]⟩ T ((p+1:Nat):Int) 0 else(bif t.kind==3 then k ⟨4,⟨t.num.aj,t.num.exp⟩,[],[],[]⟩ T ((p+1:Nat):Int) 0 else(bif t.kind==4 then k ⟨iu .str (.int .i64) t.text Fx,⟨0,0⟩,[],[],[]⟩ T ((p+1:Nat):Int) 0 else
   (bif t.text==([91]:ad)then dT [93] T ((p+1:Nat):Int) 0 (fun y7 y8 y9 bu=>jS (jT n) (ah d+av y8+ah y9+ah bu+ah 0+ah 0+ah 0+av ([]:ad)+ah 6+ah 0+ah 0+av ([]:ad)+av ([]:List Json)+64) d y7 y8 y9 bu 0 0 0 [] 6 0 0 [] 0 [] (fun l9 jk kJ lY lZ mF mG od nj oY pZ wi oZ=>k ⟨od,⟨nj,oY⟩,pZ,[],oZ⟩ l9 jk kJ))
    else dT [125] T ((p+1:Nat):Int) 0 (fun nr ll lH lI=>iZ (jT n) (ah d+av ll+ah lH+ah lI+ah 0+ah 0+ah 0+av ([]:ad)+ah 7+ah 0+ah 0+av ([]:ad)+av ([]:List ad)+av ([]:List Json)+64) d nr ll lH lI 0 0 0 [] 7 0 0 [] [] 0 [] (fun uk um yD EX Mv HG HH Ig Ih Ii Ct AN HI Cu=>k ⟨Ig,⟨Ih,Ii⟩,Ct,AN,Cu⟩ uk um yD))))))
  have e1:∀k:Json->List Token->Int->Int->Option R,jT (n+1) d T (p:Int) 0 k=bif jY t then J k else k tm T (p:Int) 40:=fun k=>by
   rw[e0];unfold Ie;rw[show((0:Int) != 0)=false from rfl,cond_false,g1,aw cp,Zl];show(bif(t.kind==1)then(bif(t.text==([91]:ad))then(bif(t.kind==5)then k tm T (p:Int) 40 else(bif(t.kind==1)then(bif(!true)then k tm T (p:Int) 40 else J k)else J k))else(bif(t.kind==5)then k tm T (p:Int) 40 else(bif(t.kind==1)then(bif(!(t.text==([123]:ad)))then k tm T (p:Int) 40 else J k)else J k)))else(bif(t.kind==5)then k tm T (p:Int) 40 else(bif(t.kind==1)then(bif(!false)then k tm T (p:Int) 40 else J k)else J k)))=_;generalize J k=w;unfold jY mP;rcases hkd with h|h|h|h|h<;>rw[h]
   ·cases t.text==([91]:ad)<;>cases t.text==([123]:ad)<;>rfl
   ·rfl
   ·rfl
   ·rfl
   ·rfl
  simp only[eH];cases kG:jY t with
  | false=>
   rw[if_pos rfl];exact⟨⟨he,by show(_:Int)≠0; simp⟩,tm,p,si,fun k=>by rw[e1,kG]; rfl⟩
  | true=>
   rw[if_neg (by simp)];have e2:∀k,jT (n+1) d T (p:Int) 0 k=J k:=fun k=>by rw[e1,kG]; rfl
   by_cases hd:d>16
   ·rw[if_pos hd];have b1:decide (d>16)=true:=by simpa using hd
    exact⟨⟨he,by show(_:Int)≠0; simp⟩,tm,p,si,fun k=>by rw[e2]; show(bif decide (d>16)then _ else _)=_; rw[b1]; rfl⟩
   rw[if_neg hd];have b1:decide (d>16)=false:=by simpa using hd
   have OR:t.kind≠5:=by
    intro h5;simp[jY,h5]at kG
   have mQ:=he.tail OR;have xp:=ih (d+1) (by omega) (by omega) (by omega);have oD:∀ts q,eH n (d+1) ts=.ok q->q.2.length<ts.length:=fun ts q=>YZ n (d+1) ts q
   have OV:T.drop (p+1)≠[]:=by rw[g2]; exact mQ.ne
   by_cases lD:t.kind=1/\mP t.text=true
   ·rw[if_pos lD];obtain ⟨k1,k2⟩:=lD;have hlr:r.length<=T.length:=by
     have:=congrArg av g2;rw[ct]at this;omega
    cases dm:t.text==([123]:ad)with
    | true=>
     have Zn:(t.text==([91]:ad))=false:=by
      rw[beq_iff_eq]at dm;rw[dm]; rfl
     have e3:∀k,jT (n+1) d T (p:Int) 0 k=dT [125] T ((p+1:Nat):Int) 0 (fun nr ll lH lI=>iZ (jT n) (ah d+av ll+ah lH+ah lI+ah 0+ah 0+ah 0+av ([]:ad)+ah 7+ah 0+ah 0+av ([]:ad)+av ([]:List ad)+av ([]:List Json)+64) d nr ll lH lI 0 0 0 [] 7 0 0 [] [] 0 [] (fun uk um yD EX Mv HG HH Ig Ih Ii Ct AN HI Cu=>k ⟨Ig,⟨Ih,Ii⟩,Ct,AN,Cu⟩ uk um yD)):=fun k=>by
      rw[e2];show(bif decide (d>16)then _ else(bif t.kind==2 then _ else(bif t.kind==3 then _ else(bif t.kind==4 then _ else(bif t.text==([91]:ad)then _ else _)))))=_;rw[b1,k1,Zn];rfl
     simp only[if_true];have s0:=fun k:Bool->List Token->Int->Int->Option R=>I1 [125] (p:=p+1) (by omega) OV k
     rw[g2]at s0;cases hs:cJ [125] r with
     | some r'=>
      rw[hs]at s0;simp only at s0 ⊢;have js:T.drop (p+1+1)=r':=by
       cases r with
       | nil=>cases hs
       | cons u us=>
        simp only[cJ]at hs;split at hs
        ·cases hs; exact(tp g2 (Ty.az .token)).2.1
        ·cases hs
      refine⟨tj mQ hs,p+1+1,js,fun k => ?_⟩;rw[e3,s0];rfl
     | none=>
      rw[hs]at s0;simp only at s0 ⊢;have hl:=aGD (jT n) (eH n (d+1)) oD d ⟨h0,by omega⟩ T hT xp 0 0 0 [] 7 0 0 [] (ah d+av T+ah ((p+1:Nat):Int)+ah 0+ah 0+ah 0+ah 0+av ([]:ad)+ah 7+ah 0+ah 0+av ([]:ad)+av ([]:List ad)+av ([]:List Json)+64) (r.length+1) [] [] (p+1) 0 (by rw[g2]; omega) (by rw[g2]; omega) (by rw[g2]; exact mQ) (by rw[g2]; simp; omega) (by rw[g2]; simp; omega);rw[g2]at hl;cases hq:iN (eH n (d+1)) [125] true (r.length+1) [] [] r with
      | error b=>
       rw[hq]at hl;obtain ⟨a1,p',n',uR,pk,a2,a3⟩:=hl;refine⟨a1,⟨7,⟨0,0⟩,[],uR,pk⟩,p',a2,fun k => ?_⟩;rw[e3,s0,a3]
      | ok q=>
       rw[hq]at hl;obtain ⟨a1,p',n',a2,a3⟩:=hl;refine⟨a1,p',a2,fun k => ?_⟩;rw[e3,s0,a3]
    | false=>
     have Zn:(t.text==([91]:ad))=true:=by
      unfold mP at k2;rw[dm,Bj]at k2;exact k2
     have e3:∀k,jT (n+1) d T (p:Int) 0 k=dT [93] T ((p+1:Nat):Int) 0 (fun y7 y8 y9 bu=>jS (jT n) (ah d+av y8+ah y9+ah bu+ah 0+ah 0+ah 0+av ([]:ad)+ah 6+ah 0+ah 0+av ([]:ad)+av ([]:List Json)+64) d y7 y8 y9 bu 0 0 0 [] 6 0 0 [] 0 [] (fun l9 jk kJ lY lZ mF mG od nj oY pZ wi oZ=>k ⟨od,⟨nj,oY⟩,pZ,[],oZ⟩ l9 jk kJ)):=fun k=>by
      rw[e2];show(bif decide (d>16)then _ else(bif t.kind==2 then _ else(bif t.kind==3 then _ else(bif t.kind==4 then _ else(bif t.text==([91]:ad)then _ else _)))))=_;rw[b1,k1,Zn];rfl
     simp only[jy,if_false];have s0:=fun k:Bool->List Token->Int->Int->Option R=>I1 [93] (p:=p+1) (by omega) OV k
     rw[g2]at s0;cases hs:cJ [93] r with
     | some r'=>
      rw[hs]at s0;simp only at s0 ⊢;have js:T.drop (p+1+1)=r':=by
       cases r with
       | nil=>cases hs
       | cons u us=>
        simp only[cJ]at hs;split at hs
        ·cases hs; exact(tp g2 (Ty.az .token)).2.1
        ·cases hs
      refine⟨tj mQ hs,p+1+1,js,fun k => ?_⟩;rw[e3,s0];rfl
     | none=>
      rw[hs]at s0;simp only at s0 ⊢;have hl:=aGC (jT n) (eH n (d+1)) oD d ⟨h0,by omega⟩ T hT xp 0 0 0 [] 6 0 0 [] (ah d+av T+ah ((p+1:Nat):Int)+ah 0+ah 0+ah 0+ah 0+av ([]:ad)+ah 6+ah 0+ah 0+av ([]:ad)+av ([]:List Json)+64) (r.length+1) [] (p+1) 0 (by rw[g2]; omega) (by rw[g2]; omega) (by rw[g2]; exact mQ) (by rw[g2]; simp; omega);rw[g2]at hl;cases hq:iN (eH n (d+1)) [93] false (r.length+1) [] [] r with
      | error b=>
       rw[hq]at hl;obtain ⟨a1,p',n',pk,a2,a3⟩:=hl;refine⟨a1,⟨6,⟨0,0⟩,[],[],pk⟩,p',a2,fun k => ?_⟩;rw[e3,s0,a3]
      | ok q=>
       rw[hq]at hl;obtain ⟨a1,a0,p',n',a2,a3⟩:=hl;refine⟨a1,p',a2,fun k => ?_⟩;rw[e3,s0,a3,a0]
   ·rw[if_neg lD];have lT:t.kind≠1:=by
     intro CS;apply lD;refine⟨CS,?_⟩;simpa [jY,CS]using kG
    rcases hkd with h|h|h|h|h
    ·exact(lT h).elim
    ·rw[if_neg (by rw[h]; simp),if_neg (by rw[h]; simp)];refine⟨mQ,p+1,g2,fun k => ?_⟩;rw[e2];show(bif decide (d>16)then _ else(bif t.kind==2 then _ else _))=_;rw[b1,h];rfl
    ·rw[if_neg (by rw[h]; simp),if_pos h];refine⟨mQ,p+1,g2,fun k => ?_⟩;rw[e2];show(bif decide (d>16)then _ else(bif t.kind==2 then _ else(bif t.kind==3 then _ else _)))=_;rw[b1,h];rfl
    ·rw[if_pos ⟨h,jc h⟩];refine⟨mQ,p+1,g2,fun k => ?_⟩;rw[e2];show(bif decide (d>16)then _ else(bif t.kind==2 then _ else(bif t.kind==3 then _ else(bif t.kind==4 then _ else _))))=_;rw[b1,h];rfl
    ·exact(OR h).elim
theorem tokS_kind {s r:ad} {t:Token} (h:tokS s=some (t,r)):t.kind=1\/t.kind=2\/t.kind=3\/t.kind=4\/t.kind=5:=by
 cases s with
 | nil=>cases h
 | cons c u=>
  simp only[tokS]at h;split at h
  ·split at h
   ·simp only[ij,kA]at h; rw[<-h.1]; simp
   ·cases h
  ·split at h
   ·split at h
    ·simp only[ij,kA]at h; rw[<-h.1]; simp
    ·cases h
   ·split at h
    ·simp only[ij,kA]at h; rw[<-h.1]; simp
    ·split at h
     ·simp only[ij,kA]at h; rw[<-h.1]; simp
     ·cases h
theorem anb:∀(n p:Nat) (s:ad) (out:List Token),(∀t∈out,kindOk t)->∀t∈(fQ n p s out).1,kindOk t
 | 0,_,_,_,_=>by intro t ht; cases ht
 | n+1,p,s,out,ho=>by
  simp only[fQ];split
  ·intro t ht;rcases fU.1 ht with ht|ht
   ·exact ho t ht
   ·obtain rfl:=pA.1 ht;exact⟨by simp,fun h=>by cases h⟩
  ·split
   ·intro t ht; cases ht
   ·rename_i t r hr;refine anb n _ r _ fun x hx => ?_
    rcases fU.1 hx with hx|hx
    ·exact ho x hx
    ·obtain rfl:=pA.1 hx;refine⟨?_,(tokS_ok hr).1.2.2⟩;show t.kind=1\/t.kind=2\/t.kind=3\/t.kind=4\/t.kind=5;exact tokS_kind hr
theorem aGF (s:ad):∀t∈(eX s).1,kindOk t:=by
 unfold eX;split
 ·intro t ht; cases ht
 ·exact anb _ _ _ _ (by intro t ht; cases ht)
theorem aGG {R:Type} (s:ad) (k:Json->Int->Int->Option R):uJ s k=k (ig s).1 (ig s).2.1 (ig s).2.2:=by
 have e0:uJ s k=N3 uI uH s k:=rfl;rw[e0];unfold N3 ig;rw[aGj];by_cases h:(eX s).2.1=0;rotate_left
 ·have e1:((eX s).2.1 != 0)=true:=by simpa using h
  rw[if_pos h,e1];rfl
 have e1:((eX s).2.1 != 0)=false:=by simpa using h
 rw[if_neg (by simpa using h),e1,cond_false];have hE:=Y7 s h;have hL:=Y6 s;have hv:=(aGE (R:=R) (eX s).1 (by omega) (aGF s) 40 1 (by omega) (by omega) (by omega)).2 0 (by rw[fV]; exact hE);rw[fV]at hv;generalize (eX s).1=T at hE hL hv;have e2:∀q,uI (R:=R) 1 T 0 0 q=jT 40 1 T ((0:Nat):Int) 0 q:=fun q=>rfl
 rw[e2];cases hq:eH 40 1 T with
 | error b=>
  rw[hq]at hv;obtain ⟨⟨g1,g2⟩,v,p',g3,g4⟩:=hv;rw[g4];obtain ⟨c,r⟩:=b;cases r with
  | nil=>exact(g1.ne rfl).elim
  | cons t r=>
   obtain ⟨a1,_,a3⟩:=tp g3 (Ty.az .token);have cp:(decide ((0:Int)<=(p':Int))&&decide ((p':Int)<(T.length:Int)))=true:=by simp; omega
   have e3:(c != 0)=true:=by simpa using g2
   have e4:(c==0)=false:=by simpa using g2
   simp only[e3,e4,cond_true,cond_false,a1,aw cp];rfl
 | ok q=>
  rw[hq]at hv;obtain ⟨g1,p',g3,g4⟩:=hv;rw[g4];obtain ⟨v,r⟩:=q;cases r with
  | nil=>exact(g1.ne rfl).elim
  | cons t r=>
   obtain ⟨a1,_,a3⟩:=tp g3 (Ty.az .token);have cp:(decide ((0:Int)<=(p':Int))&&decide ((p':Int)<(T.length:Int)))=true:=by simp; omega
   have e3:((0:Int) != 0)=false:=rfl;have e4:((0:Int)==0)=true:=rfl;have e5:(t::r).getD 0 (⟨0,[],⟨0,0⟩,0⟩:Token)=t:=rfl;simp only[e3,e4,cond_true,cond_false,a1,aw cp,e5,Json.eta];by_cases hk:t.kind=5
   ·have b1:(t.kind != 5)=false:=by simpa using hk
    rw[b1,if_neg (by simpa using hk)];rfl
   ·have b1:(t.kind != 5)=true:=by simpa using hk
    rw[b1,if_pos hk];rfl
mutual
def CY:Json->Prop
 | ⟨k,n,t,ns,is⟩=>bR n.aj/\bR n.exp/\I2 is
def I2:List Json->Prop
 | []=>True
 | x::l=>CY x/\I2 l
end
theorem anc:∀ {l:List Json} {x:Json},I2 l->x∈l->CY x
 | y::l,x,h,hx=>by
  rcases eJ.1 hx with rfl|hx
  ·exact h.1
  ·exact anc h.2 hx
theorem ane:∀(l a b:List ad),(∀n,a.contains n=b.contains n)->fG a l=fG b l
 | [],_,_,_=>rfl
 | x::l,a,b,h=>by
  simp only[fG];rw[h x,ane l (x::a) (x::b) fun n=>by rw[nR,nR,h n]]
theorem aGH {R:Type} (d:Int) (v:Json) (hl:v.names.length<=1099511627776) (hn:∀t∈v.names,t.length<=9000000000000000) (e0:Int->Json->Option R) (e1:Int->Bool->Json->Option R):∀(F i:Nat),i<=v.names.length->v.names.length - i<F ->
  nB F d (i:Int) v e0 e1=bif fG (v.names.take i) (v.names.drop i)then e0 d v else e1 d false v:=by
 intro F
 induction F with
 | zero=>intro i _ h; omega
 | succ F ih=>
  intro i hi hF;show Ng gd gv (fun x0 x1 x2=>nB F x0 x1 x2 e0 e1) d (i:Int) v e0 e1=_;unfold Ng;simp only[Json.eta];by_cases h:i<v.names.length;rotate_left
  ·have h1:decide ((i:Int)<(v.names.length:Int))=false:=by simp; omega
   rw[h1,cond_false,gQ (by omega)];rfl
  have h1:decide ((i:Int)<(v.names.length:Int))=true:=by simp; omega
  have hw:ae.wrap ((i:Int)+1)=((i+1:Nat):Int):=by rw[aV (by omega) (by omega)]; omega
  have hg:v.names.getD (i:Int).toNat (Ty.az .str)=v.names[i]:=getD_at h _;rw[h1,cond_true,aw (by simp),hg,Yk _ (hn _ (jd h)),aw (by simp; omega),aw (by simp),aw (by simp),fV,vl,cM,am8 _ _ (by rw[eP]; omega),hw,ih (i+1) (by omega) (by omega),im h];simp only[fG];have hc:fG (v.names.take (i+1)) (v.names.drop (i+1))=fG (v.names[i]::v.names.take i) (v.names.drop (i+1)):=by
   apply ane;intro n;rw[List.take_succ_eq_append_getElem h,List.contains_append,nR,nR,PT,Bj,Bool.or_comm]
  rw[hc];cases dh v.names[i]<;>cases (v.names.take i).contains v.names[i]<;>rfl
theorem aGI {R:Type} (f:gq R) (d:Int) (hd:0<=d/\d<=16) (v:Json) (hl:v.items.length<=1099511627776) (hf:∀x∈v.items,∀k:Bool->Option R,f x (d+1) k=k (cC x (d+1))) (e0:Option R) (e1:Bool->Option R):∀(F i:Nat),i<=v.items.length->v.items.length - i<F ->
  mc f F d (i:Int) v e0 e1=bif cL (v.items.drop i) (d+1)then e0 else e1 false:=by
 intro F
 induction F with
 | zero=>intro i _ h; omega
 | succ F ih=>
  intro i hi hF;show Nh f (fun x0 x1 x2=>mc f F x0 x1 x2 e0 e1) d (i:Int) v e0 e1=_;unfold Nh;simp only[Json.eta];by_cases h:i<v.items.length;rotate_left
  ·have h1:decide ((i:Int)<(v.items.length:Int))=false:=by simp; omega
   rw[h1,cond_false,gQ (by omega)];rfl
  have h1:decide ((i:Int)<(v.items.length:Int))=true:=by simp; omega
  have hw:ae.wrap ((i:Int)+1)=((i+1:Nat):Int):=by rw[aV (by omega) (by omega)]; omega
  have YT:ae.wrap (d+1)=d+1:=aV (by omega) (by omega);have hg:v.items.getD (i:Int).toNat (Ty.az .json)=v.items[i]:=getD_at h _;rw[h1,cond_true,aw (by simp),hg,YT,hf _ (jd h),hw,ih (i+1) (by omega) (by omega),im h];simp only[cL];cases cC v.items[i] (d+1)<;>rfl
def anf {R:Type} (Bl n4 z1 n5 z2 n7 p n6 q:Bool) (F J:Option R):Option R:=
 let C:=bif n7 then(bif n6 then(bif q then F else J)else J)else J
 let P:=bif n7 then(bif p then F else C)else C
 let Q:=bif n5 then(bif !z2 then F else P)else P
 bif Bl then F else(bif n4 then(bif !z1 then F else Q)else Q)
theorem aGJ {R:Type} (Bl n4 z1 n5 z2 n7 p n6 q:Bool) (F J:Option R):anf Bl n4 z1 n5 z2 n7 p n6 q F J=bif(!Bl&&((!n4||z1)&&((!n5||z2)&&((!n7||!p)&&(!n7||!n6||!q)))))then J else F:=by
 cases Bl<;>cases n4<;>cases z1<;>cases n5<;>cases z2<;>cases n7<;>cases p<;>cases n6<;>cases q<;>rfl
def ang {R:Type} (f:gq R) (kd n1 n2:Int) (tx:ad) (ns:List ad) (is:List Json) (d:Int) (k:Bool->Option R):Option R:=
 let wZ:=fun(jF:Int) (z20:Json)=>mc f (ah jF+ah 0+Json.fu z20+64) jF 0 z20 (k true) (fun dK=>k dK)
 let uo:=fun(z4:Bool)=>bif z4 then k true else(bif(kd==4)then eV ⟨n1,n2⟩ (fun y5=>k y5)else(bif(kd==5)then gd tx (fun y6=>k y6)else(bif(kd==7)then(bif((ns.length:Int) != (is.length:Int))then k false else(nB (ah d+ah 0+Json.fu ⟨kd,⟨n1,n2⟩,tx,ns,is⟩+64) d 0 ⟨kd,⟨n1,n2⟩,tx,ns,is⟩ (fun cd aU=>wZ cd ⟨aU.kind,⟨aU.num.aj,aU.num.exp⟩,aU.text,aU.names,aU.items⟩) (fun bU cA cP=>k cA)))else(bif(kd==6)then wZ d ⟨kd,⟨n1,n2⟩,tx,ns,is⟩else k false))))
 bif(kd==1)then uo (kd==1)else(bif(kd==2)then uo (kd==2)else uo (kd==3))
theorem aGK {R:Type}:∀(n:Nat) (v:Json) (d:Int),nK v=true->CY v->v.depth<n->0<=d->d<=17->∀k:Bool->Option R,nC n v d k=k (cC v d):=by
 intro n
 induction n with
 | zero=>intro v d _ _ h; omega
 | succ n ih=>
  intro v d hv hi hn YU Ei k;have anh:∀y∈v.items,y.depth<n:=fun y hy=>by have:=OK hy; omega
  obtain ⟨ei,ga,nc,CV,iz⟩:=uQ.1 hv;obtain ⟨kd,⟨n1,n2⟩,tx,ns,is⟩:=v;obtain ⟨i1,i2,i3⟩:=hi;simp only at ei ga nc CV iz i1 i2 anh;have e:nC (n+1) ⟨kd,⟨n1,n2⟩,tx,ns,is⟩ d k=anf (decide (d>16)) (kd != 4) (n1==0&&(n2==0&&true)) (kd != 5) (tx==([]:ad)) (kd != 7) (decide ((ns.length:Int)>0)) (kd != 6) (decide ((is.length:Int)>0)) (k false) (ang (nC n) kd n1 n2 tx ns is d k):=rfl;rw[e,aGJ];have g1:(!decide (d>16))=decide (d<=16):=by
   by_cases h:d<=16
   ·rw[ai h,aE (by omega)]; rfl
   ·rw[aE h,ai (by omega)]; rfl
  have g2:(!(kd != 4)||(n1==0&&(n2==0&&true)))=(kd==4||(n1==0&&n2==0)):=by simp[bne]
  have g3:(!(kd != 5)||(tx==([]:ad)))=(kd==5||tx.isEmpty):=by cases tx<;>simp[bne]
  have g4:(!(kd != 7)||!decide ((ns.length:Int)>0))=(kd==7||ns.isEmpty):=by
   cases ns with
   | nil=>simp[bne]
   | cons _ _=>rw[ai (by simp only[bj]; omega)]; simp[bne]
  have g5:(!(kd != 7)||!(kd != 6)||!decide ((is.length:Int)>0))=(kd==6||kd==7||is.isEmpty):=by
   cases is with
   | nil=>simp[bne]
   | cons _ _=>rw[ai (by simp only[bj]; omega)]; simp[bne,Bool.or_comm]
  rw[g1,g2,g3,g4,g5];simp only[cC];by_cases lv:d<=16;rotate_left
  ·rw[aE lv]; rfl
  rw[ai lv];cases ha:(kd==4||(n1==0&&n2==0))with
  | false=>simp
  | true=>
  cases hb:(kd==5||tx.isEmpty)with
  | false=>simp
  | true=>
  cases hc:(kd==7||ns.isEmpty)with
  | false=>simp
  | true=>
  cases hd:(kd==6||kd==7||is.isEmpty)with
  | false=>simp
  | true=>
  simp only[oJ,qD,cond_true];have hit:∀e1:Bool->Option R,∀F:Nat,is.length<F->mc (nC n) F d 0 ⟨kd,⟨n1,n2⟩,tx,ns,is⟩ (k true) e1=bif cL is (d+1)then k true else e1 false:=fun e1 F hF=>
   aGI (nC n) d ⟨YU,lv⟩ ⟨kd,⟨n1,n2⟩,tx,ns,is⟩ ga (fun x hx k=>ih x (d+1) (Ft nc hx) (anc i3 hx) (anh x hx) (by omega) (by omega) k) (k true) e1 F 0 (by simp) (by simp only; omega)
  have hk:kd=1\/kd=2\/kd=3\/kd=4\/kd=5\/kd=6\/kd=7\/(kd≠1/\kd≠2/\kd≠3/\kd≠4/\kd≠5/\kd≠6/\kd≠7):=by omega
  rcases hk with rfl|rfl|rfl|rfl|rfl|rfl|rfl|⟨h1,h2,h3,h4,h5,h6,h7⟩
  ·have:is=[]:=by simpa using hd
   subst this;rfl
  ·have:is=[]:=by simpa using hd
   subst this;rfl
  ·have:is=[]:=by simpa using hd
   subst this;rfl
  ·show eV ⟨n1,n2⟩ (fun y5=>k y5)=_;rw[ame _ i1 i2];rfl
  ·show gd tx (fun y6=>k y6)=_;rw[Yk _ (by omega)];rfl
  ·show mc (nC n) (ah d+ah 0+Json.fu ⟨6,⟨n1,n2⟩,tx,ns,is⟩+64) d 0 ⟨6,⟨n1,n2⟩,tx,ns,is⟩ (k true) (fun dK=>k dK)=k (cL is (d+1));rw[hit _ _ (by simp only[Json.fu]; omega)];cases cL is (d+1)<;>rfl
  ·show(bif((ns.length:Int) != (is.length:Int))then k false else(nB (ah d+ah 0+Json.fu ⟨7,⟨n1,n2⟩,tx,ns,is⟩+64) d ((0:Nat):Int) ⟨7,⟨n1,n2⟩,tx,ns,is⟩ (fun cd aU=>mc (nC n) (ah cd+ah 0+Json.fu ⟨aU.kind,⟨aU.num.aj,aU.num.exp⟩,aU.text,aU.names,aU.items⟩+64) cd 0 ⟨aU.kind,⟨aU.num.aj,aU.num.exp⟩,aU.text,aU.names,aU.items⟩ (k true) (fun dK=>k dK)) (fun bU cA cP=>k cA)))=k (decide (ns.length=is.length)&&fG [] ns&&cL is (d+1));by_cases hlen:ns.length=is.length
   ·have b1:((ns.length:Int) != (is.length:Int))=false:=by simp[hlen]
    rw[b1,cond_false,aGH d ⟨7,⟨n1,n2⟩,tx,ns,is⟩ ei (fun t ht=>by have:=iz t ht; omega) _ _ _ 0 (by simp) (by simp only[Json.fu]; omega),ai hlen];simp only[List.take_zero,fV,oJ];cases fG [] ns with
    | false=>rfl
    | true=>
     simp only[cond_true,oJ];rw[hit _ _ (by simp only[Json.fu]; omega)];cases cL is (d+1)<;>rfl
   ·have b1:((ns.length:Int) != (is.length:Int))=true:=by simp; omega
    rw[b1,aE hlen];rfl
  ·have c1:(kd==1)=false:=by simpa using h1
   have c2:(kd==2)=false:=by simpa using h2
   have c3:(kd==3)=false:=by simpa using h3
   have c4:(kd==4)=false:=by simpa using h4
   have c5:(kd==5)=false:=by simpa using h5
   have c6:(kd==6)=false:=by simpa using h6
   have c7:(kd==7)=false:=by simpa using h7
   unfold ang;simp only[c1,c2,c3,c4,c5,c6,c7,cond_false];have:(decide (1<=kd)&&decide (kd<=7))=false:=by
    by_cases h:1<=kd
    ·rw[ai h,aE (by omega)]; rfl
    ·rw[aE h]; rfl
   rw[this];rfl
theorem aGL {R:Type} (v:Json) (hv:nK v=true) (hi:CY v) (k:Bool->Option R):uC v k=k (cC v 1):=by
 have e:uC v k=nC (v.depth+2) v 1 (fun y2=>k y2):=by
  obtain ⟨kd,⟨n1,n2⟩,tx,ns,is⟩:=v;rfl
 rw[e];exact aGK (v.depth+2) v 1 hv hi (by omega) (by omega) (by omega) k
theorem ani {R:Type} (t:ad) (hv:dh t=true) (ht:t.length<=20000000000) (k:ad->Bool->Option R):kR t k=k (dW t) true:=by
 obtain ⟨rs,hr,rfl⟩:=Cw.1 hv;have hc:=IB rs hr;rw[aEF rs hr (by omega),IN hr]
theorem aGM (v:Json) (i:Nat) (h:i<v.items.length) (h7:v.kind=7->v.names.length=v.items.length/\∀t∈v.names,dh t=true/\t.length<=20000000000) :
  fT v i=(if i=0 then []else [44])++((if v.kind=7 then dW (v.names.getD i [])++[58]else [])++(bT v.items[i]++fT v (i+1))):=by
 unfold fT;rw[im h];by_cases kX:v.kind=7
 ·rw[if_pos kX,if_pos kX,if_pos kX];have hn:=(h7 kX).1;have qh:i<v.names.length:=by omega
  rw[im qh];simp only[eO,Ds,Dt];have:v.names.getD i []=v.names[i]:=getD_at qh _;rw[this];by_cases h0:i=0
  ·subst h0; simp
  ·have e1:(i==0)=false:=by simpa using h0
   have e2:(i+1==0)=false:=rfl;rw[e1,e2];simp[h0]
 ·rw[if_neg kX,if_neg kX,if_neg kX];simp only[fx];by_cases h0:i=0
  ·subst h0; simp
  ·have e1:(i==0)=false:=by simpa using h0
   have e2:(i+1==0)=false:=rfl;rw[e1,e2];simp[h0]
theorem aGN {R:Type} (f:nn R) (v:Json) (hl:v.items.length<=1099511627776) (h7:v.kind=7->v.names.length=v.items.length/\∀t∈v.names,dh t=true/\t.length<=20000000000)
  (hf:∀x∈v.items,(bT x).length<=100000000000->∀k:ad->Option R,f x k=k (bT x)) (e0:ad->Json->Option R):∀(F i:Nat) (s:ad),i<=v.items.length->v.items.length - i<F->(s++fT v i).length<=100000000000 ->
  lM f F s (i:Int) v e0=e0 (s++fT v i) v:=by
 intro F
 induction F with
 | zero=>intro i s _ h; omega
 | succ F ih=>
  intro i s hi hF hb;show Ns kR f (fun x0 x1 x2=>lM f F x0 x1 x2 e0) s (i:Int) v e0=_;unfold Ns;simp only[Json.eta];by_cases h:i<v.items.length;rotate_left
  ·have h1:decide ((i:Int)<(v.items.length:Int))=false:=by simp; omega
   rw[h1,cond_false];have hd:v.items.drop i=[]:=gQ (by omega);have:fT v i=[]:=by
    unfold fT;rw[hd];split
    ·cases v.names.drop i<;>rfl
    ·rfl
   rw[this,oK]
  have h1:decide ((i:Int)<(v.items.length:Int))=true:=by simp; omega
  have hw:ae.wrap ((i:Int)+1)=((i+1:Nat):Int):=by rw[aV (by omega) (by omega)]; omega
  have hg:v.items.getD (i:Int).toNat (Ty.az .json)=v.items[i]:=getD_at h _;have hr:fT v i=(if i=0 then []else [44])++((if v.kind=7 then dW (v.names.getD i [])++[58]else [])++(bT v.items[i]++fT v (i+1))):=aGM v i h h7;rw[hr]at hb ⊢;simp only[bf]at hb;have cS:∀z:ad,z.length+(bT v.items[i]).length+(fT v (i+1)).length<=100000000000->(ag (decide ((0:Int)<=(i:Int))&&decide ((i:Int)<(v.items.length:Int))) (f v.items[i] (fun bg=>ag (decide (z.length+bg.length<=9223372036854775807)) (lM f F (z++bg) (((i+1:Nat):Int)) v e0))))=e0 (z++(bT v.items[i]++fT v (i+1))) v:=fun z hz=>by
   rw[aw (by simp; omega),hf _ (jd h) (by omega),aw (ai (by omega)),ih (i+1) _ (by omega) (by omega) (by simp only[bf]; omega),gG]
  have key:∀z:ad,z.length+(if v.kind=7 then dW (v.names.getD i [])++[58]else []).length+(bT v.items[i]).length+(fT v (i+1)).length<=100000000000 ->
    (bif(v.kind==7)then(ag (decide ((0:Int)<=(i:Int))&&decide ((i:Int)<(v.names.length:Int))) (kR (v.names.getD (i:Int).toNat (Ty.az .str)) (fun y9 bu=>ag (decide (z.length+y9.length<=9223372036854775807)) (ag (decide ((z++y9).length+1<=9223372036854775807)) (ag (decide ((0:Int)<=(i:Int))&&decide ((i:Int)<(v.items.length:Int))) (f v.items[i] (fun bg=>ag (decide (((z++y9)++([58]:ad)).length+bg.length<=9223372036854775807)) (lM f F (((z++y9)++([58]:ad))++bg) (((i+1:Nat):Int)) v e0))))))))else
     (ag (decide ((0:Int)<=(i:Int))&&decide ((i:Int)<(v.items.length:Int))) (f v.items[i] (fun bg=>ag (decide (z.length+bg.length<=9223372036854775807)) (lM f F (z++bg) (((i+1:Nat):Int)) v e0)))))=e0 (z++((if v.kind=7 then dW (v.names.getD i [])++[58]else [])++(bT v.items[i]++fT v (i+1)))) v:=fun z hz=>by
   by_cases hk:v.kind=7
   ·have b1:(v.kind==7)=true:=by simpa using hk
    obtain ⟨n1,n2⟩:=h7 hk;have qh:i<v.names.length:=by omega
    have Zb:v.names.getD (i:Int).toNat (Ty.az .str)=v.names[i]:=getD_at qh _;have aGO:v.names.getD i []=v.names[i]:=by rw[List.getD_eq_getElem?_getD,List.getElem?_eq_getElem qh]; rfl
    obtain ⟨q1,q2⟩:=n2 _ (jd qh);rw[if_pos hk,aGO]at hz ⊢;simp only[bf,bj,cu]at hz;rw[b1,cond_true,aw (by simp; omega),Zb,ani _ q1 q2,aw (ai (by omega)),aw (ai (by simp only[bf]; omega)),cS _ (by simp only[bf,bj,cu]; omega)];simp only[gG]
   ·have b1:(v.kind==7)=false:=by simpa using hk
    rw[if_neg hk]at hz ⊢;simp only[cu]at hz;rw[b1,cond_false,cS _ (by omega),jf]
  rw[h1,cond_true,hw,hg];by_cases h0:i=0
  ·have b0:decide ((i:Int)>0)=false:=by simp; omega
   rw[if_pos h0]at hb ⊢;simp only[cu]at hb;rw[b0,cond_false,jf];have:=key s (by omega);rw[h1]at this;exact this
  ·have b0:decide ((i:Int)>0)=true:=by simp; omega
   rw[if_neg h0]at hb ⊢;simp only[bj,cu]at hb;rw[b0,cond_true,aw (ai (by omega))];have:=key (s++[44]) (by simp only[bf,bj,cu]; omega);rw[h1]at this;refine Eq.trans this ?_;rw[gG]
theorem aGP {R:Type}:∀(n:Nat) (v:Json) (d:Int),cC v d=true->nK v=true->v.depth<n->(bT v).length<=100000000000->∀k:ad->Option R,nD n v k=k (bT v):=by
 intro n
 induction n with
 | zero=>intro v d _ _ h; omega
 | succ n ih=>
  intro v d hr hl hn hb k;obtain ⟨ei,ga,nc,CV,iz⟩:=uQ.1 hl;have e0:nD (n+1) v k=Wz kR qj (lM (nD n)) v k:=rfl;rw[e0];have mT:∀(e:ad->Json->Option R) (F:Nat) (s':ad),(v.kind=7->v.names.length=v.items.length/\∀t∈v.names,dh t=true/\t.length<=20000000000)->cL v.items (d+1)=true->v.items.length<F->(s'++fT v 0).length<=100000000000 ->
    lM (nD n) F s' 0 v e=e (s'++fT v 0) v:=fun e F s' h7 hi hF bI=>
   aGN (nD n) v ga h7 (fun x hx hb k=>ih x (d+1) (OG hi hx) (Ft nc hx) (by have:=OK hx; omega) hb k) e F 0 s' (by omega) (by omega) bI
  cases kq.1 hr with
  | name kd _ hd hk=>rcases hk with rfl|rfl|rfl<;>rfl
  | num nm _ hd jc=>
   show qj ⟨nm.aj,nm.exp⟩ (fun y2=>k y2)=k (fR nm);have e:fR nm=ie nm:=by unfold fR; rw[xn.2 jc]; rfl
   rw[e];exact aFJ jc _
  | text t _ hd ht=>
   show kR t (fun y3 y4=>k y3)=k (dW t);rw[ani t ht (by simp only at CV; omega)]
  | arr is _ hd hi=>
   have gn:(91::(fx is true++[93]):ad).length<=100000000000:=hb;simp only[bf,bj,cu]at gn;show lM (nD n) (av ([]:ad)+ah 0+Json.fu ⟨6,⟨0,0⟩,[],[],is⟩+64) [] 0 ⟨6,⟨0,0⟩,[],[],is⟩ (fun bU cA=>bif(cA.kind==7)then(ag (decide (1+bU.length<=9223372036854775807)) (ag (decide ((([123]:ad)++bU).length+1<=9223372036854775807)) (k ((([123]:ad)++bU)++([125]:ad)))))else(ag (decide (1+bU.length<=9223372036854775807)) (ag (decide ((([91]:ad)++bU).length+1<=9223372036854775807)) (k ((([91]:ad)++bU)++([93]:ad))))))=k (91::(fx is true++[93]));have hz:fT ⟨6,⟨0,0⟩,[],[],is⟩ 0=fx is true:=rfl;rw[hz]at mT;rw[mT _ _ _ (fun h=>by cases h) hi (by simp only[Json.fu]; omega) (by rw[jf]; omega)]
   show ag (decide (1+(fx is true).length<=9223372036854775807)) (ag (decide ((([91]:ad)++fx is true).length+1<=9223372036854775807)) (k ((([91]:ad)++fx is true)++([93]:ad))))=_;rw[aw (ai (by omega)),aw (ai (by simp only[bf,bj,cu]; omega))];rfl
  | obj ns is _ hd hlen hu hi=>
   have gn:(123::(eO ns is true++[125]):ad).length<=100000000000:=hb;simp only[bf,bj,cu]at gn;show lM (nD n) (av ([]:ad)+ah 0+Json.fu ⟨7,⟨0,0⟩,[],ns,is⟩+64) [] 0 ⟨7,⟨0,0⟩,[],ns,is⟩ (fun bU cA=>bif(cA.kind==7)then(ag (decide (1+bU.length<=9223372036854775807)) (ag (decide ((([123]:ad)++bU).length+1<=9223372036854775807)) (k ((([123]:ad)++bU)++([125]:ad)))))else(ag (decide (1+bU.length<=9223372036854775807)) (ag (decide ((([91]:ad)++bU).length+1<=9223372036854775807)) (k ((([91]:ad)++bU)++([93]:ad))))))=k (123::(eO ns is true++[125]));have hz:fT ⟨7,⟨0,0⟩,[],ns,is⟩ 0=eO ns is true:=rfl;rw[hz]at mT
   rw[mT _ _ _ (fun _=>⟨hlen,fun t ht=>⟨IY ns [] hu t ht,by have:=iz t ht; omega⟩⟩) hi (by simp only[Json.fu]; omega) (by rw[jf]; omega)];show ag (decide (1+(eO ns is true).length<=9223372036854775807)) (ag (decide ((([123]:ad)++eO ns is true).length+1<=9223372036854775807)) (k ((([123]:ad)++eO ns is true)++([125]:ad))))=_;rw[aw (ai (by omega)),aw (ai (by simp only[bf,bj,cu]; omega))];rfl
theorem aGQ {R:Type} (v:Json) (hl:nK v=true) (hi:CY v) (hb:cC v 1=true->(bT v).length<=100000000000) (k:ad->Option R):xd v k=k (if cC v 1 then bT v else []):=by
 have e:xd v k=uC v (fun y2=>bif(!y2)then(k ([]:ad))else(nD (v.depth+2) v (fun y3=>k y3))):=by
  obtain ⟨kd,⟨n1,n2⟩,tx,ns,is⟩:=v;rfl
 rw[e,aGL v hl hi];cases hr:cC v 1 with
 | false=>rfl
 | true=>
  rw[cE,cond_false,aGP (v.depth+2) v 1 hr hl (by omega) (hb hr)];rfl
theorem anj:∀(l:List (Ty.den .str)) (m:Nat),uT m (l.map (Ty.cells .str))->l.length<=m/\∀t∈(l:List ad),t.length<=m
 | [],_,_=>⟨nQ _,fun t h=>by cases h⟩
 | x::l,_,.cons h t=>by
  obtain ⟨h1,h2⟩:=anj l _ t;have h':po _ [V.str x]:=h;cases h' with
  | cons a b=>
   cases a with
   | str hx=>
    have lU:av (x:ad)+1<=_:=hx;refine⟨by simp only[bj]; omega,fun u hu => ?_⟩;rcases eJ.1 hu with hu|hu
    ·have:av u=av (x:ad):=congrArg av hu;omega
    ·have:=h2 u hu; omega
def FE:List ad->Nat
 | []=>0
 | t::l=>t.length+1+FE l
theorem ank:∀(l:List (Ty.den .str)) (m:Nat),uT m (l.map (Ty.cells .str))->FE l<=m
 | [],_,_=>nQ _
 | x::l,_,.cons h t=>by
  have h1:=ank l _ t;have h':po _ [V.str x]:=h;cases h' with
  | cons a b=>
   cases a with
   | str hx=>
    have lU:av (x:ad)+1<=_:=hx;show av (x:ad)+1+FE l<=_;omega
theorem aGR (d:au):(fR d).length<=60:=by
 cases h:sd d with
 | true=>exact amQ (xn.1 h)
 | false=>unfold fR; rw[h]; simp
mutual
theorem anl:∀(v:Json) (n:Nat),n<=1048576->po n (Ty.cells .json v)->nK v=true/\CY v/\(bT v).length+50<=100*n
 | ⟨k,⟨m,e⟩,t,ns,is⟩,n,hn,h=>by
  have hL:=anm is;have hO:=ann is ns;have h':po n [.int .i64 k,.int .i64 m,.int .i64 e,.str t,.sl .str ns .no,.sl .json is .no]:=h;cases h' with
  | cons a1 h'=>cases h' with
   | cons a2 h'=>cases h' with
    | cons a3 h'=>cases h' with
     | cons a4 h'=>cases h' with
      | cons a5 h'=>cases h' with
       | cons a6 h'=>
        cases h';cases a1 with|int p1 k1=>
        cases a2 with|int p2 k2=>
        cases a3 with|int p3 k3=>
        cases a4 with|str p4=>
        cases a5 with|sl p5 w5=>
        cases a6 with|sl p6 w6=>
        obtain ⟨s1,s2⟩:=anj ns _ w5;have s3:=ank ns _ w5;have s1':av (α:=ad) ns<=_:=s1;have s2':∀t∈ns,av t<=_:=s2;obtain ⟨l1,l2,l3,l4⟩:=hL _ (by omega) w6;have l5:=hO true _ (by omega) w6;have l4':=l4 true;refine⟨uQ.2 ⟨by simp only; omega,by simp only; omega,l1,by simp only; omega,fun u hu=>by have:=s2' u hu; omega⟩,⟨mb.1 k2,mb.1 k3,l2⟩,?_⟩;have hq:=FA t;have hp:=aGR ⟨m,e⟩;have n1:gD.length=4:=rfl;have n2:gC.length=5:=rfl;have n3:jb.length=4:=rfl;simp only[bT];split
        ·omega
        split
        ·omega
        split
        ·omega
        split
        ·omega
        split
        ·omega
        split
        ·simp only[bj,bf,cu]; omega
        ·simp only[bj,bf,cu]; omega
theorem anm:∀(l:List Json) (n:Nat),n<=1048576->uT n (l.map (Ty.cells .json))->qu l=true/\I2 l/\l.length<=n/\∀b:Bool,(fx l b).length<=100*n
 | [],n,_,_=>⟨rfl,trivial,nQ _,fun _=>by simp[fx]⟩
 | x::l,_,hn,.cons h t=>by
  obtain ⟨a1,a2,a3⟩:=anl x _ (by omega) h;obtain ⟨b1,b2,b3,b4⟩:=anm l _ (by omega) t;refine⟨by simp only[qu,a1,b1]; rfl,⟨a2,b2⟩,by simp only[bj]; omega,fun b => ?_⟩;have b5:=b4 false;simp only[fx,bf];have:(if b=true then([]:ad)else [44]).length<=1:=by cases b<;>simp
  omega
theorem ann:∀(l:List Json) (ns:List ad) (b:Bool) (n:Nat),n<=1048576->uT n (l.map (Ty.cells .json))->(eO ns l b).length<=100*n+6*FE ns
 | [],ns,_,n,_,_=>by simp[eO]
 | x::l,ns,b,_,hn,.cons h t=>by
  obtain ⟨a1,a2,a3⟩:=anl x _ (by omega) h;have b5:=ann l ns.tail false _ (by omega) t;simp only[eO,bf,bj];have:(if b=true then([]:ad)else [44]).length<=1:=by cases b<;>simp
  cases ns with
  | nil=>
   have hq:=FA [];simp only[List.headD_nil,List.tail_nil,FE,cu]at b5 hq ⊢;omega
  | cons u ns=>
   have hq:=FA u;simp only[Ds,Dt,FE]at b5 ⊢;omega
end
mutual
theorem Zo:∀(v:Json) (d:Int),cC v d=true->CY v
 | ⟨k,⟨m,e⟩,t,ns,is⟩,d,h=>by
  have hL:=ano is;have z:bR 0:=by unfold bR; omega
  cases kq.1 h with
  | name _ _ hd hk=>exact⟨z,z,trivial⟩
  | num _ _ hd hn=>
   have:=hn.bounds;simp only at this;exact⟨by show bR m; unfold bR; omega,by show bR e; unfold bR; omega,trivial⟩
  | text _ _ hd ht=>exact⟨z,z,trivial⟩
  | arr _ _ hd hi=>exact⟨z,z,hL _ hi⟩
  | obj _ _ _ hd hl hu hi=>exact⟨z,z,hL _ hi⟩
theorem ano:∀(l:List Json) (d:Int),cL l d=true->I2 l
 | [],_,_=>trivial
 | x::l,d,h=>by
  simp only[cL,bF]at h;exact⟨Zo x d h.1,ano l d h.2⟩
end
def OW:Nat->Int->Int->au
 | 0,n,e=>⟨n,e⟩
 | f+1,n,e=>if bK n 10=0 then OW f (pz n 10) (e+1)else⟨n,e⟩
def dI (n:Int):au:=if n=0 then⟨0,0⟩else OW 20 n 0
theorem anp:∀(f:Nat) (n e:Int),n≠0->n.natAbs<10 ^ f->∃(u:Int) (j:Nat),bK u 10≠0/\n=u*10 ^ j/\OW f n e=⟨u,e+j⟩
 | 0,n,e,h0,h=>by omega
 | f+1,n,e,h0,h=>by
  simp only[OW];by_cases hm:bK n 10=0
  ·rw[if_pos hm];obtain ⟨c,rfl⟩:=Int.dvd_of_tmod_eq_zero hm;have hc:pz (10*c) 10=c:=Int.mul_tdiv_cancel_left c (by decide);rw[hc];have hp:10 ^ (f+1)=10*10 ^ f:=by rw[Bk,u7]
   obtain ⟨u,j,h1,h2,h3⟩:=anp f c (e+1) (by rintro rfl; exact h0 rfl) (by rw[hp]at h; omega);refine⟨u,j+1,h1,by rw[h2,tE,Int.mul_comm,zE],?_⟩;rw[h3];congr 1;omega
  ·rw[if_neg hm];exact⟨n,0,hm,by simp,by simp⟩
def db (n:Int):Bool:=decide (0<=n)&&decide (n<=1000000000)
theorem FF {n:Int}:db n=true↔0<=n/\n<=1000000000:=by unfold db; rw[bF,decide_eq_true_eq,decide_eq_true_eq]
theorem Zp {n:Int} (h:db n=true):(n=0/\dI n=⟨0,0⟩)\/∃(u:Int) (j:Nat),bK u 10≠0/\n=u*10 ^ j/\dI n=⟨u,j⟩/\j<=9/\1<=u/\u<=1000000000:=by
 obtain ⟨h1,h2⟩:=FF.1 h;by_cases h0:n=0
 ·exact .inl ⟨h0,by unfold dI; rw[if_pos h0]⟩
 ·have e20:(10:Nat) ^ 20=100000000000000000000:=rfl;obtain ⟨u,j,g1,g2,g3⟩:=anp 20 n 0 h0 (by omega);have hu:1<=u:=by
   have hp:(0:Int)<10 ^ j:=Pf (by decide);rcases Int.lt_or_le 0 u with h|h
   ·omega
   ·have:u*10 ^ j<=0:=Int.mul_nonpos_of_nonpos_of_nonneg h (by omega);omega
  have hj:j<=9:=by
   rcases mo 9 j with h|h
   ·exfalso;have hp:(10:Int) ^ 10<=10 ^ j:=by
     have:=zF (n:=10) (by decide) (show 10<=j by omega)
     exact_mod_cast this
    have OX:(10:Int) ^ 10=10000000000:=by decide
    have hm:1*(10:Int) ^ j<=u*10 ^ j:=Int.mul_le_mul_of_nonneg_right hu (by omega);omega
   ·exact h
  have hle:u<=n:=by
   have hp:(1:Int)<=10 ^ j:=N7 j;have:u*1<=u*10 ^ j:=Int.mul_le_mul_of_nonneg_left hp (by omega);omega
  refine .inr ⟨u,j,g1,g2,?_,hj,hu,by omega⟩;unfold dI;rw[if_neg h0,g3];congr 1;omega
theorem Zq {n:Int} (h:db n=true):Fm (dI n):=by
 rcases Zp h with ⟨_,e⟩|⟨u,j,g1,_,e,g4,g5,g6⟩
 ·rw[e]; exact Fm.yV
 ·rw[e]; exact .inr ⟨g1,by show -1000000000000000<=u; omega,by show u<=1000000000000000; omega,by show -9<=(j:Int); omega,by show(j:Int)<=9; omega⟩
theorem anq:∀(j:Nat) (u:Int),0<=u->u*10 ^ j<=1000000000->Pu.s7 j u=some (u*10 ^ j)
 | 0,u,_,_=>by simp[Pu.s7]
 | j+1,u,h0,h=>by
  have e:u*10 ^ (j+1)=(u*10)*10 ^ j:=by rw[tE,zE,Int.mul_comm 10]
  have hp:(1:Int)<=10 ^ j:=N7 j;have hle:u*10<=u*10 ^ (j+1):=by
   rw[e];have:u*10*1<=u*10*10 ^ j:=Int.mul_le_mul_of_nonneg_left hp (by omega);omega
  simp only[Pu.s7];rw[if_pos (by omega),anq j (u*10) (by omega) (by rw[<-e]; exact h),e]
theorem aGS {n:Int} (h:db n=true):Pu.iQ (dI n)=some n:=by
 obtain ⟨h1,h2⟩:=FF.1 h;rcases Zp h with ⟨rfl,e⟩|⟨u,j,g1,g2,e,g4,g5,g6⟩
 ·rw[e]; rfl
 ·rw[e];unfold Pu.iQ;have hr:Pu.uz ⟨u,j⟩=true:=by
   unfold Pu.uz;rw[if_neg (by show ¬u=0; omega)];simp only[bF,decide_eq_true_eq];refine⟨⟨g1,by omega,by omega⟩,by omega,by omega⟩
  rw[if_pos ⟨hr,by show(0:Int)<=(j:Int); omega⟩];show Pu.s7 ((j:Int)).toNat u=some n;rw[cM,anq j u (by omega) (by omega),<-g2]
def gY (n:Int):Json:=⟨4,dI n,[],[],[]⟩
def A4 (s:ad):Json:=⟨5,⟨0,0⟩,s,[],[]⟩
def uU (b:Bool):Json:=⟨if b then 3 else 2,⟨0,0⟩,[],[],[]⟩
def I3 (ns:List ad) (is:List Json):Json:=⟨7,⟨0,0⟩,[],ns,is⟩
theorem CZ {n:Int} (h:db n=true):Pu.nw (gY n)=some n:=by
 unfold Pu.nw gY;rw[if_pos rfl];exact aGS h
theorem anr (b:Bool):Pu.uA (uU b)=some b:=by cases b<;>rfl
theorem qx {n:Int} (h:db n=true) {d:Int} (hd:d<=16):cC (gY n) d=true:=kq.2 (.num _ d hd (Zq h))
theorem ans {s:ad} (h:dh s=true) {d:Int} (hd:d<=16):cC (A4 s) d=true:=kq.2 (.text _ d hd h)
theorem OY (b:Bool) {d:Int} (hd:d<=16):cC (uU b) d=true:=by cases b<;>exact kq.2 (.name _ d hd (by simp))
theorem aGT {ns:List ad} {is:List Json} {d:Int} (hl:ns.length=is.length) (hu:fG [] ns=true) (h:cL is (d+1)=true) (hd:d<=16):cC (I3 ns is) d=true:=kq.2 (.obj _ _ d hd hl hu h)
theorem qy {n:Int} (h:db n=true):(bT (gY n)).length<=40:=by
 have e:bT (gY n)=fR (dI n):=by unfold gY; simp only[bT]; rfl
 have e2:fR (dI n)=ie (dI n):=by unfold fR; rw[xn.2 (Zq h)]; rfl
 rw[e,e2];exact aE6 _ (Zq h)
theorem OZ (b:Bool):(bT (uU b)).length<=5:=by cases b<;>decide
theorem ant (s:ad):(bT (A4 s)).length<=6*s.length+2:=by
 have e:bT (A4 s)=dW s:=by unfold A4; simp only[bT]; rfl
 rw[e];exact FA s
theorem aGU (ns:List ad) (l:List Json):(bT (I3 ns l)).length=(eO ns l true).length+2:=by
 have e:bT (I3 ns l)=123::(eO ns l true++[125]):=by unfold I3; simp only[bT]; rfl
 rw[e]; simp
end Go.Proofs.YtidfokedcnhahaaGreatDoor
set_option maxRecDepth 100000
namespace Go.Proofs.YtidfokedcnhahaaGreatDoor
open Go Go.ak
def I4 (h:Nat) (c:UInt8):Nat:=((h^^^c.toNat)*16777619)%4294967296
theorem Zr (h:Nat) (c:UInt8):I4 h c<4294967296:=by
 unfold I4;exact xA _ (by decide)
def uV (s:ad) (h:Nat):Nat:=s.foldl I4 h
def C0 (s:ad):Nat:=uV s 2166136261
theorem Zs (c:UInt8) (s:ad) (h:Nat):uV (c::s) h=uV s (I4 h c):=by
 unfold uV;rw[FO]
theorem aGV (s:ad):∀(h:Nat),h<4294967296->uV s h<4294967296:=by
 induction s with
 | nil=>intro h hh; unfold uV; rw[ZR]; exact hh
 | cons c s ih=>intro h _; rw[Zs]; exact ih _ (Zr h c)
theorem aGW {h:Nat} (hh:h<4294967296) (c:UInt8):h^^^c.toNat<4294967296:=by
 have:=fa c;exact Nat.xor_lt_two_pow (n:=32) hh (by omega)
def O0:ad:=[48,49,50,51,52,53,54,55,56,57,97,98,99,100,101,102]
def uW (n:Nat):UInt8:=O0.getD (n%16) 0
def A5 (h:Nat):ad:=[uW (h / 268435456),uW (h / 16777216),uW (h / 1048576),uW (h / 65536),uW (h / 4096),uW (h / 256),uW (h / 16),uW h]
theorem aGX (a:Nat):uW a≠35:=by
 have all:∀n:Fin 16,O0.getD n.val 0≠35:=by decide +kernel
 exact all ⟨a%16,xA _ (by decide)⟩
theorem aGY (h:Nat):∀x∈A5 h,x≠35:=by
 intro x hx;unfold A5 at hx;simp only[eJ,Dp,or_false]at hx;rcases hx with rfl|rfl|rfl|rfl|rfl|rfl|rfl|rfl<;>exact aGX _
def eZ (s:ad):ad:=s++35::A5 (C0 s)
theorem FG (s:ad):(eZ s).length=s.length+9:=by simp[eZ,A5]
def pq (s:ad):Option ad:=if 9<=s.length/\eZ (s.take (s.length - 9))=s then some (s.take (s.length - 9))else none
theorem anu (s:ad):pq (eZ s)=some s:=by
 have hl:=FG s;have ht:(eZ s).take ((eZ s).length - 9)=s:=by rw[hl,FY]; unfold eZ; simp
 unfold pq;rw[ht,if_pos ⟨by omega,rfl⟩]
theorem anv {s t:ad} (h:pq s=some t):s=eZ t:=by
 unfold pq at h;split at h
 ·rename_i hc;cases h;exact hc.2.symm
 ·cases h
end Go.Proofs.YtidfokedcnhahaaGreatDoor
set_option maxRecDepth 100000
namespace Go.Proofs.YtidfokedcnhahaaGreatDoor
open Go Go.ak Go.Lib
def mU:ad:=[97,98,99,100,101,102,103,104,105,106,107,108,109,110,111,112,113,114,115,116,117,118,119,120,121,122,65,66,67,68,69,70,71,72,73,74,75,76,77,78,79,80,81,82,83,84,85,86,87,88,89,90,48,49,50,51,52,53,54,55,56,57,95,46,58,45]
def pr (s:ad):Bool:=s.all (mU.contains ·)&&(!s.isEmpty&&decide (s.length<=16))
def C1:ad:=[104,101,97,100,101,114,73,100]
def C2:ad:=[115,101,114,105,97,108,78,117,109,98,101,114]
def C3:ad:=[111,114,100,101,114,73,100]
def C4:ad:=[111,114,100,101,114,85,112,100,97,116,101,73,100]
def dc (v:Json) (s:ad):Option Int:=(Pu.iJ v s).bind Pu.nw
def tq (v:Json) (s:ad):Option ad:=(Pu.iJ v s).bind Pu.Cx
def nN (v:Json) (s:ad):Option Bool:=(Pu.iJ v s).bind Pu.uA
def aGZ (x:Stop):Prop:=db x.node=true/\db x.seq=true
def aG0 (x:ak.Way):Prop:=db x.pB=true/\db x.seq=true
structure OkO (o:Order):Prop where
 name:pr o.bW=true
 header:db o.header=true
 order:db o.order=true
 update:db o.update=true
 nodes:∀x∈o.nodes,aGZ x
 pC:∀x∈o.pC,aG0 x
 many:1<=o.nodes.length/\o.nodes.length<=64/\o.pC.length+1=o.nodes.length
theorem O1 {s:ad} (h:pr s=true):dh s=true/\s.length<=16:=by
 unfold pr at h;simp only[bF,decide_eq_true_eq]at h;refine⟨?_,h.2.2⟩;refine Cw.2 ⟨s.map (·.toNat),fun c hc => ?_,?_⟩
 ·obtain ⟨b,hb,rfl⟩:=Dj.1 hc;have:=gF.1 h.1 b hb;have all:∀n:Fin 256,mU.contains (bl n.val)=true->n.val<128:=by decide +kernel
  have aJu:b.toNat<128:=by simpa using all ⟨b.toNat,fa b⟩ (by simpa using this)
  exact .inl (by omega)
 ·have fK:=gF.1 h.1;clear h
  induction s with
  | nil=>rfl
  | cons b s ih=>
   have hb:=fK b (by simp);have all:∀n:Fin 256,mU.contains (bl n.val)=true->enc n.val=[bl n.val]:=by decide +kernel
   have gn:=all ⟨b.toNat,fa b⟩ (by simpa using hb);simp only[kz,bE,Dr];have:=ih fun x hx=>fK x (by simp[hx])
   unfold bE at this;rw[<-this];have hb3:enc b.toNat=[b]:=by simpa using gn
   rw[hb3];rfl
theorem aG1 {l:List Json} {d:Int} (h:∀x∈l,cC x d=true):cL l d=true:=by
 induction l with
 | nil=>rfl
 | cons x l ih=>
  simp only[cL];rw[h x (by simp),ih fun y hy=>h y (by simp[hy])];rfl
theorem aG2 {v:Json} {d:Int} (h:cC v d=true):bR v.kind:=by
 cases kq.1 h<;>first|(unfold bR; simp only; omega)|(unfold bR; decide)
mutual
theorem anw:∀(v:Json) (d:Int),cC v d=true->nK v=true->Pu.cy v
 | ⟨k,⟨m,e⟩,t,ns,is⟩,d,h,hl=>by
  have hL:=Zt is;obtain ⟨l1,l2,l3,l4,l5⟩:=uQ.1 hl;have hk:=aG2 h;have hi:=Zo _ _ h;have hI:∀y∈is,Pu.cy y:=by
   cases kq.1 h with
   | name _ _ hd hk=>simp
   | num _ _ hd hn=>simp
   | text _ _ hd ht=>simp
   | arr _ _ hd hi=>exact hL _ hi l3
   | obj _ _ _ hd hl hu hi=>exact hL _ hi l3
  exact Pu.aho hk hi.1 hi.2.1 (by simp only at l4; omega) l1 (fun s hs=>by have:=l5 s hs; omega) l2 hI
theorem Zt:∀(l:List Json) (d:Int),cL l d=true->qu l=true->∀y∈l,Pu.cy y
 | [],_,_,_=>by simp
 | x::l,d,h,hl=>by
  simp only[cL,qu,bF]at h hl;intro y hy;rcases eJ.1 hy with e|hy
  ·rw[e];exact anw x d h.1 hl.1
  ·exact Zt l d h.2 hl.2 y hy
end
theorem anx {s:ad} (h:(ig s).2.1=0):Pu.cy (ig s).1:=by
 obtain ⟨h1,h2,_⟩:=aGy s h;exact anw _ 1 h1 h2
theorem anz {n:Int} (h:db n=true):(∀ {R:Type} (k:au->Bool->Option R),dM n 0 k=k (dI n) true)/\∀ {R:Type} (k:au->Bool->Option R),dQ n 0 k=k (dI n) true:=by
 obtain ⟨h1,h2⟩:=FF.1 h;rcases Zp h with ⟨rfl,e⟩|⟨u,j,g1,g2,e,g4,g5,g6⟩
 ·rw[e];exact⟨fun k=>XF 0 k,fun k=>YN 0 k⟩
 ·rw[e];have hI:bR (u*10 ^ j):=by rw[<-g2]; unfold bR; omega
  have hm:gf u (0+(j:Int))=(⟨u,(j:Int)⟩,true):=by
   unfold gf;rw[if_pos ⟨by omega,by omega,by omega,by omega⟩,Int.zero_add]
  constructor
  ·intro R k;have:=XE u j 0 g1 hI (by omega) (by omega) k;rw[hm,<-g2]at this;exact this
  ·intro R k;have:=YM u j 0 g1 hI (by unfold bR; omega) k;rw[hm,<-g2]at this;exact this
theorem C5 {R:Type} {n:Int} (h:db n=true) (k:Json->Option R):cZ n k=k (gY n):=by
 unfold cZ Te;rw[(anz h).1];rfl
theorem C6 {R:Type} {n:Int} (h:db n=true) (k:Json->Option R):ot n k=k (gY n):=by
 unfold ot VZ;rw[(anz h).2];rfl
def C7:ad:=[98,111,111,116]
def C8:ad:=[108,105,118,101]
def C9:ad:=[108,97,115,116,78,111,100,101,73,100]
def Da:ad:=[108,97,115,116,78,111,100,101,83,101,113,117,101,110,99,101,73,100]
def Db:ad:=[100,114,105,118,105,110,103]
def Dc:ad:=[97,99,99,101,112,116,101,100]
abbrev bJ:=ak.State
def jv (s:bJ):Bool:=
 pr s.bW&&((db s.header&&(db s.bC&&(db s.order&&(db s.update&&(db s.node&&(db s.seq&&db s.accepted))))))&&(decide (bK s.seq 2=0)&&(s.live||!s.cB)))
def pv:List ad:=[C1,C7,C2,C3,C4,C8,C9,Da,Db,Dc]
def oF (s:bJ):List Json:=[gY s.header,gY s.bC,A4 s.bW,gY s.order,gY s.update,uU s.live,gY s.node,gY s.seq,uU s.cB,gY s.accepted]
def gE (s:bJ):Json:=I3 pv (oF s)
def stateT (v:Json):Option bJ:=
 match dc v C1,dc v C7,tq v C2,dc v C3,dc v C4,nN v C8,dc v C9,dc v Da,nN v Db,dc v Dc with
 | some a,some b,some c,some d,some e,some f,some g,some h,some i,some j=>some ⟨a,b,c,d,e,f,g,h,i,j⟩
 | _,_,_,_,_,_,_,_,_,_=>none
def takeA (s:ad):Except Int bJ:=
 match pq s with
 | none=>.error 60
 | some t=>
  if(ig t).2.1≠0 then .error (ig t).2.1 else
  match stateT (ig t).1 with
  | some o=>if jv o then .ok o else .error 90
  | none=>.error 90
structure FH (s:bJ):Prop where
 name:pr s.bW=true
 header:db s.header=true
 bC:db s.bC=true
 order:db s.order=true
 update:db s.update=true
 node:db s.node=true
 seq:db s.seq=true
 accepted:db s.accepted=true
theorem I5 {s:bJ} (h:jv s=true):FH s:=by
 simp only[jv,bF]at h;obtain ⟨h1,⟨h2,h3,h4,h5,h6,h7,h8⟩,_⟩:=h;exact⟨h1,h2,h3,h4,h5,h6,h7,h8⟩
theorem aG3 {s:bJ} (h:FH s):stateT (gE s)=some s:=by
 have e1:dc (gE s) C1=some s.header:=by show Pu.nw (gY s.header)=_; exact CZ h.header
 have e2:dc (gE s) C7=some s.bC:=by show Pu.nw (gY s.bC)=_; exact CZ h.bC
 have e3:tq (gE s) C2=some s.bW:=rfl;have e4:dc (gE s) C3=some s.order:=by show Pu.nw (gY s.order)=_; exact CZ h.order
 have e5:dc (gE s) C4=some s.update:=by show Pu.nw (gY s.update)=_; exact CZ h.update
 have e6:nN (gE s) C8=some s.live:=by show Pu.uA (uU s.live)=_; exact anr _
 have e7:dc (gE s) C9=some s.node:=by show Pu.nw (gY s.node)=_; exact CZ h.node
 have e8:dc (gE s) Da=some s.seq:=by show Pu.nw (gY s.seq)=_; exact CZ h.seq
 have e9:nN (gE s) Db=some s.cB:=by show Pu.uA (uU s.cB)=_; exact anr _
 have OX:dc (gE s) Dc=some s.accepted:=by show Pu.nw (gY s.accepted)=_; exact CZ h.accepted
 unfold stateT;rw[e1,e2,e3,e4,e5,e6,e7,e8,e9,OX]
theorem Dd {s:bJ} (h:FH s):cC (gE s) 1=true:=by
 obtain ⟨hv,_⟩:=O1 h.name;refine aGT rfl (by decide +kernel) ?_ (by omega);simp only[oF,cL,qD];rw[qx h.header (by omega),qx h.bC (by omega),ans hv (by omega),qx h.order (by omega),qx h.update (by omega),OY s.live (by omega),qx h.node (by omega),qx h.seq (by omega),OY s.cB (by omega),qx h.accepted (by omega)];rfl
theorem I6 {s:bJ} (h:FH s):(bT (gE s)).length<=20000:=by
 obtain ⟨_,hv⟩:=O1 h.name;have h1:=qy h.header;have h2:=qy h.bC;have h3:=qy h.order;have h4:=qy h.update;have h5:=qy h.node;have h6:=qy h.seq;have h7:=qy h.accepted;have h8:=ant s.bW;have h9:=OZ s.live;have oL:=OZ s.cB;have q:(dW C1).length<=30/\(dW C7).length<=30/\(dW C2).length<=30/\(dW C3).length<=30/\(dW C4).length<=30/\(dW C8).length<=30/\(dW C9).length<=30/\(dW Da).length<=30/\(dW Db).length<=30/\(dW Dc).length<=30:=by decide +kernel
 obtain ⟨q1,q2,q3,q4,q5,q6,q7,q8,q9,lF⟩:=q;unfold gE pv oF;rw[aGU];simp only[eO,Ds,Dt,bf,bj,cu,if_true,jy,if_false];omega
theorem aG4 {s:bJ} (h:jv s=true):takeA (eZ (bT (gE s)))=.ok s:=by
 have hk:=I5 h;unfold takeA;rw[anu];simp only;rw[aGn (Dd hk) (I6 hk)];simp only[ne_eq,not_true_eq_false,if_false];rw[aG3 hk];simp only;rw[if_pos h]
def FI (a b:bJ):Bool:=decide (a.bC>b.bC)||(decide (a.bC=b.bC)&&decide (a.header>b.header))
def iO (c n:Int):Int:=bK (if c<0 then -(c+1)else c) n
theorem O2 (c n:Int):0<=iO c n:=by
 unfold iO;apply Int.tmod_nonneg;split<;>omega
theorem O3 (c:Int) {n:Int} (h:0<n):iO c n<n:=by
 unfold iO;exact Int.tmod_lt_of_pos _ h
theorem aG5 (c:Int):db (iO c 1000000001)=true:=FF.2 ⟨O2 c _,by have:=O3 c (n:=1000000001) (by decide); omega⟩
def anA:ad:=[97,98,99,120,121,122,65,66,67,88,89,90,48,49,56,57,95,46,58,45]
def A6 (b:UInt8):UInt8:=anA.getD (b.toNat%20) 0
def A7 (s:ad):ad:=110::(s.take 15).map A6
theorem aG6 (b:UInt8):mU.contains (A6 b)=true:=by
 have all:∀n:Fin 20,mU.contains (anA.getD n.val 0)=true:=by decide +kernel
 exact all ⟨b.toNat%20,xA _ (by decide)⟩
theorem aG7 (s:ad):pr (A7 s)=true:=by
 unfold pr A7;simp only[List.isEmpty_cons,iq,oJ,bF,decide_eq_true_eq,bj,oH,eP];refine⟨gF.2 fun x hx => ?_,by omega⟩;rcases eJ.1 hx with rfl|hx
 ·decide +kernel
 ·obtain ⟨y,_,rfl⟩:=Dj.1 hx;exact aG6 y
def A8 (s:bJ):bJ:=⟨iO s.header 1000000001,iO s.bC 1000000001,A7 s.bW,iO s.order 1000000001,iO s.update 1000000001,s.live||s.cB,iO s.node 1000000001,2*iO s.seq 500000001,s.cB,iO s.accepted 1000000001⟩
theorem aG8 (x:Int):bK (2*x) 2=0:=Int.tmod_eq_zero_of_dvd ⟨x,rfl⟩
theorem aG9 (s:bJ):jv (A8 s)=true:=by
 have h1:=O2 s.seq 500000001;have h2:=O3 s.seq (n:=500000001) (by decide);have h3:db (2*iO s.seq 500000001)=true:=FF.2 ⟨by omega,by omega⟩;unfold jv A8;simp only[aG7,aG5,h3,aG8,decide_true,Jk,oJ];cases s.live<;>cases s.cB<;>rfl
theorem aHa {R:Type} (c n:Int) (hc:bR c) (h0:0<n) (k:Int->Option R) :
  (bif(decide (c<(0:Int)))then(ag (!decide (n=0)) (k (bK (ae.wrap (0 - (ae.wrap (c+1)))) n)))else(ag (!decide (n=0)) (k (bK c n))))=k (iO c n):=by
 obtain ⟨h1,h2⟩:=hc;have hz:(!decide (n=0))=true:=by simp; omega
 unfold iO;by_cases h:c<0
 ·have hd:decide (c<(0:Int))=true:=by simpa using h
  rw[hd,cond_true,aw hz,aV (n:=c+1) (by omega) (by omega),aV (by omega) (by omega),if_pos h,Int.zero_sub]
 ·have hd:decide (c<(0:Int))=false:=by simpa using h
  rw[hd,cond_false,aw hz,if_neg h]
theorem anB:∀s:ad,aK s mU=[]↔s.all (mU.contains ·)=true
 | []=>by simp[aK]
 | b::s=>by
  have ih:=anB s;unfold aK at ih ⊢;rw[tD,List.all_cons];by_cases h:mU.contains b=true
  ·rw[if_pos h,h,oJ];exact ih
  ·rw[if_neg h,Bool.eq_false_iff.2 h,lu];simp
theorem aHb (s:ad):((aK s mU==([]:ad))&&(!(s==([]:ad))&&decide ((s.length:Int)<=16)))=pr s:=by
 have e1:(aK s mU==([]:ad))=s.all (mU.contains ·):=by
  rw[FQ,<-anB];exact beq_iff_eq
 have e2:(s==([]:ad))=s.isEmpty:=by cases s<;>rfl
 have e3:decide ((s.length:Int)<=16)=decide (s.length<=16):=decide_eq_decide.2 (by omega);unfold pr;rw[e1,e2,e3]
def I7 (n:Int):Bool:=decide (97<=n/\n<=122)||decide (65<=n/\n<=90)||decide (48<=n/\n<=57)||decide (n=95)||decide (n=46)||decide (n=58)||decide (n=45)
theorem aHc (b:UInt8):I7 (b.toNat:Int)=mU.contains b:=by
 have all:∀n:Fin 256,I7 ((bl n.val).toNat:Int)=mU.contains (bl n.val):=by decide +kernel
 have:=all ⟨b.toNat,fa b⟩;simpa only[UInt8.ofNat_toNat]using this
def mn (s:ad) (j:Nat):ad:=110::((s.take j).map A6++s.drop j)
theorem aHd (s:ad) (j:Nat) (h:j<s.length) (d:UInt8):(mn s j).getD (j+1) d=s[j]:=by
 have e:((s.take j).map A6).length=j:=by rw[oH,eP]; omega
 unfold mn;rw[Z0,List.getD_eq_getElem?_getD,List.getElem?_append_right (by omega),e,Nat.sub_self,List.getElem?_drop,zk,List.getElem?_eq_getElem h];rfl
theorem aHe (s:ad) (j:Nat) (h:j<s.length):(mn s j).set (j+1) (A6 s[j])=mn s (j+1):=by
 have e:((s.take j).map A6).length=j:=by rw[oH,eP]; omega
 unfold mn;rw[List.set_cons_succ,List.set_append_right _ _ (by omega),e,Nat.sub_self,im h,List.set_cons_zero,List.take_succ_eq_append_getElem h,ZO,List.map_singleton,gG];rfl
theorem O4 (s:ad) (j:Nat):(mn s j).length=s.length+1:=by
 unfold mn;simp only[bj,bf,oH,eP,ct];omega
theorem aHf (s:ad):mn (s.take 15) (s.take 15).length=A7 s:=by
 unfold mn A7;rw[PV,List.drop_length,oK]
theorem Zu:∀(l seen:List ad),fG seen l=true↔(∀n∈l,dh n=true)/\l.Nodup/\∀n∈l,n∉seen
 | [],seen=>by simp[fG]
 | x::l,seen=>by
  have ih:=Zu l (x::seen);simp only[fG,bF,ih,xx,List.contains_eq_mem,decide_eq_false_iff_not];constructor
  ·rintro ⟨⟨h1,h2⟩,h3,h4,h5⟩
   refine⟨fun n hn => ?_,Ps.2 ⟨fun hx=>h5 x hx (by simp),h4⟩,fun n hn => ?_⟩
   ·rcases eJ.1 hn with rfl|hn
    ·exact h2
    ·exact h3 n hn
   ·rcases eJ.1 hn with rfl|hn
    ·exact h1
    ·exact fun hm=>h5 n hn (by simp[hm])
  ·rintro ⟨h1,h2,h3⟩
   obtain ⟨h4,h5⟩:=Ps.1 h2;refine⟨⟨h3 x (by simp),h1 x (by simp)⟩,fun n hn=>h1 n (by simp[hn]),h5,fun n hn hm => ?_⟩;rcases eJ.1 hm with rfl|hm
   ·exact h4 hn
   ·exact h3 n (by simp[hn]) hm
def De:List ad->Nat
 | []=>0
 | n::l=>(dW n).length+2+De l
def Df:List Json->Nat
 | []=>0
 | x::l=>(bT x).length+Df l
structure Fields (ns:List ad) (is:List Json):Prop where
 len:ns.length=is.length
 uniq:fG [] ns=true
 right:∀x∈is,cC x 2=true
 short:De ns+Df is<=19000
variable {ns:List ad} {is:List Json}
theorem Fields.more (h:Fields ns is) {n:ad} {x:Json} (hv:dh n=true) (hn:n∉ns) (hx:cC x 2=true) (hs:De ns+Df is+((dW n).length+2)+(bT x).length<=19000):Fields (n::ns) (x::is):=by
 obtain ⟨u1,u2,u3⟩:=(Zu _ _).1 h.uniq;refine⟨by simp[h.len],(Zu _ _).2 ⟨fun m hm => ?_,Ps.2 ⟨hn,u2⟩,fun m hm=>by simp⟩,fun y hy => ?_,?_⟩
 ·rcases eJ.1 hm with rfl|hm
  ·exact hv
  ·exact u1 m hm
 ·rcases eJ.1 hy with rfl|hy
  ·exact hx
  ·exact h.right y hy
 ·simp only[De,Df];omega
theorem aHg {s:bJ} (h:FH s):Fields pv (oF s)/\De pv+Df (oF s)<=2000:=by
 obtain ⟨hv,hvl⟩:=O1 h.name;have h1:=qy h.header;have h2:=qy h.bC;have h3:=qy h.order;have h4:=qy h.update;have h5:=qy h.node;have h6:=qy h.seq;have h7:=qy h.accepted;have h8:=ant s.bW;have h9:=OZ s.live;have oL:=OZ s.cB;have q:De pv<=400:=by decide +kernel
 have hs:De pv+Df (oF s)<=2000:=by
  simp only[oF,Df];omega
 refine⟨⟨rfl,by decide +kernel,fun x hx => ?_,by omega⟩,hs⟩;simp only[oF,eJ,Dp,or_false]at hx;rcases hx with rfl|rfl|rfl|rfl|rfl|rfl|rfl|rfl|rfl|rfl
 ·exact qx h.header (by omega)
 ·exact qx h.bC (by omega)
 ·exact ans hv (by omega)
 ·exact qx h.order (by omega)
 ·exact qx h.update (by omega)
 ·exact OY _ (by omega)
 ·exact qx h.node (by omega)
 ·exact qx h.seq (by omega)
 ·exact OY _ (by omega)
 ·exact qx h.accepted (by omega)
structure aJv (o:Order):Prop where
 first:bK (o.nodes.getD 0 Stop.z).seq 2=0/\(o.nodes.getD 0 Stop.z).tF=true
 next:∀i,i<o.pC.length->(o.nodes.getD (i+1) Stop.z).seq=(o.pC.getD i ak.Way.z).seq+1/\(o.pC.getD i ak.Way.z).tF=(o.nodes.getD (i+1) Stop.z).tF
theorem anC {α:Type} [DecidableEq α] (a b:α):(a != b)=!decide (a=b):=by
 by_cases h:a=b<;>simp[h]
theorem O5 {α:Type} [DecidableEq α] (a b:α):(a==b)=decide (a=b):=by
 by_cases h:a=b<;>simp[h]
theorem Dg (i:Nat):(decide ((0:Int)<=(i:Int))&&true)=true:=by rw[ai (by omega)]; rfl
theorem Dh {i n:Nat} (h:i<n) (hn:n<=4000000000000):ae.wrap ((i:Int)+1)=((i+1:Nat):Int):=by rw[aV (by omega) (by omega)]; omega
theorem topicName_ok {R:Type} (s:ad) (k:Bool->Option R):topic_Name s k=k (pr s):=by
 unfold topic_Name topic_Name_X;rw[aw (by decide +kernel),<-aHb s];show(bif(aK s mU==([]:ad))then(bif(!(s==([]:ad)))then k (decide ((s.length:Int)<=16))else k false)else k false)=_;cases (aK s mU==([]:ad))<;>cases (s==([]:ad))<;>rfl
theorem O6 (n:Nat):bz.wrap (n:Int)=((n%4294967296:Nat):Int):=by
 show((n:Int)%4294967296)=_;omega
theorem Zv (n:Nat):(aJ bz.bits (n:Int)).toNat=n%4294967296:=by
 rw[BitVec.toNat_ofInt];show((n:Int)%((4294967296:Nat):Int)).toNat=_;omega
theorem aHh (h c:Nat) (hh:h<4294967296) (c8:UInt8) (hc:c=c8.toNat):bz.wrap ((aJ bz.bits (h:Int)^^^aJ bz.bits (c:Int)).toNat:Int)=((h^^^c8.toNat:Nat):Int):=by
 have h8:=fa c8;subst hc;rw[BitVec.toNat_xor,Zv,Zv,u6 hh,u6 (by omega),O6,u6 (aGW hh c8)]
theorem anD (h:Nat) (hh:h<4294967296) (c:UInt8):bz.wrap ((bz.wrap ((aJ bz.bits (h:Int)^^^aJ bz.bits (bz.wrap (c.toNat:Int))).toNat:Int))*16777619)=((I4 h c:Nat):Int):=by
 have h8:=fa c;rw[O6 c.toNat,u6 (by omega),aHh h c.toNat hh c rfl];have e:(((h^^^c.toNat:Nat):Int)*16777619)=(((h^^^c.toNat)*16777619:Nat):Int):=by rw[Int.natCast_mul]; rfl
 rw[e,O6];rfl
theorem aHi {R:Type} (s:ad) (hs:s.length<=1099511627785) (e0:Int->Option R):∀(F i h:Nat),i<=s.length->s.length - i<F->h<4294967296->p9 F (h:Int) s.length (s.length:Int) (i:Int) (fX s) e0=e0 ((uV (s.drop i) h:Nat):Int):=by
 intro F
 induction F with
 | zero=>intro i h _ hF; omega
 | succ F ih=>
  intro i h hi hF hh;show LK (fun x0 x1 x2 x3 x4=>p9 F x0 x1 x2 x3 x4 e0) (h:Int) s.length (s.length:Int) (i:Int) (fX s) e0=_;unfold LK;by_cases hl:i<s.length;rotate_left
  ·rw[aE (show ¬(i:Int)<(s.length:Int) by omega),cond_false,gQ (by omega)];unfold uV;rw[ZR]
  have hw:ae.wrap ((i:Int)+1)=((i+1:Nat):Int):=by rw[aV (by omega) (by omega)]; omega
  have hg:(fX s).getD (i:Int).toNat (Ty.az (.int .u8))=(s[i].toNat:Int):=by
   have e1:((s.map fun b=>(b.toNat:Int)):List Int).getD i 0=(s[i].toNat:Int):=by
    rw[List.getD_eq_getElem?_getD,List.getElem?_map,List.getElem?_eq_getElem hl];rfl
   exact e1
  rw[ai (show(i:Int)<(s.length:Int) by omega),cond_true,aw (by rw[ai (show(0:Int)<=(i:Int) by omega)]; rfl),aw (ai (by rw[cM,CJ,mh]; exact hl)),hg,anD h hh,hw];refine(ih (i+1) _ (by omega) (by omega) (Zr h s[i])).trans ?_;rw[im hl,Zs]
theorem aHj {R:Type} (s:ad) (hs:s.length<=1099511627785) (k:Int->Option R):ub s k=k ((C0 s:Nat):Int):=by
 have e:ub s k=p9 (ah 2166136261+ah (s.length:Int)+ah 0+av (fX s)+64) ((2166136261:Nat):Int) s.length (s.length:Int) ((0:Nat):Int) (fX s) (fun y7=>k y7):=rfl;rw[e,aHi s hs _ _ 0 _ (by omega) (by omega) (by decide),fV];rfl
theorem aHk (n:Nat):fb (n:Int) (2 ^ (min 4 bz.bits))=((n / 16:Nat):Int):=by
 show fb (n:Int) 16=_;rw[Pg _ (by decide)];omega
theorem anE (n:Nat):bz.wrap ((aJ bz.bits (n:Int)&&&aJ bz.bits 15).toNat:Int)=((n%16:Nat):Int):=by
 have h2:(aJ bz.bits 15).toNat=15:=by decide
 rw[BitVec.toNat_and,Zv,h2];have h3:(n%4294967296)&&&15=(n%4294967296)%16:=Nat.and_two_pow_sub_one_eq_mod _ 4;rw[h3,O6];omega
theorem anF (n:Nat):(decide ((0:Int)<=((n%16:Nat):Int))&&decide (((n%16:Nat):Int)<(16:Int)))=true:=by
 rw[ai (by omega),ai (by omega)]; rfl
theorem FJ {R:Type} (s:ad) (hs:s.length<=1099511627776) (k:ad->Option R):eT s k=k (eZ s):=by
 have e:eT s k=LM ub s k:=rfl;rw[e];unfold LM
 try dsimp only
 rw[aHj s (by omega)];have hH:=aGV s 2166136261 (by decide);unfold eZ A5;unfold C0;generalize uV s 2166136261=H at hH;simp only[aHk,anE,anF,ag,cond_true,cM];rw[ai (show s.length+1<=9223372036854775807 by omega),cond_true,ai (by simp only[bf,oH,bj,cu]; omega),cond_true];congr 1;rw[gG];congr 1;simp only[kz,sq,cM,UInt8.ofNat_toNat,List.singleton_append,uW,O0,Nat.div_div_eq_div_mul]
theorem last_cases (s:ad):(nh s 35 = -1/\∀x∈s,x≠35)\/∃i:Nat,∃h:i<s.length,nh s 35=(i:Int)/\s[i]=35/\∀j (hj:j<s.length),i<j->s[j]≠35:=by
 have ka:∀j (h:j<s.length),(⟨s.toArray⟩:ByteArray).data[j]! = s[j]:=fun j h=>by
  show s.toArray[j]! = s[j];rw[getElem!_pos _ _ (by simpa using h)];simp
 have bL:(⟨s.toArray⟩:ByteArray).size=s.length:=by show s.toArray.size=_; simp
 have Zw:∀x:UInt8,((x.toNat:Int)=((35:UInt8).toNat:Int))↔x=35:=fun x=>by
  constructor
  ·intro h; exact xC.1 (by omega)
  ·rintro rfl; rfl
 unfold nh;rcases Go.Lib.lastIndexByte_spec ⟨s.toArray⟩ ((35:UInt8).toNat:Int)with ⟨h1,h2⟩|⟨i,h1,h2,h3,h4⟩
 ·refine .inl ⟨h1,fun x hx => ?_⟩;obtain ⟨j,hj,rfl⟩:=List.getElem_of_mem hx;have:=h2 j (by rw[bL]; exact hj);rw[ka j hj]at this;exact fun e=>this ((Zw _).2 e)
 ·rw[bL]at h1;refine .inr ⟨i,h1,h2,?_,fun j hj cG => ?_⟩
  ·rw[ka i h1]at h3;exact(Zw _).1 h3
  ·have:=h4 j cG (by rw[bL]; exact hj);rw[ka j hj]at this;exact fun e=>this ((Zw _).2 e)
theorem anG (t:ad):∃h:t.length<(eZ t).length,(eZ t)[t.length]=35/\∀j (hj:j<(eZ t).length),t.length<j->(eZ t)[j]≠35:=by
 have hl:=FG t;refine⟨by omega,?_,fun j hj cG => ?_⟩
 ·simp[eZ]
 ·have hm:(eZ t)[j]∈A5 (C0 t):=by
   obtain ⟨m,rfl⟩:∃m,j=t.length+(m+1):=⟨j - t.length - 1,by omega⟩;have e:(eZ t)[t.length+(m+1)]? = (A5 (C0 t))[m]? :=by
    unfold eZ;rw[List.getElem?_append_right (by omega),Ji,List.getElem?_cons_succ]
   rw[List.getElem?_eq_getElem hj]at e;exact List.mem_of_getElem? e.symm
  exact aGY _ _ hm
theorem aHl {R:Type} (s:ad) (hs:s.length<=1099511627776) (k:ad->Int->Option R):kL s k=match pq s with|some t=>k t 0|none=>k [] 60:=by
 have e:kL s k=LP eT s k:=rfl;rw[e];unfold LP;rw[aw (ai (by omega))];rcases last_cases s with ⟨h1,h2⟩|⟨i,hi,h1,h2,h3⟩
 ·rw[h1];have:pq s=none:=by
   cases ho:pq s with
   | none=>rfl
   | some t=>
    exfalso;have e:=anv ho;obtain ⟨g1,g2,_⟩:=anG t;exact h2 35 (by rw[e,<-g2]; exact jd _) rfl
  rw[this];rfl
 ·rw[h1];rw[aE (show ¬(i:Int)<0 by omega),cond_false];have c1:(decide ((0:Int)<=(i:Int))&&decide ((i:Int)<=(s.length:Int)))=true:=by rw[ai (by omega),ai (by omega)]; rfl
  have c2:decide ((0:Int)<=(i:Int))=true:=ai (by omega);rw[aw c1,aw c2,cM,fV,vl,FJ _ (by rw[eP]; omega)];by_cases hq:eZ (s.take i)=s
  ·have b1:(!(eZ (s.take i)==s))=false:=by simp[hq]
   have ho:pq s=some (s.take i):=by rw[<-hq,anu,hq]
   rw[b1,cond_false,aw c1,aw c2,ho]
  ·have b1:(!(eZ (s.take i)==s))=true:=by simpa using hq
   rw[b1,cond_true];have ho:pq s=none:=by
    cases ho:pq s with
    | none=>rfl
    | some t=>
     exfalso;have e:=anv ho;obtain ⟨g1,g2,g3⟩:=anG t;have hit:i=t.length:=by
      subst e;rcases ZT i t.length with h|h|h
      ·exact(h3 t.length g1 h g2).elim
      ·exact h
      ·exact(g3 i hi h h2).elim
     apply hq;rw[e,hit];congr 1;unfold eZ;simp
   rw[ho]
theorem aHm {R:Type} (s:ad) (k:Json->Option R):yw s k=k (A4 s):=rfl
theorem anH {R:Type} (b:Bool) (k:Json->Option R):oa b k=k (uU b):=by cases b<;>rfl
theorem anI:([104,101,97,100,101,114,73,100]:ad)=C1:=rfl
theorem anJ:([115,101,114,105,97,108,78,117,109,98,101,114]:ad)=C2:=rfl
theorem anK:([111,114,100,101,114,73,100]:ad)=C3:=rfl
theorem anL:([111,114,100,101,114,85,112,100,97,116,101,73,100]:ad)=C4:=rfl
theorem anM:([98,111,111,116]:ad)=C7:=rfl
theorem anN:([108,105,118,101]:ad)=C8:=rfl
theorem anO:([108,97,115,116,78,111,100,101,73,100]:ad)=C9:=rfl
theorem anP:([108,97,115,116,78,111,100,101,83,101,113,117,101,110,99,101,73,100]:ad)=Da:=rfl
theorem anQ:([100,114,105,118,105,110,103]:ad)=Db:=rfl
theorem anR:([97,99,99,101,112,116,101,100]:ad)=Dc:=rfl
theorem aHn (l:ad) (i:Nat) (d:Int) (h:i<l.length):(zs l).getD i d=((l.getD i 0).toNat:Int):=by
 rw[getD_at (by rw[mh]; exact h),getD_at h,List.getElem_map]
theorem aHo (l:ad) (i:Nat) (b:UInt8):(zs l).set i (b.toNat:Int)=zs (l.set i b):=by
 unfold zs;rw[List.map_set]
theorem aHp (b:UInt8):((([97,98,99,120,121,122,65,66,67,88,89,90,48,49,56,57,95,46,58,45]:ad).getD (bK (ae.wrap (b.toNat:Int)) 20).toNat 0).toNat:Int)=((A6 b).toNat:Int)/\0<=bK (ae.wrap (b.toNat:Int)) 20/\bK (ae.wrap (b.toNat:Int)) 20<20:=by
 have h8:=fa b;have e:bK (b.toNat:Int) 20=((b.toNat%20:Nat):Int):=by
  rw[PX (by omega)];omega
 rw[aV (by omega) (by omega),e];exact⟨rfl,by omega,by omega⟩
theorem aHq {R:Type} (s:ad) (hs:s.length<=15) (e0:Nat->List Int->Option R):∀(F j:Nat),j<=s.length->s.length - j<F ->
  sa F (s.length+1) ((j+1:Nat):Int) (zs (mn s j)) e0=e0 (s.length+1) (zs (mn s s.length)):=by
 intro F
 induction F with
 | zero=>intro j _ hF; omega
 | succ F ih=>
  intro j hj hF;show Og (fun x0 x1 x2=>sa F x0 x1 x2 e0) (s.length+1) ((j+1:Nat):Int) (zs (mn s j)) e0=_;unfold Og;by_cases h:j<s.length
  ·have hl:(zs (mn s j)).length=s.length+1:=by rw[mh,O4]
   have hg:(zs (mn s j)).getD ((j+1:Nat):Int).toNat (Ty.az (.int .u8))=(s[j].toNat:Int):=by
    refine(aHn _ (j+1) _ (by rw[O4]; omega)).trans ?_;rw[aHd s j h]
   obtain ⟨f1,f2,f3⟩:=aHp s[j];have yc:(zs (mn s j)).set ((j+1:Nat):Int).toNat ((A6 s[j]).toNat:Int)=zs (mn s (j+1)):=by
    rw[cM,aHo,aHe s j h]
   have c1:decide (((j+1:Nat):Int)<((s.length+1:Nat):Int))=true:=ai (by omega);have c2:(decide ((0:Int)<=((j+1:Nat):Int))&&true)=true:=Dg _;have c3:decide (((j+1:Nat):Int).toNat<(zs (mn s j)).length)=true:=ai (by rw[hl,cM]; omega);rw[c1,cond_true,aw c2,aw c3,hg,f1,aw (by rw[ai f2,ai f3]; rfl),aw c2,aw c3,yc,Dh (show j+1<s.length+1 by omega) (by omega)];exact ih (j+1) (by omega) (by omega)
  ·have e:j=s.length:=by omega
   rw[aE (show ¬((j+1:Nat):Int)<((s.length+1:Nat):Int) by omega),cond_false,e]
theorem aHr {R:Type} (s:ad) (hs:s.length<=1099511627776) (k:ad->Option R):xk s k=k (A7 s):=by
 unfold xk XX;have hm:(min (s.length:Int) 15)=((min s.length 15:Nat):Int):=by omega
 have ht:(s.drop 0).take ((min (s.length:Int) 15).toNat - 0)=s.take 15:=by
  rw[hm,fV,cM,vl];rcases Nat.le_total s.length 15 with h|h
  ·rw[PR h,PV,sk h]
  ·rw[Nat.min_eq_right h]
 rw[aw (by rw[hm,ai (by omega),ai (by omega)]; rfl),aw (by rw[hm]; exact ai (by omega)),ht];have hl:(s.take 15).length<=15:=by rw[eP]; omega
 rw[aw (ai (by omega))];have e0:([110]:ad)++s.take 15=mn (s.take 15) 0:=by simp[mn]
 rw[e0,O4];refine(aHq (s.take 15) hl _ _ 0 (by omega) (by rw[CJ,mh,O4]; omega)).trans ?_;rw[aHf];show k (ft (zs (A7 s)))=_;rw[pe]
structure aJw (o:Order):Prop where
 header:bR o.header
 order:bR o.order
 update:bR o.update
 name:o.bW.length<=1099511627776
 many:o.nodes.length<=1099511627776/\o.pC.length<=1099511627776
 node:∀x∈o.nodes,bR x.node/\bR x.seq
theorem aHs {n:Int} (h:Small 1048576 (.int .i64 n)):bR n:=mb.1 h.fi
theorem aHt {R:Type} (n:Int) (x y:Option R) :
  (bif decide (n>=97)then(bif decide (n<=122)then x else(bif decide (n>=65)then(bif decide (n<=90)then x else(bif decide (n>=48)then(bif decide (n<=57)then x else(bif n==95 then x else(bif n==46 then x else(bif n==58 then x else(bif !(n==45)then y else x)))))else(bif n==95 then x else(bif n==46 then x else(bif n==58 then x else(bif !(n==45)then y else x))))))else(bif decide (n>=48)then(bif decide (n<=57)then x else(bif n==95 then x else(bif n==46 then x else(bif n==58 then x else(bif !(n==45)then y else x)))))else(bif n==95 then x else(bif n==46 then x else(bif n==58 then x else(bif !(n==45)then y else x)))))))
   else(bif decide (n>=65)then(bif decide (n<=90)then x else(bif decide (n>=48)then(bif decide (n<=57)then x else(bif n==95 then x else(bif n==46 then x else(bif n==58 then x else(bif !(n==45)then y else x)))))else(bif n==95 then x else(bif n==46 then x else(bif n==58 then x else(bif !(n==45)then y else x))))))else(bif decide (n>=48)then(bif decide (n<=57)then x else(bif n==95 then x else(bif n==46 then x else(bif n==58 then x else(bif !(n==45)then y else x)))))else(bif n==95 then x else(bif n==46 then x else(bif n==58 then x else(bif !(n==45)then y else x)))))))
  = bif I7 n then x else y:=by
 have hc:I7 n=((decide (n>=97)&&decide (n<=122))||(decide (n>=65)&&decide (n<=90))||(decide (n>=48)&&decide (n<=57))||(n==95)||(n==46)||(n==58)||(n==45)):=by
  unfold I7;simp only[Bool.decide_and,O5,ge_iff_le]
 rw[hc];cases decide (n>=97)<;>cases decide (n<=122)<;>cases decide (n>=65)<;>cases decide (n<=90)<;>cases decide (n>=48)<;>cases decide (n<=57)<;>(try rfl)<;>cases (n==95)<;>(try rfl)<;>cases (n==46)<;>(try rfl)<;>cases (n==58)<;>(try rfl)<;>cases (n==45)<;>rfl
theorem aHu {R:Type} (s:ad) (hs:s.length<=1099511627776) (e0:ad->Option R) (e1:ad->Bool->Option R):∀(F i:Nat),i<=s.length->s.length - i<F ->
  rT F s (i:Int) e0 e1=bif(s.drop i).all (mU.contains ·)then e0 s else e1 s false:=by
 intro F
 induction F with
 | zero=>intro i _ hF; omega
 | succ F ih=>
  intro i hi hF;show MV (fun x0 x1=>rT F x0 x1 e0 e1) s (i:Int) e0 e1=_;unfold MV;by_cases h:i<s.length
  ·have hg:s.getD (i:Int).toNat 0=s[i]:=getD_at h _;rw[ai (show(i:Int)<(s.length:Int) by omega),cond_true,aw (Dg i),hg,Dh h (by omega)];dsimp only;rw[ih (i+1) (by omega) (by omega)];refine(aHt (s[i].toNat:Int) _ _).trans ?_;rw[aHc,im h,List.all_cons];cases mU.contains s[i]<;>rfl
  ·rw[aE (show ¬(i:Int)<(s.length:Int) by omega),cond_false,gQ (by omega)];rfl
theorem aHv {R:Type} (s:ad) (hs:s.length<=1099511627776) (k:Bool->Option R):wW s k=k (pr s):=by
 unfold wW VR;refine(aHu s hs _ _ _ 0 (by omega) (by omega)).trans ?_;rw[fV];unfold pr;cases s.all (mU.contains ·)with
 | false=>rfl
 | true=>
  rw[cond_true,oJ];cases s with
  | nil=>rfl
  | cons b l=>
   rw[ai (show(((b::l).length:Nat):Int)>=1 by simp only[bj]; omega),cond_true];have e:decide ((((b::l).length:Nat):Int)<=16)=decide ((b::l).length<=16):=decide_eq_decide.2 (by omega);rw[e];rfl
theorem aHw {R:Type} (s:ad) (hs:s.length<=1099511627785) (e0:Int->Option R):∀(F i h:Nat),i<=s.length->s.length - i<F->h<4294967296->rY F s (h:Int) (i:Int) e0=e0 ((uV (s.drop i) h:Nat):Int):=by
 intro F
 induction F with
 | zero=>intro i h _ hF; omega
 | succ F ih=>
  intro i h hi hF hh;show Nu (fun x0 x1 x2=>rY F x0 x1 x2 e0) s (h:Int) (i:Int) e0=_;unfold Nu;by_cases hl:i<s.length;rotate_left
  ·rw[aE (show ¬(i:Int)<(s.length:Int) by omega),cond_false,gQ (by omega)];unfold uV;rw[ZR]
  have hg:s.getD (i:Int).toNat 0=s[i]:=getD_at hl _;rw[ai (show(i:Int)<(s.length:Int) by omega),cond_true,aw (Dg i),hg,anD h hh,Dh hl (by omega)];refine(ih (i+1) _ (by omega) (by omega) (Zr h s[i])).trans ?_;rw[im hl,Zs]
theorem aHx {R:Type} (s:ad) (hs:s.length<=1099511627785) (k:Int->Option R):yP s k=k ((C0 s:Nat):Int):=by
 have h:=aHw s hs (fun y5=>k y5) (av s+64) 0 2166136261 (by omega) (by omega) (by decide);rw[fV]at h;exact h
theorem A9 (n m:Nat) (h:m<=32):fb (n:Int) (2 ^ (min m bz.bits))=((n / 2 ^ m:Nat):Int):=by
 have e:min m bz.bits=m:=PR h;rw[e,Pg _ (by exact Ph (Pf (by omega)))];rw[Int.natCast_ediv];congr 1
theorem anS {R:Type} (s:ad) (hs:s.length<=1099511627776) (k:ad->Option R):nE s k=k (eZ s):=by
 unfold nE WD
 try dsimp only
 rw[aHx s (by omega)];unfold eZ A5;generalize C0 s=H;have s0:fb (H:Int) (2 ^ (min 0 bz.bits))=((H:Nat):Int):=by
  rw[A9 H 0 (by omega),Nat.pow_zero,Nat.div_one]
 simp only[A9 H 28 (by omega),A9 H 24 (by omega),A9 H 20 (by omega),A9 H 16 (by omega),A9 H 12 (by omega),A9 H 8 (by omega),A9 H 4 (by omega),s0,anE,anF,ag,cond_true,cM];simp only[bf,oH,bj,cu]
 iterate 9 rw[ai (by omega),cond_true]
 congr 1;simp only[gG,kz,sq,cM,UInt8.ofNat_toNat,List.singleton_append,gg,jf,uW,O0]
theorem aHy {R:Type} (s:ad) (hs:s.length<=1099511627776) (k:ad->Int->Option R):xf s k=match pq s with|some t=>k t 0|none=>k [] 60:=by
 unfold xf WK pq;by_cases h9:s.length<9
 ·rw[ai (show(s.length:Int)<9 by omega),cond_true,if_neg (by omega)]
 ·have w:ae.wrap ((s.length:Int) - 9)=((s.length - 9:Nat):Int):=by rw[aV (by omega) (by omega)]; omega
  rw[aE (show ¬(s.length:Int)<9 by omega),cond_false,w,aw (by rw[ai (by omega),ai (by omega)]; rfl),aw (ai (by omega)),fV,cM,vl,anS _ (by rw[eP]; omega)];by_cases hq:eZ (s.take (s.length - 9))=s
  ·have b:(!(eZ (s.take (s.length - 9))==s))=false:=by simp[hq]
   rw[b,cond_false,if_pos ⟨by omega,hq⟩]
  ·have b:(!(eZ (s.take (s.length - 9))==s))=true:=by simpa using hq
   rw[b,cond_true,if_neg (fun h=>hq h.2)]
theorem aHz {R:Type} (s:ad) (k:Json->Option R):yK s k=k (A4 s):=rfl
theorem anT {R:Type} (b:Bool) (k:Json->Option R):wX b k=k (uU b):=by cases b<;>rfl
theorem anU {R:Type} {v:Json} (hv:Pu.cy v) (s:ad) (k:Int->Bool->Option R):mf v s k=match dc v s with|some n=>k n true|none=>k 0 false:=by
 obtain ⟨x,b,h1,h2⟩:=Pu.aC3 (R:=R) v hv s;rw[h2,<-h1 k,Pu.nA v hv];rfl
theorem anV {R:Type} {v:Json} (hv:Pu.cy v) (s:ad) (k:ad->Bool->Option R):r7 v s k=match tq v s with|some n=>k n true|none=>k [] false:=by
 obtain ⟨x,b,h1,h2⟩:=Pu.aC4 (R:=R) v hv s;rw[h2,<-h1 k,Pu.HN v hv];rfl
theorem anW {R:Type} {v:Json} (hv:Pu.cy v) (s:ad) (k:Bool->Bool->Option R):qp v s k=match nN v s with|some n=>k n true|none=>k false false:=by
 obtain ⟨x,b,h1,h2⟩:=Pu.aC5 (R:=R) v hv s;rw[h2,<-h1 k,Pu.Cy v hv];rfl
theorem Di {v:Json} (hv:Pu.cy v) (s:ad):∃(x:Int) (b:Bool),(∀ {R:Type} (k:Int->Bool->Option R),mf v s k=k x b)/\dc v s=if b then some x else none:=by
 cases hq:dc v s with
 | none=>exact⟨0,false,fun k=>by rw[anU hv,hq],rfl⟩
 | some x=>exact⟨x,true,fun k=>by rw[anU hv,hq],rfl⟩
theorem aHA {v:Json} (hv:Pu.cy v) {s w:ad} (h:tq v s=some w):w.length<=1099511627776:=by
 unfold tq at h;cases hq:Pu.iJ v s with
 | none=>rw[hq]at h; cases h
 | some x=>
  rw[hq,sj]at h;unfold Pu.Cx at h;split at h
  ·cases h; exact(Pu.ahq hv hq).text
  ·cases h
theorem aHB (a b:bJ):FI a b=true↔b.bC<a.bC\/(a.bC=b.bC/\b.header<a.header):=by
 unfold FI;rw[je,bF,decide_eq_true_eq,decide_eq_true_eq,decide_eq_true_eq]
theorem aHC {R:Type} (l:List Int) (hl:l.length<=1000) (e0:Int->Option R):∀(F i:Nat) (m:Int),i<=l.length->l.length - i<F ->
  qW F l m (i:Int) e0=e0 ((l.drop i).foldl min m):=by
 intro F
 induction F with
 | zero=>intro i m _ hF; omega
 | succ F ih=>
  intro i m hi hF;show KI (fun x0 x1 x2=>qW F x0 x1 x2 e0) l m (i:Int) e0=_;unfold KI;by_cases h:i<l.length
  ·have hg:l.getD (i:Int).toNat (Ty.az (.int .i64))=l[i]:=getD_at h _;rw[ai (show(i:Int)<(l.length:Int) by omega),cond_true,aw (Dg i),hg,Dh h (by omega)];dsimp only;rw[ih (i+1) _ (by omega) (by omega),im h];rfl
  ·rw[aE (show ¬(i:Int)<(l.length:Int) by omega),cond_false,gQ (by omega)];rfl
theorem aHD {R:Type} (a:Int) (l:List Int) (hl:l.length<=100) (k:Int->Option R):v8 (a::l) k=k (l.foldl min a):=by
 unfold v8 S3;rw[aE (show ¬(((a::l).length:Nat):Int)<1 by simp only[bj]; omega),cond_false,aw (ai (by simp only[bj]; omega))];have hg:(a::l).getD 0 (Ty.az (.int .i64))=a:=rfl;rw[hg];refine(aHC (a::l) (by simp only[bj]; omega) _ _ 1 a (by simp) (by simp only[bj]; omega)).trans ?_;rfl
theorem aHE {R:Type} (l:List Int) (hl:l.length<=1000) (e0:Int->Option R):∀(F i:Nat) (m:Int),i<=l.length->l.length - i<F ->
  qX F l m (i:Int) e0=e0 ((l.drop i).foldl max m):=by
 intro F
 induction F with
 | zero=>intro i m _ hF; omega
 | succ F ih=>
  intro i m hi hF;show KJ (fun x0 x1 x2=>qX F x0 x1 x2 e0) l m (i:Int) e0=_;unfold KJ;by_cases h:i<l.length
  ·have hg:l.getD (i:Int).toNat (Ty.az (.int .i64))=l[i]:=getD_at h _;rw[ai (show(i:Int)<(l.length:Int) by omega),cond_true,aw (Dg i),hg,Dh h (by omega)];dsimp only;rw[ih (i+1) _ (by omega) (by omega),im h];rfl
  ·rw[aE (show ¬(i:Int)<(l.length:Int) by omega),cond_false,gQ (by omega)];rfl
theorem aHF {R:Type} (a:Int) (l:List Int) (hl:l.length<=100) (k:Int->Option R):wa (a::l) k=k (l.foldl max a):=by
 unfold wa S5;rw[aE (show ¬(((a::l).length:Nat):Int)<1 by simp only[bj]; omega),cond_false,aw (ai (by simp only[bj]; omega))];have hg:(a::l).getD 0 (Ty.az (.int .i64))=a:=rfl;rw[hg];refine(aHE (a::l) (by simp only[bj]; omega) _ _ 1 a (by simp) (by simp only[bj]; omega)).trans ?_;rfl
theorem anX:∀(l:List Int) (a x:Int),x<=l.foldl min a↔x<=a/\∀y∈l,x<=y
 | [],a,x=>by simp
 | b::l,a,x=>by
  rw[FO,anX l];simp only[eJ,forall_eq_or_imp];constructor
  ·rintro ⟨h1,h2⟩; exact⟨by omega,by omega,h2⟩
  ·rintro ⟨h1,h2,h3⟩; exact⟨by omega,h3⟩
theorem max_le:∀(l:List Int) (a x:Int),l.foldl max a<=x↔a<=x/\∀y∈l,y<=x
 | [],a,x=>by simp
 | b::l,a,x=>by
  rw[FO,max_le l];simp only[eJ,forall_eq_or_imp];constructor
  ·rintro ⟨h1,h2⟩; exact⟨by omega,by omega,h2⟩
  ·rintro ⟨h1,h2,h3⟩; exact⟨by omega,h3⟩
theorem aHG (a:Int) (l:List Int):(decide (l.foldl min a>=0)&&decide (l.foldl max a<=1000000000))=(a::l).all db:=by
 rw[FQ,bF,decide_eq_true_eq,decide_eq_true_eq,ge_iff_le,anX,max_le,gF];simp only[eJ,forall_eq_or_imp,FF];constructor
 ·rintro ⟨⟨h1,h2⟩,h3,h4⟩; exact⟨⟨h1,h3⟩,fun y hy=>⟨h2 y hy,h4 y hy⟩⟩
 ·rintro ⟨⟨h1,h3⟩,h2⟩; exact⟨⟨h1,fun y hy=>(h2 y hy).1⟩,h3,fun y hy=>(h2 y hy).2⟩
theorem O7 {R:Type} (s:bJ) (k:Bool->Option R):dt s k=k (jv s):=by
 unfold dt S7;rw[topicName_ok,aHD _ _ (by simp),aHF _ _ (by simp)];have hb:=aHG s.header [s.bC,s.order,s.update,s.node,s.seq,s.accepted];have hr:jv s=(pr s.bW&&(([s.header,s.bC,s.order,s.update,s.node,s.seq,s.accepted]:List Int).all db&&(decide (bK s.seq 2=0)&&(s.live||!s.cB)))):=by
  unfold jv;simp only[List.all_cons,List.all_nil,qD]
 rw[hr,<-hb,O5];cases pr s.bW<;>cases decide (List.foldl min s.header [s.bC,s.order,s.update,s.node,s.seq,s.accepted]>=0)<;>cases decide (List.foldl max s.header [s.bC,s.order,s.update,s.node,s.seq,s.accepted]<=1000000000)<;>cases decide (bK s.seq 2=0)<;>cases s.live<;>rfl
def Zx (x y:Int):Int:=if x<y then -1 else if x>y then 1 else 0
theorem anY {R:Type} (x y:Int) (k:Int->Option R):uK x y k=k (Zx x y):=by
 unfold uK XO xi XL Zx;have hx:(x != x)=false:=by simp
 have hy:(y != y)=false:=by simp
 rw[hx,hy];dsimp only;rw[cond_false,cond_false];by_cases h1:x<y
 ·rw[ai h1,if_pos h1]; rfl
 ·rw[aE h1,if_neg h1,cond_false];by_cases h2:x>y
  ·rw[ai h2,if_pos h2]; rfl
  ·rw[aE h2,if_neg h2]; rfl
theorem aHH {R:Type} (l:List Int) (hl:l.length<=1000) (e0:Int->Option R) (e1:Int->Int->Option R):∀(F i:Nat),i<=l.length->l.length - i<F ->
  r9 F 0 l (l.length:Int) (i:Int) e0 e1=match (l.drop i).find? (· != 0)with|some x=>e1 x 0|none=>e0 0:=by
 intro F
 induction F with
 | zero=>intro i _ hF; omega
 | succ F ih=>
  intro i hi hF;show Od (fun x0 x1 x2 x3=>r9 F x0 x1 x2 x3 e0 e1) 0 l (l.length:Int) (i:Int) e0 e1=_;unfold Od;by_cases h:i<l.length
  ·have hg:l.getD (i:Int).toNat (Ty.az (.int .i64))=l[i]:=getD_at h _;rw[ai (show(i:Int)<(l.length:Int) by omega),cond_true,aw (Dg i),hg,Dh h (by omega)];dsimp only;rw[ih (i+1) (by omega) (by omega),im h,List.find?_cons];cases l[i] != 0<;>rfl
  ·rw[aE (show ¬(i:Int)<(l.length:Int) by omega),cond_false,gQ (by omega)];rfl
theorem aHI {R:Type} (a b:Int) (k:Int->Option R):xj [a,b] k=k (if a≠0 then a else b):=by
 unfold xj XR;refine(aHH [a,b] (by simp) _ _ _ 0 (by simp) (by simp only[bj,cu]; omega)).trans ?_;rw[fV,List.find?_cons,List.find?_cons,anC,anC];by_cases h1:a=0
 ·rw[ai h1,if_neg (by simp[h1])];by_cases h2:b=0
  ·rw[ai h2,h2]; rfl
  ·rw[aE h2]; rfl
 ·rw[aE h1,if_pos h1]; rfl
theorem anZ {R:Type} (a b:bJ) (k:Bool->Option R):mg a b k=k (FI a b):=by
 unfold mg XS;rw[anY,anY,aHI];congr 1;rw[FQ,aHB,decide_eq_true_eq];unfold Zx;split<;>split<;>(try split)<;>(try split)<;>omega
theorem aHJ {R:Type} (s:bJ) (hk:db s.header=true) (k:Json->bJ->Option R):qY s k=k (gY s.header) s:=by
 unfold qY Tg;rw[C5 hk,Json.eta]
theorem aHK {R:Type} (s:bJ) (hk:db s.bC=true) (k:Json->bJ->Option R):qZ s k=k (gY s.bC) s:=by
 unfold qZ Ti;rw[C5 hk,Json.eta]
theorem aHL {R:Type} (s:bJ) (k:Json->bJ->Option R):rh s k=k (A4 s.bW) s:=by
 unfold rh Tl;rw[aHm,Json.eta]
theorem aHM {R:Type} (s:bJ) (hk:db s.order=true) (k:Json->bJ->Option R):rj s k=k (gY s.order) s:=by
 unfold rj Tn;rw[C5 hk,Json.eta]
theorem aHN {R:Type} (s:bJ) (hk:db s.update=true) (k:Json->bJ->Option R):rq s k=k (gY s.update) s:=by
 unfold rq Tp;rw[C5 hk,Json.eta]
theorem aHO {R:Type} (s:bJ) (k:Json->bJ->Option R):rA s k=k (uU s.live) s:=by
 unfold rA Ts;rw[anH,Json.eta]
theorem aHP {R:Type} (s:bJ) (hk:db s.node=true) (k:Json->bJ->Option R):rB s k=k (gY s.node) s:=by
 unfold rB Tu;rw[C5 hk,Json.eta]
theorem aHQ {R:Type} (s:bJ) (hk:db s.seq=true) (k:Json->bJ->Option R):rC s k=k (gY s.seq) s:=by
 unfold rC Tw;rw[C5 hk,Json.eta]
theorem aHR {R:Type} (s:bJ) (k:Json->bJ->Option R):rD s k=k (uU s.cB) s:=by
 unfold rD Tz;rw[anH,Json.eta]
theorem aHS {R:Type} (s:bJ) (hk:db s.accepted=true) (k:Json->bJ->Option R):rE s k=k (gY s.accepted) s:=by
 unfold rE TB;rw[C5 hk,Json.eta]
theorem an0 (a b c d e f g h i j:Json):Pu.mk pv [a,b,c,d,e,f,g,h,i,j] [] []=(pv,[a,b,c,d,e,f,g,h,i,j]):=by kernel_rfl
theorem an1 {s:bJ} (hk:FH s):∀y∈oF s,Pu.cy y:=by
 have h1:=uQ.1 (FD (gE s) 1 (Dd hk) (by have:=I6 hk; omega)).1;exact Zt (oF s) 2 (aG1 (aHg hk).1.right) h1.2.2.1
theorem Zy {R:Type} (s:bJ) (k:ad->Int->Option R):kk s k=if jv s then k (eZ (bT (gE s))) 0 else k [] 1:=by
 unfold kk Uz;rw[O7];cases h:jv s with
 | false=>rfl
 | true=>
  have hk:=I5 h;have hlen:=I6 hk;rw[cE,cond_false,aHJ s hk.header,aHK s hk.bC,aHL,aHM s hk.order,aHN s hk.update,aHO,aHP s hk.node,aHQ s hk.seq,aHR,aHS s hk.accepted];refine(Pu.azf pv (oF s) (by decide) (an1 hk) _).trans ?_;have e:Pu.mk pv (oF s) [] []=(pv,oF s):=an0 _ _ _ _ _ _ _ _ _ _;rw[e];refine(aGq (gE s) (Dd hk) (FD (gE s) 1 (Dd hk) (by omega)).1 (by omega) _).trans ?_;rw[FJ _ (by omega)];rfl
theorem aHT {R:Type} {v:Json} (hv:Pu.cy v) {w:ad} {x:Int} (hx:dc v w=some x) (a:Int) (b:Int) (c:ad) (d:Int) (e:Int) (f:Bool) (g:Int) (h:Int) (i:Bool) (j:Int) (q:Bool->ad->bJ->Option R):jH v w ⟨a,b,c,d,e,f,g,h,i,j⟩ q=q true w ⟨x,b,c,d,e,f,g,h,i,j⟩:=by
 unfold jH MH;simp only[Json.eta];unfold dc at hx;rw[Pu.nA v hv,hx]
theorem aHU {R:Type} {v:Json} (hv:Pu.cy v) {w:ad} (hx:dc v w=none) (a:Int) (b:Int) (c:ad) (d:Int) (e:Int) (f:Bool) (g:Int) (h:Int) (i:Bool) (j:Int) (q:Bool->ad->bJ->Option R):jH v w ⟨a,b,c,d,e,f,g,h,i,j⟩ q=q false w ⟨0,b,c,d,e,f,g,h,i,j⟩:=by
 unfold jH MH;simp only[Json.eta];unfold dc at hx;rw[Pu.nA v hv,hx]
theorem aHV {R:Type} {v:Json} (hv:Pu.cy v) {w:ad} {x:Int} (hx:dc v w=some x) (a:Int) (b:Int) (c:ad) (d:Int) (e:Int) (f:Bool) (g:Int) (h:Int) (i:Bool) (j:Int) (q:Bool->ad->bJ->Option R):jI v w ⟨a,b,c,d,e,f,g,h,i,j⟩ q=q true w ⟨a,x,c,d,e,f,g,h,i,j⟩:=by
 unfold jI MI;simp only[Json.eta];unfold dc at hx;rw[Pu.nA v hv,hx]
theorem aHW {R:Type} {v:Json} (hv:Pu.cy v) {w:ad} (hx:dc v w=none) (a:Int) (b:Int) (c:ad) (d:Int) (e:Int) (f:Bool) (g:Int) (h:Int) (i:Bool) (j:Int) (q:Bool->ad->bJ->Option R):jI v w ⟨a,b,c,d,e,f,g,h,i,j⟩ q=q false w ⟨a,0,c,d,e,f,g,h,i,j⟩:=by
 unfold jI MI;simp only[Json.eta];unfold dc at hx;rw[Pu.nA v hv,hx]
theorem aHX {R:Type} {v:Json} (hv:Pu.cy v) {w:ad} {x:ad} (hx:tq v w=some x) (a:Int) (b:Int) (c:ad) (d:Int) (e:Int) (f:Bool) (g:Int) (h:Int) (i:Bool) (j:Int) (q:Bool->ad->bJ->Option R):jJ v w ⟨a,b,c,d,e,f,g,h,i,j⟩ q=q true w ⟨a,b,x,d,e,f,g,h,i,j⟩:=by
 unfold jJ ML;simp only[Json.eta];unfold tq at hx;rw[Pu.HN v hv,hx]
theorem aHY {R:Type} {v:Json} (hv:Pu.cy v) {w:ad} (hx:tq v w=none) (a:Int) (b:Int) (c:ad) (d:Int) (e:Int) (f:Bool) (g:Int) (h:Int) (i:Bool) (j:Int) (q:Bool->ad->bJ->Option R):jJ v w ⟨a,b,c,d,e,f,g,h,i,j⟩ q=q false w ⟨a,b,[],d,e,f,g,h,i,j⟩:=by
 unfold jJ ML;simp only[Json.eta];unfold tq at hx;rw[Pu.HN v hv,hx]
theorem aHZ {R:Type} {v:Json} (hv:Pu.cy v) {w:ad} {x:Int} (hx:dc v w=some x) (a:Int) (b:Int) (c:ad) (d:Int) (e:Int) (f:Bool) (g:Int) (h:Int) (i:Bool) (j:Int) (q:Bool->ad->bJ->Option R):jK v w ⟨a,b,c,d,e,f,g,h,i,j⟩ q=q true w ⟨a,b,c,x,e,f,g,h,i,j⟩:=by
 unfold jK MN;simp only[Json.eta];unfold dc at hx;rw[Pu.nA v hv,hx]
theorem aH0 {R:Type} {v:Json} (hv:Pu.cy v) {w:ad} (hx:dc v w=none) (a:Int) (b:Int) (c:ad) (d:Int) (e:Int) (f:Bool) (g:Int) (h:Int) (i:Bool) (j:Int) (q:Bool->ad->bJ->Option R):jK v w ⟨a,b,c,d,e,f,g,h,i,j⟩ q=q false w ⟨a,b,c,0,e,f,g,h,i,j⟩:=by
 unfold jK MN;simp only[Json.eta];unfold dc at hx;rw[Pu.nA v hv,hx]
theorem aH1 {R:Type} {v:Json} (hv:Pu.cy v) {w:ad} {x:Int} (hx:dc v w=some x) (a:Int) (b:Int) (c:ad) (d:Int) (e:Int) (f:Bool) (g:Int) (h:Int) (i:Bool) (j:Int) (q:Bool->ad->bJ->Option R):jL v w ⟨a,b,c,d,e,f,g,h,i,j⟩ q=q true w ⟨a,b,c,d,x,f,g,h,i,j⟩:=by
 unfold jL MO;simp only[Json.eta];unfold dc at hx;rw[Pu.nA v hv,hx]
theorem aH2 {R:Type} {v:Json} (hv:Pu.cy v) {w:ad} (hx:dc v w=none) (a:Int) (b:Int) (c:ad) (d:Int) (e:Int) (f:Bool) (g:Int) (h:Int) (i:Bool) (j:Int) (q:Bool->ad->bJ->Option R):jL v w ⟨a,b,c,d,e,f,g,h,i,j⟩ q=q false w ⟨a,b,c,d,0,f,g,h,i,j⟩:=by
 unfold jL MO;simp only[Json.eta];unfold dc at hx;rw[Pu.nA v hv,hx]
theorem aH3 {R:Type} {v:Json} (hv:Pu.cy v) {w:ad} {x:Bool} (hx:nN v w=some x) (a:Int) (b:Int) (c:ad) (d:Int) (e:Int) (f:Bool) (g:Int) (h:Int) (i:Bool) (j:Int) (q:Bool->ad->bJ->Option R):jM v w ⟨a,b,c,d,e,f,g,h,i,j⟩ q=q true w ⟨a,b,c,d,e,x,g,h,i,j⟩:=by
 unfold jM MQ;simp only[Json.eta];unfold nN at hx;rw[Pu.Cy v hv,hx]
theorem aH4 {R:Type} {v:Json} (hv:Pu.cy v) {w:ad} (hx:nN v w=none) (a:Int) (b:Int) (c:ad) (d:Int) (e:Int) (f:Bool) (g:Int) (h:Int) (i:Bool) (j:Int) (q:Bool->ad->bJ->Option R):jM v w ⟨a,b,c,d,e,f,g,h,i,j⟩ q=q false w ⟨a,b,c,d,e,false,g,h,i,j⟩:=by
 unfold jM MQ;simp only[Json.eta];unfold nN at hx;rw[Pu.Cy v hv,hx]
theorem aH5 {R:Type} {v:Json} (hv:Pu.cy v) {w:ad} {x:Int} (hx:dc v w=some x) (a:Int) (b:Int) (c:ad) (d:Int) (e:Int) (f:Bool) (g:Int) (h:Int) (i:Bool) (j:Int) (q:Bool->ad->bJ->Option R):jN v w ⟨a,b,c,d,e,f,g,h,i,j⟩ q=q true w ⟨a,b,c,d,e,f,x,h,i,j⟩:=by
 unfold jN MR;simp only[Json.eta];unfold dc at hx;rw[Pu.nA v hv,hx]
theorem aH6 {R:Type} {v:Json} (hv:Pu.cy v) {w:ad} (hx:dc v w=none) (a:Int) (b:Int) (c:ad) (d:Int) (e:Int) (f:Bool) (g:Int) (h:Int) (i:Bool) (j:Int) (q:Bool->ad->bJ->Option R):jN v w ⟨a,b,c,d,e,f,g,h,i,j⟩ q=q false w ⟨a,b,c,d,e,f,0,h,i,j⟩:=by
 unfold jN MR;simp only[Json.eta];unfold dc at hx;rw[Pu.nA v hv,hx]
theorem aH7 {R:Type} {v:Json} (hv:Pu.cy v) {w:ad} {x:Int} (hx:dc v w=some x) (a:Int) (b:Int) (c:ad) (d:Int) (e:Int) (f:Bool) (g:Int) (h:Int) (i:Bool) (j:Int) (q:Bool->ad->bJ->Option R):jU v w ⟨a,b,c,d,e,f,g,h,i,j⟩ q=q true w ⟨a,b,c,d,e,f,g,x,i,j⟩:=by
 unfold jU N9;simp only[Json.eta];unfold dc at hx;rw[Pu.nA v hv,hx]
theorem aH8 {R:Type} {v:Json} (hv:Pu.cy v) {w:ad} (hx:dc v w=none) (a:Int) (b:Int) (c:ad) (d:Int) (e:Int) (f:Bool) (g:Int) (h:Int) (i:Bool) (j:Int) (q:Bool->ad->bJ->Option R):jU v w ⟨a,b,c,d,e,f,g,h,i,j⟩ q=q false w ⟨a,b,c,d,e,f,g,0,i,j⟩:=by
 unfold jU N9;simp only[Json.eta];unfold dc at hx;rw[Pu.nA v hv,hx]
theorem aH9 {R:Type} {v:Json} (hv:Pu.cy v) {w:ad} {x:Bool} (hx:nN v w=some x) (a:Int) (b:Int) (c:ad) (d:Int) (e:Int) (f:Bool) (g:Int) (h:Int) (i:Bool) (j:Int) (q:Bool->ad->bJ->Option R):jV v w ⟨a,b,c,d,e,f,g,h,i,j⟩ q=q true w ⟨a,b,c,d,e,f,g,h,x,j⟩:=by
 unfold jV Oa;simp only[Json.eta];unfold nN at hx;rw[Pu.Cy v hv,hx]
theorem aIa {R:Type} {v:Json} (hv:Pu.cy v) {w:ad} (hx:nN v w=none) (a:Int) (b:Int) (c:ad) (d:Int) (e:Int) (f:Bool) (g:Int) (h:Int) (i:Bool) (j:Int) (q:Bool->ad->bJ->Option R):jV v w ⟨a,b,c,d,e,f,g,h,i,j⟩ q=q false w ⟨a,b,c,d,e,f,g,h,false,j⟩:=by
 unfold jV Oa;simp only[Json.eta];unfold nN at hx;rw[Pu.Cy v hv,hx]
theorem aIb {R:Type} {v:Json} (hv:Pu.cy v) {w:ad} {x:Int} (hx:dc v w=some x) (a:Int) (b:Int) (c:ad) (d:Int) (e:Int) (f:Bool) (g:Int) (h:Int) (i:Bool) (j:Int) (q:Bool->ad->bJ->Option R):jW v w ⟨a,b,c,d,e,f,g,h,i,j⟩ q=q true w ⟨a,b,c,d,e,f,g,h,i,x⟩:=by
 unfold jW Ob;simp only[Json.eta];unfold dc at hx;rw[Pu.nA v hv,hx]
theorem aIc {R:Type} {v:Json} (hv:Pu.cy v) {w:ad} (hx:dc v w=none) (a:Int) (b:Int) (c:ad) (d:Int) (e:Int) (f:Bool) (g:Int) (h:Int) (i:Bool) (j:Int) (q:Bool->ad->bJ->Option R):jW v w ⟨a,b,c,d,e,f,g,h,i,j⟩ q=q false w ⟨a,b,c,d,e,f,g,h,i,0⟩:=by
 unfold jW Ob;simp only[Json.eta];unfold dc at hx;rw[Pu.nA v hv,hx]
def O8 {R:Type} (k:bJ->Int->Option R):Except Int bJ->Option R
 | .ok o=>k o 0
 | .error e=>k ⟨0,0,[],0,0,false,0,0,false,0⟩ e
theorem Zz {R:Type} (k:bJ->Int->Option R) (o:bJ):O8 k (.ok o)=k o 0:=rfl
theorem an2 {R:Type} (k:bJ->Int->Option R) (e:Int):O8 k (.error e)=k ⟨0,0,[],0,0,false,0,0,false,0⟩ e:=rfl
theorem an3 {R:Type} (s:ad) (hs:s.length<=1099511627776) (k:bJ->Int->Option R):kV s k=O8 k (takeA s):=by
 unfold kV XK takeA;rw[aHl s hs];cases pq s with
 | none=>rfl
 | some t=>
 show km t _=_;rw[aGk];by_cases he:(ig t).2.1=0;rotate_left
 ·have c:((ig t).2.1 != 0)=true:=by simpa using he
  rw[c,cond_true];simp only[if_pos he,ne_eq,not_true_eq_false,not_false_eq_true,he,if_true];rfl
 have c:((ig t).2.1 != 0)=false:=by simpa using he
 rw[c,cond_false];have hv:=anx he;simp only[he,ne_eq,not_true_eq_false,if_false];generalize (ig t).1=v at hv ⊢;simp only[Json.eta,anI,anM,anJ,anK,anL,anN,anO,anP,anQ,anR];unfold stateT;cases h0:dc v C1 with
 | none=>
  rw[aHU hv h0,iq,cond_true];rfl
 | some x0=>
 rw[aHT hv h0,cE,cond_false];cases h1:dc v C7 with
 | none=>
  rw[aHW hv h1,iq,cond_true];rfl
 | some x1=>
 rw[aHV hv h1,cE,cond_false];cases h2:tq v C2 with
 | none=>
  rw[aHY hv h2,iq,cond_true];rfl
 | some x2=>
 rw[aHX hv h2,cE,cond_false];cases h3:dc v C3 with
 | none=>
  rw[aH0 hv h3,iq,cond_true];rfl
 | some x3=>
 rw[aHZ hv h3,cE,cond_false];cases h4:dc v C4 with
 | none=>
  rw[aH2 hv h4,iq,cond_true];rfl
 | some x4=>
 rw[aH1 hv h4,cE,cond_false];cases h5:nN v C8 with
 | none=>
  rw[aH4 hv h5,iq,cond_true];rfl
 | some x5=>
 rw[aH3 hv h5,cE,cond_false];cases h6:dc v C9 with
 | none=>
  rw[aH6 hv h6,iq,cond_true];rfl
 | some x6=>
 rw[aH5 hv h6,cE,cond_false];cases h7:dc v Da with
 | none=>
  rw[aH8 hv h7,iq,cond_true];rfl
 | some x7=>
 rw[aH7 hv h7,cE,cond_false];cases h8:nN v Db with
 | none=>
  rw[aIa hv h8,iq,cond_true];rfl
 | some x8=>
 rw[aH9 hv h8,cE,cond_false];cases h9:dc v Dc with
 | none=>
  rw[aIc hv h9,iq,cond_true];rfl
 | some x9=>
 rw[aIb hv h9,cE,cond_false];rw[O7];simp only;cases jv ⟨x0,x1,x2,x3,x4,x5,x6,x7,x8,x9⟩<;>rfl
structure an4 (s:bJ):Prop where
 header:bR s.header
 bC:bR s.bC
 order:bR s.order
 update:bR s.update
 node:bR s.node
 seq:bR s.seq
 accepted:bR s.accepted
 name:s.bW.length<=1099511627776
theorem aId {s:bJ} (h:∀c∈Ty.cells .state s,Small 1048576 c):an4 s := {
 header:=mb.1 (h (.int .i64 s.header) (by simp[Ty.cells])).fi
 bC:=mb.1 (h (.int .i64 s.bC) (by simp[Ty.cells])).fi
 order:=mb.1 (h (.int .i64 s.order) (by simp[Ty.cells])).fi
 update:=mb.1 (h (.int .i64 s.update) (by simp[Ty.cells])).fi
 node:=mb.1 (h (.int .i64 s.node) (by simp[Ty.cells])).fi
 seq:=mb.1 (h (.int .i64 s.seq) (by simp[Ty.cells])).fi
 accepted:=mb.1 (h (.int .i64 s.accepted) (by simp[Ty.cells])).fi
 name:=by have:=(h (.str s.bW) (by simp[Ty.cells])).gJ; omega }
theorem uX {R:Type} (c n:Int) (hc:bR c) (h0:0<n) (k:Int->Option R):iM c n k=k (iO c n):=aHa c n hc h0 k
theorem aIe {R:Type} (s:bJ) (hs:an4 s) (k:bJ->Option R):tf s k=k (A8 s):=by
 unfold tf XY;have p0:=O2 s.seq 500000001;have p1:=O3 s.seq (n:=500000001) (by decide);have w:ae.wrap (2*iO s.seq 500000001)=2*iO s.seq 500000001:=aV (by omega) (by omega);rw[uX _ _ hs.header (by omega),uX _ _ hs.bC (by omega),aHr _ hs.name,uX _ _ hs.order (by omega),uX _ _ hs.update (by omega)];have e:A8 s=⟨iO s.header 1000000001,iO s.bC 1000000001,A7 s.bW,iO s.order 1000000001,iO s.update 1000000001,s.live||s.cB,iO s.node 1000000001,2*iO s.seq 500000001,s.cB,iO s.accepted 1000000001⟩:=rfl;rw[e];cases s.live with
 | true=>
  rw[cond_true,uX _ _ hs.node (by omega),uX _ _ hs.seq (by omega),uX _ _ hs.accepted (by omega),w];rfl
 | false=>
  rw[cond_false,uX _ _ hs.node (by omega),uX _ _ hs.seq (by omega),uX _ _ hs.accepted (by omega),w];rfl
def O9 (a b:bJ):Bool:=(a.header==b.header&&(a.bC==b.bC&&(a.bW==b.bW&&(a.order==b.order&&(a.update==b.update&&(a.live==b.live&&(a.node==b.node&&(a.seq==b.seq&&(a.cB==b.cB&&(a.accepted==b.accepted&&true))))))))))
theorem aIf {a b:bJ}:O9 a b=true↔a=b:=by
 obtain ⟨a1,a2,a3,a4,a5,a6,a7,a8,a9,a10⟩:=a;obtain ⟨b1,b2,b3,b4,b5,b6,b7,b8,b9,Ol⟩:=b;simp[O9]
theorem an5 (a:bJ):O9 a a=true:=aIf.2 rfl
theorem an6 (a b:bJ):(a.header==b.header&&(a.bC==b.bC&&(a.bW==b.bW&&(a.order==b.order&&(a.update==b.update&&(a.live==b.live&&(a.node==b.node&&(a.seq==b.seq&&(a.cB==b.cB&&(a.accepted==b.accepted&&true))))))))))=O9 a b:=rfl
theorem an7 {s:bJ} (h:jv s=true):(eZ (bT (gE s))).length<=20009:=by
 have:=I6 (I5 h);rw[FG];omega
theorem an8 {R:Type} {s:bJ} (h:jv s=true) (k:ad->Int->Option R):kk s k=k (eZ (bT (gE s))) 0:=by
 rw[Zy s,h,if_pos rfl]
theorem aIg {R:Type} {s:bJ} (h:jv s=true) (k:bJ->Int->Option R):kV (eZ (bT (gE s))) k=k s 0:=by
 rw[an3 _ (by have:=an7 h; omega),aG4 h,Zz]
theorem aIh {R:Type} {s:bJ} (h:jv s=true) (k:Bool->Option R):dt s k=k true:=by rw[O7,h]
def qz:bJ:=⟨1,2,[118],3,4,true,5,6,true,7⟩
theorem ZA:jv qz=true:=by decide +kernel
theorem ZB:bT (gE qz)=[123,34,104,101,97,100,101,114,73,100,34,58,49,44,34,98,111,111,116,34,58,50,44,34,115,101,114,105,97,108,78,117,109,98,101,114,34,58,34,118,34,44,34,111,114,100,101,114,73,100,34,58,51,44,34,111,114,100,101,114,85,112,100,97,116,101,73,100,34,58,52,44,34,108,105,118,101,34,58,116,114,117,101,44,34,108,97,115,116,78,111,100,101,73,100,34,58,53,44,34,108,97,115,116,78,111,100,101,83,101,113,117,101,110,99,101,73,100,34,58,54,44,34,100,114,105,118,105,110,103,34,58,116,114,117,101,44,34,97,99,99,101,112,116,101,100,34,58,55,125]:=by kernel_rfl
theorem aIi {R:Type} (k:Bool->Option R):td k=k true:=by
 unfold td XU;have h0:jv ⟨0,0,[],0,0,false,0,0,false,0⟩=false:=by decide +kernel
 have hx:(⟨1,2,[118],3,4,true,5,6,true,7⟩:bJ)=qz:=rfl;have b0:((0:Int)==0)=true:=rfl;have b1:((1:Int)==1)=true:=rfl;have hn:FI ⟨5,1,[],0,0,false,0,0,false,0⟩ ⟨0,2,[],0,0,false,0,0,false,0⟩=false:=by decide +kernel
 have he:(qz.header==1&&(qz.bC==2&&(qz.bW==([118]:ad)&&(qz.order==3&&(qz.update==4&&(qz.live==true&&(qz.node==5&&(qz.seq==6&&(qz.cB==true&&(qz.accepted==7&&true))))))))))=true:=by decide +kernel
 rw[hx,an8 ZA,aIg ZA,Zy ⟨0,0,[],0,0,false,0,0,false,0⟩,h0,if_neg (by decide),b0,cond_true];rw[<-ZB,FJ _ (by rw[ZB]; decide),beq_self_eq_true,cond_true,ai (show(((eZ (bT (gE qz))).length:Int)>100) by rw[FG,ZB]; decide),cond_true,cond_true,he,cond_true,b1,cond_true,anZ,hn,iq,cond_true];exact aIh ZA _
end Go.Proofs.YtidfokedcnhahaaGreatDoor
set_option maxRecDepth 100000
namespace Go.Proofs.YtidfokedcnhahaaGreatDoor
open Go Go.ak
variable {R:Type}
section
variable (uJ:wP R) (qp:uw R) (mf:oo R) (r7:wT R) (xf:wD R) (iY:n9 R)
def aIj:List (aY R):=[aO 73 (MA uJ),aO 96 (HK qp),aO 74 (wS mf),aO 75 (MK r7),aO 72 (LO xf),aO 42 (yt iY)]
def ZC (x1:ad) (k0:ak.State->Int->Option R):Option R:=
 xf x1 (fun y2 y3=>bif(y3 != 0)then(k0 (⟨0,0,([]:ad),0,0,false,0,0,false,0⟩:ak.State) y3)else(uJ y2 (fun y4 y5 y6=>bif(y5 != 0)then(k0 (⟨0,0,([]:ad),0,0,false,0,0,false,0⟩:ak.State) y5)else(mf (⟨y4.kind,⟨y4.num.aj,y4.num.exp⟩,y4.text,y4.names,y4.items⟩:Json) ([104,101,97,100,101,114,73,100]:ad) (fun y7 y8=>mf (⟨y4.kind,⟨y4.num.aj,y4.num.exp⟩,y4.text,y4.names,y4.items⟩:Json) ([98,111,111,116]:ad) (fun y9 bu=>r7 (⟨y4.kind,⟨y4.num.aj,y4.num.exp⟩,y4.text,y4.names,y4.items⟩:Json) ([115,101,114,105,97,108,78,117,109,98,101,114]:ad) (fun aS bg=>mf (⟨y4.kind,⟨y4.num.aj,y4.num.exp⟩,y4.text,y4.names,y4.items⟩:Json) ([111,114,100,101,114,73,100]:ad) (fun cd aU=>mf (⟨y4.kind,⟨y4.num.aj,y4.num.exp⟩,y4.text,y4.names,y4.items⟩:Json) ([111,114,100,101,114,85,112,100,97,116,101,73,100]:ad) (fun bU cA=>qp (⟨y4.kind,⟨y4.num.aj,y4.num.exp⟩,y4.text,y4.names,y4.items⟩:Json) ([108,105,118,101]:ad) (fun cP cV=>mf (⟨y4.kind,⟨y4.num.aj,y4.num.exp⟩,y4.text,y4.names,y4.items⟩:Json) ([108,97,115,116,78,111,100,101,73,100]:ad) (fun eA eB=>mf (⟨y4.kind,⟨y4.num.aj,y4.num.exp⟩,y4.text,y4.names,y4.items⟩:Json) ([108,97,115,116,78,111,100,101,83,101,113,117,101,110,99,101,73,100]:ad) (fun bB jl=>qp (⟨y4.kind,⟨y4.num.aj,y4.num.exp⟩,y4.text,y4.names,y4.items⟩:Json) ([100,114,105,118,105,110,103]:ad) (fun fe iG=>mf (⟨y4.kind,⟨y4.num.aj,y4.num.exp⟩,y4.text,y4.names,y4.items⟩:Json) ([97,99,99,101,112,116,101,100]:ad) (fun dK fO=>iY (⟨y7,y9,aS,cd,bU,cP,eA,bB,fe,dK⟩:ak.State) (fun cH=>bif(!cH)then(k0 (⟨0,0,([]:ad),0,0,false,0,0,false,0⟩:ak.State) 90)else(bif(!(y8==true&&(bu==true&&(bg==true&&(aU==true&&(cA==true&&(cV==true&&(eB==true&&(jl==true&&(iG==true&&(fO==true&&true)))))))))))then(k0 (⟨0,0,([]:ad),0,0,false,0,0,false,0⟩:ak.State) 90)else(k0 (⟨y7,y9,aS,cd,bU,cP,eA,bB,fe,dK⟩:ak.State) 0)))))))))))))))))
theorem aIk:aP (R:=R) tt (aIj uJ qp mf r7 xf iY) bm false Tryz.f47 topic_Name_p topic_Name_q (XJ (ZC uJ qp mf r7 xf iY)):=fun x y k=>by kernel_rfl
end
def qA:CH R:=ZC uJ qp mf r7 xf iY
theorem aIl (R:Type):aN ao 47 (Im (qA (R:=R))):=aR (aIk uJ qp mf r7 xf iY) TT mixed (.c (aCG R) <| .c (aCW R) <| .c (aCQ R) <| .c (aCT R) <| .c (aBo R) <| .c (VV R) <| .n) rfl rfl bp
abbrev ZD (R:Type):Type:=ak.State->ak.State->ad->Int->ad->(Bool->Option R)->Option R
abbrev Pa:List ax:=[G0,G0,dU,bG,dU]
def ZE (fn:ZD R):br R Pa topic_Name_q:=fun x y k=>fn (iC x.1) (iC x.2.1) x.2.2.1 x.2.2.2.1 x.2.2.2.2.1 (fun q0=>k (.bool q0) [])
def aIm (fn:ZD R):=aL Pa topic_Name_q (ZE fn)
abbrev an9 (R:Type):Type:=(List ad)->Int->Int->(Option R)->(Bool->Option R)->Option R
abbrev ZF (R:Type):Type:=Nat->an9 R
def aoa:Hint:=⟨[140,141,142],[],[],[],[],[10]⟩
abbrev I8:Type:=(List ad)×Int×Int
def aob:I8->St:=fun d=>⟨U 140 (.sl .str d.1 (.own 0)::af d.2.1::af d.2.2::U 22 ([])),[.tok]⟩
def aIn (K:KT R):Option R:=K (.exit 0) ⟨U 165 ([]),[]⟩
def aIo (K:KT R) (q0:Bool):Option R:=K (.ret) ⟨U 10 (.bool q0::U 154 ([])),[]⟩
abbrev ZG (K:KT R) (d:I8) (f:an9 R):Option R:=f d.1 d.2.1 d.2.2 (aIn K) (aIo K)
abbrev Pb:List ax:=PU 140 (.leaf (.k9 .str 0)::bG::bG::PU 22 ([]))
def aoc (x:ax.aA Pb) (y:aH.aA jD):Nat:=(av ((t8 (t8 (t8 (t8 (t8 (t8 (t8 (t8 (t8 (t8 (t8 (t8 (t8 (t8 (t8 (t8 (t8 x))))))))))))))))).2.2.2.2.1)+ah ((t8 (t8 (t8 (t8 (t8 (t8 (t8 (t8 (t8 (t8 (t8 (t8 (t8 (t8 (t8 (t8 (t8 x))))))))))))))))).2.2.2.2.2.1)+ah ((t8 (t8 (t8 (t8 (t8 (t8 (t8 (t8 (t8 (t8 (t8 (t8 (t8 (t8 (t8 (t8 (t8 x))))))))))))))))).2.2.2.2.2.2.1)+64)
def aod (x:ax.aA Pb) (y:aH.aA jD):I8:=((t8 (t8 (t8 (t8 (t8 (t8 (t8 (t8 (t8 (t8 (t8 (t8 (t8 (t8 (t8 (t8 (t8 x))))))))))))))))).2.2.2.2.1,(t8 (t8 (t8 (t8 (t8 (t8 (t8 (t8 (t8 (t8 (t8 (t8 (t8 (t8 (t8 (t8 (t8 x))))))))))))))))).2.2.2.2.2.1,(t8 (t8 (t8 (t8 (t8 (t8 (t8 (t8 (t8 (t8 (t8 (t8 (t8 (t8 (t8 (t8 (t8 x))))))))))))))))).2.2.2.2.2.2.1)
def aIp (L:ZF R):dC R Pb jD:=fun x y K=>ZG K (aod x y) (L (aoc x y))
section
variable (tf:Oh R) (td:Oe R) (iM:CI R) (pb:Cm R) (s9:CB R) (iY:n9 R) (qA:CH R) (eT:rP R) (kk:Cm R) (mg:CB R) (dt:n9 R) (kV:CH R) (qB:ZF R)
def aoe:List (aY R):=[aO 38 (ala tf),aO 37 (akZ td),aO 45 (Io iM),aO 40 (Ho pb),aO 44 (HW s9),aO 42 (yt iY),aO 47 (Im qA),aO 28 (wA eT),aO 39 (Ho kk),aO 43 (HW mg),aO 41 (yt dt),aO 46 (Im kV)]
def Pc (aD:(List ad)->Int->Int->Option R) (iF:List ad) (jj:Int) (gU:Int) (e0:Option R) (e1:Bool->Option R):Option R:=
 bif(decide (gU<jj))then(ag (decide ((0:Int)<=gU)&&decide (gU<iF.length)) (kV (iF.getD gU.toNat (Ty.az .str)) (fun cN fo=>qA (iF.getD gU.toNat (Ty.az .str)) (fun dG fv=>bif(!(cN.header==dG.header&&(cN.bC==dG.bC&&(cN.bW==dG.bW&&(cN.order==dG.order&&(cN.update==dG.update&&(cN.live==dG.live&&(cN.node==dG.node&&(cN.seq==dG.seq&&(cN.cB==dG.cB&&(cN.accepted==dG.accepted&&true)))))))))))then(e1 false)else(bif(fo != fv)then(e1 false)else(aD iF jj (ae.wrap (gU+1))))))))else(e0)
def aof (K:KT R) (rc:I8->Option R) (d:I8):Option R:=ZG K d (Pc qA kV (fun z0 z1 z2=>rc (z0,z1,z2)))
def aog:Nat->Option (Hint×bX R):=fun i=>match i with
 | 12=>some (aoa,(cY Pb jD (aIp qB) dz))
 | _=>none
theorem aIq:dn (R:=R) tt (aoe tf td iM pb s9 iY qA eT kk mg dt kV) (aog qB) 0 ir 0 aoa aob (aof qA kV):=fun K rc d=>by kernel_rfl
def ZH (x1:ak.State) (x2:ak.State) (x3:ad) (x4:Int) (x5:ad) (k0:Bool->Option R):Option R:=
 td (fun y6=>tf x1 (fun y7=>kk x1 (fun y8 y9=>pb x1 (fun bu aS=>kk y7 (fun bg cd=>pb y7 (fun aU bU=>bif(!y6)then(k0 false)else(bif(!(y8==bu))then(k0 false)else(bif(y9 != aS)then(k0 false)else(bif(!(bg==aU))then(k0 false)else(bif(cd != bU)then(k0 false)else(bif(bU != 0)then(k0 false)else(dt x1 (fun cA=>iY x1 (fun cP=>bif(!(cA==cP))then(k0 false)else(mg x1 x2 (fun cV=>s9 x1 x2 (fun eA=>bif(!(cV==eA))then(k0 false)else(ag (decide ((0:Int)<=(ae.wrap ((aU.length:Int) - 9)))&&decide ((ae.wrap ((aU.length:Int) - 9))<=aU.length)) (ag (decide ((0:Int)<=(ae.wrap ((aU.length:Int) - 9)))) (iM x4 (ae.wrap ((((aU.drop 0).take ((ae.wrap ((aU.length:Int) - 9)).toNat - 0)).length:Int)+1)) (fun bB=>eT x3 (fun jl=>ag (decide (aU.length+x5.length<=9223372036854775807)) (ag (decide ((0:Int)<=bB)&&decide (bB<=((aU.drop 0).take ((ae.wrap ((aU.length:Int) - 9)).toNat - 0)).length)) (ag (decide ((0:Int)<=bB)) (ag (decide (((((aU.drop 0).take ((ae.wrap ((aU.length:Int) - 9)).toNat - 0)).drop 0).take (bB.toNat - 0)).length+x5.length<=9223372036854775807)) (ag (decide ((0:Int)<=(((aU.drop 0).take ((ae.wrap ((aU.length:Int) - 9)).toNat - 0)).length:Int))&&decide ((((aU.drop 0).take ((ae.wrap ((aU.length:Int) - 9)).toNat - 0)).length:Int)<=((aU.drop 0).take ((ae.wrap ((aU.length:Int) - 9)).toNat - 0)).length)) (ag (decide ((0:Int)<=(min (ae.wrap (bB+(x5.length:Int))) (((aU.drop 0).take ((ae.wrap ((aU.length:Int) - 9)).toNat - 0)).length:Int)))&&decide ((min (ae.wrap (bB+(x5.length:Int))) (((aU.drop 0).take ((ae.wrap ((aU.length:Int) - 9)).toNat - 0)).length:Int))<=(((aU.drop 0).take ((ae.wrap ((aU.length:Int) - 9)).toNat - 0)).length:Int))) (ag (decide ((((((aU.drop 0).take ((ae.wrap ((aU.length:Int) - 9)).toNat - 0)).drop 0).take (bB.toNat - 0))++x5).length+((((aU.drop 0).take ((ae.wrap ((aU.length:Int) - 9)).toNat - 0)).drop (min (ae.wrap (bB+(x5.length:Int))) (((aU.drop 0).take ((ae.wrap ((aU.length:Int) - 9)).toNat - 0)).length:Int)).toNat).take ((((aU.drop 0).take ((ae.wrap ((aU.length:Int) - 9)).toNat - 0)).length:Int).toNat - (min (ae.wrap (bB+(x5.length:Int))) (((aU.drop 0).take ((ae.wrap ((aU.length:Int) - 9)).toNat - 0)).length:Int)).toNat)).length<=9223372036854775807)) (eT ((((((aU.drop 0).take ((ae.wrap ((aU.length:Int) - 9)).toNat - 0)).drop 0).take (bB.toNat - 0))++x5)++((((aU.drop 0).take ((ae.wrap ((aU.length:Int) - 9)).toNat - 0)).drop (min (ae.wrap (bB+(x5.length:Int))) (((aU.drop 0).take ((ae.wrap ((aU.length:Int) - 9)).toNat - 0)).length:Int)).toNat).take ((((aU.drop 0).take ((ae.wrap ((aU.length:Int) - 9)).toNat - 0)).length:Int).toNat - (min (ae.wrap (bB+(x5.length:Int))) (((aU.drop 0).take ((ae.wrap ((aU.length:Int) - 9)).toNat - 0)).length:Int)).toNat))) (fun fe=>ag (decide ((0:Int)<=bB)&&decide (bB<=((aU.drop 0).take ((ae.wrap ((aU.length:Int) - 9)).toNat - 0)).length)) (ag (decide ((0:Int)<=bB)) (ag (decide (((((aU.drop 0).take ((ae.wrap ((aU.length:Int) - 9)).toNat - 0)).drop 0).take (bB.toNat - 0)).length+x5.length<=9223372036854775807)) (ag (decide ((0:Int)<=(((aU.drop 0).take ((ae.wrap ((aU.length:Int) - 9)).toNat - 0)).length:Int))&&decide ((((aU.drop 0).take ((ae.wrap ((aU.length:Int) - 9)).toNat - 0)).length:Int)<=((aU.drop 0).take ((ae.wrap ((aU.length:Int) - 9)).toNat - 0)).length)) (ag (decide ((0:Int)<=bB)&&decide (bB<=(((aU.drop 0).take ((ae.wrap ((aU.length:Int) - 9)).toNat - 0)).length:Int))) (ag (decide ((((((aU.drop 0).take ((ae.wrap ((aU.length:Int) - 9)).toNat - 0)).drop 0).take (bB.toNat - 0))++x5).length+((((aU.drop 0).take ((ae.wrap ((aU.length:Int) - 9)).toNat - 0)).drop bB.toNat).take ((((aU.drop 0).take ((ae.wrap ((aU.length:Int) - 9)).toNat - 0)).length:Int).toNat - bB.toNat)).length<=9223372036854775807)) (eT ((((((aU.drop 0).take ((ae.wrap ((aU.length:Int) - 9)).toNat - 0)).drop 0).take (bB.toNat - 0))++x5)++((((aU.drop 0).take ((ae.wrap ((aU.length:Int) - 9)).toNat - 0)).drop bB.toNat).take ((((aU.drop 0).take ((ae.wrap ((aU.length:Int) - 9)).toNat - 0)).length:Int).toNat - bB.toNat))) (fun iG=>ag (decide ((0:Int)<=bB)&&decide (bB<=aU.length)) (ag (decide ((0:Int)<=bB)) (qB (av ([x3,jl,aU,(aU++x5),fe,iG,((aU.drop 0).take (bB.toNat - 0))]:List ad)+ah 7+ah 0+64) ([x3,jl,aU,(aU++x5),fe,iG,((aU.drop 0).take (bB.toNat - 0))]:List ad) 7 0 (k0 true) (fun iX=>k0 iX))))))))))))))))))))))))))))))))))))))))
theorem aIr:aP (R:=R) tt (aoe tf td iM pb s9 iY qA eT kk mg dt kV) (aog qB) false ir Pa topic_Name_q (ZE (ZH tf td iM pb s9 iY eT kk mg dt qB)):=fun x y k=>by kernel_rfl
end
def qB:ZF R
 | 0,_,_,_,_,_=>none
 | n+1,aB,aC,aG,e0,e1=>Pc qA kV (fun aB aC aG=>qB n aB aC aG e0 e1) aB aC aG e0 e1
def aIs:=dD (R:=R) aob (aof qA kV) ZG (qB) aoc aod (aIq tf td iM pb s9 iY qA eT kk mg dt kV qB) (fun _ _=>by kernel_rfl) (fun _ _ _=>by kernel_rfl) (fun _ _=>by kernel_rfl)
def I9:ZD R:=ZH tf td iM pb s9 iY eT kk mg dt qB
theorem aIt (R:Type):aN ao 10 (aIm (I9 (R:=R))):=aR (aIr tf td iM pb s9 iY qA eT kk mg dt kV qB) TT mixed (.c (aDQ R) <| .c (aDG R) <| .c (ak1 R) <| .c (aBj R) <| .c (aBl R) <| .c (VV R) <| .c (aIl R) <| .c (LN R) <| .c (aff R) <| .c (akX R) <| .c (KK R) <| .c (akP R) <| .n) rfl rfl (dE.all (by kernel_rfl) (.s .z (dJ (by kernel_rfl) (aIs _ dH))))
end Go.Proofs.YtidfokedcnhahaaGreatDoor
set_option maxRecDepth 100000
namespace Go.Proofs.YtidfokedcnhahaaGreatDoor
open Go Go.ak Go.Lib
theorem aIu {R:Type} (n:Int) (k:Bool->Option R):oq n k=k (db n):=by
 unfold oq VT db;by_cases h:0<=n
 ·rw[ai (show n>=0 from h)]; rfl
 ·rw[aE (show ¬n>=0 from h)]; rfl
theorem ZI {R:Type} (s:bJ) (hv:s.bW.length<=1099511627776) (k:Bool->Option R):iY s k=k (jv s):=by
 unfold iY VU jv;simp only[aHv _ hv,aIu,O5];cases pr s.bW<;>(try rfl)<;>cases db s.header<;>(try rfl)<;>cases db s.bC<;>(try rfl)<;>cases db s.order<;>(try rfl)<;>cases db s.update<;>(try rfl)<;>cases db s.node<;>(try rfl)<;>cases db s.seq<;>(try rfl)<;>cases db s.accepted<;>(try rfl)<;>cases decide (bK s.seq 2=0)<;>(try rfl)<;>cases s.live<;>rfl
theorem aIv {R:Type} (a b:bJ) (k:Bool->Option R):s9 a b k=k (FI a b):=by
 unfold s9 WJ FI;rw[O5];cases decide (a.bC>b.bC)<;>cases decide (a.bC=b.bC)<;>rfl
theorem aIw:∀s∈pv,s.length<=1099511627776:=by decide
theorem aoh {R:Type} (s:bJ) (hv:s.bW.length<=1099511627776) (k:ad->Int->Option R):pb s k=if jv s then k (eZ (bT (gE s))) 0 else k [] 1:=by
 unfold pb WH;rw[ZI s hv];cases h:jv s with
 | false=>rfl
 | true=>
  have hk:=I5 h;have hlen:=I6 hk;rw[cE,cond_false,C6 hk.header,C6 hk.bC,aHz,C6 hk.order,C6 hk.update,anT,C6 hk.node,C6 hk.seq,anT,C6 hk.accepted];simp only[Json.eta];refine(Pu.aC7 pv (oF s) (by decide) aIw (an1 hk) _).trans ?_;have e:Pu.mk pv (oF s) [] []=(pv,oF s):=an0 _ _ _ _ _ _ _ _ _ _;rw[e];refine(aGQ (gE s) (FD (gE s) 1 (Dd hk) (by omega)).1 (Zo _ 1 (Dd hk)) (fun _=>by omega) _).trans ?_;rw[Dd hk,if_pos rfl,anS _ (by omega)];simp only[if_true]
theorem aoi {v:Json} (hv:Pu.cy v) (s:ad):∃(x b:Bool),(∀ {R:Type} (k:Bool->Bool->Option R),qp v s k=k x b)/\nN v s=if b then some x else none:=by
 cases hq:nN v s with
 | none=>exact⟨false,false,fun k=>by rw[anW hv,hq],rfl⟩
 | some x=>exact⟨x,true,fun k=>by rw[anW hv,hq],rfl⟩
theorem aIx {v:Json} (hv:Pu.cy v) (s:ad):∃(x:ad) (b:Bool),(∀ {R:Type} (k:ad->Bool->Option R),r7 v s k=k x b)/\(tq v s=if b then some x else none)/\x.length<=1099511627776:=by
 cases hq:tq v s with
 | none=>exact⟨[],false,fun k=>by rw[anV hv,hq],rfl,by simp⟩
 | some x=>exact⟨x,true,fun k=>by rw[anV hv,hq],rfl,aHA hv hq⟩
theorem aoj {R:Type} (s:ad) (hs:s.length<=1099511627776) (k:bJ->Int->Option R):qA s k=O8 k (takeA s):=by
 unfold qA ZC takeA;rw[aHy s hs];cases pq s with
 | none=>rfl
 | some t=>
 show uJ t _=_;rw[aGG];by_cases he:(ig t).2.1=0;rotate_left
 ·have c:((ig t).2.1 != 0)=true:=by simpa using he
  rw[c,cond_true];simp only[if_pos he,ne_eq,not_true_eq_false,not_false_eq_true,he,if_true];rfl
 have c:((ig t).2.1 != 0)=false:=by simpa using he
 rw[c,cond_false];have hv:=anx he;simp only[he,ne_eq,not_true_eq_false,if_false];generalize (ig t).1=v at hv ⊢;simp only[Json.eta,anI,anM,anJ,anK,anL,anN,anO,anP,anQ,anR];obtain ⟨x1,b1,g1,e1⟩:=Di hv C1;obtain ⟨x2,b2,g2,e2⟩:=Di hv C7;obtain ⟨x3,b3,g3,e3,l3⟩:=aIx hv C2;obtain ⟨x4,b4,g4,e4⟩:=Di hv C3;obtain ⟨x5,b5,g5,e5⟩:=Di hv C4;obtain ⟨x6,b6,g6,e6⟩:=aoi hv C8;obtain ⟨x7,b7,g7,e7⟩:=Di hv C9;obtain ⟨x8,b8,g8,e8⟩:=Di hv Da;obtain ⟨x9,b9,g9,e9⟩:=aoi hv Db;obtain ⟨gL,Ol,g10,OX⟩:=Di hv Dc;rw[g1,g2,g3,g4,g5,g6,g7,g8,g9,g10,ZI _ l3];unfold stateT;rw[e1,e2,e3,e4,e5,e6,e7,e8,e9,OX];have hb:∀b:Bool,(b==true)=b:=fun b=>by cases b<;>rfl
 simp only[hb,qD];generalize hr:jv ⟨x1,x2,x3,x4,x5,x6,x7,x8,x9,gL⟩=r;have dead:∀(q:Bool),(bif !r then k ⟨0,0,[],0,0,false,0,0,false,0⟩ 90 else(bif !false then k ⟨0,0,[],0,0,false,0,0,false,0⟩ 90 else k ⟨x1,x2,x3,x4,x5,x6,x7,x8,x9,gL⟩ 0))=k ⟨0,0,[],0,0,false,0,0,false,0⟩ 90:=fun q=>by cases r<;>rfl
 cases b1 with
 | false=>simp only[lu,xB]; rw[dead true]; rfl
 | true=>
 cases b2 with
 | false=>simp only[lu,xB]; rw[dead true]; rfl
 | true=>
 cases b3 with
 | false=>simp only[lu,xB]; rw[dead true]; rfl
 | true=>
 cases b4 with
 | false=>simp only[lu,xB]; rw[dead true]; rfl
 | true=>
 cases b5 with
 | false=>simp only[lu,xB]; rw[dead true]; rfl
 | true=>
 cases b6 with
 | false=>simp only[lu,xB]; rw[dead true]; rfl
 | true=>
 cases b7 with
 | false=>simp only[lu,xB]; rw[dead true]; rfl
 | true=>
 cases b8 with
 | false=>simp only[lu,xB]; rw[dead true]; rfl
 | true=>
 cases b9 with
 | false=>simp only[lu,xB]; rw[dead true]; rfl
 | true=>
 cases Ol with
 | false=>simp only[lu,xB]; rw[dead true]; rfl
 | true=>
 simp only[Jk,cE,cond_false,if_true,hr];cases r<;>rfl
def Pd (a:bJ):ad:=if jv a then eZ (bT (gE a))else []
def Pe (a:bJ):Int:=if jv a then 0 else 1
theorem aIy {R:Type} (a:bJ) (k:ad->Int->Option R):kk a k=k (Pd a) (Pe a):=by
 rw[Zy a];unfold Pd Pe;split<;>rfl
theorem aIz {R:Type} (a:bJ) (hv:a.bW.length<=1099511627776) (k:ad->Int->Option R):pb a k=k (Pd a) (Pe a):=by
 rw[aoh a hv];unfold Pd Pe;split<;>rfl
theorem toldA_loop {R:Type} (l:List ad) (hl:l.length<=1000) (hu:∀u∈l,u.length<=1099511627776) (e0:Option R) (e1:Bool->Option R):∀(F i:Nat),i<=l.length->l.length - i<F->qB F l (l.length:Int) (i:Int) e0 e1=e0:=by
 intro F
 induction F with
 | zero=>intro i _ hF; omega
 | succ F ih=>
  intro i hi hF;show Pc _ _ (fun x0 x1 x2=>qB F x0 x1 x2 e0 e1) l (l.length:Int) (i:Int) e0 e1=_;unfold Pc;by_cases h:i<l.length;rotate_left
  ·rw[aE (show ¬(i:Int)<(l.length:Int) by omega),cond_false]
  have hg:l.getD (i:Int).toNat (Ty.az .str)=l[i]:=getD_at h _;rw[ai (show(i:Int)<(l.length:Int) by omega),cond_true,aw (Dg i),hg,Dh h (by omega)];have ih:=ih (i+1) (by omega) (by omega);have hb:=hu _ (jd h);have bn:∀x:Int,(x != x)=false:=fun x=>by simp
  rw[an3 _ hb];cases ht:takeA l[i]with
  | error e=>
   rw[an2,aoj _ hb,ht,an2,an6,an5,cE,cond_false,bn,cond_false];exact ih
  | ok o=>
   rw[Zz,aoj _ hb,ht,Zz,an6,an5,cE,cond_false,bn,cond_false];exact ih
theorem aIA {R:Type} (a b:bJ) (s:ad) (at_:Int) (more:ad) (ha:∀c∈Ty.cells .state a,Small 1048576 c) (gn:∀c∈Ty.cells .state b,Small 1048576 c) (hs:Small 1048576 (.str s)) (kE:Small 1048576 (.int .i64 at_)) (hm:Small 1048576 (.str more)) (k:Bool->Option R):I9 a b s at_ more k=k true:=by
 have hA:=aId ha;have nv:=hA.name;have hr:=aG9 a;have hl:=an7 hr;have hl9:=FG (bT (gE (A8 a)));have hs1:=hs.gJ;have XA:=hm.gJ;have hv:=(O1 (I5 hr).name).2;unfold I9 ZH;have b0:((0:Int) != 0)=false:=rfl;have bb:∀x:Bool,(x==x)=true:=fun x=>by cases x<;>rfl
 have bs:∀x:ad,(x==x)=true:=fun x=>by simp
 have bn:∀x:Int,(x != x)=false:=fun x=>by simp
 have rl:∀k:ad->Int->Option R,pb (A8 a) k=k (eZ (bT (gE (A8 a)))) 0:=fun k=>by
  rw[aoh _ (by omega),hr,if_pos rfl]
 rw[aIi,aIe a hA,aIy a,aIz a nv,an8 hr,rl,cE,cond_false,bs,cE,cond_false,bn,cond_false,bs,cE,cond_false,b0,cond_false,cond_false,
  O7,ZI a nv,bb,cE,cond_false,anZ,aIv,bb,cE,cond_false]
 generalize hT:bT (gE (A8 a))=T at *;have hW:ae.wrap (((eZ T).length:Int) - 9)=(T.length:Int):=by rw[aV (by omega) (by omega)]; omega
 have hT2:((eZ T).drop 0).take ((T.length:Int).toNat - 0)=T:=by
  rw[fV,cM,vl];unfold eZ;simp
 simp only[hW,hT2];rw[aw (by rw[ai (by omega),ai (by omega)]; rfl),aw (ai (by omega)),aV (n:=(T.length:Int)+1) (by omega) (by omega),uX _ _ (aHs kE) (by omega),FJ s (by omega)];have p1:=O2 at_ ((T.length:Int)+1);have p2:=O3 at_ (n:=(T.length:Int)+1) (by omega);obtain ⟨j,hj⟩:∃j:Nat,iO at_ ((T.length:Int)+1)=(j:Int):=⟨(iO at_ ((T.length:Int)+1)).toNat,by omega⟩;rw[hj]at p1 p2 ⊢;have hw:ae.wrap ((j:Int)+(more.length:Int))=(j:Int)+(more.length:Int):=aV (by omega) (by omega);simp only[hw]
 iterate 7 rw[aw (by simp only[bF,decide_eq_true_eq,bf,eP,ct]; omega)]
 rw[FJ _ (by simp only[bf,eP,ct]; omega)]
 iterate 6 rw[aw (by simp only[bF,decide_eq_true_eq,bf,eP,ct]; omega)]
 rw[FJ _ (by simp only[bf,eP,ct]; omega)]
 iterate 2 rw[aw (by simp only[bF,decide_eq_true_eq,bf,eP,ct]; omega)]
 have key:∀(l:List ad) (F:Nat) (e1:Bool->Option R),l.length=7->(∀u∈l,u.length<=1099511627776)->7<F->qB F l 7 0 (k true) e1=k true:=fun l F e1 h7 h1 hF=>by
  have:=toldA_loop l (by omega) h1 (k true) e1 F 0 (by omega) (by omega);rw[h7]at this;exact this
 refine key _ _ _ rfl (fun u hu => ?_) (by simp only[bj,cu]; omega);simp only[eJ,Dp,or_false]at hu;rcases hu with rfl|rfl|rfl|rfl|rfl|rfl|rfl<;>first|omega|(simp only[bf,eP,ct,FG]; omega)
end Go.Proofs.YtidfokedcnhahaaGreatDoor
end
