/-
  StateTells, part 8 of 10.
-/
import Derived.Test.YtidfokedcnhahaaGreatDoorStateTellsB7
set_option linter.unusedSimpArgs false
set_option linter.unusedVariables false
open BitVec renaming ofInt->aJ
open Bool renaming and_assoc->Dn,and_eq_false_iff->Z1,and_eq_true->bF,and_self->Jk,and_true->qD,cond_self->Dq,eq_iff_iff->FQ,false_and->lu,false_eq_true->jy,false_or->sn,not_eq_true'->xx,not_false->iq,not_true->cE,or_eq_true->je,or_false->Bj,true_and->oJ
open Go.IntKind renaming bits->kv,i32->eI,i64->ae,signed->ku,u8->aM,wrap->FM
open Go.Lib renaming indexByte->so
open Int renaming fdiv->fb,fdiv_eq_ediv_of_nonneg->Pg,le_of_lt->Ph,mul_assoc->zE,mul_tmod_left->Jl,natAbs->ah,pow_pos->Pf,pow_succ->tE,reduceEq->F0,tdiv->pz,tmod->bK,tmod_eq_emod_of_nonneg->PX,toNat_natCast->cM
open List renaming all_eq_true->gF,append_assoc->gG,append_nil->oK,cons_append->gg,contains_cons->nR,contains_nil->PT,dropWhile_cons->tD,drop_drop->py,drop_eq_getElem_cons->im,drop_eq_nil_of_le->gQ,drop_left->Jm,drop_of_length_le->Z4,drop_succ_cons->Pr,drop_suffix->FZ,drop_zero->fV,eq_nil_of_length_eq_zero->gH,eq_of_mem_replicate->Jn,flatMap_cons->Dr,flatMap_nil->Z2,getD->ca,getElem_mem->jd,headD_cons->Ds,isPrefixOf->PS,length->av,length_append->bf,length_cons->bj,length_drop->ct,length_nil->cu,length_pos_iff->Ba,length_take->eP,map->cU,map_cons->kz,map_nil->sq,mem_append->fU,mem_cons->eJ,nil_append->jf,not_mem_nil->Dp,reverse_append->Z3,tail_cons->Dt,takeWhile_append_dropWhile->vm,takeWhile_cons->Bg,take_append_drop->Dk,take_left->PW,take_length->PV,take_of_length_le->sk,take_succ_cons->FT
open Nat renaming add_sub_cancel->FY,add_sub_cancel_left->Ji,add_zero->zk,le_mul_of_pos_right->FR,le_refl->cD,le_trans->pw,lt_or_ge->mo,lt_trichotomy->ZT,min_eq_left->PR,mod_eq_of_lt->u6,mod_lt->xA,mul_comm->u7,mul_le_mul_right->iP,pow_le_pow_right->zF,pow_succ->Bk,sub_zero->vl
open Option.some renaming injEq->ij
open Prod.mk renaming injEq->kA
open UInt8 renaming ofNat->bl,toNat_inj->xC,toNat_lt->fa
noncomputable section
set_option maxRecDepth 100000
namespace Go.Proofs.YtidfokedcnhahaaGreatDoor
open Go Go.ak Go.Lib
theorem alk:∀(l:ad) (v u:Nat),mO l v=some u->u<(v+1)*16 ^ l.length
 | [],v,u,h=>by cases h; simp
 | b::t,v,u,h=>by
  simp only[mO]at h;cases hx:pf b with
  | none=>rw[hx]at h; cases h
  | some d=>
   rw[hx]at h;have h1:=alk t _ _ h;have hd:=X0 hx;have h2:(16*v+d+1)*16 ^ t.length<=((v+1)*16)*16 ^ t.length:=iP _ (by omega);rw[bj,Bk];have h3:(v+1)*16*16 ^ t.length=(v+1)*(16 ^ t.length*16):=by rw[Nat.mul_assoc,u7 16]
   omega
theorem alm:∀(l:ad) (v u:Nat),mO l v=some u->∀b∈l,(pf b).isSome=true
 | [],v,u,h=>by simp
 | b::t,v,u,h=>by
  simp only[mO]at h;cases hx:pf b with
  | none=>rw[hx]at h; cases h
  | some d=>
   rw[hx]at h;intro c hc;rcases eJ.1 hc with rfl|hc
   ·rw[hx]; rfl
   ·exact alm t _ _ h c hc
theorem aln {b:UInt8} (h:(pf b).isSome=true):b.toNat<128/\b.toNat≠43/\b.toNat≠45/\b.toNat≠95:=by
 unfold pf at h;simp only at h
 revert h
 (repeat' split)<;>intro h<;>first|omega|cases h
theorem aD8 (cs:ad):∀s:ad,(∀b∈s,cs.contains b=false)->G2 s cs=false:=by
 have key:∀s:ad,(∀b∈s,cs.contains b=false)->indexAny s cs = -1:=by
  intro s
  induction s with
  | nil=>intro _; rfl
  | cons b s ih=>
   intro h;unfold indexAny;rw[h b (by simp)];have:=ih fun x hx=>h x (by simp[hx])
   simp[this]
 intro s h;unfold G2 containsAny;rw[key s h];rfl
def oC (s:ad):Option (Nat×ad):=if s.length<4 then none else match mO (s.take 4) 0 with|some v=>some (v,s.drop 4)|none=>none
theorem yW {s r:ad} {v:Nat} (h:oC s=some (v,r)):v<65536/\4<=s.length/\r=s.drop 4:=by
 unfold oC at h;split at h
 ·cases h
 ·rename_i hl;split at h
  ·rename_i u hu;cases h;have:=alk _ _ _ hu;rw[eP,PR (by omega)]at this;exact⟨by omega,by omega,rfl⟩
  ·cases h
theorem Fi {n:Nat} (h:n<1114112):eI.wrap (n:Int)=(n:Int):=azc (by omega) (by omega)
theorem alo {R:Type} (s:ad) (hs:s.length<=9000000000000000000) (k:Int->ad->Option R) :
  ug s k=match oC s with|some (v,r)=>k (v:Int) r|none=>k (-1) s:=by
 show Mb wJ s k=_;unfold Mb;by_cases hl:s.length<4
 ·rw[ai (show(s.length:Int)<4 by omega),cond_true];unfold oC;rw[if_pos hl]
 ·rw[aE (show ¬(s.length:Int)<4 by omega),cond_false,aw (ai (by omega))];have h4:(s.drop 0).take (4 - 0)=s.take 4:=rfl;rw[h4,aD7 (by rw[eP]; omega)];unfold oC;rw[if_neg hl];cases hu:mO (s.take 4) 0 with
  | none=>rfl
  | some v=>
   have fK:=alm _ _ _ hu;have Ca:kh (s.take 4)=true:=gF.2 fun b hb=>ai (aln (fK b hb)).1
   have hno:G2 (s.take 4) [43,45,95]=false:=aD8 _ _ fun b hb=>by
    obtain ⟨_,g1,g2,g3⟩:=aln (fK b hb);have e:∀x:UInt8,b.toNat≠x.toNat->(b==x)=false:=fun x hx=>by
     rw[beq_eq_false_iff_ne]; rintro rfl; exact hx rfl
    simp only[nR,PT,e 43 g1,e 45 g2,e 95 g3];rfl
   have hv:=(yW (s:=s) (r:=s.drop 4) (v:=v) (by unfold oC; rw[if_neg hl,hu])).1;have gn:kh ([43,45,95]:ad)=true:=by decide
   simp only;rw[aw (by rw[Ca,gn,ai (show(s.take 4).length<4294967281 by rw[eP]; omega)]; rfl),hno,cond_false,aw (by rw[ai (show(0:Int)<=(s.length:Int) by omega),ai (show(s.length:Int)<=s.length by omega)]; rfl),aw (ai (by omega))];rw[Fi (by omega),cM,sk (by rw[ct]; exact cD _)]
def uL (s:ad):Option (Nat×ad):=
 match oC s with
 | none=>none
 | some (v,r)=>
  if v<55296\/57344<=v then some (v,r)else if 56320<=v then none
  else if([92,117]:ad).isPrefixOf r then
   match oC (r.drop 2)with
   | none=>none
   | some (w,r2)=>if 56320<=w/\w<57344 then some (65536+(v - 55296)*1024+(w - 56320),r2)else none
  else none
theorem aD9 (n:Nat) (h:n<1024):eI.wrap ((n:Int)*2 ^ (min 10 eI.bits))=((n*1024:Nat):Int):=by
 have e:(n:Int)*2 ^ (min 10 eI.bits)=((n*1024:Nat):Int):=by
  show(n:Int)*2 ^ 10=_;omega
 rw[e,Fi (by omega)]
theorem aEa {R:Type} (s:ad) (hs:s.length<=9000000000000000000) (k:Int->ad->Option R) :
  match uL s with|some (c,r)=>sV s k=k (c:Int) r|none=>∃r,sV s k=k (-1) r:=by
 have e0:sV s k=Mc iI ug s k:=rfl;rw[e0];unfold Mc;rw[alo s hs];unfold uL;cases hu:oC s with
 | none=>
  simp only;exact⟨s,by rw[ai (show(-1:Int)<55296 by omega),cond_true]⟩
 | some p=>
  obtain ⟨v,r⟩:=p;obtain ⟨hv,hl,hr⟩:=yW hu;have hrl:r.length<=9000000000000000000:=by rw[hr,ct]; omega
  simp only;by_cases h1:v<55296
  ·rw[if_pos (.inl h1),ai (show(v:Int)<55296 by omega)];simp only[cond_true]
  rw[aE (show ¬(v:Int)<55296 by omega),cond_false];by_cases h2:57344<=v
  ·rw[if_pos (.inr h2),ai (show(v:Int)>=57344 by omega)];simp only[cond_true]
  rw[if_neg (by omega),aE (show ¬(v:Int)>=57344 by omega),cond_false];by_cases h3:56320<=v
  ·rw[if_pos h3];exact⟨r,by rw[ai (show(v:Int)>=56320 by omega),cond_true]⟩
  rw[if_neg h3,aE (show ¬(v:Int)>=56320 by omega),cond_false,Oj _ _ (by simp) hrl];cases hp:([92,117]:ad).isPrefixOf r with
  | false=>
   simp only[jy,if_false];exact⟨r,rfl⟩
  | true=>
   simp only[if_true];have aEb:(r.drop 2).length<=9000000000000000000:=by rw[ct]; omega
   have e2:r.drop ([92,117]:ad).length=r.drop 2:=rfl;rw[cE,cond_false,e2,alo _ aEb];cases nX:oC (r.drop 2)with
   | none=>
    simp only;exact⟨r.drop 2,by rw[ai (show(-1:Int)<56320 by omega),cond_true]⟩
   | some q=>
    obtain ⟨w,r2⟩:=q;obtain ⟨hw,jB,uy⟩:=yW nX;simp only;by_cases h4:56320<=w/\w<57344
    ·rw[if_pos h4];simp only;rw[aE (show ¬(w:Int)<56320 by omega),cond_false,aE (show ¬(w:Int)>=57344 by omega),cond_false];have k1:eI.wrap ((v:Int) - 55296)=((v - 55296:Nat):Int):=by
      have:(v:Int) - 55296=((v - 55296:Nat):Int):=by omega
      rw[this,Fi (by omega)]
     rw[k1,aD9 _ (by omega)];have k2:eI.wrap (65536+(((v - 55296)*1024:Nat):Int))=((65536+(v - 55296)*1024:Nat):Int):=by
      have:65536+(((v - 55296)*1024:Nat):Int)=((65536+(v - 55296)*1024:Nat):Int):=by omega
      rw[this,Fi (by omega)]
     have k3:eI.wrap (((65536+(v - 55296)*1024:Nat):Int)+(w:Int))=((65536+(v - 55296)*1024+w:Nat):Int):=by
      have:((65536+(v - 55296)*1024:Nat):Int)+(w:Int)=((65536+(v - 55296)*1024+w:Nat):Int):=by omega
      rw[this];simp only[FM,kv,ku];simp;omega
     have k4:eI.wrap (((65536+(v - 55296)*1024+w:Nat):Int) - 56320)=((65536+(v - 55296)*1024+(w - 56320):Nat):Int):=by
      have:((65536+(v - 55296)*1024+w:Nat):Int) - 56320=((65536+(v - 55296)*1024+(w - 56320):Nat):Int):=by omega
      rw[this,Fi (by omega)]
     rw[k2,k3,k4]
    ·rw[if_neg h4];refine⟨r2,?_⟩;by_cases h5:w<56320
     ·rw[ai (show(w:Int)<56320 by omega),cond_true]
     ·rw[aE (show ¬(w:Int)<56320 by omega),cond_false,ai (show(w:Int)>=57344 by omega),cond_true]
def uM:ad->Option (Nat×ad)
 | []=>none
 | b::t=>
  if b.toNat=34\/b.toNat=92\/b.toNat=47 then some (b.toNat,t)else if b.toNat=98 then some (8,t)else if b.toNat=102 then some (12,t)else if b.toNat=110 then some (10,t)
  else if b.toNat=114 then some (13,t)else if b.toNat=116 then some (9,t)else if b.toNat=117 then uL t else none
theorem aEc {R:Type} (s:ad) (hs:s.length<=9000000000000000000) (k:Int->ad->Option R) :
  match uM s with|some (c,r)=>oj s k=k (c:Int) r|none=>∃r,oj s k=k (-1) r:=by
 have e0:oj s k=Md sV s k:=rfl;rw[e0];unfold Md;cases s with
 | nil=>exact⟨[],rfl⟩
 | cons b t=>
  have aT:((b::t:ad)==([]:ad))=false:=rfl;simp only[bj]at hs;have ht:(((b::t:ad).drop 1).take (((b::t:ad).length:Int).toNat - 1))=t:=by
   rw[cM,Pr,fV,bj,FY,PV]
  have hg:((b::t:ad).getD 0 0).toNat=b.toNat:=rfl;rw[aT,cond_false,aw (ai (show(0:Int)<((b::t:ad).length:Int) by simp only[bj]; omega)),
   aw (by rw[ai (show(0:Int)<=((b::t:ad).length:Int) by omega),ai (show((b::t:ad).length:Int)<=(b::t:ad).length by omega)]; rfl),
   aw (ai (show(1:Int)<=((b::t:ad).length:Int) by simp only[bj]; omega))]
  simp only[ht,hg];have hb:=fa b;simp only[uM];generalize b.toNat=n at *;have q:∀m:Nat,((n:Int)==(m:Int))=decide (n=m):=fun m=>by
   by_cases h:n=m
   ·subst h; simp
   ·have:¬((n:Int)=(m:Int)):=by omega
    simp[h,this]
  have th:((n:Int)==34)=decide (n=34):=q 34;have CL:((n:Int)==92)=decide (n=92):=q 92;have X2:((n:Int)==47)=decide (n=47):=q 47;have X3:((n:Int)==98)=decide (n=98):=q 98;have X4:((n:Int)==102)=decide (n=102):=q 102;have X5:((n:Int)==110)=decide (n=110):=q 110;have X6:((n:Int)==114)=decide (n=114):=q 114;have X7:((n:Int)==116)=decide (n=116):=q 116;have X8:((n:Int)==117)=decide (n=117):=q 117;simp only[th,CL,X2,X3,X4,X5,X6,X7,X8,Fi (show n<1114112 by omega)];by_cases du:n=34
  ·subst du; simp
  by_cases gw:n=92
  ·subst gw; simp
  by_cases Iu:n=47
  ·subst Iu; simp
  simp only[du,gw,Iu,decide_false,cond_false,or_self,if_false];by_cases Iv:n=98
  ·subst Iv; simp
  by_cases Iw:n=102
  ·subst Iw; simp
  by_cases Ix:n=110
  ·subst Ix; simp
  by_cases Iy:n=114
  ·subst Iy; simp
  by_cases Iz:n=116
  ·subst Iz; simp
  by_cases IA:n=117
  ·subst IA;have:=aEa (R:=R) t (by omega) k;simp only[decide_true,decide_false,cond_true,cond_false,if_true,show ¬((117:Nat)=98) by decide,show ¬((117:Nat)=102) by decide,show ¬((117:Nat)=110) by decide,show ¬((117:Nat)=114) by decide,show ¬((117:Nat)=116) by decide,if_false];exact this
  simp only[Iv,Iw,Ix,Iy,Iz,IA,decide_false,cond_false,if_false];exact⟨t,rfl⟩
def ln:ad:=[48,49,50,51,52,53,54,55,56,57,97,98,99,100,101,102]
def lp (c:Nat):Nat:=if c=34\/c=92 then c else if c=8 then 98 else if c=12 then 102 else if c=10 then 110 else if c=13 then 114 else if c=9 then 116 else 0
def qc (c:Nat):ad:=if lp c≠0 then [92,bl (lp c)]else if c<32 then [92,117,48,48,ln.getD (c / 16) 0,ln.getD (c%16) 0]else enc c
def gW (rs:List Nat):ad:=rs.flatMap qc
def qt (rs:List Nat):ad:=34::(gW rs++[34])
theorem aEd (c:Nat):lp c<256:=by unfold lp; (repeat' split)<;>omega
theorem aEe {R:Type} (c:Nat) (k:Int->Option R):og (c:Int) k=k (lp c:Int):=by
 show Lq (c:Int) k=_;unfold Lq lp;have b:∀n:Nat,((c:Int)==(n:Int))=decide (c=n):=fun n=>by
  by_cases h:c=n
  ·subst h; simp
  ·have:¬((c:Int)=(n:Int)):=by omega
   simp[h,this]
 have b34:((c:Int)==34)=decide (c=34):=b 34;have b92:((c:Int)==92)=decide (c=92):=b 92;have b8:((c:Int)==8)=decide (c=8):=b 8;have b12:((c:Int)==12)=decide (c=12):=b 12;have Ol:((c:Int)==10)=decide (c=10):=b 10;have b13:((c:Int)==13)=decide (c=13):=b 13;have b9:((c:Int)==9)=decide (c=9):=b 9;rw[b34,b92,b8,b12,Ol,b13,b9];have w:aM.wrap (c:Int)=((c%256:Nat):Int):=Fg c;by_cases du:c=34
 ·subst du; rfl
 by_cases gw:c=92
 ·subst gw; rfl
 simp only[du,gw,decide_false,cond_false,or_self,if_false];by_cases h8:c=8
 ·subst h8; rfl
 by_cases qE:c=12
 ·subst qE; rfl
 by_cases oL:c=10
 ·subst oL; rfl
 by_cases qF:c=13
 ·subst qF; rfl
 by_cases h9:c=9
 ·subst h9; rfl
 simp[h8,qE,oL,qF,h9]
theorem aEf (s:ad) (pos:Nat):iR s pos=decodeL (s.drop pos):=by
 unfold iR;exact(decodeL_drop ⟨s.toArray⟩ pos).symm
theorem alp (rs:List Nat) (c:Nat) (t:List Nat):bE (rs++c::t)=bE rs++(enc c++bE t):=by simp[bE]
theorem aEg:∀c:Fin 32,(fb (c.val:Int) (2 ^ (min 4 eI.bits)))=((c.val / 16:Nat):Int)/\eI.wrap ((aJ eI.bits (c.val:Int)&&&aJ eI.bits 15).toNat:Int)=((c.val%16:Nat):Int):=by decide +kernel
theorem alq {c:Nat} (hv:vr c):(qc c).length<=6:=by
 unfold qc;split
 ·simp
 ·split
  ·simp
  ·have:=ux hv; omega
theorem aEh {R:Type} {x:ad} {pos c:Nat} (hp:pos<x.length) {t:ad} (hd:x.drop pos=enc c++t) (hv:vr c) (o:ad) (ho:o.length<=90000000000) (aD:List Int->ad->Nat->Option R) (e0:List Int->Option R) :
  Cl cj og di gu aD (zs o) x pos e0=aD (zs (o++qc c)) x (pos+(enc c).length):=by
 unfold Cl;have hr:iR x pos=(c,(enc c).length):=by rw[aEf,hd,HL hv]
 rw[hr,ai hp,cond_true];simp only;rw[aEe];have xZ:∀z:ad,z.length<=10->gV (o++z):=fun z hz=>by unfold gV; rw[bf]; omega
 have X9:gV o:=by unfold gV; omega
 by_cases hs:lp c≠0
 ·have e:((lp c:Int) != 0)=true:=by
   exact bne_iff_ne.2 (by omega)
  rw[e,cond_true];have gw:(92:Int)=((92:UInt8).toNat:Int):=rfl;rw[gw,wb _ o X9];have h2:(lp c:Int)=((bl (lp c)).toNat:Int):=by rw[eU _ (aEd c)]
  rw[h2,wb _ _ (xZ [92] (by simp))];have:qc c=[92,bl (lp c)]:=by unfold qc; rw[if_pos hs]
  rw[this,gG];rfl
 ·have B7:lp c=0:=by omega
  have e:((lp c:Int) != 0)=false:=by rw[B7]; rfl
  rw[e,cond_false];by_cases lx:c<32
  ·rw[ai (show(c:Int)<32 by omega),cond_true,ws _ o (by simp) X9];obtain ⟨k1,k2⟩:=aEg ⟨c,lx⟩;simp only at k1 k2;rw[k1,k2,aw (by rw[ai (by omega),ai (by omega)]; rfl)];rw[cM,cM,wb _ _ (xZ [92,117,48,48] (by simp)),aw (by rw[ai (by omega),ai (by omega)]; rfl)];rw[gG o,wb _ _ (xZ _ (by simp))];have:qc c=[92,117,48,48,ln.getD (c / 16) 0,ln.getD (c%16) 0]:=by unfold qc; rw[if_neg hs,if_pos lx]
   rw[this,gG o];rfl
  ·rw[aE (show ¬(c:Int)<32 by omega),cond_false];obtain ⟨n,hn⟩:=wr hv o X9 (fun aU bU=>aD bU x (pos+(enc c).length));rw[hn];have:qc c=enc c:=by unfold qc; rw[if_neg hs,if_neg lx]
   rw[this]
theorem aEi {R:Type} (rs:List Nat):∀(n:Nat) (done:List Nat) (o:ad),rs.length<n->(∀c∈rs,vr c)->(∀c∈done,vr c)->o.length+6*rs.length<=80000000000->∀e0:List Int->Option R,
  o7 n (zs o) (bE (done++rs)) (bE done).length e0=e0 (zs (o++gW rs)):=by
 induction rs with
 | nil=>
  intro n done o hn _ _ _ e0;obtain ⟨m,rfl⟩:∃m,n=m+1:=⟨n - 1,by simp at hn; omega⟩;show Cl cj og di gu _ (zs o) (bE (done++[])) (bE done).length e0=_;unfold Cl;rw[oK,aE (Nat.lt_irrefl _),cond_false];simp[gW]
 | cons c rs ih=>
  intro n done o hn hr hd hl e0;obtain ⟨m,rfl⟩:∃m,n=m+1:=⟨n - 1,by simp at hn; omega⟩;have hv:=hr c (by simp);have he:=ux hv;have hq:=alq hv;simp only[bj]at hn hl;show Cl cj og di gu (fun aB aC aG=>o7 m aB aC aG e0) (zs o) (bE (done++c::rs)) (bE done).length e0=_;rw[aEh (c:=c) (t:=bE rs) (by rw[alp,bf,bf]; omega) (by rw[alp,Jm]) hv o (by omega)];have e1:done++c::rs=(done++[c])++rs:=by simp
  have e2:(bE done).length+(enc c).length=(bE (done++[c])).length:=by rw[azd,bf]
  rw[e1,e2,ih m (done++[c]) (o++qc c) (by omega) (fun x hx=>hr x (by simp[hx])) (fun x hx=>by
   rcases fU.1 hx with h|h
   ·exact hd x h
   ·simp at h; subst h; exact hv) (by rw[bf]; omega)]
  rw[gG];rfl
theorem IB:∀(rs:List Nat),(∀c∈rs,vr c)->rs.length<=(bE rs).length/\(bE rs).length<=4*rs.length
 | [],_=>by simp[bE]
 | c::rs,h=>by
  have h1:=ux (h c (by simp));have h2:=IB rs (fun x hx=>h x (by simp[hx]));have:bE (c::rs)=enc c++bE rs:=by simp[bE]
  rw[this,bf,bj];omega
theorem Ya:∀(rs:List Nat),(∀c∈rs,vr c)->(gW rs).length<=6*rs.length
 | [],_=>by simp[gW]
 | c::rs,h=>by
  have h1:=alq (h c (by simp));have h2:=Ya rs (fun x hx=>h x (by simp[hx]));have:gW (c::rs)=qc c++gW rs:=by simp[gW]
  rw[this,bf,bj];omega
theorem aEj {R:Type} (rs:List Nat) (hr:∀c∈rs,vr c) (hl:rs.length<=10000000000) (k:ad->Bool->Option R):lj (bE rs) k=k (qt rs) true:=by
 have hc:=IB rs hr;have hq:=Ya rs hr;have hw:dh (bE rs)=true:=Cw.2 ⟨rs,hr,rfl⟩;show EG fE fZ cj o7 (bE rs) k=_;unfold EG;have q:∀(x:ad) (f:Bool->Option R),fE x f=f (dh x):=fun _ _=>rfl
 have q2:∀(x:Int) (f:List Int->Option R),fZ x f=f [x]:=fun _ _=>rfl
 rw[q,hw,cE,cond_false,q2];have yX:([34]:List Int)=zs [34]:=rfl;rw[yX];have:=aEi (R:=R) rs (av (zs [34])+av (bE rs)+64) [] [34] (by omega) hr (by simp) (by simp; omega);rw[jf]at this;have e0:(bE []).length=0:=rfl;rw[e0]at this;rw[this];have du:(34:Int)=((34:UInt8).toNat:Int):=rfl;rw[du,wb _ _ (by unfold gV; rw[bf]; simp; omega),pe];rfl
theorem aEk {R:Type} (s:ad) (h:dh s=false) (k:ad->Bool->Option R):lj s k=k [] false:=by
 show EG fE fZ cj o7 s k=_;unfold EG;have q:∀(x:ad) (f:Bool->Option R),fE x f=f (dh x):=fun _ _=>rfl
 rw[q,h];rfl
def xl (s:ad):Option (Nat×ad):=if([92]:ad).isPrefixOf s then uM (s.drop 1)else oB s
def uq:Nat->ad->ad->Option (ad×ad)
 | 0,_,_=>none
 | n+1,s,o=>if([34]:ad).isPrefixOf s then some (o,s.drop 1)else match xl s with|none=>none|some (c,r)=>uq n r (o++enc c)
theorem aEl {s r:ad} {c:Nat} (h:uL s=some (c,r)):vr c/\r.length+4<=s.length:=by
 unfold uL at h;split at h
 ·cases h
 ·rename_i v r1 hu;obtain ⟨hv,hl,hr⟩:=yW hu;split at h
  ·cases h;refine⟨by unfold vr; omega,?_⟩;rw[hr,ct]; omega
  ·split at h
   ·cases h
   ·split at h
    ·split at h
     ·cases h
     ·rename_i w r2 nX;obtain ⟨hw,jB,uy⟩:=yW nX;split at h
      ·simp only[ij,kA]at h;obtain ⟨hc,rfl⟩:=h;refine⟨by unfold vr; omega,?_⟩;rw[uy,hr];simp only[ct];rw[hr]at jB;simp only[ct]at jB;omega
      ·cases h
    ·cases h
theorem Yb {s r:ad} {c:Nat} (h:uM s=some (c,r)):vr c/\r.length<s.length:=by
 cases s with
 | nil=>cases h
 | cons b t=>
  simp only[uM]at h;have hb:=fa b;split at h
  ·cases h; exact⟨by unfold vr; omega,by simp⟩
  split at h
  ·cases h; exact⟨by unfold vr; omega,by simp⟩
  split at h
  ·cases h; exact⟨by unfold vr; omega,by simp⟩
  split at h
  ·cases h; exact⟨by unfold vr; omega,by simp⟩
  split at h
  ·cases h; exact⟨by unfold vr; omega,by simp⟩
  split at h
  ·cases h; exact⟨by unfold vr; omega,by simp⟩
  split at h
  ·obtain ⟨h1,h2⟩:=aEl h;exact⟨h1,by simp only[bj]; omega⟩
  ·cases h
theorem Yc {s r:ad} {c:Nat} (h:oB s=some (c,r)):vr c/\r.length<s.length:=by
 unfold oB at h;split at h
 ·cases h
 ·rename_i aT;split at h
  ·cases h
  ·split at h
   ·cases h
   ·cases h;have h1:=decodeL_width s;have h2:0<s.length:=Ba.2 aT;exact⟨VK s,by rw[ct]; omega⟩
theorem Yd {s r:ad} {c:Nat} (h:xl s=some (c,r)):vr c/\r.length<s.length:=by
 unfold xl at h;split at h
 ·obtain ⟨h1,h2⟩:=Yb h;exact⟨h1,by rw[ct]at h2; omega⟩
 ·exact Yc h
theorem Ye:∀(n m:Nat) (s o:ad),s.length<n->s.length<m->uq n s o=uq m s o
 | 0,_,_,_,h,_=>by omega
 | _+1,0,_,_,_,h=>by omega
 | n+1,m+1,s,o,hn,hm=>by
  unfold uq;split
  ·rfl
  ·cases hs:xl s with
   | none=>rfl
   | some p=>
    obtain ⟨c,r⟩:=p;obtain ⟨_,h2⟩:=Yd hs;exact Ye n m r _ (by omega) (by omega)
theorem aEm {R:Type} (x:ad) (e0:ad->ad->List Int->Option R) (e1:ad->ad->Int->Bool->ad->List Int->Option R):∀(n:Nat) (s o:ad),s.length<n->o.length+4*s.length<=90000000000 ->
  (match uq n s o with
   | some (o',r)=>kP n x s (zs o) e0 e1=e0 x r (zs o')
   | none=>∃a b,kP n x s (zs o) e0 e1=e1 x [] 0 false a b):=by
 intro n
 induction n with
 | zero=>intro s o h; omega
 | succ n ih=>
  intro s o h hb;have hL:kP (n+1) x s (zs o) e0 e1=Mi gu iI qd oj (fun aB aC aG=>kP n aB aC aG e0 e1) x s (zs o) e0 e1:=rfl;rw[hL];unfold Mi;rw[Oj _ _ (by simp) (by omega)];simp only[uq];have xZ:gV o:=by unfold gV; omega
  by_cases du:([34]:ad).isPrefixOf s=true
  ·rw[if_pos du,if_pos du];rfl
  ·rw[if_neg du,if_neg du,iq,cond_true,Oj _ _ (by simp) (by omega)];have fin:∀(c:Nat) (r:ad),vr c->r.length<s.length ->
     (match uq n r (o++enc c)with
      | some (o',r')=>kP n x r (zs (o++enc c)) e0 e1=e0 x r' (zs o')
      | none=>∃a b,kP n x r (zs (o++enc c)) e0 e1=e1 x [] 0 false a b):=fun c r hv hr=>by
    have:=ux hv;exact ih r (o++enc c) (by omega) (by rw[bf]; omega)
   unfold xl;by_cases gw:([92]:ad).isPrefixOf s=true
   ·rw[if_pos gw,if_pos gw];have qR:s.drop ([92]:ad).length=s.drop 1:=rfl;rw[qR,cond_true];have hk:=aEc (R:=R) (s.drop 1) (by rw[ct]; omega) (fun aS bg=>bif(decide (aS<(0:Int)))then(e1 x ([]:ad) 0 false bg (zs o))else(gu aS (zs o) (fun cd aU=>kP n x bg aU e0 e1)));cases he:uM (s.drop 1)with
    | none=>
     rw[he]at hk;obtain ⟨r,hk⟩:=hk;exact⟨r,zs o,hk.trans (by rw[ai (show(-1:Int)<0 by omega),cond_true])⟩
    | some p=>
     obtain ⟨c,r⟩:=p;rw[he]at hk;obtain ⟨hv,hr⟩:=Yb he;rw[ct]at hr;simp only at hk ⊢;rw[hk,aE (show ¬(c:Int)<0 by omega),cond_false];obtain ⟨q,hq⟩:=wr hv o xZ (fun cd aU=>kP n x r aU e0 e1);rw[hq];exact fin c r hv (by omega)
   ·rw[if_neg gw,if_neg gw,cond_false];have hk:=aD0 (R:=R) s (by omega) (fun bU cA=>bif(decide (bU<(0:Int)))then(e1 x ([]:ad) 0 false cA (zs o))else(gu bU (zs o) (fun cP cV=>kP n x cA cV e0 e1)));cases he:oB s with
    | none=>
     rw[he]at hk;simp only at hk ⊢;exact⟨s,zs o,hk.trans (by rw[ai (show(-1:Int)<0 by omega),cond_true])⟩
    | some p=>
     obtain ⟨c,r⟩:=p;rw[he]at hk;obtain ⟨hv,hr⟩:=Yc he;simp only at hk ⊢;rw[hk,aE (show ¬(c:Int)<0 by omega),cond_false];obtain ⟨q,hq⟩:=wr hv o xZ (fun cP cV=>kP n x r cV e0 e1);rw[hq];exact fin c r hv (by omega)
def nI (s:ad):Option (ad×ad):=if([34]:ad).isPrefixOf s then uq (s.length+1) (s.drop 1) []else none
theorem aEn {R:Type} (s:ad) (hs:s.length<=20000000000) (k:ad->Int->Bool->Option R) :
  qe s k=match nI s with|some (o,r)=>k o (ae.wrap ((s.length:Int) - (r.length:Int))) true|none=>k [] 0 false:=by
 have e:qe s k=Mj iI kP s k:=rfl;rw[e];unfold Mj nI;rw[Oj _ _ (by simp) (by omega)];by_cases du:([34]:ad).isPrefixOf s=true
 ·rw[if_pos du,if_pos du,cE,cond_false];have e1:s.drop ([34]:ad).length=s.drop 1:=rfl;rw[e1];have hd:(s.drop 1).length<=s.length:=by rw[ct]; omega
  have key:=aEm (R:=R) s (fun eA eB bB=>k (ft bB) (ae.wrap ((eA.length:Int) - (eB.length:Int))) true) (fun jl fe iG dK fO cH=>k fe iG dK) (av s+av (s.drop 1)+av ([]:List Int)+64) (s.drop 1) [] (by omega) (by simp only[cu]; omega);rw[Ye _ (s.length+1) (s.drop 1) [] (by omega) (by omega)]at key;cases hu:uq (s.length+1) (s.drop 1) []with
  | none=>
   rw[hu]at key;obtain ⟨a,b,key⟩:=key;exact key
  | some p=>
   obtain ⟨o,r⟩:=p;rw[hu]at key;simp only at key ⊢;refine Eq.trans key ?_;rw[pe]
 ·rw[if_neg du,if_neg du];rfl
theorem Fj (a b:UInt8) (t:ad):([a]:ad).isPrefixOf (b::t)=(a==b):=by
 simp[PS]
theorem aEo:∀c:Fin 32,mO [48,48,ln.getD (c.val / 16) 0,ln.getD (c.val%16) 0] 0=some c.val:=by decide +kernel
theorem Yf {b:UInt8} {n:Nat} (hn:n<256) (h:b.toNat≠n):((bl n)==b)=false:=by
 rw[beq_eq_false_iff_ne]
 rintro rfl
 rw[eU n hn]at h;exact h rfl
theorem aEp {c:Nat} (hv:vr c) (h:32<=c) (du:c≠34) (gw:c≠92):∃b t,enc c=b::t/\b.toNat≠34/\b.toNat≠92:=by
 have aX:=E0 hv;rcases E1 hv with ⟨h1,e⟩|⟨h0,h1,e⟩|⟨h0,h1,e⟩|⟨h0,e⟩
 ·exact⟨_,_,e,by rw[eU _ (by omega)]; exact du,by rw[eU _ (by omega)]; exact gw⟩
 ·exact⟨_,_,e,by rw[eU _ (by omega)]; omega,by rw[eU _ (by omega)]; omega⟩
 ·exact⟨_,_,e,by rw[eU _ (by omega)]; omega,by rw[eU _ (by omega)]; omega⟩
 ·exact⟨_,_,e,by rw[eU _ (by omega)]; omega,by rw[eU _ (by omega)]; omega⟩
theorem aEq (c:Nat):(lp c=0/\c≠34/\c≠92)\/c=34\/c=92\/c=8\/c=12\/c=10\/c=13\/c=9:=by
 unfold lp;by_cases h1:c=34<;>by_cases h2:c=92<;>by_cases h3:c=8<;>by_cases h4:c=12<;>by_cases h5:c=10<;>by_cases h6:c=13<;>by_cases h7:c=9<;>simp[h1,h2,h3,h4,h5,h6,h7]
theorem aEr {c:Nat} (h0:lp c=0) (h:c<32):qc c=[92,117,48,48,ln.getD (c / 16) 0,ln.getD (c%16) 0]:=by unfold qc; rw[if_neg (by omega),if_pos h]
theorem Om {c:Nat} (h0:lp c=0) (h:¬c<32):qc c=enc c:=by unfold qc; rw[if_neg (by omega),if_neg h]
theorem aEs {c:Nat} (hv:vr c) (t:ad):([34]:ad).isPrefixOf (qc c++t)=false/\xl (qc c++t)=some (c,t):=by
 rcases aEq c with ⟨h0,du,gw⟩|rfl|rfl|rfl|rfl|rfl|rfl|rfl
 ·by_cases lx:c<32
  ·rw[aEr h0 lx];refine⟨rfl,?_⟩;have hb:=aEo ⟨c,lx⟩;simp only at hb;show uL (48::48::ln.getD (c / 16) 0::ln.getD (c%16) 0::t)=some (c,t);have hu:oC (48::48::ln.getD (c / 16) 0::ln.getD (c%16) 0::t)=some (c,t):=by
    unfold oC;rw[if_neg (by simp only[bj]; omega)];have e:List.take 4 (48::48::ln.getD (c / 16) 0::ln.getD (c%16) 0::t)=[48,48,ln.getD (c / 16) 0,ln.getD (c%16) 0]:=rfl;rw[e,hb];rfl
   unfold uL;rw[hu];simp only;rw[if_pos (.inl (by omega))]
  ·rw[Om h0 lx];obtain ⟨b,u,e,g1,g2⟩:=aEp hv (by omega) du gw;have e2:enc c++t=b::(u++t):=by rw[e]; rfl
   refine⟨?_,?_⟩
   ·rw[e2,Fj];exact Yf (n:=34) (by omega) g1
   ·unfold xl;have:([92]:ad).isPrefixOf (enc c++t)=false:=by
     rw[e2,Fj];exact Yf (n:=92) (by omega) g2
    rw[this];simp only[jy,if_false];unfold oB;rw[if_neg (ahl hv t),HL hv t];simp only;have hg:=ahk hv t;unfold o9 at hg;rw[HL hv t]at hg;simp only at hg;rw[if_neg hg,if_neg lx,Jm]
 ·exact⟨rfl,rfl⟩
 ·exact⟨rfl,rfl⟩
 ·exact⟨rfl,rfl⟩
 ·exact⟨rfl,rfl⟩
 ·exact⟨rfl,rfl⟩
 ·exact⟨rfl,rfl⟩
 ·exact⟨rfl,rfl⟩
theorem alr:∀(rs:List Nat),(∀c∈rs,vr c)->∀(n:Nat) (o more:ad),rs.length<n->uq n (gW rs++34::more) o=some (o++bE rs,more)
 | [],_,n,o,more,hn=>by
  obtain ⟨m,rfl⟩:∃m,n=m+1:=⟨n - 1,by simp at hn; omega⟩;have:gW []++34::more=34::more:=rfl;rw[this];simp[uq,PS,bE]
 | c::rs,hr,n,o,more,hn=>by
  obtain ⟨m,rfl⟩:∃m,n=m+1:=⟨n - 1,by simp at hn; omega⟩;have hv:=hr c (by simp);have e:gW (c::rs)++34::more=qc c++(gW rs++34::more):=by simp[gW]
  obtain ⟨h1,h2⟩:=aEs hv (gW rs++34::more);rw[e];simp only[uq,h1,h2,jy,if_false];rw[alr rs (fun x hx=>hr x (by simp[hx])) m (o++enc c) more (by simp at hn; omega)];simp[bE]
theorem aEt {c:Nat} (hv:vr c):1<=(qc c).length:=by
 unfold qc;split
 ·simp
 ·split
  ·simp
  ·exact(ux hv).1
theorem als:∀(rs:List Nat),(∀c∈rs,vr c)->rs.length<=(gW rs).length
 | [],_=>by simp[gW]
 | c::rs,h=>by
  have h1:=aEt (h c (by simp));have h2:=als rs (fun x hx=>h x (by simp[hx]));have:gW (c::rs)=qc c++gW rs:=by simp[gW]
  rw[this,bf,bj];omega
theorem alu (rs:List Nat) (hr:∀c∈rs,vr c) (more:ad):nI (qt rs++more)=some (bE rs,more):=by
 have e:qt rs++more=34::(gW rs++34::more):=by unfold qt; simp
 have hq:=als rs hr;rw[e];unfold nI;rw[Fj];simp only[BEq.rfl,if_true,Pr,fV];have:=alr rs hr ((34::(gW rs++34::more)).length+1) [] more (by simp only[bj,bf]; omega);rw[this];rfl
theorem alv {R:Type} (x:ad) (f:Bool->Option R):fE x f=f (dh x):=rfl
theorem alw {R:Type} (s:ad) (hl:s.length<=10000000000):(∃rs:List Nat,(∀c∈rs,vr c)/\rs.length<=s.length/\s=bE rs/\dh s=true/\∀k:ad->Bool->Option R,lj s k=k (qt rs) true) \/
  (dh s=false/\∀k:ad->Bool->Option R,lj s k=k [] false):=by
 cases h:dh s with
 | true=>
  obtain ⟨rs,hr,rfl⟩:=Cw.1 h;have:=IB rs hr;exact .inl ⟨rs,hr,this.1,rfl,rfl,fun k=>aEj rs hr (by omega) k⟩
 | false=>exact .inr ⟨rfl,fun k=>aEk s h k⟩
theorem Yg (c n:Nat) (h:n<=64):fb (c:Int) (2 ^ (min n ae.bits))=((c / 2 ^ n:Nat):Int):=by
 have e:min n ae.bits=n:=PR h;rw[e,Pg _ (by exact Ph (Pf (by omega)))];rw[Int.natCast_ediv];congr 1
theorem top2:∀b:Fin 256,(aM.wrap ((aJ aM.bits (b.val:Int)&&&aJ aM.bits 192).toNat:Int) != 128)=decide (b.val / 64≠2):=by decide +kernel
theorem aEu:∀b:Fin 256,ae.wrap (aM.wrap ((aJ aM.bits (b.val:Int)&&&aJ aM.bits 31).toNat:Int))=((b.val%32:Nat):Int):=by decide +kernel
theorem aEv:∀b:Fin 256,ae.wrap (aM.wrap ((aJ aM.bits (b.val:Int)&&&aJ aM.bits 15).toNat:Int))=((b.val%16:Nat):Int):=by decide +kernel
theorem and7:∀b:Fin 256,ae.wrap (aM.wrap ((aJ aM.bits (b.val:Int)&&&aJ aM.bits 7).toNat:Int))=((b.val%8:Nat):Int):=by decide +kernel
theorem Yh (n:Nat) (h:n<18446744073709551616):(aJ ae.bits (n:Int)).toNat=n:=by
 rw[BitVec.toNat_ofInt];show((n:Int)%((2 ^ 64:Nat):Int)).toNat=n;omega
theorem or6 (v x:Nat) (hv:v<1073741824) (hx:x<64) :
  ae.wrap ((aJ ae.bits (ae.wrap ((v:Int)*2 ^ (min 6 ae.bits))) ||| aJ ae.bits (ae.wrap (x:Int))).toNat:Int)=((v*64+x:Nat):Int):=by
 have e:(v:Int)*2 ^ (min 6 ae.bits)=((v*64:Nat):Int):=by
  show(v:Int)*2 ^ 6=_;omega
 rw[e,aV (n:=((v*64:Nat):Int)) (by omega) (by omega),aV (n:=(x:Int)) (by omega) (by omega),BitVec.toNat_or,Yh _ (by omega),Yh _ (by omega)];have h2:v*64 ||| x=v*64+x:=by
  have:=Nat.two_pow_add_eq_or_of_lt (i:=6) (b:=x) (by omega) v;rw[show(2:Nat) ^ 6=64 from rfl]at this;rw[u7 v 64];exact this.symm
 rw[h2,aV (by omega) (by omega)]
theorem Fk {R:Type} {s:ad} {i n low v k:Nat} (hs:s.length<=9000000000000000) (hk:k<n) (hi:i+k<s.length) (hv:v<1073741824) (aD:ad->Int->Int->Int->Int->Int->Option R) (e0:Int->Int->Int->Option R) (e1:Int->Int->Int->Int->Option R) :
  CA aD s (i:Int) (n:Int) (low:Int) (v:Int) (k:Int) e0 e1=if(s.getD (i+k) 0).toNat / 64=2 then aD s (i:Int) (n:Int) (low:Int) ((v*64+(s.getD (i+k) 0).toNat%64:Nat):Int) ((k+1:Nat):Int)else e1 0 (n:Int) (low:Int) (v:Int):=by
 unfold CA;have hw:ae.wrap ((i:Int)+(k:Int))=((i+k:Nat):Int):=by rw[aV (by omega) (by omega)]; omega
 have lT:ae.wrap ((k:Int)+1)=((k+1:Nat):Int):=by rw[aV (by omega) (by omega)]; omega
 rw[hw,lT,cM,ai (show(k:Int)<(n:Int) by omega),cond_true,aw (by rw[ai (by omega),ai (by omega)]; rfl)];have hb:=fa (s.getD (i+k) 0);generalize (s.getD (i+k) 0).toNat=b at *;have t:=top2 ⟨b,hb⟩;simp only at t;rw[t];by_cases h:b / 64=2
 ·rw[aE (show ¬b / 64≠2 by omega),cond_false,if_pos h,aw (by rw[ai (by omega),ai (by omega)]; rfl)];have a:=ald ⟨b,hb⟩;simp only at a;rw[a,or6 v (b%64) hv (xA _ (by omega))]
 ·rw[ai h,cond_true,if_neg h]
def ti (t:ad):Nat:=if o9 t then(decodeL t).2 else 0
def tail (low v n:Nat):Nat:=if v<low\/1114111<v\/(55296<=v/\v<=57343)then 0 else n
theorem Yi {R:Type} (low v n:Nat) (k:Int->Option R):(bif(decide ((v:Int)<(low:Int)))then(k 0)else(bif(decide ((v:Int)>(1114111:Int)))then(k 0)else(bif(decide ((v:Int)>=(55296:Int)))then(bif(decide ((v:Int)<=(57343:Int)))then(k 0)else(k (n:Int)))else(k (n:Int)))))=k (tail low v n:Int):=by
 unfold tail;by_cases h1:v<low
 ·rw[ai (show(v:Int)<(low:Int) by omega),if_pos (.inl h1)]; rfl
 rw[aE (show ¬(v:Int)<(low:Int) by omega),cond_false];by_cases h2:1114111<v
 ·rw[ai (show(v:Int)>1114111 by omega),if_pos (.inr (.inl h2))]; rfl
 rw[aE (show ¬(v:Int)>1114111 by omega),cond_false];by_cases h3:55296<=v
 ·rw[ai (show(v:Int)>=55296 by omega),cond_true];by_cases h4:v<=57343
  ·rw[ai (show(v:Int)<=57343 by omega),if_pos (.inr (.inr ⟨h3,h4⟩))]; rfl
  ·rw[aE (show ¬(v:Int)<=57343 by omega),if_neg (by omega)]; rfl
 ·rw[aE (show ¬(v:Int)>=55296 by omega),if_neg (by omega)]; rfl
def On (l b0 b1 b2 b3:Nat):Nat:=
 if b0<128 then 1
 else if 194<=b0/\b0<=223 then(if l<2 then 0 else if b1 / 64=2 then tail 128 (b0%32*64+b1%64) 2 else 0)
 else if 224<=b0/\b0<=239 then(if l<3 then 0 else if b1 / 64=2 then(if b2 / 64=2 then tail 2048 ((b0%16*64+b1%64)*64+b2%64) 3 else 0)else 0)
 else if 240<=b0/\b0<=244 then(if l<4 then 0 else if b1 / 64=2 then(if b2 / 64=2 then(if b3 / 64=2 then tail 65536 (((b0%8*64+b1%64)*64+b2%64)*64+b3%64) 4 else 0)else 0)else 0)
 else 0
set_option maxHeartbeats 4000000 in
theorem aEw (l b0 b1 b2 b3:Nat) (hl:1<=l) (h0:b0<256) (h1:b1<256) (h2:b2<256) (h3:b3<256) :
  On l b0 b1 b2 b3=if(decodeN l b0 b1 b2 b3).1=65533/\(decodeN l b0 b1 b2 b3).2=1 then 0 else(decodeN l b0 b1 b2 b3).2:=by
 unfold On tail decodeN;by_cases c0:b0<128
 ·simp only[c0,if_true];rw[if_neg (by omega)]
 simp only[c0,if_false];by_cases c1:194<=b0/\b0<=223
 ·simp only[c1,and_self,if_true];have d6:b0 / 32=6:=by omega
  have d14:¬b0 / 16=14:=by omega
  have d30:¬b0 / 8=30:=by omega
  simp only[d6,d14,d30,true_and,false_and,if_false]
  (repeat' split)<;>first|rfl|omega|(simp at *; omega)
 simp only[c1,if_false];by_cases c2:224<=b0/\b0<=239
 ·simp only[c2,and_self,if_true];have d6:¬b0 / 32=6:=by omega
  have d14:b0 / 16=14:=by omega
  have d30:¬b0 / 8=30:=by omega
  simp only[d6,d14,d30,true_and,false_and,if_false];have hv:(b0%16*64+b1%64)*64+b2%64=b0%16*4096+b1%64*64+b2%64:=by omega
  rw[hv];generalize b0%16*4096+b1%64*64+b2%64=v
  (repeat' split)<;>first|rfl|omega|(simp at *; omega)
 simp only[c2,if_false];by_cases c3:240<=b0/\b0<=244
 ·simp only[c3,and_self,if_true];have d6:¬b0 / 32=6:=by omega
  have d14:¬b0 / 16=14:=by omega
  have d30:b0 / 8=30:=by omega
  simp only[d6,d14,d30,true_and,false_and,if_false];have hv:((b0%8*64+b1%64)*64+b2%64)*64+b3%64=b0%8*262144+b1%64*4096+b2%64*64+b3%64:=by omega
  rw[hv];generalize b0%8*262144+b1%64*4096+b2%64*64+b3%64=v
  (repeat' split)<;>first|rfl|omega|(simp at *; omega)
 simp only[c3,if_false]
 (repeat' split)<;>first|rfl|omega|(simp at *; omega)
theorem yY {R:Type} (n:Nat) (s:ad) (a b c d e:Int) (e0:Int->Int->Int->Option R) (e1:Int->Int->Int->Int->Option R) :
  jP (n+1) s a b c d e e0 e1=CA (fun aB aC aG bq cg cw=>jP n aB aC aG bq cg cw e0 e1) s a b c d e e0 e1:=rfl
theorem Yj {R:Type} (s:ad) (i n low v:Int) (aD:ad->Int->Int->Int->Int->Int->Option R) (e0:Int->Int->Int->Option R) (e1:Int->Int->Int->Int->Option R) :
  CA aD s i n low v n e0 e1=e0 n low v:=by
 unfold CA;rw[aE (Int.lt_irrefl _),cond_false]
theorem aEx {R:Type} {s:ad} {i low v F:Nat} (hs:s.length<=9000000000000000) (hi:i+2<=s.length) (hv:v<64) (hF:3<=F) (e0:Int->Int->Int->Option R) (e1:Int->Int->Int->Int->Option R) :
  jP F s (i:Int) 2 (low:Int) (v:Int) 1 e0 e1=if(s.getD (i+1) 0).toNat / 64=2 then e0 2 (low:Int) ((v*64+(s.getD (i+1) 0).toNat%64:Nat):Int)else e1 0 2 (low:Int) (v:Int):=by
 obtain ⟨n,rfl⟩:∃n,F=n+2:=⟨F - 2,by omega⟩;rw[yY];refine(Fk (n:=2) (k:=1) hs (by omega) (by omega) (by omega) _ e0 e1).trans ?_;by_cases h:(s.getD (i+1) 0).toNat / 64=2
 ·rw[if_pos h,if_pos h];show jP (n+1) s (i:Int) ((2:Nat):Int) (low:Int) _ ((1+1:Nat):Int) e0 e1=_;rw[yY];exact Yj s i 2 low _ _ e0 e1
 ·rw[if_neg h,if_neg h]; rfl
theorem aEy {R:Type} {s:ad} {i low v F:Nat} (hs:s.length<=9000000000000000) (hi:i+3<=s.length) (hv:v<64) (hF:4<=F) (e0:Int->Int->Int->Option R) (k:Int->Option R) :
  jP F s (i:Int) 3 (low:Int) (v:Int) 1 e0 (fun bB _ _ _=>k bB)=if(s.getD (i+1) 0).toNat / 64=2 then(if(s.getD (i+2) 0).toNat / 64=2 then e0 3 (low:Int) (((v*64+(s.getD (i+1) 0).toNat%64)*64+(s.getD (i+2) 0).toNat%64:Nat):Int)else k 0)else k 0:=by
 obtain ⟨n,rfl⟩:∃n,F=n+3:=⟨F - 3,by omega⟩;rw[yY];refine(Fk (n:=3) (k:=1) hs (by omega) (by omega) (by omega) _ e0 _).trans ?_;by_cases h:(s.getD (i+1) 0).toNat / 64=2
 ·rw[if_pos h,if_pos h];show jP (n+2) s (i:Int) ((3:Nat):Int) (low:Int) _ ((2:Nat):Int) e0 _=_;rw[yY];refine(Fk (n:=3) (k:=2) hs (by omega) (by omega) (by omega) _ e0 _).trans ?_;by_cases h2:(s.getD (i+2) 0).toNat / 64=2
  ·rw[if_pos h2,if_pos h2];show jP (n+1) s (i:Int) ((3:Nat):Int) (low:Int) _ ((3:Nat):Int) e0 _=_;rw[yY];exact Yj s i 3 low _ _ e0 _
  ·rw[if_neg h2,if_neg h2]
 ·rw[if_neg h,if_neg h]
theorem aEz {R:Type} {s:ad} {i low v F:Nat} (hs:s.length<=9000000000000000) (hi:i+4<=s.length) (hv:v<64) (hF:5<=F) (e0:Int->Int->Int->Option R) (k:Int->Option R) :
  jP F s (i:Int) 4 (low:Int) (v:Int) 1 e0 (fun bB _ _ _=>k bB)=if(s.getD (i+1) 0).toNat / 64=2 then(if(s.getD (i+2) 0).toNat / 64=2 then(if(s.getD (i+3) 0).toNat / 64=2 then
   e0 4 (low:Int) ((((v*64+(s.getD (i+1) 0).toNat%64)*64+(s.getD (i+2) 0).toNat%64)*64+(s.getD (i+3) 0).toNat%64:Nat):Int)else k 0)else k 0)else k 0:=by
 obtain ⟨n,rfl⟩:∃n,F=n+4:=⟨F - 4,by omega⟩;rw[yY];refine(Fk (n:=4) (k:=1) hs (by omega) (by omega) (by omega) _ e0 _).trans ?_;by_cases h:(s.getD (i+1) 0).toNat / 64=2
 ·rw[if_pos h,if_pos h];show jP (n+3) s (i:Int) ((4:Nat):Int) (low:Int) _ ((2:Nat):Int) e0 _=_;rw[yY];refine(Fk (n:=4) (k:=2) hs (by omega) (by omega) (by omega) _ e0 _).trans ?_;by_cases h2:(s.getD (i+2) 0).toNat / 64=2
  ·rw[if_pos h2,if_pos h2];show jP (n+2) s (i:Int) ((4:Nat):Int) (low:Int) _ ((3:Nat):Int) e0 _=_;rw[yY];refine(Fk (n:=4) (k:=3) hs (by omega) (by omega) (by omega) _ e0 _).trans ?_;by_cases h3:(s.getD (i+3) 0).toNat / 64=2
   ·rw[if_pos h3,if_pos h3];show jP (n+1) s (i:Int) ((4:Nat):Int) (low:Int) _ ((4:Nat):Int) e0 _=_;rw[yY];exact Yj s i 4 low _ _ e0 _
   ·rw[if_neg h3,if_neg h3]
  ·rw[if_neg h2,if_neg h2]
 ·rw[if_neg h,if_neg h]
theorem CM (s:ad) (i j:Nat):(s.drop i).getD j 0=s.getD (i+j) 0:=by simp[ca,List.getElem?_drop]
theorem aEA (s:ad) (i:Nat) (hi:i<s.length):ti (s.drop i)=On (s.length - i) (s.getD i 0).toNat (s.getD (i+1) 0).toNat (s.getD (i+2) 0).toNat (s.getD (i+3) 0).toNat:=by
 rw[aEw _ _ _ _ _ (by omega) (fa _) (fa _) (fa _) (fa _)];have e:decodeL (s.drop i)=decodeN (s.length - i) (s.getD i 0).toNat (s.getD (i+1) 0).toNat (s.getD (i+2) 0).toNat (s.getD (i+3) 0).toNat:=by
  rw[decodeL_N,ct,CM,CM,CM,CM,zk]
 unfold ti;by_cases h:o9 (s.drop i)
 ·rw[if_pos h];unfold o9 at h;rw[e]at h ⊢;rw[if_neg h]
 ·rw[if_neg h];have h':=Decidable.not_not.1 h;rw[e]at h';rw[if_pos h']
theorem alx {R:Type} (s:ad) (i:Nat) (hi:i<s.length) (hs:s.length<=9000000000000000) (k:Int->Option R):iK s (i:Int) k=k (ti (s.drop i):Int):=by
 have e:iK s (i:Int) k=M7 jP s (i:Int) k:=rfl;rw[e,aEA s i hi];unfold M7;rw[aw (by rw[ai (by omega),ai (by omega)]; rfl)];dsimp only;rw[cM];have hb:=fa (s.getD i 0);have hF:∀a b c d e:Nat,5<=a+b+c+d+e+ah 1+64:=fun a b c d e=>by omega
 unfold On;have L2:=fun F (hF:3<=F) low v (hv:v<64) (h:i+2<=s.length) e0=>aEx (R:=R) (low:=low) hs h hv hF e0 (fun bB _ _ _=>k bB)
 have L3:=fun F (hF:4<=F) low v (hv:v<64) (h:i+3<=s.length) e0=>aEy (R:=R) (low:=low) hs h hv hF e0 k
 have L4:=fun F (hF:5<=F) low v (hv:v<64) (h:i+4<=s.length) e0=>aEz (R:=R) (low:=low) hs h hv hF e0 k
 have a31:=aEu ⟨(s.getD i 0).toNat,hb⟩;have Jp:=aEv ⟨(s.getD i 0).toNat,hb⟩;have a7:=and7 ⟨(s.getD i 0).toNat,hb⟩;simp only at a31 Jp a7;rw[a31,Jp,a7];generalize (s.getD i 0).toNat=b at *;have w2:ae.wrap ((i:Int)+2)=((i+2:Nat):Int):=by rw[aV (by omega) (by omega)]; omega
 have w3:ae.wrap ((i:Int)+3)=((i+3:Nat):Int):=by rw[aV (by omega) (by omega)]; omega
 have w4:ae.wrap ((i:Int)+4)=((i+4:Nat):Int):=by rw[aV (by omega) (by omega)]; omega
 rw[w2,w3,w4];by_cases c0:b<128
 ·rw[ai (show(b:Int)<128 by omega),cond_true,if_pos c0]; rfl
 rw[aE (show ¬(b:Int)<128 by omega),cond_false,if_neg c0];by_cases c1:194<=b/\b<=223
 ·rw[ai (show(b:Int)>=194 by omega),cond_true,ai (show(b:Int)<=223 by omega),cond_true,if_pos c1];by_cases hl:s.length - i<2
  ·rw[ai (show((i+2:Nat):Int)>(s.length:Int) by omega),cond_true,if_pos hl]; rfl
  ·rw[aE (show ¬((i+2:Nat):Int)>(s.length:Int) by omega),cond_false,if_neg hl];refine(L2 _ (by omega) 128 (b%32) (by omega) (by omega) _).trans ?_;by_cases h:(s.getD (i+1) 0).toNat / 64=2
   ·rw[if_pos h,if_pos h];exact Yi 128 _ 2 k
   ·rw[if_neg h,if_neg h]; rfl
 rw[if_neg c1];have j8:∀x z:Option R,(bif(decide ((b:Int)>=194))then(bif(decide ((b:Int)<=223))then x else z)else z)=z:=by
  intro x z;by_cases h:(b:Int)>=194
  ·rw[ai h,cond_true,aE (show ¬(b:Int)<=223 by omega),cond_false]
  ·rw[aE h,cond_false]
 simp only[cond_false];rw[j8];by_cases c2:224<=b/\b<=239
 ·rw[ai (show(b:Int)>=224 by omega),cond_true,ai (show(b:Int)<=239 by omega),cond_true,if_pos c2];by_cases hl:s.length - i<3
  ·rw[ai (show((i+3:Nat):Int)>(s.length:Int) by omega),cond_true,if_pos hl]; rfl
  ·rw[aE (show ¬((i+3:Nat):Int)>(s.length:Int) by omega),cond_false,if_neg hl];refine(L3 _ (by omega) 2048 (b%16) (by omega) (by omega) _).trans ?_;by_cases h:(s.getD (i+1) 0).toNat / 64=2
   ·rw[if_pos h,if_pos h];by_cases h2:(s.getD (i+2) 0).toNat / 64=2
    ·rw[if_pos h2,if_pos h2];exact Yi 2048 _ 3 k
    ·rw[if_neg h2,if_neg h2]; rfl
   ·rw[if_neg h,if_neg h]; rfl
 rw[if_neg c2];by_cases c3:240<=b/\b<=244
 ·have fin:(bif(decide (((i+4:Nat):Int)>(s.length:Int)))then(k 0)else(jP (av s+ah (i:Int)+ah 4+ah 65536+ah ((b%8:Nat):Int)+ah 1+64) s (i:Int) 4 65536 ((b%8:Nat):Int) 1 (fun cV eA eB=>bif(decide (eB<eA))then(k 0)else(bif(decide (eB>(1114111:Int)))then(k 0)else(bif(decide (eB>=(55296:Int)))then(bif(decide (eB<=(57343:Int)))then(k 0)else(k cV))else(k cV)))) (fun bB jl fe iG=>k bB))) =
   k ((if s.length - i<4 then 0 else if(s.getD (i+1) 0).toNat / 64=2 then(if(s.getD (i+2) 0).toNat / 64=2 then(if(s.getD (i+3) 0).toNat / 64=2 then tail 65536 (((b%8*64+(s.getD (i+1) 0).toNat%64)*64+(s.getD (i+2) 0).toNat%64)*64+(s.getD (i+3) 0).toNat%64) 4 else 0)else 0)else 0:Nat):Int):=by
   by_cases hl:s.length - i<4
   ·rw[ai (show((i+4:Nat):Int)>(s.length:Int) by omega),cond_true,if_pos hl]; rfl
   ·rw[aE (show ¬((i+4:Nat):Int)>(s.length:Int) by omega),cond_false,if_neg hl];refine(L4 _ (by omega) 65536 (b%8) (by omega) (by omega) _).trans ?_;by_cases h:(s.getD (i+1) 0).toNat / 64=2
    ·rw[if_pos h,if_pos h];by_cases h2:(s.getD (i+2) 0).toNat / 64=2
     ·rw[if_pos h2,if_pos h2];by_cases h3:(s.getD (i+3) 0).toNat / 64=2
      ·rw[if_pos h3,if_pos h3];exact Yi 65536 _ 4 k
      ·rw[if_neg h3,if_neg h3]; rfl
     ·rw[if_neg h2,if_neg h2]; rfl
    ·rw[if_neg h,if_neg h]; rfl
  rw[ai (show(b:Int)>=224 by omega),cond_true,aE (show ¬(b:Int)<=239 by omega),cond_false,ai (show(b:Int)>=240 by omega),cond_true,ai (show(b:Int)<=244 by omega),cond_true,if_pos c3];exact fin
 ·rw[if_neg c3];by_cases h1:(b:Int)>=224
  ·rw[ai h1,cond_true,aE (show ¬(b:Int)<=239 by omega),cond_false];by_cases h2:(b:Int)>=240
   ·rw[ai h2,cond_true,aE (show ¬(b:Int)<=244 by omega)]; rfl
   ·rw[aE h2]; rfl
  ·rw[aE h1,cond_false];by_cases h2:(b:Int)>=240
   ·rw[ai h2,cond_true,aE (show ¬(b:Int)<=244 by omega)]; rfl
   ·rw[aE h2]; rfl
theorem aly {t:ad}:ti t=0↔¬o9 t:=by
 unfold ti;have h:=decodeL_width t;by_cases hg:o9 t
 ·rw[if_pos hg]; constructor
  ·intro e; omega
  ·intro e; exact(e hg).elim
 ·rw[if_neg hg]; exact⟨fun _=>hg,fun _=>rfl⟩
theorem aEB {R:Type} (s:ad) (hs:s.length<=9000000000000000) (e0:Option R) (e1:Bool->Option R):∀(n i:Nat),i<=s.length->s.length - i<n ->
  ou n s (i:Int) e0 e1=if dh (s.drop i)then e0 else e1 false:=by
 intro n
 induction n with
 | zero=>intro i h1 h2; omega
 | succ n ih=>
  intro i h1 h2;have e:ou (n+1) s (i:Int) e0 e1=M9 iK (fun aB aC=>ou n aB aC e0 e1) s (i:Int) e0 e1:=rfl;rw[e];unfold M9;by_cases hi:i<s.length
  ·rw[ai (show(i:Int)<(s.length:Int) by omega),cond_true,alx s i hi hs];have aT:s.drop i≠[]:=by
    intro e;have:=congrArg av e;rw[ct,cu]at this;omega
   rw[VM aT];by_cases hg:o9 (s.drop i)
   ·have ho:ti (s.drop i)=(decodeL (s.drop i)).2:=by unfold ti; rw[if_pos hg]
    have h3:=decodeL_width (s.drop i);have h4:=decodeL_le _ aT;rw[ct]at h4;have CN:(((ti (s.drop i):Nat):Int)==0)=false:=by rw[beq_eq_false_iff_ne]; omega
    rw[CN,cond_false,if_pos hg,ho];have hw:ae.wrap ((i:Int)+((decodeL (s.drop i)).2:Int))=((i+(decodeL (s.drop i)).2:Nat):Int):=by rw[aV (by omega) (by omega)]; omega
    rw[hw];show ou n s ((i+(decodeL (s.drop i)).2:Nat):Int) e0 e1=_;rw[ih _ (by omega) (by omega),py]
   ·have CN:(((ti (s.drop i):Nat):Int)==0)=true:=by rw[aly.2 hg]; rfl
    rw[CN,cond_true,if_neg hg];rfl
  ·rw[aE (show ¬(i:Int)<(s.length:Int) by omega),cond_false];have:s.drop i=[]:=gQ (by omega);rw[this];rfl
theorem Yk {R:Type} (s:ad) (hs:s.length<=9000000000000000) (k:Bool->Option R):gd s k=k (dh s):=by
 have e:gd s k=Na ou s k:=rfl;rw[e];unfold Na;have:=aEB (R:=R) s hs (k true) (fun y5=>k y5) (av s+ah 0+64) 0 (by omega) (by omega);refine Eq.trans this ?_;rw[fV];cases dh s<;>rfl
theorem fP (n m:Nat):((n:Int)==(m:Int))=decide (n=m):=by
 by_cases h:n=m
 ·subst h; simp
 ·have:¬((n:Int)=(m:Int)):=by omega
  simp[h,this]
def qb (b:UInt8):ad:=
 if b.toNat=34\/b.toNat=92 then [92,b]else if b.toNat=8 then [92,98]else if b.toNat=9 then [92,116]else if b.toNat=10 then [92,110]else if b.toNat=12 then [92,102]else if b.toNat=13 then [92,114]
 else if b.toNat<32 then [92,117,48,48,ln.getD (b.toNat / 16) 0,ln.getD (b.toNat%16) 0]else [b]
theorem alz (b:UInt8):(qb b).length<=6:=by unfold qb; (repeat' split)<;>simp
theorem aEC:∀b:Fin 32,bK (ae.wrap (pz (ae.wrap (b.val:Int)) 16)) 16=((b.val / 16:Nat):Int)/\bK (ae.wrap (b.val:Int)) 16=((b.val%16:Nat):Int):=by decide +kernel
theorem aED {R:Type} (s:ad) (hs:s.length<=90000000000) (e0:List Int->Option R):∀(n i:Nat) (o:ad),i<=s.length->s.length - i<n->o.length+6*(s.length - i)<=900000000000 ->
  oy n s (zs o) (i:Int) e0=e0 (zs (o++(s.drop i).flatMap qb)):=by
 intro n
 induction n with
 | zero=>intro i o h1 h2; omega
 | succ n ih=>
  intro i o h1 h2 h3;have e:oy (n+1) s (zs o) (i:Int) e0=Np pa (fun aB aC aG=>oy n aB aC aG e0) s (zs o) (i:Int) e0:=rfl;rw[e];unfold Np;by_cases hi:i<s.length
  ·have hw:ae.wrap ((i:Int)+1)=((i+1:Nat):Int):=by rw[aV (by omega) (by omega)]; omega
   rw[ai (show(i:Int)<(s.length:Int) by omega),cond_true,aw (by rw[ai (show(0:Int)<=(i:Int) by omega)]; rfl),hw,cM];have hd:s.drop i=s.getD i 0::s.drop (i+1):=by rw[im hi]; simp[ca,hi]
   generalize s.getD i 0=b at *;have next:∀z:ad,z=qb b->oy n s (zs (o++z)) ((i+1:Nat):Int) e0=e0 (zs (o++(s.drop i).flatMap qb)):=by
    intro z hz;have:=alz b;rw[ih (i+1) (o++z) (by omega) (by omega) (by rw[bf,hz]; omega),hd,Dr,hz,gG]
   have jB:decide (((zs o).length+2)*1<=140737488355328)=true:=ai (by rw[mh]; omega);have hl6:decide (((zs o).length+6)*1<=140737488355328)=true:=ai (by rw[mh]; omega);have Ag:decide (((zs o).length+1)*1<=140737488355328)=true:=ai (by rw[mh]; omega);have hb:=fa b;have th:((b.toNat:Int)==34)=decide (b.toNat=34):=fP _ 34;have CL:((b.toNat:Int)==92)=decide (b.toNat=92):=fP _ 92;have q8:((b.toNat:Int)==8)=decide (b.toNat=8):=fP _ 8;have q9:((b.toNat:Int)==9)=decide (b.toNat=9):=fP _ 9;have lF:((b.toNat:Int)==10)=decide (b.toNat=10):=fP _ 10;have Ia:((b.toNat:Int)==12)=decide (b.toNat=12):=fP _ 12;have Xk:((b.toNat:Int)==13)=decide (b.toNat=13):=fP _ 13
   rw[jB,hl6,Ag,th,CL,q8,q9,lF,Ia,Xk];simp only[aw rfl];by_cases du:b.toNat=34
   ·rw[ai du,cond_true];simp only[cond_true];have hq : [92,b]=qb b:=by unfold qb; rw[if_pos (.inl du)]
    have:=next _ hq
    rw[qq]at this;exact this
   rw[aE du,cond_false];by_cases gw:b.toNat=92
   ·rw[ai gw];simp only[cond_true];have hq : [92,b]=qb b:=by unfold qb; rw[if_pos (.inr gw)]
    have:=next _ hq
    rw[qq]at this;exact this
   rw[aE gw];simp only[cond_false];by_cases h8:b.toNat=8
   ·rw[ai h8,cond_true];have:=next [92,98] (by unfold qb; simp[h8])
    rw[qq]at this;exact this
   rw[aE h8,cond_false];by_cases h9:b.toNat=9
   ·rw[ai h9,cond_true];have:=next [92,116] (by unfold qb; simp[h9])
    rw[qq]at this;exact this
   rw[aE h9,cond_false];by_cases oL:b.toNat=10
   ·rw[ai oL,cond_true];have:=next [92,110] (by unfold qb; simp[oL])
    rw[qq]at this;exact this
   rw[aE oL,cond_false];by_cases qE:b.toNat=12
   ·rw[ai qE,cond_true];have:=next [92,102] (by unfold qb; simp[qE])
    rw[qq]at this;exact this
   rw[aE qE,cond_false];by_cases qF:b.toNat=13
   ·rw[ai qF,cond_true];have:=next [92,114] (by unfold qb; simp[qF])
    rw[qq]at this;exact this
   rw[aE qF,cond_false];by_cases lx:b.toNat<32
   ·rw[ai (show(b.toNat:Int)<32 by omega),cond_true];obtain ⟨k1,k2⟩:=aEC ⟨b.toNat,lx⟩;simp only at k1 k2;have hx:∀(x:Int) (f:Int->Option R),pa x f=ag (decide ((0:Int)<=(bK x 16))&&decide ((bK x 16)<(16:Int))) (f ((ln.getD ((bK x 16).toNat) 0).toNat:Int)):=fun _ _=>rfl
    rw[hx,k1,aw (by rw[ai (by omega),ai (by omega)]; rfl),hx,k2,aw (by rw[ai (by omega),ai (by omega)]; rfl),cM,cM];have:=next [92,117,48,48,ln.getD (b.toNat / 16) 0,ln.getD (b.toNat%16) 0] (by unfold qb; simp[du,gw,h8,h9,oL,qE,qF,lx])
    rw[qq]at this;exact this
   ·rw[aE (show ¬(b.toNat:Int)<32 by omega),cond_false];have:=next [b] (by unfold qb; simp[du,gw,h8,h9,oL,qE,qF,lx])
    rw[qq]at this;exact this
  ·rw[aE (show ¬(i:Int)<(s.length:Int) by omega),cond_false];have:s.drop i=[]:=gQ (by omega);rw[this];simp
theorem yZ {b:UInt8} (h:128<=b.toNat):qb b=[b]:=by
 unfold qb;rw[if_neg (by omega),if_neg (by omega),if_neg (by omega),if_neg (by omega),if_neg (by omega),if_neg (by omega),if_neg (by omega)]
theorem aEE {c:Nat} (hv:vr c):(enc c).flatMap qb=qc c:=by
 have aX:=E0 hv;rcases E1 hv with ⟨h1,e⟩|⟨h0,h1,e⟩|⟨h0,h1,e⟩|⟨h0,e⟩
 ·rw[e];simp only[Dr,Z2,oK];have hu:=eU c (by omega);unfold qb qc lp;rw[hu];by_cases du:c=34
  ·subst du; rfl
  by_cases gw:c=92
  ·subst gw; rfl
  by_cases h8:c=8
  ·subst h8; rfl
  by_cases h9:c=9
  ·subst h9; rfl
  by_cases oL:c=10
  ·subst oL; rfl
  by_cases qE:c=12
  ·subst qE; rfl
  by_cases qF:c=13
  ·subst qF; rfl
  simp only[du,gw,h8,h9,oL,qE,qF,or_self,if_false,ne_eq,not_true_eq_false];by_cases lx:c<32
  ·simp only[lx,if_true]
  ·simp only[lx,if_false];rw[e]
 ·have hq:qc c=enc c:=Om (by unfold lp; rw[if_neg (by omega),if_neg (by omega),if_neg (by omega),if_neg (by omega),if_neg (by omega),if_neg (by omega)]) (by omega);rw[hq,e];simp only[Dr,Z2,oK];rw[yZ (by rw[eU _ (by omega)]; omega),yZ (by rw[eU _ (by omega)]; omega)]; rfl
 ·have hq:qc c=enc c:=Om (by unfold lp; rw[if_neg (by omega),if_neg (by omega),if_neg (by omega),if_neg (by omega),if_neg (by omega),if_neg (by omega)]) (by omega);rw[hq,e];simp only[Dr,Z2,oK];rw[yZ (by rw[eU _ (by omega)]; omega),yZ (by rw[eU _ (by omega)]; omega),yZ (by rw[eU _ (by omega)]; omega)]; rfl
 ·have hq:qc c=enc c:=Om (by unfold lp; rw[if_neg (by omega),if_neg (by omega),if_neg (by omega),if_neg (by omega),if_neg (by omega),if_neg (by omega)]) (by omega);rw[hq,e];simp only[Dr,Z2,oK];rw[yZ (by rw[eU _ (by omega)]; omega),yZ (by rw[eU _ (by omega)]; omega),yZ (by rw[eU _ (by omega)]; omega),yZ (by rw[eU _ (by omega)]; omega)]; rfl
theorem Yl:∀(rs:List Nat),(∀c∈rs,vr c)->(bE rs).flatMap qb=gW rs
 | [],_=>rfl
 | c::rs,h=>by
  have e:bE (c::rs)=enc c++bE rs:=by simp[bE]
  have e2:gW (c::rs)=qc c++gW rs:=by simp[gW]
  rw[e,e2,List.flatMap_append,aEE (h c (by simp)),Yl rs (fun x hx=>h x (by simp[hx]))]
theorem unz (s:ad):(cU (fun n:Int=>bl n.toNat) (zs s):ad)=s:=pe s
theorem aEF {R:Type} (rs:List Nat) (hr:∀c∈rs,vr c) (hl:rs.length<=20000000000) (k:ad->Bool->Option R):kR (bE rs) k=k (qt rs) true:=by
 have hc:=IB rs hr;have hw:dh (bE rs)=true:=Cw.2 ⟨rs,hr,rfl⟩;have hq:=Ya rs hr;have e:kR (bE rs) k=Nq gd oy (bE rs) k:=rfl;rw[e];unfold Nq;rw[Yk _ (by omega),hw,cE,cond_false];have yX:([34]:List Int)=zs [34]:=rfl;rw[yX];have:=aED (R:=R) (bE rs) (by omega) (fun aS=>ag (decide ((aS.length+1)*1<=140737488355328)) (k (cU (fun n:Int=>bl n.toNat) ((aS:List Int)++(zs [34]:List Int)):ad) true)) (av (bE rs)+av (zs [34])+ah 0+64) 0 [34] (by omega) (by omega) (by simp only[bj,cu]; omega);refine Eq.trans this ?_;simp only[fV,Yl rs hr];rw[aw (ai (by rw[mh,bf]; simp only[bj,cu]; omega)),<-qq,unz];rfl
theorem IC {a b:Nat} (h:b<=a) (ha:a<256):aM.wrap ((a:Int) - (b:Int))=((a - b:Nat):Int):=by
 have:(a:Int) - (b:Int)=((a - b:Nat):Int):=by omega
 rw[this,Fg,u6 (by omega)]
theorem aEG {R:Type} {s:ad} {p k v:Nat} (hs:s.length<=9000000000000000) (hp:p<=s.length) (hk:k<p+4) (hi:k<s.length) (hv:v<4096) (aD:ad->Int->Int->Int->Option R) (e0:Int->Option R) (e1:Int->Int->Option R) :
  CC aD s (p:Int) (v:Int) (k:Int) e0 e1=match pf (s.getD k 0)with|some d=>aD s (p:Int) ((16*v+d:Nat):Int) ((k+1:Nat):Int)|none=>e1 (-1) (v:Int):=by
 unfold CC;have hw:ae.wrap ((p:Int)+4)=((p+4:Nat):Int):=by rw[aV (by omega) (by omega)]; omega
 have lT:ae.wrap ((k:Int)+1)=((k+1:Nat):Int):=by rw[aV (by omega) (by omega)]; omega
 rw[hw,lT,cM,ai (show(k:Int)<((p+4:Nat):Int) by omega),cond_true,aw (by rw[ai (by omega),ai (by omega)]; rfl)];dsimp only;have hb:=fa (s.getD k 0);unfold pf;simp only;generalize (s.getD k 0).toNat=b at *;have k1:ae.wrap (16*(v:Int))=((16*v:Nat):Int):=by rw[aV (by omega) (by omega)]; omega
 have fin:∀(z:Int) (d:Nat),z=(d:Int)->d<16->ae.wrap ((ae.wrap (16*(v:Int)))+z)=((16*v+d:Nat):Int):=by
  intro z d hz hd;rw[k1,hz,aV (by omega) (by omega)];omega
 by_cases h1:48<=b/\b<=57
 ·rw[ai (show(b:Int)>=48 by omega),cond_true,ai (show(b:Int)<=57 by omega),cond_true,if_pos h1];have e:aM.wrap ((b:Int) - 48)=((b - 48:Nat):Int):=IC (b:=48) h1.1 hb;rw[fin _ (b - 48) (by rw[e,aV (by omega) (by omega)]) (by omega)]
 rw[if_neg h1];have wI:∀x z:Option R,(bif(decide ((b:Int)>=48))then(bif(decide ((b:Int)<=57))then x else z)else z)=z:=by
  intro x z;by_cases h:(b:Int)>=48
  ·rw[ai h,cond_true,aE (show ¬(b:Int)<=57 by omega),cond_false]
  ·rw[aE h,cond_false]
 simp only[cond_false];rw[wI];by_cases h2:65<=b/\b<=70
 ·rw[if_pos h2,aE (show ¬(b:Int)>=97 by omega),cond_false,ai (show(b:Int)>=65 by omega),cond_true,ai (show(b:Int)<=70 by omega),cond_true];have e:aM.wrap ((b:Int) - 65)=((b - 65:Nat):Int):=IC (b:=65) h2.1 hb;rw[fin _ (b - 55) (by rw[e,aV (n:=((b - 65:Nat):Int)) (by omega) (by omega),aV (by omega) (by omega)]; omega) (by omega)]
 rw[if_neg h2];have j65:∀x z:Option R,(bif(decide ((b:Int)>=65))then(bif(decide ((b:Int)<=70))then x else z)else z)=z:=by
  intro x z;by_cases h:(b:Int)>=65
  ·rw[ai h,cond_true,aE (show ¬(b:Int)<=70 by omega),cond_false]
  ·rw[aE h,cond_false]
 rw[j65];by_cases h3:97<=b/\b<=102
 ·rw[if_pos h3,ai (show(b:Int)>=97 by omega),cond_true,ai (show(b:Int)<=102 by omega),cond_true];have e:aM.wrap ((b:Int) - 97)=((b - 97:Nat):Int):=IC (b:=97) h3.1 hb;rw[fin _ (b - 87) (by rw[e,aV (n:=((b - 97:Nat):Int)) (by omega) (by omega),aV (by omega) (by omega)]; omega) (by omega)]
 rw[if_neg h3];by_cases h4:(b:Int)>=97
 ·rw[ai h4,cond_true,aE (show ¬(b:Int)<=102 by omega),cond_false]
 ·rw[aE h4,cond_false]
theorem aEH (s:ad) (k m:Nat) (hm:0<m) (hk:k<s.length):(s.drop k).take m=s.getD k 0::(s.drop (k+1)).take (m - 1):=by
 obtain ⟨j,rfl⟩:∃j,m=j+1:=⟨m - 1,by omega⟩;rw[im hk,FT];simp[ca,hk]
theorem aEI {R:Type} {s:ad} {p:Nat} (hs:s.length<=9000000000000000) (hp:p+4<=s.length) (e0:Int->Option R) (e1:Int->Int->Option R):∀(m n k v:Nat),k+m=p+4->m<n->v<16 ^ (4 - m)->m<=4 ->
  (match mO ((s.drop k).take m) v with
   | some u=>mM n s (p:Int) (v:Int) (k:Int) e0 e1=e0 (u:Int)
   | none=>∃w,mM n s (p:Int) (v:Int) (k:Int) e0 e1=e1 (-1) w):=by
 intro m
 induction m with
 | zero=>
  intro n k v hk hn hv _;obtain ⟨n,rfl⟩:∃j,n=j+1:=⟨n - 1,by omega⟩;rw[List.take_zero];simp only[mO];have e:mM (n+1) s (p:Int) (v:Int) (k:Int) e0 e1=CC (fun aB aC aG bq=>mM n aB aC aG bq e0 e1) s (p:Int) (v:Int) (k:Int) e0 e1:=rfl;rw[e];unfold CC;have hw:ae.wrap ((p:Int)+4)=((p+4:Nat):Int):=by rw[aV (by omega) (by omega)]; omega
  rw[hw,aE (show ¬(k:Int)<((p+4:Nat):Int) by omega),cond_false]
 | succ m ih=>
  intro n k v hk hn hv hm;obtain ⟨n,rfl⟩:∃j,n=j+1:=⟨n - 1,by omega⟩;have oT:v<4096:=by
   have:16 ^ (4 - (m+1))<=16 ^ 3:=zF (by omega) (by omega);have e:(16:Nat) ^ 3=4096:=rfl;omega
  have e:mM (n+1) s (p:Int) (v:Int) (k:Int) e0 e1=CC (fun aB aC aG bq=>mM n aB aC aG bq e0 e1) s (p:Int) (v:Int) (k:Int) e0 e1:=rfl;rw[e,aEG hs (by omega) (by omega) (by omega) oT,aEH s k (m+1) (by omega) (by omega)];simp only[mO,FY];cases hx:pf (s.getD k 0)with
  | none=>exact⟨_,rfl⟩
  | some d=>
   have hd:=X0 hx;have lv:16 ^ (4 - m)=16 ^ (4 - (m+1))*16:=by rw[<-Bk]; congr 1; omega
   exact ih n (k+1) (16*v+d) (by omega) (by omega) (by omega) (by omega)
theorem alA {R:Type} (s:ad) (p:Nat) (hs:s.length<=9000000000000000) (hp:p<=s.length) (f:Int->Option R):nF s (p:Int) f=match oC (s.drop p)with|some (v,_)=>f (v:Int)|none=>f (-1):=by
 have e:nF s (p:Int) f=Ny mM s (p:Int) f:=rfl;rw[e];unfold Ny oC;have hw:ae.wrap ((p:Int)+4)=((p+4:Nat):Int):=by rw[aV (by omega) (by omega)]; omega
 rw[hw,ct];by_cases h:s.length - p<4
 ·rw[ai (show((p+4:Nat):Int)>(s.length:Int) by omega),cond_true,if_pos h]
 ·rw[aE (show ¬((p+4:Nat):Int)>(s.length:Int) by omega),cond_false,if_neg h];have:=aEI (R:=R) hs (show p+4<=s.length by omega) (fun bU=>f bU) (fun cA cP=>f cA) 4 (av s+ah (p:Int)+ah 0+ah (p:Int)+64) p 0 rfl (by omega) (by omega) (by omega);cases hx:mO ((s.drop p).take 4) 0 with
  | some u=>rw[hx]at this; exact this
  | none=>rw[hx]at this; obtain ⟨w,h2⟩:=this; exact h2
theorem aEJ:∀x:Fin 64,aM.wrap (ae.wrap ((aJ ae.bits 128 ||| aJ ae.bits (x.val:Int)).toNat:Int))=((128+x.val:Nat):Int):=by decide +kernel
theorem aEK:∀x:Fin 32,aM.wrap (ae.wrap ((aJ ae.bits 192 ||| aJ ae.bits (x.val:Int)).toNat:Int))=((192+x.val:Nat):Int):=by decide +kernel
theorem aEL:∀x:Fin 16,aM.wrap (ae.wrap ((aJ ae.bits 224 ||| aJ ae.bits (x.val:Int)).toNat:Int))=((224+x.val:Nat):Int):=by decide +kernel
theorem aEM:∀x:Fin 8,aM.wrap (ae.wrap ((aJ ae.bits 240 ||| aJ ae.bits (x.val:Int)).toNat:Int))=((240+x.val:Nat):Int):=by decide +kernel
theorem Fl (n:Nat) (h:n<1114112):ae.wrap ((aJ ae.bits (n:Int)&&&aJ ae.bits 63).toNat:Int)=((n%64:Nat):Int):=by
 have h2:(aJ ae.bits 63).toNat=63:=by decide
 rw[BitVec.toNat_and,Yh n (by omega),h2];have h3:n&&&63=n%64:=Nat.and_two_pow_sub_one_eq_mod n 6;rw[h3,aV (by omega) (by omega)]
theorem Ym {R:Type} {c:Nat} (hv:vr c) (k:List Int->Option R):me (c:Int) k=k (zs (enc c)):=by
 have aX:=E0 hv;have e:me (c:Int) k=Nz (c:Int) k:=rfl;rw[e];unfold Nz;have s6:=Yg c 6 (by omega);have Yn:=Yg c 12 (by omega);have s18:=Yg c 18 (by omega);have p6:c / 2 ^ 6=c / 64:=rfl;have p12:c / 2 ^ 12=c / 4096:=rfl;have p18:c / 2 ^ 18=c / 262144:=rfl;rw[p6]at s6; rw[p12]at Yn; rw[p18]at s18;have cn:∀x:Nat,x<64->aM.wrap (ae.wrap ((aJ ae.bits 128 ||| aJ ae.bits (x:Int)).toNat:Int))=((128+x:Nat):Int):=fun x hx=>aEJ ⟨x,hx⟩
 rcases E1 hv with ⟨h1,e⟩|⟨h0,h1,e⟩|⟨h0,h1,e⟩|⟨h0,e⟩<;>rw[e]
 ·rw[ai (show(c:Int)<128 by omega),cond_true,Fg,u6 (by omega),alf c (by omega)]
 ·rw[aE (show ¬(c:Int)<128 by omega),cond_false,ai (show(c:Int)<2048 by omega),cond_true,s6,Fl c aX,cn _ (by omega)];have l:=aEK ⟨c / 64,by omega⟩;simp only at l;rw[l];simp only[zs,kz,sq,ko (192+c / 64) (by omega),ko (128+c%64) (by omega)]
 ·rw[aE (show ¬(c:Int)<128 by omega),cond_false,aE (show ¬(c:Int)<2048 by omega),cond_false,ai (show(c:Int)<65536 by omega),cond_true,s6,Yn,Fl c aX,Fl (c / 64) (by omega),cn _ (by omega),cn _ (by omega)];have l:=aEL ⟨c / 4096,by omega⟩;simp only at l;rw[l];simp only[zs,kz,sq,ko (224+c / 4096) (by omega),ko (128+c%64) (by omega),ko (128+c / 64%64) (by omega)]
 ·rw[aE (show ¬(c:Int)<128 by omega),cond_false,aE (show ¬(c:Int)<2048 by omega),cond_false,aE (show ¬(c:Int)<65536 by omega),cond_false,s6,Yn,s18,Fl c aX,Fl (c / 64) (by omega),Fl (c / 4096) (by omega),cn _ (by omega),cn _ (by omega),cn _ (by omega)];have l:=aEM ⟨c / 262144,by omega⟩;simp only at l;rw[l];simp only[zs,kz,sq,ko (240+c / 262144) (by omega),ko (128+c%64) (by omega),ko (128+c / 64%64) (by omega),ko (128+c / 4096%64) (by omega)]
theorem drop_cons {s:ad} {p:Nat} (h:p<s.length):s.drop p=s.getD p 0::s.drop (p+1):=by
 rw[im h]; simp[ca,h]
theorem aEN (a b:UInt8) (s:ad) (p:Nat):([a,b]:ad).isPrefixOf (s.drop p)=(decide (p+2<=s.length)&&(a==s.getD p 0&&b==s.getD (p+1) 0)):=by
 by_cases h:p+2<=s.length
 ·rw[ai h,drop_cons (show p<s.length by omega),drop_cons (show p+1<s.length by omega)];simp[PS]
 ·rw[aE h,lu];by_cases h1:p<s.length
  ·rw[drop_cons h1];have:s.drop (p+1)=[]:=gQ (by omega);rw[this];simp[PS]
  ·have:s.drop p=[]:=gQ (by omega);rw[this];rfl
theorem ID (b:UInt8) (n:Nat) (hn:n<256):(bl n==b)=decide (b.toNat=n):=by
 by_cases h:b.toNat=n
 ·rw[ai h];subst h;simp
 ·rw[aE h];exact Yf hn h
theorem Yo (n m:Nat):((n:Int) != (m:Int))=decide (n≠m):=by
 by_cases h:n=m
 ·subst h; simp
 ·have:¬((n:Int)=(m:Int)):=by omega
  simp[h,this]
theorem aEO {R:Type} (s:ad) (p:Nat) (hs:s.length<=9000000000000) (hp:p+1<=s.length) (k:List Int->Int->Option R) :
  (match uL (s.drop (p+1))with
   | some (c,r)=>∃n:Nat,1<=n/\p+n<=s.length/\r=s.drop (p+n)/\(nF s (ae.wrap ((p:Int)+1)) (fun y4=>let lJ:=bif(decide (y4<(55296:Int)))then(me y4 (fun y8=>k y8 5))else(bif(decide (y4>(57343:Int)))then(me y4 (fun y9=>k y9 5))else(bif(decide ((ae.wrap ((p:Int)+7))>(s.length:Int)))then(k ([]:List Int) 0)else(ag (decide ((0:Int)<=(ae.wrap ((p:Int)+5)))&&decide ((ae.wrap ((p:Int)+5))<s.length)) (bif(((s.getD ((ae.wrap ((p:Int)+5)).toNat) 0).toNat:Int) != 92)then(k ([]:List Int) 0)else(ag (decide ((0:Int)<=(ae.wrap ((p:Int)+6)))&&decide ((ae.wrap ((p:Int)+6))<s.length)) (bif(((s.getD ((ae.wrap ((p:Int)+6)).toNat) 0).toNat:Int) != 117)then(k ([]:List Int) 0)else(nF s (ae.wrap ((p:Int)+7)) (fun aS=>bif(decide (aS<(56320:Int)))then(k ([]:List Int) 0)else(bif(decide (aS>(57343:Int)))then(k ([]:List Int) 0)else(me (ae.wrap ((ae.wrap ((ae.wrap (65536+(ae.wrap ((ae.wrap (y4 - 55296))*2 ^ (min 10 ae.bits)))))+aS)) - 56320)) (fun cd=>k cd 11))))))))))); bif(decide (y4<(0:Int)))then(k ([]:List Int) 0)else(bif(decide (y4>=(56320:Int)))then(bif(decide (y4<=(57343:Int)))then(k ([]:List Int) 0)else(lJ))else(lJ))))=k (zs (enc c)) (n:Int)
   | none=>(nF s (ae.wrap ((p:Int)+1)) (fun y4=>let lJ:=bif(decide (y4<(55296:Int)))then(me y4 (fun y8=>k y8 5))else(bif(decide (y4>(57343:Int)))then(me y4 (fun y9=>k y9 5))else(bif(decide ((ae.wrap ((p:Int)+7))>(s.length:Int)))then(k ([]:List Int) 0)else(ag (decide ((0:Int)<=(ae.wrap ((p:Int)+5)))&&decide ((ae.wrap ((p:Int)+5))<s.length)) (bif(((s.getD ((ae.wrap ((p:Int)+5)).toNat) 0).toNat:Int) != 92)then(k ([]:List Int) 0)else(ag (decide ((0:Int)<=(ae.wrap ((p:Int)+6)))&&decide ((ae.wrap ((p:Int)+6))<s.length)) (bif(((s.getD ((ae.wrap ((p:Int)+6)).toNat) 0).toNat:Int) != 117)then(k ([]:List Int) 0)else(nF s (ae.wrap ((p:Int)+7)) (fun aS=>bif(decide (aS<(56320:Int)))then(k ([]:List Int) 0)else(bif(decide (aS>(57343:Int)))then(k ([]:List Int) 0)else(me (ae.wrap ((ae.wrap ((ae.wrap (65536+(ae.wrap ((ae.wrap (y4 - 55296))*2 ^ (min 10 ae.bits)))))+aS)) - 56320)) (fun cd=>k cd 11))))))))))); bif(decide (y4<(0:Int)))then(k ([]:List Int) 0)else(bif(decide (y4>=(56320:Int)))then(bif(decide (y4<=(57343:Int)))then(k ([]:List Int) 0)else(lJ))else(lJ))))=k [] 0):=by
 have w1:ae.wrap ((p:Int)+1)=((p+1:Nat):Int):=by rw[aV (by omega) (by omega)]; omega
 have w5:ae.wrap ((p:Int)+5)=((p+5:Nat):Int):=by rw[aV (by omega) (by omega)]; omega
 have w6:ae.wrap ((p:Int)+6)=((p+6:Nat):Int):=by rw[aV (by omega) (by omega)]; omega
 have w7:ae.wrap ((p:Int)+7)=((p+7:Nat):Int):=by rw[aV (by omega) (by omega)]; omega
 have n92:∀x:Nat,((x:Int) != 92)=decide (x≠92):=fun x=>Yo x 92
 have n117:∀x:Nat,((x:Int) != 117)=decide (x≠117):=fun x=>Yo x 117
 simp only[w1,w5,w6,w7,alA s (p+1) (by omega) hp,cM,n92,n117];unfold uL;cases hu:oC (s.drop (p+1))with
 | none=>
  simp only;rw[ai (show(-1:Int)<0 by omega),cond_true]
 | some q=>
  obtain ⟨v,r⟩:=q;obtain ⟨hv,hl,hr⟩:=yW hu;rw[ct]at hl;rw[py]at hr;have Yp:r=s.drop (p+5):=by rw[hr]
  simp only;rw[aE (show ¬(v:Int)<0 by omega)];by_cases h1:v<55296
  ·rw[if_pos (.inl h1),aE (show ¬(v:Int)>=56320 by omega),ai (show(v:Int)<55296 by omega)];simp only[cond_true,cond_false];exact⟨5,by omega,by omega,Yp,Ym (by unfold vr; omega) _⟩
  by_cases h2:57344<=v
  ·rw[if_pos (.inr h2),ai (show(v:Int)>=56320 by omega),aE (show ¬(v:Int)<=57343 by omega),aE (show ¬(v:Int)<55296 by omega),ai (show(v:Int)>57343 by omega)];simp only[cond_true,cond_false];exact⟨5,by omega,by omega,Yp,Ym (by unfold vr; omega) _⟩
  rw[if_neg (by omega)];by_cases h3:56320<=v
  ·rw[if_pos h3,ai (show(v:Int)>=56320 by omega),ai (show(v:Int)<=57343 by omega)];rfl
  rw[if_neg h3,aE (show ¬(v:Int)>=56320 by omega),aE (show ¬(v:Int)<55296 by omega),aE (show ¬(v:Int)>57343 by omega)];simp only[cond_false];rw[Yp,aEN];by_cases h7:p+7<=s.length
  ·have Yq:((92:UInt8)==s.getD (p+5) 0)=decide ((s.getD (p+5) 0).toNat=92):=ID _ 92 (by omega);have aEP:((117:UInt8)==s.getD (p+5+1) 0)=decide ((s.getD (p+6) 0).toNat=117):=ID _ 117 (by omega);rw[ai (show p+5+2<=s.length by omega),aE (show ¬((p+7:Nat):Int)>(s.length:Int) by omega),cond_false,aw (by rw[ai (by omega),ai (by omega)]; rfl),aw (by rw[ai (by omega),ai (by omega)]; rfl),Yq,aEP];by_cases g1:(s.getD (p+5) 0).toNat=92
   ·by_cases g2:(s.getD (p+6) 0).toNat=117
    ·rw[ai g1,ai g2,aE (show ¬(s.getD (p+5) 0).toNat≠92 from fun h=>h g1),aE (show ¬(s.getD (p+6) 0).toNat≠117 from fun h=>h g2)];simp only[Jk,if_true,cond_false,py];rw[alA s (p+7) (by omega) h7];have e57:p+5+2=p+7:=rfl;rw[e57];cases nX:oC (s.drop (p+7))with
     | none=>
      simp only;rw[ai (show(-1:Int)<56320 by omega),cond_true]
     | some q2=>
      obtain ⟨w,r2⟩:=q2;obtain ⟨hw,jB,uy⟩:=yW nX;rw[ct]at jB;rw[py]at uy;simp only;by_cases h4:56320<=w/\w<57344
      ·rw[if_pos h4,aE (show ¬(w:Int)<56320 by omega),cond_false,aE (show ¬(w:Int)>57343 by omega),cond_false];simp only;have k1:ae.wrap ((v:Int) - 55296)=((v - 55296:Nat):Int):=by rw[aV (by omega) (by omega)]; omega
       have k2:ae.wrap ((((v - 55296:Nat):Int))*2 ^ (min 10 ae.bits))=(((v - 55296)*1024:Nat):Int):=by
        have e:(((v - 55296:Nat):Int))*2 ^ (min 10 ae.bits)=(((v - 55296)*1024:Nat):Int):=by
         show(((v - 55296:Nat):Int))*2 ^ 10=_;omega
        rw[e,aV (by omega) (by omega)]
       rw[k1,k2,aV (n:=65536+(((v - 55296)*1024:Nat):Int)) (by omega) (by omega),aV (n:=65536+(((v - 55296)*1024:Nat):Int)+(w:Int)) (by omega) (by omega),aV (by omega) (by omega)];have e3:65536+(((v - 55296)*1024:Nat):Int)+(w:Int) - 56320=((65536+(v - 55296)*1024+(w - 56320):Nat):Int):=by omega
       rw[e3];exact⟨11,by omega,by omega,by rw[uy],Ym (by unfold vr; omega) _⟩
      ·rw[if_neg h4];simp only;by_cases h5:w<56320
       ·rw[ai (show(w:Int)<56320 by omega),cond_true]
       ·rw[aE (show ¬(w:Int)<56320 by omega),cond_false,ai (show(w:Int)>57343 by omega),cond_true]
    ·rw[ai g1,aE g2,aE (show ¬(s.getD (p+5) 0).toNat≠92 from fun h=>h g1),ai (show(s.getD (p+6) 0).toNat≠117 from g2)];rfl
   ·rw[aE g1,ai (show(s.getD (p+5) 0).toNat≠92 from g1)];rfl
  ·rw[aE (show ¬p+5+2<=s.length by omega),ai (show((p+7:Nat):Int)>(s.length:Int) by omega)];rfl
theorem aEQ {R:Type} (s:ad) (p:Nat) (hs:s.length<=9000000000000) (k:List Int->Int->Option R) :
  match uM (s.drop p)with
  | some (c,r)=>∃n:Nat,1<=n/\p+n<=s.length/\r=s.drop (p+n)/\oz s (p:Int) k=k (zs (enc c)) (n:Int)
  | none=>oz s (p:Int) k=k [] 0:=by
 have e:oz s (p:Int) k=NB nF me s (p:Int) k:=rfl;rw[e];unfold NB;by_cases h:p<s.length
 ·have hu:=aEO (R:=R) s p hs (by omega) k;rw[drop_cons h,aE (show ¬(p:Int)>=(s.length:Int) by omega),cond_false,aw (by rw[ai (by omega),ai (by omega)]; rfl)];dsimp only;rw[cM,aw (by rw[ai (by omega),ai (by omega)]; rfl)];dsimp only at hu;generalize hF:nF s (ae.wrap ((p:Int)+1)) _=F at hu ⊢;simp only[uM];have hb:=fa (s.getD p 0);have hz:∀b:UInt8,([(b.toNat:Int)]:List Int)=zs (enc b.toNat)\/128<=b.toNat:=fun b=>by
   by_cases h1:b.toNat<128
   ·left; rw[MT h1]; simp
   ·right; omega
  have hz:=hz (s.getD p 0);generalize (s.getD p 0).toNat=b at *;have th:((b:Int)==34)=decide (b=34):=fP _ 34;have CL:((b:Int)==92)=decide (b=92):=fP _ 92;have X2:((b:Int)==47)=decide (b=47):=fP _ 47;have X3:((b:Int)==98)=decide (b=98):=fP _ 98;have X4:((b:Int)==102)=decide (b=102):=fP _ 102;have X5:((b:Int)==110)=decide (b=110):=fP _ 110;have X6:((b:Int)==114)=decide (b=114):=fP _ 114;have X7:((b:Int)==116)=decide (b=116):=fP _ 116;have X8:((b:Int)==117)=decide (b=117):=fP _ 117;rw[th,CL,X2,X3,X4,X5,X6,X7,X8];have one:∀c:Nat,c<128->∀l:List Int,l=[(c:Int)]->∃n:Nat,1<=n/\p+n<=s.length/\s.drop (p+1)=s.drop (p+n)/\k l 1=k (zs (enc c)) (n:Int):=fun c hc l hl=>by
   refine⟨1,by omega,by omega,rfl,?_⟩;rw[hl,MT hc];simp only[zs,kz,sq,ko c (by omega)];rfl
  by_cases du:b=34
  ·subst du; exact one 34 (by omega) _ rfl
  by_cases gw:b=92
  ·subst gw; exact one 92 (by omega) _ rfl
  by_cases Iu:b=47
  ·subst Iu; exact one 47 (by omega) _ rfl
  simp only[du,gw,Iu,decide_false,cond_false,or_self,if_false];by_cases Iv:b=98
  ·subst Iv; exact one 8 (by omega) _ rfl
  by_cases Iw:b=102
  ·subst Iw; exact one 12 (by omega) _ rfl
  by_cases Ix:b=110
  ·subst Ix; exact one 10 (by omega) _ rfl
  by_cases Iy:b=114
  ·subst Iy; exact one 13 (by omega) _ rfl
  by_cases Iz:b=116
  ·subst Iz; exact one 9 (by omega) _ rfl
  simp only[Iv,Iw,Ix,Iy,Iz,decide_false,cond_false,if_false];by_cases IA:b=117
  ·simp only[IA,decide_true,cond_true,if_true];exact hu
  ·simp only[IA,decide_false,cond_false,if_false]
 ·have:s.drop p=[]:=gQ (by omega);rw[this,ai (show(p:Int)>=(s.length:Int) by omega),cond_true];rfl
theorem alB (u:Nat):∀b∈decDigits u,48<=b.toNat/\b.toNat<=57:=by
 induction u using Nat.strongRecOn with
 | _ u ih=>
  intro b hb;by_cases h:u<10
  ·rw[decDigits,dif_pos h]at hb;simp only[eJ,Dp,or_false]at hb;subst hb;rw[eU _ (by omega)]; omega
  ·rw[decDigits,dif_neg h]at hb;rcases fU.1 hb with hb|hb
   ·exact ih (u / 10) (by omega) b hb
   ·simp only[eJ,Dp,or_false]at hb;subst hb;rw[eU _ (by omega)]; omega
theorem Oo (u:Nat) (hu:0<u):∃b t,decDigits u=b::t/\b.toNat≠48:=by
 induction u using Nat.strongRecOn with
 | _ u ih=>
  by_cases h:u<10
  ·exact⟨_,[],by rw[decDigits,dif_pos h],by rw[eU _ (by omega)]; omega⟩
  ·obtain ⟨b,t,e,hb⟩:=ih (u / 10) (by omega) (by omega);exact⟨b,t++[bl (48+u%10)],by rw[decDigits,dif_neg h,e]; rfl,hb⟩
theorem alC (u:Nat):∃l,decDigits u=l++[bl (48+u%10)]:=by
 by_cases h:u<10
 ·exact⟨[],by rw[decDigits,dif_pos h,u6 h]; rfl⟩
 ·exact⟨decDigits (u / 10),by rw[decDigits,dif_neg h]⟩
theorem alD {m:Int} (h:bK m 10≠0):m.natAbs%10≠0:=by
 intro h2;apply h;have e:m=(m / 10)*10:=by omega
 rw[e];exact Jl _ _
theorem alE (a b:ad) (j:Nat):(a++b).getD (a.length+j) 0=b.getD j 0:=by
 show((a++b)[a.length+j]?).getD 0=(b[j]?).getD 0;rw[List.getElem?_append_right (by omega),Ji]
def aER (z:ad) (j:Nat):Prop:=((z.getD j 0).toNat=46/\j≠0/\j+1≠z.length)\/(48<=(z.getD j 0).toNat/\(z.getD j 0).toNat<=57)
def AQ (z:ad):Nat:=(z.filter fun b=>decide (b.toNat=46)).length
theorem alF (a b:ad):AQ (a++b)=AQ a+AQ b:=by unfold AQ; rw[List.filter_append,bf]
theorem Yr {z:ad} (h:∀b∈z,48<=b.toNat/\b.toNat<=57):AQ z=0:=by
 unfold AQ;rw[List.length_eq_zero_iff,List.filter_eq_nil_iff];intro b hb;have:=h b hb;simp;omega
theorem IE {z:ad} {j:Nat} (h:j<z.length):z.getD j 0∈z:=by
 have:z.getD j 0=z[j]:=by simp[ca,h]
 rw[this];exact jd h
theorem aES (d:au) (hd:Fm d):∃z:ad,z=body (decDigits d.aj.natAbs) d.exp/\1<=z.length/\z.length<=30/\(∀j,j<z.length->aER z j)/\48<=(z.getD 0 0).toNat /\
  ((AQ z=0/\((z.getD 0 0).toNat≠48\/z.length=1))\/(AQ z=1/\(z.getD (z.length - 1) 0).toNat≠48/\2<=z.length/\((z.getD 0 0).toNat≠48\/(z.getD 1 0).toNat=46))):=by
 have b:=hd.bounds;refine⟨_,rfl,?_⟩;have fK:=alB d.aj.natAbs;have hlen:(decDigits d.aj.natAbs).length<=16:=by rw[decDigits_length]; exact Ir (by omega)
 have mX:1<=(decDigits d.aj.natAbs).length:=by rw[decDigits_length]; exact nDigits_pos _
 by_cases he:0<=d.exp
 ·have hb:body (decDigits d.aj.natAbs) d.exp=decDigits d.aj.natAbs++bS d.exp.toNat:=by unfold body; rw[if_pos he]
  rw[hb];have Ys:∀x∈decDigits d.aj.natAbs++bS d.exp.toNat,48<=x.toNat/\x.toNat<=57:=by
   intro x hx;rcases fU.1 hx with hx|hx
   ·exact fK x hx
   ·have:=Jn hx;subst this; decide
  have hl:(decDigits d.aj.natAbs++bS d.exp.toNat).length=(decDigits d.aj.natAbs).length+d.exp.toNat:=by rw[bf,lN]
  refine⟨by omega,by omega,fun j hj=>.inr (Ys _ (IE hj)),(Ys _ (IE (by omega))).1,.inl ⟨Yr Ys,?_⟩⟩;by_cases h0:d.aj=0
  ·right
   have:=hd.zero h0;subst this;show(decDigits 0++bS 0).length=1;rw[decDigits_one (by omega)];rfl
  ·left
   obtain ⟨x,t,e,hx⟩:=Oo d.aj.natAbs (by omega);rw[e];exact hx
 ·have h0:d.aj≠0:=by
   intro h;have:=hd.zero h;rw[this]at he;exact he (Int.le_refl _)
  obtain ⟨l,aET⟩:=alC d.aj.natAbs;have aJq:=alD (hd.nz h0);obtain ⟨x0,t0,IF,yn⟩:=Oo d.aj.natAbs (by omega);generalize hL:decDigits d.aj.natAbs=L at *;have hb:body L d.exp=(bS (max 0 (1 - d.exp - (L.length:Int))).toNat++L).take (((bS (max 0 (1 - d.exp - (L.length:Int))).toNat++L).length:Int)+d.exp).toNat++[46]++(bS (max 0 (1 - d.exp - (L.length:Int))).toNat++L).drop (((bS (max 0 (1 - d.exp - (L.length:Int))).toNat++L).length:Int)+d.exp).toNat:=by
   unfold body; rw[if_neg he]
  rw[hb];have tl:(bS (max 0 (1 - d.exp - (L.length:Int))).toNat++L).length=(max 0 (1 - d.exp - (L.length:Int))).toNat+L.length:=by rw[bf,lN]
  have IG:∀x∈bS (max 0 (1 - d.exp - (L.length:Int))).toNat++L,48<=x.toNat/\x.toNat<=57:=by
   intro x hx;rcases fU.1 hx with hx|hx
   ·have:=Jn hx;subst this; decide
   ·exact fK x hx
  have aEU:∃l',bS (max 0 (1 - d.exp - (L.length:Int))).toNat++L=l'++[bl (48+d.aj.natAbs%10)]:=⟨bS (max 0 (1 - d.exp - (L.length:Int))).toNat++l,by rw[aET,gG]⟩;have Yt:(bS (max 0 (1 - d.exp - (L.length:Int))).toNat++L).getD 0 0=(if(max 0 (1 - d.exp - (L.length:Int))).toNat=0 then x0 else 48):=by
   rw[IF];cases hz:(max 0 (1 - d.exp - ((x0::t0).length:Int))).toNat with
   | zero=>rfl
   | succ q=>rfl
  generalize hz:(max 0 (1 - d.exp - (L.length:Int))).toNat=z at *;generalize ht:bS z++L=t at *;have kE:((t.length:Int)+d.exp).toNat=t.length - d.exp.natAbs:=by omega
  rw[kE];have h1:d.exp.natAbs+1<=t.length:=by omega
  have la:(t.take (t.length - d.exp.natAbs)).length=t.length - d.exp.natAbs:=by rw[eP]; omega
  have lb:(t.drop (t.length - d.exp.natAbs)).length=d.exp.natAbs:=by rw[ct]; omega
  generalize hA:t.take (t.length - d.exp.natAbs)=A at *;generalize hB:t.drop (t.length - d.exp.natAbs)=B at *;have Oq:A++B=t:=by rw[<-hA,<-hB,Dk]
  have lz:(A++[46]++B).length=A.length+1+B.length:=by simp only[bf,bj,cu]
  have dA:∀x∈A,48<=x.toNat/\x.toNat<=57:=fun x hx=>IG x (by rw[<-Oq]; exact List.mem_append_left _ hx)
  have dB:∀x∈B,48<=x.toNat/\x.toNat<=57:=fun x hx=>IG x (by rw[<-Oq]; exact List.mem_append_right _ hx)
  have gA:∀j,j<A.length->(A++[46]++B).getD j 0=A.getD j 0:=fun j hj=>by
   rw[gG]; exact E2 hj
  have gM:(A++[46]++B).getD A.length 0=46:=by rw[gG]; exact VN
  have gB:∀j,j<B.length->(A++[46]++B).getD (A.length+1+j) 0=B.getD j 0:=fun j hj=>by
   have e:A.length+1+j=(A++[46]).length+j:=by simp
   rw[e];exact alE _ _ _
  have Ik:1<=d.exp.natAbs:=by omega
  refine⟨by omega,by omega,fun j hj => ?_,?_,.inr ⟨?_,?_,by omega,?_⟩⟩
  ·rcases ZT j A.length with h|h|h
   ·right; rw[gA j h]; exact dA _ (IE h)
   ·left; subst h; rw[gM]; exact⟨rfl,by omega,by omega⟩
   ·right
    obtain ⟨q,rfl⟩:∃q,j=A.length+1+q:=⟨j - A.length - 1,by omega⟩;rw[gB q (by omega)]; exact dB _ (IE (by omega))
  ·rw[gA 0 (by omega)]; exact(dA _ (IE (by omega))).1
  ·rw[alF,alF,Yr dA,Yr dB]; rfl
  ·have e:(A++[46]++B).length - 1=A.length+1+(B.length - 1):=by omega
   rw[e,gB _ (by omega)];obtain ⟨l',pI⟩:=aEU;have hBl:B.getD (B.length - 1) 0=bl (48+d.aj.natAbs%10):=by
    have e2:t.getD (t.length - 1) 0=bl (48+d.aj.natAbs%10):=by
     rw[pI];have:(l'++[bl (48+d.aj.natAbs%10)]).length - 1=l'.length:=by simp
     rw[this];exact VN
    have e3:t.getD (t.length - 1) 0=B.getD (B.length - 1) 0:=by
     rw[<-Oq];have:(A++B).length - 1=A.length+(B.length - 1):=by rw[bf]; omega
     rw[this];exact alE _ _ _
    rw[<-e3,e2]
   rw[hBl,eU _ (by omega)];omega
  ·have vW:A.getD 0 0=t.getD 0 0:=by rw[<-Oq]; exact(E2 (by omega)).symm
   rw[gA 0 (by omega),vW,Yt];by_cases hzz:z=0
   ·left; rw[if_pos hzz]; exact yn
   ·right
    have:A.length=1:=by omega
    have e:(A++[46]++B).getD 1 0=46:=by rw[<-this]; exact gM
    rw[e]; rfl
theorem Ot (c:UInt8):∀l:ad,so l c<0↔l.contains c=false
 | []=>by simp[so]
 | x::l=>by
  have ih:=Ot c l;have hg:=Go.Lib.indexByte_ge l c;unfold so;rw[nR];by_cases h:x=c
  ·subst h; simp
  ·have h2:(c==x)=false:=by rw[beq_eq_false_iff_ne]; exact fun e=>h e.symm
   rw[h2,sn,<-ih];split
   ·rename_i h3; exact(h (beq_iff_eq.1 h3)).elim
   ·split
    ·rename_i h4;have:=beq_iff_eq.1 h4;omega
    ·rename_i h4;have:¬so l c = -1:=fun e=>h4 (beq_iff_eq.2 e)
     omega
def cI (sb s:ad):Nat×ad:=match s with | []=>(0,[])|b::t=>if sb.contains b then(b.toNat,t)else(0,b::t)
theorem za {R:Type} (sb s:ad) (hs:s.length<=4000000000) (k:Int->ad->Option R):kl sb s k=k ((cI sb s).1:Int) (cI sb s).2:=by
 have e:kl sb s k=LR sb s k:=rfl;rw[e];unfold LR;cases s with
 | nil=>rfl
 | cons b t=>
  simp only[bj]at hs;have aT:((b::t:ad)==([]:ad))=false:=rfl;have hg:((b::t:ad).getD 0 0)=b:=rfl;have hd:((b::t:ad).drop 1).take (((b::t:ad).length:Int).toNat - 1)=t:=by
   rw[cM,Pr,fV,bj,FY,PV]
  have hi:v7 sb ((b.toNat:Nat):Int)=so sb b:=by
   unfold v7;rw[cM];simp
  have hl:(b::t:ad).length=t.length+1:=rfl;rw[aT,cond_false,hg,hd,hi,hl,aw (ai (by omega))];unfold cI;cases hc:sb.contains b with
  | false=>
   rw[ai ((Ot b sb).2 hc),cond_true];simp only[hc,jy,if_false];rfl
  | true=>
   have:¬so sb b<0:=fun h=>by rw[(Ot b sb).1 h]at hc; cases hc
   rw[aE this,cond_false,aw (ai (by omega)),aw (by rw[ai (show(0:Int)<=((t.length+1:Nat):Int) by omega),ai (by omega)]; rfl),aw (ai (by omega))];simp only[hc,if_true]
def IH:ad:=[48,49,50,51,52,53,54,55,56,57]
def eN (b:UInt8):Prop:=48<=b.toNat/\b.toNat<=57
theorem aEV:∀n:Fin 256,IH.contains (bl n.val)=decide (48<=n.val/\n.val<=57):=by decide +kernel
theorem Yu (b:UInt8):IH.contains b=decide (48<=b.toNat/\b.toNat<=57):=by
 have:=aEV ⟨b.toNat,fa b⟩;simpa using this
theorem Ou (p:UInt8->Bool):∀(a r:ad),(∀x∈a,p x=true)->(a++r).dropWhile p=r.dropWhile p
 | [],r,_=>rfl
 | x::a,r,h=>by
  rw[gg,tD,h x (by simp),if_pos rfl];exact Ou p a r fun y hy=>h y (by simp[hy])
theorem Yv (p:UInt8->Bool) (r:ad) (h:∀b t,r=b::t->p b=false):r.dropWhile p=r:=by
 cases r with
 | nil=>rfl
 | cons b t=>rw[tD,h b t rfl]; rfl
theorem Yw {R:Type} (a r:ad) (ha:∀x∈a,eN x) (hr:∀b t,r=b::t->¬eN b) (hl:(a++r).length<=4000000000) (k:ad->ad->Option R):kM (a++r) k=k a r:=by
 have e:kM (a++r) k=LS (a++r) k:=rfl;rw[e];unfold LS;have ht:aK (a++r) ([48,49,50,51,52,53,54,55,56,57]:ad)=r:=by
  unfold aK;have h1:=Ou (fun x=>IH.contains x) a r (fun x hx=>by rw[Yu]; exact ai (ha x hx));have h2:=Yv (fun x=>IH.contains x) r (fun b t hb=>by rw[Yu]; exact aE (hr b t hb));exact h1.trans h2
 rw[ht];have hlen:(a++r).length=a.length+r.length:=bf;have hw:ae.wrap (((a++r).length:Int) - (r.length:Int))=(a.length:Int):=by rw[hlen,aV (by omega) (by omega)]; omega
 rw[hw,aw (by rfl),aw (by rw[ai (by omega),ai (by omega)]; rfl),aw (ai (by omega)),fV,cM,vl,PW]
theorem aEW {R:Type} (neg:Bool) (I F X:ad) (pt:Bool) (ev:Int) (hI:∀x∈I,eN x) (hI0:I≠[]) (hI1:1<I.length->(I.getD 0 0).toNat≠48) (hF:∀x∈F,eN x) (Fo:pt=true->F≠[]) (hF1:pt=false->F=[])
  (hX:(X=[]/\ev=0)\/∃b Y,X=b::Y/\(b=101\/b=69)/\∀f:Int->Bool->ad->Option R,o8 Y f=f ev true []) (hev : -1000000<=ev/\ev<=1000000)
  (hlen:((if neg then [45]else [])++(I++((if pt then 46::F else [])++X))).length<=400)
  (Ae:(bx (aK (I++F) [48]) [48]).length<=18) (k:au->Bool->Option R) :
  mJ ((if neg then [45]else [])++(I++((if pt then 46::F else [])++X))) k =
   dM (if neg then ae.wrap (0 - dY (48::bx (aK (I++F) [48]) [48]))else dY (48::bx (aK (I++F) [48]) [48])) (-(F.length:Int)+ev+(((aK (I++F) [48]).length:Int) - ((bx (aK (I++F) [48]) [48]).length:Int))) k:=by
 generalize hS:(if neg then [45]else [])++(I++((if pt then 46::F else [])++X))=s at *;have e:mJ s k=EN dM kl kM o8 s k:=rfl;rw[e];unfold EN
 
 obtain ⟨i0,It,Yx⟩:∃b t,I=b::t:=by cases I with|nil=>exact(hI0 rfl).elim|cons b t=>exact⟨b,t,rfl⟩
 have hi0:=hI i0 (by rw[Yx]; simp);have hXh:∀b t,X=b::t->¬eN b/\b.toNat≠46:=by
  intro b t hb;rcases hX with ⟨rfl,_⟩|⟨c,Y,rfl,hc,_⟩
  ·cases hb
  ·cases hb;rcases hc with rfl|rfl<;>exact⟨by unfold eN; decide,by decide⟩
 have hs1:cI [45] s=(if neg then 45 else 0,I++((if pt then 46::F else [])++X)):=by
  rw[<-hS];cases neg with
  | true=>rfl
  | false=>
   rw[Yx];have:([45]:ad).contains i0=false:=by
    have:i0≠45:=by rintro rfl; exact absurd hi0.1 (by decide)
    simp[this]
   simp only[jy,if_false,jf,gg,cI,this]
 have BU:s.length<=400:=hlen;have xS:s.length=(if neg then 1 else 0)+(I.length+((if pt then F.length+1 else 0)+X.length)):=by
  rw[<-hS];cases neg<;>cases pt<;>simp<;>omega
 have hFl:F.length<=400:=by
  cases pt with
  | true=>simp at xS; omega
  | false=>rw[hF1 rfl]; simp
 have hIl:I.length<=400:=by omega
 have hXl:X.length<=400:=by omega
 rw[za _ _ (by omega),hs1];simp only;have hPh:∀b t,(if pt then 46::F else [])++X=b::t->¬eN b:=by
  intro b t hb;cases pt with
  | true=>simp at hb; rw[<-hb.1]; unfold eN; decide
  | false=>exact(hXh b t (by simpa using hb)).1
 have jB:(I++((if pt then 46::F else [])++X)).length<=4000000000:=by
  have:(I++((if pt then 46::F else [])++X)).length=I.length+((if pt then F.length+1 else 0)+X.length):=by cases pt<;>simp<;>omega
  omega
 rw[Yw I _ hI hPh jB];have aT:(I==([]:ad))=false:=by rw[beq_eq_false_iff_ne]; exact hI0
 rw[aE (show ¬(s.length:Int)>400 by omega),cond_false,aT,cond_false];have uN:(((I.getD 0 0).toNat:Int)==48)=decide ((I.getD 0 0).toNat=48):=fP _ 48
 
 have aEX:∀x:Option R,(bif(decide ((I.length:Int)>1))then(ag (decide ((0:Int)<I.length)) (bif(((I.getD 0 0).toNat:Int)==48)then(k ⟨0,0⟩ false)else x))else x)=x:=by
  intro x;by_cases h:1<I.length
  ·rw[ai (show(I.length:Int)>1 by omega),cond_true,aw (ai (by omega)),uN,aE (hI1 h),cond_false]
  ·rw[aE (show ¬(I.length:Int)>1 by omega),cond_false]
 rw[aEX];generalize hA:I++F=all at *;have fK:all.length<=800:=by rw[<-hA,bf]; omega
 have htl:(aK all [48]).length<=all.length:=pW _ _;have lone:([48]:ad).length=1:=rfl;have hc:(([48]:ad)++(bx (aK all ([48]:ad)) ([48]:ad)))=48::bx (aK all [48]) [48]:=rfl;have AR:((([]:ad)==([]:ad)))=true:=rfl;have qs:decide ((48::bx (aK all [48]) [48]:ad).length<=281474976710656)=true:=ai (by simp only[bj]; omega);have w0:ae.wrap (((aK all [48]).length:Int) - ((bx (aK all [48]) [48]).length:Int))=((aK all [48]).length:Int) - ((bx (aK all [48]) [48]).length:Int):=aV (by omega) (by omega);have q1:decide (1+(bx (aK all [48]) [48]).length<=9223372036854775807)=true:=ai (by omega);have q2:decide (((bx (aK all [48]) [48]).length:Int)>18)=false:=aE (by omega)
 have q3:(kh ([48]:ad)&&decide (([48]:ad).length<4294967281))=true:=rfl;have qn:(((if neg then 45 else 0:Nat):Int) != 0)=neg:=by cases neg<;>rfl
 have sX:cI [101,69] X=match X with | []=>(0,[])|b::Y=>(b.toNat,Y):=by
  rcases hX with ⟨rfl,_⟩|⟨b,Y,rfl,hb,_⟩
  ·rfl
  ·rcases hb with rfl|rfl<;>rfl
 cases pt with
 | false=>
  have Yy:=hF1 rfl;subst Yy;rw[oK]at hA;subst hA;have Yz:cI [46] X=(0,X):=by
   rcases hX with ⟨rfl,_⟩|⟨b,Y,rfl,hb,_⟩
   ·rfl
   ·rcases hb with rfl|rfl<;>rfl
  simp only[jy,if_false,jf];rw[za _ _ (by omega),Yz];have z0:(((0:Nat):Int) != 0)=false:=rfl;simp only[z0,cond_false];rw[za _ _ (by omega),sX];rcases hX with ⟨rfl,rfl⟩|⟨b,Y,rfl,hb,hE⟩
  ·simp only[z0,cond_false,q3,aw rfl,AR,cE,q2,q1,hc,qs,Dq,w0,qn];rw[aV (n:=0+(((aK I [48]).length:Int) - ((bx (aK I [48]) [48]).length:Int))) (by omega) (by omega)];have e0 : -((([]:ad).length:Nat):Int)+0=0:=rfl;rw[e0];cases neg<;>rfl
  ·have zb:((b.toNat:Int) != 0)=true:=by rcases hb with rfl|rfl<;>rfl
   simp only[zb,cond_true,hE,cE,cond_false,q3,aw rfl,AR,q2,q1,hc,qs,Dq,w0,qn];rw[aV (n:=0+ev) (by omega) (by omega),aV (n:=0+ev+(((aK I [48]).length:Int) - ((bx (aK I [48]) [48]).length:Int))) (by omega) (by omega)];have e0 : -((([]:ad).length:Nat):Int)+ev=0+ev:=rfl;rw[e0];cases neg<;>rfl
 | true=>
  have Yy:=Fo rfl;simp only[if_true,gg,jf];have Yz:cI [46] (46::(F++X))=(46,F++X):=rfl;have lFX:(F++X).length=F.length+X.length:=bf;rw[za _ _ (by simp only[bj]; omega),Yz];have z46:(((46:Nat):Int) != 0)=true:=rfl;have z0:(((0:Nat):Int) != 0)=false:=rfl;simp only[z46,cond_true];rw[Yw F X hF (fun b t hb=>(hXh b t hb).1) (by omega)];have hFn:(F==([]:ad))=false:=by rw[beq_eq_false_iff_ne]; exact Yy
  rw[hFn,cond_false,aw (ai (by omega)),hA,aV (n:=0 - (F.length:Int)) (by omega) (by omega)];rw[za _ _ (by omega),sX];rcases hX with ⟨rfl,rfl⟩|⟨b,Y,rfl,hb,hE⟩
  ·simp only[z0,cond_false,q3,aw rfl,AR,cE,q2,q1,hc,qs,Dq,w0,qn];rw[aV (n:=0 - (F.length:Int)+(((aK all [48]).length:Int) - ((bx (aK all [48]) [48]).length:Int))) (by omega) (by omega)];have e0 : -(F.length:Int)+0=0 - (F.length:Int):=by omega
   rw[e0];cases neg<;>rfl
  ·have zb:((b.toNat:Int) != 0)=true:=by rcases hb with rfl|rfl<;>rfl
   simp only[zb,cond_true,hE,cE,cond_false,q3,aw rfl,AR,q2,q1,hc,qs,Dq,w0,qn];rw[aV (n:=0 - (F.length:Int)+ev) (by omega) (by omega),aV (n:=0 - (F.length:Int)+ev+(((aK all [48]).length:Int) - ((bx (aK all [48]) [48]).length:Int))) (by omega) (by omega)];have e0 : -(F.length:Int)+ev=0 - (F.length:Int)+ev:=by omega
   rw[e0];cases neg<;>rfl
theorem alG:∀(l r:ad) (acc v:Nat),parseUint10 acc l=.ok v->parseUint10 acc (l++r)=parseUint10 v r
 | [],r,acc,v,h=>by
  simp only[parseUint10]at h
  injection h with h
  subst h;rfl
 | c::l,r,acc,v,h=>by
  simp only[parseUint10,gg]at h ⊢;split at h
  ·rename_i h1;rw[if_pos h1];split at h
   ·cases h
   ·rename_i h2;rw[if_neg h2];split at h
    ·cases h
    ·rename_i h3;rw[if_neg h3];exact alG l r _ v h
  ·cases h
theorem aEY (u:Nat) (hu:u<1000000000000000000):parseUint10 0 (decDigits u)=.ok u:=by
 induction u using Nat.strongRecOn with
 | _ u ih=>
  by_cases h:u<10
  ·rw[decDigits,dif_pos h];simp only[parseUint10,eU (48+u) (by omega)];rw[if_pos (by omega),if_neg (by omega),if_neg (by omega)];congr 1;omega
  ·rw[decDigits,dif_neg h,alG _ _ _ _ (ih (u / 10) (by omega) (by omega))];simp only[parseUint10,eU (48+u%10) (by omega)];rw[if_pos (by omega),if_neg (by omega),if_neg (by omega)];congr 1;omega
theorem aEZ (u:Nat) (hu:u<1000000000000000000):dY (48::decDigits u)=(u:Int):=by
 have h1:parseMag (48::decDigits u)=.ok u:=by
  unfold parseMag;rw[if_neg (by simp)];have:=aEY u hu;simp only[parseUint10];exact this
 have h2:atoiAll (48::decDigits u)=.ok (u:Int):=by
  unfold atoiAll;simp only;have e:(if(48:UInt8).toNat=43\/(48:UInt8).toNat=45 then decDigits u else 48::decDigits u)=48::decDigits u:=if_neg (by decide);rw[e,h1];simp only;rw[if_neg (by omega),if_neg (fun h=>absurd h.1 (by decide)),if_neg (by decide)]
 unfold dY;rw[h2]
theorem aE0 (n:Nat) (r:ad) (hr:∀b t,r=b::t->b≠48):aK (bS n++r) [48]=r:=by
 unfold aK;rw[Ou _ _ _ (fun x hx=>by have:=Jn hx; subst this; rfl)];exact Yv _ _ fun b t hb=>by simp[hr b t hb]
theorem aE1 (l:ad) (n:Nat) (b:UInt8) (hb:b≠48):bx (l++[b]++bS n) [48]=l++[b]:=by
 unfold bx;rw[Z3,Z3];have e:(bS n).reverse=bS n:=List.reverse_replicate;rw[e,Ou _ _ _ (fun x hx=>by have:=Jn hx; subst this; rfl)];have:List.dropWhile (fun x=>([48]:ad).contains x) (([b]:ad).reverse++l.reverse)=[b]++l.reverse:=Yv _ _ fun c t hc=>by
  have:b=c:=by
   have:=congrArg List.head? hc;simpa using this
  subst this;simp[hb]
 rw[this,Z3,List.reverse_reverse];rfl
theorem aE2 {u:Nat} (hu:u%10≠0) (a b:Nat):aK (bS a++(decDigits u++bS b)) [48]=decDigits u++bS b/\bx (decDigits u++bS b) [48]=decDigits u:=by
 obtain ⟨x,t,e,hx⟩:=Oo u (by omega);obtain ⟨l,hl⟩:=alC u;constructor
 ·apply aE0;intro c t' hc;rw[e]at hc;have:x=c:=by
   have:=congrArg List.head? hc;simpa using this
  subst this
  rintro rfl
  exact hx rfl
 ·rw[hl];apply aE1;intro h;have:=congrArg UInt8.toNat h;rw[eU _ (by omega)]at this;have e48:(48:UInt8).toNat=48:=rfl;omega
theorem YA (d:au) (hd:Fm d) (h0:d.aj≠0):∃(I F:ad) (pt:Bool) (a b:Nat),ie d=(if decide (d.aj<0)then [45]else [])++(I++(if pt then 46::F else [])) /\
  I++F=bS a++(decDigits d.aj.natAbs++bS b)/\I≠[]/\(1<I.length->(I.getD 0 0).toNat≠48)/\(pt=true->F≠[])/\(pt=false->F=[])/\(F.length:Int)=(b:Int) - d.exp/\I.length+F.length<=40/\(∀x∈I,eN x)/\(∀x∈F,eN x):=by
 have bd:=hd.bounds;have fK:=alB d.aj.natAbs;have hlen:(decDigits d.aj.natAbs).length<=16:=by rw[decDigits_length]; exact Ir (by omega)
 have mX:1<=(decDigits d.aj.natAbs).length:=by rw[decDigits_length]; exact nDigits_pos _
 obtain ⟨x0,t0,IF,yn⟩:=Oo d.aj.natAbs (by omega);have pg:(if d.aj<0 then([45]:ad)else [])=if decide (d.aj<0)then [45]else []:=by by_cases h:d.aj<0<;>simp[h]
 unfold ie;rw[pg];generalize decDigits d.aj.natAbs=L at *;by_cases he:0<=d.exp
 ·refine⟨L++bS d.exp.toNat,[],false,0,d.exp.toNat,?_,by simp[bS],?_,fun _ => ?_,by simp,by simp,by simp; omega,?_,?_,by simp⟩
  ·unfold body; rw[if_pos he]; simp
  ·rw[IF]; simp
  ·rw[IF]; exact yn
  ·rw[bf,lN,cu]; omega
  ·intro x hx;rcases fU.1 hx with hx|hx
   ·exact fK x hx
   ·have:=Jn hx;subst this; unfold eN; decide
 ·have hz:∃z:Nat,(max 0 (1 - d.exp - (L.length:Int))).toNat=z:=⟨_,rfl⟩;obtain ⟨z,hz⟩:=hz;have tl:(bS z++L).length=z+L.length:=by rw[bf,lN]
  have kE:(((bS z++L).length:Int)+d.exp).toNat=(bS z++L).length - d.exp.natAbs:=by omega
  have h1:d.exp.natAbs+1<=(bS z++L).length:=by omega
  have IG:∀x∈bS z++L,eN x:=by
   intro x hx;rcases fU.1 hx with hx|hx
   ·have:=Jn hx;subst this; unfold eN; decide
   ·exact fK x hx
  have Yt:z=0->((bS z++L).getD 0 0).toNat≠48:=by
   rintro rfl
   rw[IF];exact yn
  refine⟨(bS z++L).take ((bS z++L).length - d.exp.natAbs),(bS z++L).drop ((bS z++L).length - d.exp.natAbs),true,z,0,?_,?_,?_,?_,fun _ => ?_,(fun h=>by cases h),?_,?_,?_,?_⟩
  ·unfold body;rw[if_neg he];simp only[hz,kE,if_true];simp
  ·rw[Dk]; simp[bS]
  ·intro e;have:=congrArg av e;rw[eP,cu]at this;omega
  ·intro hI;rw[eP]at hI;have e:((bS z++L).take ((bS z++L).length - d.exp.natAbs)).getD 0 0=(bS z++L).getD 0 0:=by
    have:=(E2 (s:=(bS z++L).take ((bS z++L).length - d.exp.natAbs)) (t:=(bS z++L).drop ((bS z++L).length - d.exp.natAbs)) (i:=0) (by rw[eP]; omega)).symm;rw[Dk]at this;exact this
   rw[e];exact Yt (by omega)
  ·intro e;have:=congrArg av e;rw[ct,cu]at this;omega
  ·rw[ct]; omega
  ·rw[eP,ct]; omega
  ·intro x hx; exact IG x (List.mem_of_mem_take hx)
  ·intro x hx; exact IG x (List.mem_of_mem_drop hx)
theorem aE3 {R:Type} (k:au->Bool->Option R):mJ [48] k=k ⟨0,0⟩ true:=by kernel_rfl
theorem YB:ie ⟨0,0⟩=[48]:=by
 show []++body (decDigits 0) 0=[48];rw[decDigits_one (by omega)];rfl
theorem aE4 {R:Type} {d:au} (hd:Fm d) (h0:d.aj≠0) (X:ad) (ev:Int) (hX:(X=[]/\ev=0)\/∃b Y,X=b::Y/\(b=101\/b=69)/\∀f:Int->Bool->ad->Option R,o8 Y f=f ev true [])
  (hev : -1000000<=ev/\ev<=1000000) (hXl:X.length<=100) (k:au->Bool->Option R):mJ (ie d++X) k=dM d.aj (d.exp+ev) k:=by
 have bd:=hd.bounds;obtain ⟨I,F,pt,a,b,e1,e2,i0,i1,f0,f1,fl,il,iD,fD⟩:=YA d hd h0;obtain ⟨t1,t2⟩:=aE2 (u:=d.aj.natAbs) (alD (hd.nz h0)) a b;have hlen:(decDigits d.aj.natAbs).length<=16:=by rw[decDigits_length]; exact Ir (by omega)
 have key:=aEW (R:=R) (decide (d.aj<0)) I F X pt ev iD i0 i1 fD f0 f1 hX hev (by
  cases JC:decide (d.aj<0)<;>cases pt<;>simp<;>omega) (by rw[e2,t1,t2]; omega) k
 have e3:ie d++X=(if decide (d.aj<0)then [45]else [])++(I++((if pt then 46::F else [])++X)):=by rw[e1]; simp only[gG]
 rw[e3,key,e2,t1,t2,aEZ _ (by omega)];have e4:(if decide (d.aj<0)=true then ae.wrap (0 - (d.aj.natAbs:Int))else(d.aj.natAbs:Int))=d.aj:=by
  by_cases h:d.aj<0
  ·rw[if_pos (by rw[ai h]),aV (by omega) (by omega)]; omega
  ·rw[if_neg (by rw[aE h]; simp)]; omega
 have e5 : -(F.length:Int)+ev+(((decDigits d.aj.natAbs++bS b).length:Int) - ((decDigits d.aj.natAbs).length:Int))=d.exp+ev:=by
  rw[bf,lN];omega
 rw[e4,e5]
theorem aE5 {R:Type} {d:au} (hd:Fm d) (h0:d.aj≠0) (k:au->Bool->Option R):dM d.aj d.exp k=k d true:=by
 have bd:=hd.bounds;obtain ⟨r,hr,hm⟩:=aDS (R:=R) d.aj d.exp (by unfold bR; omega) (by omega) (by omega);have e5:d.aj=d.aj*10 ^ 0:=by simp
 rw[e5]at hr;rw[hm,akC hd h0 (j:=0) (x:=d.exp) (by omega) hr]
theorem alH (a b:Nat):bS a++bS b=bS (a+b):=by unfold bS; rw[List.replicate_append_replicate]
theorem alI (a:Nat):bS a++[48]=bS (a+1):=alH a 1
theorem aE6 (d:au) (hd:Fm d):(ie d).length<=40:=by
 obtain ⟨z,hz,z1,z2,_⟩:=aES d hd;unfold ie;rw[<-hz,bf];split<;>simp<;>omega
abbrev AS (b:UInt8):Bool:=IH.contains b
theorem alJ (b:UInt8):AS b=decide (48<=b.toNat/\b.toNat<=57):=Yu b
abbrev takeD (s:ad):ad:=s.takeWhile AS
abbrev cX (s:ad):ad:=s.dropWhile AS
theorem uO (s:ad):∀x∈takeD s,eN x:=fun x hx=>by
 have h:=List.all_takeWhile (l:=s) (p:=AS);have:=gF.1 h x hx;rw[alJ]at this;exact of_decide_eq_true (p:=48<=x.toNat/\x.toNat<=57) this
theorem alK (s:ad):∀b t,cX s=b::t->¬eN b:=fun b t h hb=>by
 have h2:AS b=false:=by
  have:=List.head?_dropWhile_not AS s;have e:s.dropWhile AS=b::t:=h;rw[e]at this;simpa using this
 rw[alJ,ai (p:=48<=b.toNat/\b.toNat<=57) hb]at h2;cases h2
theorem zc (s:ad):(takeD s).length<=s.length:=by
 have:=congrArg av (vm (p:=AS) (l:=s));rw[bf]at this;unfold takeD;omega
theorem alL (s:ad):(cX s).length<=s.length:=pW _ _
theorem YC {R:Type} (s:ad) (hl:s.length<=4000000000) (k:ad->ad->Option R):kM s k=k (takeD s) (cX s):=by
 have e:takeD s++cX s=s:=vm;have h:=Yw (R:=R) (takeD s) (cX s) (uO s) (alK s) (by rw[e]; exact hl) k;rw[e]at h;exact h
theorem Ov (g s:ad):(cI g s).2.length<=s.length:=by
 unfold cI;cases s with
 | nil=>simp
 | cons b t=>simp only; split<;>simp
def cr:ad->Nat->Nat
 | [],v=>v
 | b::s,v=>cr s (10*v+(b.toNat - 48))
theorem YD:∀(a b:ad) (v:Nat),cr (a++b) v=cr b (cr a v)
 | [],_,_=>rfl
 | x::a,b,v=>YD a b _
theorem YE:∀(s:ad) (v:Nat),v*10 ^ s.length<=cr s v
 | [],v=>by simp[cr]
 | b::s,v=>by
  have:=YE s (10*v+(b.toNat - 48));have h2:10*v*10 ^ s.length<=(10*v+(b.toNat - 48))*10 ^ s.length:=iP _ (by omega);have e:v*10 ^ (b::s).length=10*v*10 ^ s.length:=by rw[bj,Bk,u7 10,Nat.mul_assoc,u7 10]
  simp only[cr];omega
theorem aE7 (s:ad) (v:Nat):v<=cr s v:=pw (FR _ (Nat.pos_of_ne_zero (by simp))) (YE s v)
theorem Ow:∀(s:ad) (v:Nat),(∀x∈s,eN x)->cr s v<(v+1)*10 ^ s.length
 | [],v,_=>by simp[cr]
 | b::s,v,h=>by
  have hb:=h b (by simp);unfold eN at hb;have:=Ow s (10*v+(b.toNat - 48)) fun x hx=>h x (by simp[hx])
  have h2:(10*v+(b.toNat - 48)+1)*10 ^ s.length<=((v+1)*10)*10 ^ s.length:=iP _ (by omega);have e:(v+1)*10 ^ (b::s).length=((v+1)*10)*10 ^ s.length:=by rw[bj,Bk,Nat.mul_assoc,u7 10]
  simp only[cr];omega
theorem alM:∀(D:ad) (acc:Nat),(∀x∈D,eN x) ->
  (cr D acc<18446744073709551616->parseUint10 acc D=.ok (cr D acc))/\(acc<18446744073709551616->18446744073709551616<=cr D acc->parseUint10 acc D=.range)
 | [],acc,_=>⟨fun _=>rfl,fun h1 h2=>by simp only[cr]at h2; omega⟩
 | b::D,acc,h=>by
  have hb:=h b (by simp);unfold eN at hb;obtain ⟨i1,i2⟩:=alM D (10*acc+(b.toNat - 48)) fun x hx=>h x (by simp[hx])
  have hs:=aE7 D (10*acc+(b.toNat - 48));have e:acc*10+(b.toNat - 48)=10*acc+(b.toNat - 48):=by omega
  simp only[cr,parseUint10];rw[if_pos hb,e];refine⟨fun h1 => ?_,fun h1 h2 => ?_⟩
  ·rw[if_neg (by omega),if_neg (by omega)];exact i1 h1
  ·by_cases g1:1844674407370955162<=acc
   ·rw[if_pos g1]
   ·rw[if_neg g1];by_cases g2:18446744073709551616<=10*acc+(b.toNat - 48)
    ·rw[if_pos g2]
    ·rw[if_neg g2];exact i2 (by omega) h2
theorem alN (D:ad) (hD:∀x∈D,eN x) (h0:D≠[]) :
  (cr D 0<9223372036854775808->atoiAll D=.ok (cr D 0:Int))/\(9223372036854775808<=cr D 0->atoiAll D=.range):=by
 obtain ⟨i1,i2⟩:=alM D 0 hD;cases D with
 | nil=>exact(h0 rfl).elim
 | cons b D=>
  have hb:=hD b (by simp);unfold eN at hb;have e:(if b.toNat=43\/b.toNat=45 then D else b::D)=b::D:=if_neg (by omega);have m:parseMag (b::D)=parseUint10 0 (b::D):=by unfold parseMag; rw[if_neg (by simp)]
  unfold atoiAll;simp only;rw[e,m];refine⟨fun h => ?_,fun h => ?_⟩
  ·rw[i1 (by omega)];simp only;rw[if_neg (by omega),if_neg (fun h2=>absurd h2.1 (by omega)),if_neg (by omega)]
  ·by_cases h2:cr (b::D) 0<18446744073709551616
   ·rw[i1 h2];simp only;rw[if_pos ⟨by omega,h⟩]
   ·rw[i2 (by omega) (by omega)]
def lq (X:ad):Int×Bool×ad:=
 let q:=cI [43,45] X
 let v:Int:=min (cr (takeD q.2) 0:Int) 1000000
 (if q.1=45 then -v else v, !(takeD q.2==[]),cX q.2)
theorem aE8 {R:Type} (X:ad) (hl:X.length<=4000000000) (k:Int->Bool->ad->Option R):o8 X k=k (lq X).1 (lq X).2.1 (lq X).2.2:=by
 have e:o8 X k=LV kl kM X k:=rfl;rw[e];unfold LV;have h1:=Ov [43,45] X;rw[za _ _ hl];unfold lq;simp only;generalize cI [43,45] X=q at *;rw[YC _ (by omega)];have h2:=zc q.2;have hD:=uO q.2;generalize takeD q.2=D at *;generalize cX q.2=r at *;have sc:((q.1:Int)==45)=decide (q.1=45):=fP _ 45;rw[aw (ai (by omega)),sc];by_cases h0:D=[]
 ·subst h0;have a1:ng []=false:=rfl;have a2:dY []=0:=rfl;rw[a1,a2];simp only[cond_false,cr];by_cases hq:q.1=45
  ·rw[ai hq,if_pos hq]; rfl
  ·rw[aE hq,if_neg hq]; rfl
 ·have aT:(D==([]:ad))=false:=by rw[beq_eq_false_iff_ne]; exact h0
  obtain ⟨i1,i2⟩:=alN D hD h0;rw[aT];simp only[iq,cond_true];by_cases hv:cr D 0<9223372036854775808
  ·have a1:ng D=true:=by unfold ng; rw[i1 hv]
   have a2:dY D=(cr D 0:Int):=by unfold dY; rw[i1 hv]
   rw[a1,a2,cond_true];by_cases hb:(cr D 0:Int)>1000000
   ·rw[ai hb,cond_true,Int.min_eq_right (by omega)];by_cases hq:q.1=45
    ·rw[ai hq,if_pos hq]; rfl
    ·rw[aE hq,if_neg hq]; rfl
   ·rw[aE hb,cond_false,Int.min_eq_left (by omega),aV (by omega) (by omega)];by_cases hq:q.1=45
    ·rw[ai hq,if_pos hq,cond_true]; congr 1; omega
    ·rw[aE hq,if_neg hq,cond_false]
  ·have a1:ng D=false:=by unfold ng; rw[i2 (by omega)]
   rw[a1,cond_false,Int.min_eq_right (by omega)];by_cases hq:q.1=45
   ·rw[ai hq,if_pos hq]; rfl
   ·rw[aE hq,if_neg hq]; rfl
theorem alO (a:ad):∀b t,aK a [48]=b::t->b≠48:=fun b t h hb=>by
 have h2:=List.head?_dropWhile_not (([48]:ad).contains ·) a;have e:a.dropWhile (([48]:ad).contains ·)=b::t:=h;rw[e]at h2;subst hb;exact absurd (show(([48]:ad).contains 48)=false from h2) (by decide)
theorem aE9 (a:ad):∀x∈aK a [48],x∈a:=fun x hx=>(List.dropWhile_sublist _).subset hx
theorem alP (a:ad):bx a [48]=[]\/∃l b,bx a [48]=l++[b]/\b≠48:=by
 unfold bx;have h2:=List.head?_dropWhile_not (([48]:ad).contains ·) a.reverse;cases h:a.reverse.dropWhile (([48]:ad).contains ·)with
 | nil=>exact .inl rfl
 | cons b t=>
  rw[h]at h2;refine .inr ⟨t.reverse,b,by simp,fun hb => ?_⟩;subst hb;exact absurd (show(([48]:ad).contains 48)=false from h2) (by decide)
theorem Ox (a:ad):∃n,a=bx a [48]++bS n:=by
 have h:=vm (p:=(([48]:ad).contains ·)) (l:=a.reverse);have h2:=congrArg List.reverse h;rw[Z3,List.reverse_reverse]at h2;refine⟨(a.reverse.takeWhile (([48]:ad).contains ·)).length,?_⟩;have hz:(a.reverse.takeWhile (([48]:ad).contains ·)).reverse=bS (a.reverse.takeWhile (([48]:ad).contains ·)).length:=by
  unfold bS;rw[List.eq_replicate_iff];refine⟨List.length_reverse,fun x hx => ?_⟩;have h3:=List.all_takeWhile (l:=a.reverse) (p:=(([48]:ad).contains ·));have:=gF.1 h3 x (List.mem_reverse.1 hx);simpa using this
 rw[<-hz];exact h2.symm
def lO (neg:Bool) (all:ad) (x:Int):au×Bool:=
 if bx (aK all [48]) [48]=[]then(⟨0,0⟩,true)
 else gf (if neg then -(cr (bx (aK all [48]) [48]) 0:Int)else(cr (bx (aK all [48]) [48]) 0:Int)) (x+(((aK all [48]).length:Int) - ((bx (aK all [48]) [48]).length:Int)))
theorem aFa {R:Type} (m x:Int) (k:au->Bool->Option R):dM m x k=dM m (min x 1000000) k:=by
 have e:∀x,dM m x k=yv er kI m x k:=fun _=>rfl
 rw[e,e];unfold yv;have:min (min x 1000000) 1000000=min x 1000000:=by omega
 rw[this]
theorem aFb (u x:Int):gf u (min x 1000000)=gf u x:=by
 unfold gf;by_cases h:x<=1000000
 ·rw[Int.min_eq_left h]
 ·rw[if_neg (by omega),if_neg (by omega)]
theorem alQ {R:Type} (u x:Int) (hu:bK u 10≠0) (hb:bR u) (hx : -9223372036854775808<=x) (k:au->Bool->Option R):dM u x k=k (gf u x).1 (gf u x).2:=by
 rw[aFa,<-aFb u x];have:=XE (R:=R) u 0 (min x 1000000) hu (by simpa using hb) (by omega) (by omega) k;simpa using this
theorem YF (all:ad) (h:∀x∈all,eN x) (h0:bx (aK all [48]) [48]≠[]) :
  (∀x∈bx (aK all [48]) [48],eN x)/\cr (bx (aK all [48]) [48]) 0%10≠0/\10 ^ ((bx (aK all [48]) [48]).length - 1)<=cr (bx (aK all [48]) [48]) 0:=by
 obtain ⟨n,hn⟩:=Ox (aK all [48]);have hd:∀x∈bx (aK all [48]) [48],eN x:=fun x hx=>h x (aE9 _ _ (by rw[hn]; simp[hx]))
 refine⟨hd,?_,?_⟩
 ·rcases alP (aK all [48])with e|⟨l,b,e,hb⟩
  ·exact(h0 e).elim
  ·have YG:=hd b (by rw[e]; simp);rw[e,YD];simp only[cr];unfold eN at YG;have:b.toNat≠48:=fun h=>hb (xC.1 h)
   omega
 ·cases e:bx (aK all [48]) [48]with
  | nil=>exact(h0 e).elim
  | cons b t=>
   have hb:b≠48:=alO all b (t++bS n) (by rw[hn,e]; rfl);have YG:=hd b (by rw[e]; simp);unfold eN at YG;have mj:b.toNat≠48:=fun h=>hb (xC.1 h)
   have:=YE t (10*0+(b.toNat - 48));have h2:1*10 ^ t.length<=(10*0+(b.toNat - 48))*10 ^ t.length:=iP _ (by omega);simp only[cr,bj,FY];omega
theorem alR {u:Int} (x:Int) (h:1000000000000000<u.natAbs):gf u x=(⟨0,0⟩,false):=by
 unfold gf;rw[if_neg (by omega)]
theorem alS {R:Type} (y2:Int) (bH:ad) (jF:Int) (z20:ad) (h:∀x∈bH,eN x) (hl:bH.length<=1000) (hx : -2000000<=jF/\jF<=2000000) (k0:au->Bool->Option R) :
  (ag (kh ([48]:ad)&&decide (([48]:ad).length<4294967281)) (ag (kh ([48]:ad)&&decide (([48]:ad).length<4294967281)) (bif(!(z20==([]:ad)))then(k0 (⟨0,0⟩:au) false)else(bif(decide (((bx (aK bH ([48]:ad)) ([48]:ad)).length:Int)>(18:Int)))then(k0 (⟨0,0⟩:au) false)else(ag (decide (1+(bx (aK bH ([48]:ad)) ([48]:ad)).length<=9223372036854775807)) (ag (decide ((([48]:ad)++(bx (aK bH ([48]:ad)) ([48]:ad))).length<=281474976710656)) (bif ng (([48]:ad)++(bx (aK bH ([48]:ad)) ([48]:ad)))then(bif(y2 != 0)then(dM (ae.wrap (0 - (dY (([48]:ad)++(bx (aK bH ([48]:ad)) ([48]:ad)))))) (ae.wrap (jF+(ae.wrap (((aK bH ([48]:ad)).length:Int) - ((bx (aK bH ([48]:ad)) ([48]:ad)).length:Int))))) (fun dK fO=>k0 dK fO))else(dM (dY (([48]:ad)++(bx (aK bH ([48]:ad)) ([48]:ad)))) (ae.wrap (jF+(ae.wrap (((aK bH ([48]:ad)).length:Int) - ((bx (aK bH ([48]:ad)) ([48]:ad)).length:Int))))) (fun cH cN=>k0 cH cN)))else(bif(y2 != 0)then(dM (ae.wrap (0 - (dY (([48]:ad)++(bx (aK bH ([48]:ad)) ([48]:ad)))))) (ae.wrap (jF+(ae.wrap (((aK bH ([48]:ad)).length:Int) - ((bx (aK bH ([48]:ad)) ([48]:ad)).length:Int))))) (fun dK fO=>k0 dK fO))else(dM (dY (([48]:ad)++(bx (aK bH ([48]:ad)) ([48]:ad)))) (ae.wrap (jF+(ae.wrap (((aK bH ([48]:ad)).length:Int) - ((bx (aK bH ([48]:ad)) ([48]:ad)).length:Int))))) (fun cH cN=>k0 cH cN)))))))))) =
  if z20=[]then k0 (lO (y2 != 0) bH jF).1 (lO (y2 != 0) bH jF).2 else k0 ⟨0,0⟩ false:=by
 have q3:(kh ([48]:ad)&&decide (([48]:ad).length<4294967281))=true:=rfl;have htl:(aK bH [48]).length<=bH.length:=pW _ _;obtain ⟨n,hn⟩:=Ox (aK bH [48]);have htr:(aK bH [48]).length=(bx (aK bH [48]) [48]).length+n:=by have:=congrArg av hn; rw[bf,lN]at this; exact this
 rw[q3,aw rfl,aw rfl];by_cases hz:z20=[]
 ·subst hz;have AR:((([]:ad)==([]:ad)))=true:=rfl;rw[AR,if_pos rfl];simp only[cE,cond_false];have w0:ae.wrap (((aK bH [48]).length:Int) - ((bx (aK bH [48]) [48]).length:Int))=((aK bH [48]).length:Int) - ((bx (aK bH [48]) [48]).length:Int):=aV (by omega) (by omega);have w1:ae.wrap (jF+(((aK bH [48]).length:Int) - ((bx (aK bH [48]) [48]).length:Int)))=jF+(((aK bH [48]).length:Int) - ((bx (aK bH [48]) [48]).length:Int)):=aV (by omega) (by omega);rw[w0,w1,aw (ai (by omega)),aw (ai (by simp only[bf,bj,cu]; omega)),Dq];unfold lO;have hc:(([48]:ad)++(bx (aK bH ([48]:ad)) ([48]:ad)))=48::bx (aK bH [48]) [48]:=rfl
  rw[hc];by_cases h0:bx (aK bH [48]) [48]=[]
  ·rw[h0,if_pos rfl];have a0:dY (48::([]:ad))=0:=by decide +kernel
   have a1:decide (((([]:ad)).length:Int)>18)=false:=rfl;have a2:ae.wrap (0 - 0)=0:=by decide
   rw[a0,a1,cond_false,a2,XF,Dq]
  ·rw[if_neg h0];obtain ⟨f1,f2,f3⟩:=YF bH h h0;have hX : -3000000<=jF+(((aK bH [48]).length:Int) - ((bx (aK bH [48]) [48]).length:Int)):=by omega
   generalize bx (aK bH [48]) [48]=sh at *;generalize (jF+(((aK bH [48]).length:Int) - (sh.length:Int)))=X at *;have mX:1<=sh.length:=by cases sh with|nil=>exact(h0 rfl).elim|cons _ _=>simp
   by_cases F1:sh.length<=18
   ·rw[aE (show ¬(sh.length:Int)>18 by omega),cond_false];have aX:=Ow sh 0 f1;have hp:(10:Nat) ^ sh.length<=10 ^ 18:=zF (by omega) F1;have e18:(10:Nat) ^ 18=1000000000000000000:=rfl;have v48:cr (48::sh) 0=cr sh 0:=rfl;have ha:dY (48::sh)=(cr sh 0:Int):=by
     obtain ⟨i1,_⟩:=alN (48::sh) (fun x hx=>by rcases eJ.1 hx with rfl|hx; (unfold eN; decide); exact f1 x hx) (by simp);unfold dY;rw[i1 (by rw[v48]; omega),v48]
    rw[ha];have hm:bK (cr sh 0:Int) 10≠0:=by rw[PX (by omega)]; omega
    cases hy:(y2 != 0)with
    | true=>
     rw[cond_true,if_pos rfl,aV (by omega) (by omega)];have e0:(0 - (cr sh 0:Int)) = -(cr sh 0:Int):=by omega
     rw[e0];exact alQ _ _ (tmod_neg hm) (by unfold bR; omega) (by omega) _
    | false=>
     rw[cond_false,if_neg (by simp)];exact alQ _ _ hm (by unfold bR; omega) (by omega) _
   ·rw[ai (show(sh.length:Int)>18 by omega),cond_true];have hp:(10:Nat) ^ 18<=10 ^ (sh.length - 1):=zF (by omega) (by omega);have e18:(10:Nat) ^ 18=1000000000000000000:=rfl;rw[alR _ (by split<;>omega)]
 ·have AR:(z20==([]:ad))=false:=by rw[beq_eq_false_iff_ne]; exact hz
  rw[AR,if_neg hz];rfl
def ml:au×Bool:=(⟨0,0⟩,false)
def tailD (neg:Bool) (all:ad) (x:Int) (X:ad):au×Bool:=
 if(cI [101,69] X).1=0 then(if(cI [101,69] X).2=[]then lO neg all x else ml)
 else if(lq (cI [101,69] X).2).2.1=false then ml
 else if(lq (cI [101,69] X).2).2.2=[]then lO neg all (x+(lq (cI [101,69] X).2).1)else ml
def kW (s:ad):au×Bool:=
 let q:=cI [45] s
 let I:=takeD q.2
 let r:=cX q.2
 if 400<s.length then ml else if I=[]then ml else if 1<I.length/\(I.getD 0 0).toNat=48 then ml
 else if(cI [46] r).1=0 then tailD (q.1 != 0) I 0 (cI [46] r).2
 else if takeD (cI [46] r).2=[]then ml
 else tailD (q.1 != 0) (I++takeD (cI [46] r).2) (-((takeD (cI [46] r).2).length:Int)) (cX (cI [46] r).2)
theorem aFc (X:ad) : -1000000<=(lq X).1/\(lq X).1<=1000000:=by
 unfold lq;simp only;split<;>omega
theorem Oy (n:Nat):(((n:Nat):Int) != 0)=(n != 0):=by
 cases n with
 | zero=>rfl
 | succ n=>rw[bne_iff_ne.2 (by omega),bne_iff_ne.2 (by omega)]
theorem alT {R:Type} (q:Nat) (all:ad) (x:Int) (X:ad) (ha:∀c∈all,eN c) (hl:all.length<=900) (h1 : -1000<=x) (h2:x<=0) (hX:X.length<=1000) (k:au->Bool->Option R) :
  kl ([101,69]:ad) X (fun aU bU=>bif(aU != 0)then(o8 bU (fun cA cP cV=>bif(!cP)then(k (⟨0,0⟩:au) false)else(ag (kh ([48]:ad)&&decide (([48]:ad).length<4294967281)) (ag (kh ([48]:ad)&&decide (([48]:ad).length<4294967281)) (bif(!(cV==([]:ad)))then(k (⟨0,0⟩:au) false)else(bif(decide (((bx (aK all ([48]:ad)) ([48]:ad)).length:Int)>(18:Int)))then(k (⟨0,0⟩:au) false)else(ag (decide (1+(bx (aK all ([48]:ad)) ([48]:ad)).length<=9223372036854775807)) (ag (decide ((([48]:ad)++(bx (aK all ([48]:ad)) ([48]:ad))).length<=281474976710656)) (bif ng (([48]:ad)++(bx (aK all ([48]:ad)) ([48]:ad)))then(bif((q:Int) != 0)then(dM (ae.wrap (0 - (dY (([48]:ad)++(bx (aK all ([48]:ad)) ([48]:ad)))))) (ae.wrap ((ae.wrap (x+cA))+(ae.wrap (((aK all ([48]:ad)).length:Int) - ((bx (aK all ([48]:ad)) ([48]:ad)).length:Int))))) (fun dK fO=>k dK fO))else(dM (dY (([48]:ad)++(bx (aK all ([48]:ad)) ([48]:ad)))) (ae.wrap ((ae.wrap (x+cA))+(ae.wrap (((aK all ([48]:ad)).length:Int) - ((bx (aK all ([48]:ad)) ([48]:ad)).length:Int))))) (fun cH cN=>k cH cN)))else(bif((q:Int) != 0)then(dM (ae.wrap (0 - (dY (([48]:ad)++(bx (aK all ([48]:ad)) ([48]:ad)))))) (ae.wrap ((ae.wrap (x+cA))+(ae.wrap (((aK all ([48]:ad)).length:Int) - ((bx (aK all ([48]:ad)) ([48]:ad)).length:Int))))) (fun dK fO=>k dK fO))else(dM (dY (([48]:ad)++(bx (aK all ([48]:ad)) ([48]:ad)))) (ae.wrap ((ae.wrap (x+cA))+(ae.wrap (((aK all ([48]:ad)).length:Int) - ((bx (aK all ([48]:ad)) ([48]:ad)).length:Int))))) (fun cH cN=>k cH cN))))))))))))else(ag (kh ([48]:ad)&&decide (([48]:ad).length<4294967281)) (ag (kh ([48]:ad)&&decide (([48]:ad).length<4294967281)) (bif(!(bU==([]:ad)))then(k (⟨0,0⟩:au) false)else(bif(decide (((bx (aK all ([48]:ad)) ([48]:ad)).length:Int)>(18:Int)))then(k (⟨0,0⟩:au) false)else(ag (decide (1+(bx (aK all ([48]:ad)) ([48]:ad)).length<=9223372036854775807)) (ag (decide ((([48]:ad)++(bx (aK all ([48]:ad)) ([48]:ad))).length<=281474976710656)) (bif ng (([48]:ad)++(bx (aK all ([48]:ad)) ([48]:ad)))then(bif((q:Int) != 0)then(dM (ae.wrap (0 - (dY (([48]:ad)++(bx (aK all ([48]:ad)) ([48]:ad)))))) (ae.wrap (x+(ae.wrap (((aK all ([48]:ad)).length:Int) - ((bx (aK all ([48]:ad)) ([48]:ad)).length:Int))))) (fun dK fO=>k dK fO))else(dM (dY (([48]:ad)++(bx (aK all ([48]:ad)) ([48]:ad)))) (ae.wrap (x+(ae.wrap (((aK all ([48]:ad)).length:Int) - ((bx (aK all ([48]:ad)) ([48]:ad)).length:Int))))) (fun cH cN=>k cH cN)))else(bif((q:Int) != 0)then(dM (ae.wrap (0 - (dY (([48]:ad)++(bx (aK all ([48]:ad)) ([48]:ad)))))) (ae.wrap (x+(ae.wrap (((aK all ([48]:ad)).length:Int) - ((bx (aK all ([48]:ad)) ([48]:ad)).length:Int))))) (fun dK fO=>k dK fO))else(dM (dY (([48]:ad)++(bx (aK all ([48]:ad)) ([48]:ad)))) (ae.wrap (x+(ae.wrap (((aK all ([48]:ad)).length:Int) - ((bx (aK all ([48]:ad)) ([48]:ad)).length:Int))))) (fun cH cN=>k cH cN)))))))))))=k (tailD (q != 0) all x X).1 (tailD (q != 0) all x X).2:=by
 rw[za _ _ (by omega)];unfold tailD;have l5:=Ov [101,69] X;generalize cI [101,69] X=g at *;rw[Oy];by_cases hg:g.1=0
 ·rw[if_pos hg,hg];simp only[bne_self_eq_false,cond_false];rw[alS _ _ _ _ ha (by omega) (by omega),Oy];split<;>rfl
 ·rw[if_neg hg,bne_iff_ne.2 hg,cond_true,aE8 _ (by omega)];have xZ:=aFc g.2;generalize lq g.2=z at *;rw[aV (n:=x+z.1) (by omega) (by omega)];cases hz:z.2.1 with
  | false=>rfl
  | true=>
   rw[cE,cond_false,alS _ _ _ _ ha (by omega) (by omega),Oy,if_neg (show ¬(true=false) by simp)];split<;>rfl
theorem alU {R:Type} (s:ad) (hs:s.length<=4000000000) (k:au->Bool->Option R):mJ s k=k (kW s).1 (kW s).2:=by
 have e:mJ s k=EN dM kl kM o8 s k:=rfl;rw[e];unfold EN;have l1:=Ov [45] s;rw[za _ _ hs];unfold kW;simp only;generalize cI [45] s=q at *;rw[YC _ (by omega)];have l2:=zc q.2;have l3:=alL q.2;have dI:=uO q.2;generalize takeD q.2=I at *;generalize cX q.2=r at *;by_cases II:400<s.length
 ·rw[ai (show(s.length:Int)>400 by omega),cond_true,if_pos II];rfl
 rw[aE (show ¬(s.length:Int)>400 by omega),cond_false,if_neg II];by_cases hI:I=[]
 ·subst hI;rw[if_pos rfl];rfl
 have aT:(I==([]:ad))=false:=by rw[beq_eq_false_iff_ne]; exact hI
 rw[aT,cond_false,if_neg hI];have mX:1<=I.length:=by cases I with|nil=>exact(hI rfl).elim|cons _ _=>simp
 have uN:(((I.getD 0 0).toNat:Int)==48)=decide ((I.getD 0 0).toNat=48):=fP _ 48;rw[aw (ai (show(0:Int)<I.length by omega)),uN];by_cases mj:1<I.length/\(I.getD 0 0).toNat=48
 ·rw[if_pos mj,ai (show(I.length:Int)>1 by omega),ai mj.2];rfl
 rw[if_neg mj];have cut:∀x:Option R,(bif decide ((I.length:Int)>1)then(bif decide ((I.getD 0 0).toNat=48)then k ⟨0,0⟩ false else x)else x)=x:=fun x=>by
  by_cases h1:1<I.length
  ·rw[ai (show(I.length:Int)>1 by omega),aE (fun h=>mj ⟨h1,h⟩)]; rfl
  ·rw[aE (show ¬(I.length:Int)>1 by omega)]; rfl
 rw[cut];rw[za _ _ (by omega)];have l4:=Ov [46] r;generalize cI [46] r=p at *;rw[Oy];by_cases hp:p.1=0
 ·rw[if_pos hp,hp];simp only[bne_self_eq_false,cond_false];exact alT q.1 I 0 p.2 dI (by omega) (by omega) (by omega) (by omega) k
 ·rw[if_neg hp,bne_iff_ne.2 hp,cond_true,YC _ (by omega)];have l5:=zc p.2;have l6:=alL p.2;have dF:=uO p.2;generalize takeD p.2=F at *;generalize cX p.2=Y at *;by_cases hF:F=[]
  ·subst hF;rw[if_pos rfl];rfl
  have aT:(F==([]:ad))=false:=by rw[beq_eq_false_iff_ne]; exact hF
  rw[aT,cond_false,if_neg hF,aw (ai (by omega)),aV (n:=0 - (F.length:Int)) (by omega) (by omega)];have e0:(0:Int) - (F.length:Int) = -(F.length:Int):=by omega
  rw[e0];exact alT q.1 (I++F) (-(F.length:Int)) Y (fun c hc=>(fU.1 hc).elim (dI c) (dF c)) (by rw[bf]; omega) (by omega) (by omega) (by omega) k
theorem aFd {s r:ad} {c:Nat} (h:uL s=some (c,r)):r <:+ s:=by
 unfold uL at h;split at h
 ·cases h
 ·rename_i v r1 hu;obtain ⟨_,_,hr⟩:=yW hu;have s1:r1 <:+ s:=by rw[hr]; exact FZ _ _
  split at h
  ·cases h; exact s1
  ·split at h
   ·cases h
   ·split at h
    ·split at h
     ·cases h
     ·rename_i w r2 nX;obtain ⟨_,_,uy⟩:=yW nX;split at h
      ·simp only[ij,kA]at h;obtain ⟨_,rfl⟩:=h;rw[uy];exact((FZ _ _).trans (FZ _ _)).trans s1
      ·cases h
    ·cases h
theorem aFe {s r:ad} {c:Nat} (h:uM s=some (c,r)):r <:+ s:=by
 cases s with
 | nil=>cases h
 | cons b t=>
  have st:t <:+ b::t:=List.suffix_cons b t;simp only[uM]at h;split at h
  ·cases h; exact st
  split at h
  ·cases h; exact st
  split at h
  ·cases h; exact st
  split at h
  ·cases h; exact st
  split at h
  ·cases h; exact st
  split at h
  ·cases h; exact st
  split at h
  ·exact(aFd h).trans st
  ·cases h
theorem aFf {s r:ad} {c:Nat} (h:oB s=some (c,r)):r <:+ s:=by
 unfold oB at h;split at h
 ·cases h
 split at h
 ·cases h
 split at h
 ·cases h
 simp only[ij,kA]at h;rw[<-h.2];exact FZ _ _
theorem aFg {s r:ad} {c:Nat} (h:xl s=some (c,r)):r <:+ s:=by
 unfold xl at h;split at h
 ·exact(aFe h).trans (FZ _ _)
 ·exact aFf h
theorem alV:∀(n:Nat) (s o o' r:ad),uq n s o=some (o',r)->r <:+ s/\r.length<s.length/\∃rs:List Nat,(∀c∈rs,vr c)/\o'=o++bE rs
 | 0,_,_,_,_,h=>by cases h
 | n+1,s,o,o',r,h=>by
  simp only[uq]at h;split at h
  ·rename_i du;simp only[ij,kA]at h;obtain ⟨rfl,rfl⟩:=h;refine⟨FZ _ _,?_,[],by simp,by simp[bE]⟩;cases s with
   | nil=>cases du
   | cons b t=>simp
  ·split at h
   ·cases h
   ·rename_i c r1 hs;obtain ⟨h1,h2,rs,h3,h4⟩:=alV n r1 (o++enc c) o' r h;obtain ⟨hv,hl⟩:=Yd hs;refine⟨h1.trans (aFg hs),by omega,c::rs,fun x hx => ?_,?_⟩
    ·rcases eJ.1 hx with rfl|hx
     ·exact hv
     ·exact h3 x hx
    ·rw[h4]; simp[bE]
theorem YH {s o r:ad} (h:nI s=some (o,r)):r <:+ s/\r.length+1<s.length/\∃rs:List Nat,(∀c∈rs,vr c)/\o=bE rs:=by
 unfold nI at h;split at h
 ·rename_i du;obtain ⟨h1,h2,rs,h3,h4⟩:=alV _ _ _ _ _ h;refine⟨h1.trans (FZ _ _),?_,rs,h3,by simpa using h4⟩;rw[ct]at h2;omega
 ·cases h
theorem alW {s r:ad} (h:r <:+ s):r=s.drop (s.length - r.length):=by
 obtain ⟨t,rfl⟩:=h;rw[bf,FY,Jm]
def aFh:ad:=[48,49,50,51,52,53,54,55,56,57,43,45,46,101,69]
def aFi:ad:=[97,98,99,100,101,102,103,104,105,106,107,108,109,110,111,112,113,114,115,116,117,118,119,120,121,122]
def aFj:ad:=[32,9,10,13]
def CO:ad:=[123,125,91,93,44,58]
def dV (b:UInt8):Bool:=aFh.contains b
def dv (b:UInt8):Bool:=aFi.contains b
def da (b:UInt8):Bool:=aFj.contains b
def lP (b:UInt8):Bool:=CO.contains b
def jb:ad:=[116,114,117,101]
def gC:ad:=[102,97,108,115,101]
def gD:ad:=[110,117,108,108]
def tokS (s:ad):Option (Token×ad):=
 match s with
 | []=>none
 | c::t=>
  if c.toNat=45\/(48<=c.toNat/\c.toNat<=57)then
   (if(kW (s.takeWhile dV)).2 then some (⟨3,s.takeWhile dV,(kW (s.takeWhile dV)).1,0⟩,s.dropWhile dV)else none)
  else if c.toNat=34 then(match nI s with|some (o,r)=>some (⟨2,o,⟨0,0⟩,0⟩,r)|none=>none)
  else if lP c then some (⟨1,[c],⟨0,0⟩,0⟩,t)
  else if s.takeWhile dv=jb\/s.takeWhile dv=gC\/s.takeWhile dv=gD then some (⟨4,s.takeWhile dv,⟨0,0⟩,0⟩,s.dropWhile dv)
  else none
theorem alX {p:UInt8->Bool} {c:UInt8} {t:ad} (h:p c=true):((c::t).dropWhile p).length<(c::t:ad).length:=by
 rw[tD,if_pos h];have:=pW p t;simp only[bj];omega
theorem tokS_sfx {s r:ad} {t:Token} (h:tokS s=some (t,r)):r <:+ s/\r.length<s.length:=by
 cases s with
 | nil=>cases h
 | cons c u=>
  simp only[tokS]at h;split at h
  ·rename_i hc;split at h
   ·simp only[ij,kA]at h;rw[<-h.2];refine⟨List.dropWhile_suffix _,alX ?_⟩;have all:∀n:Fin 256,(n.val=45\/(48<=n.val/\n.val<=57))->dV (bl n.val)=true:=by decide +kernel
    have:=all ⟨c.toNat,fa c⟩ hc;simpa using this
   ·cases h
  ·split at h
   ·split at h
    ·rename_i o q hq;simp only[ij,kA]at h;obtain ⟨_,rfl⟩:=h;obtain ⟨h1,h2,_⟩:=YH hq;exact⟨h1,by omega⟩
    ·cases h
   ·split at h
    ·simp only[ij,kA]at h;rw[<-h.2];exact⟨List.suffix_cons _ _,by simp⟩
    ·split at h
     ·rename_i hw;simp only[ij,kA]at h;rw[<-h.2];refine⟨List.dropWhile_suffix _,alX ?_⟩;cases hl:dv c with
      | true=>rfl
      | false=>
       have e:(c::u).takeWhile dv=[]:=by rw[Bg,hl]; rfl
       rw[e]at hw;rcases hw with hw|hw|hw<;>cases hw
     ·cases h
def zd (t:Token) (n:Int):Token:=⟨t.kind,t.text,t.num,n⟩
def fQ:Nat->Nat->ad->List Token->List Token×Int×Int
 | 0,_,_,_=>([],0,0)
 | n+1,p,s,out=>
  if s.dropWhile da=[]then(out++[⟨5,[],⟨0,0⟩,((p+(s.takeWhile da).length:Nat):Int)⟩],0,0)
  else match tokS (s.dropWhile da)with
   | none=>([],30,((p+(s.takeWhile da).length:Nat):Int))
   | some (t,r)=>fQ n (p+(s.length - r.length)) r (out++[zd t ((p+(s.takeWhile da).length:Nat):Int)])
def eX (s:ad):List Token×Int×Int:=if 20000<s.length then([],30,0)else fQ (s.length+1) 0 s []
theorem Oz:∀(n m p:Nat) (s:ad) (out:List Token),s.length<n->s.length<m->fQ n p s out=fQ m p s out
 | 0,_,_,_,_,h,_=>by omega
 | _,0,_,_,_,_,h=>by omega
 | n+1,m+1,p,s,out,h1,h2=>by
  simp only[fQ];split
  ·rfl
  ·split
   ·rfl
   ·rename_i t r hr;have h3:=(tokS_sfx hr).2;have h4:=pW da s;exact Oz n m _ r _ (by omega) (by omega)
abbrev gX:=ad×ad×Token
def eY:List gX->ad->ad
 | [],z=>z
 | x::l,z=>x.1++(x.2.1++eY l z)
def okW:List gX->ad->Prop
 | [],_=>True
 | x::l,z=>(∀b∈x.1,da b=true)/\(∃c u,x.2.1=c::u/\da c=false)/\tokS (x.2.1++eY l z)=some (x.2.2,eY l z)/\okW l z
def tokW:Nat->List gX->List Token
 | _,[]=>[]
 | p,x::l=>zd x.2.2 ((p+x.1.length:Nat):Int)::tokW (p+x.1.length+x.2.1.length) l
def nJ:List gX->Nat
 | []=>0
 | x::l=>x.1.length+x.2.1.length+nJ l
theorem YI:∀(l:List gX) (z:ad),(eY l z).length=nJ l+z.length
 | [],z=>by simp[eY,nJ]
 | x::l,z=>by simp only[eY,nJ,bf,YI l z]; omega
theorem YJ:∀(g r:ad),(∀b∈g,da b=true)->(∃c u,r=c::u/\da c=false)\/r=[]->(g++r).takeWhile da=g/\(g++r).dropWhile da=r
 | [],r,_,h=>by
  rcases h with ⟨c,u,rfl,hc⟩|rfl
  ·exact⟨by rw[jf,Bg,hc]; rfl,by rw[jf,tD,hc]; rfl⟩
  ·exact⟨rfl,rfl⟩
 | b::g,r,hg,h=>by
  have hb:=hg b (by simp);obtain ⟨h1,h2⟩:=YJ g r (fun x hx=>hg x (by simp[hx])) h;refine⟨?_,?_⟩
  ·rw[gg,Bg,hb,if_pos rfl,h1]
  ·rw[gg,tD,hb,if_pos rfl,h2]
theorem alY:∀(l:List gX) (z:ad) (n p:Nat) (out:List Token),okW l z->l.length<n->fQ n p (eY l z) out=fQ (n - l.length) (p+nJ l) z (out++tokW p l)
 | [],z,n,p,out,_,_=>by simp[eY,nJ,tokW]
 | x::l,z,n,p,out,h,hn=>by
  obtain ⟨h1,⟨c,u,h2,h3⟩,h4,h5⟩:=h;obtain ⟨n,rfl⟩:∃m,n=m+1:=⟨n - 1,by omega⟩;simp only[bj]at hn;obtain ⟨t1,t2⟩:=YJ x.1 (x.2.1++eY l z) h1 (.inl ⟨c,u++eY l z,by rw[h2]; rfl,h3⟩);have IJ:eY (x::l) z=x.1++(x.2.1++eY l z):=rfl;have aT:¬(x.2.1++eY l z=[]):=by rw[h2]; simp
  have hw:0<x.2.1.length:=by rw[h2]; simp
  simp only[fQ];rw[IJ,t1,t2,if_neg aT,h4];simp only;have e1:(x.1++(x.2.1++eY l z)).length - (eY l z).length=x.1.length+x.2.1.length:=by simp only[bf]; omega
  rw[e1,alY l z n _ _ h5 (by omega)];have e2:n+1 - (x::l).length=n - l.length:=by simp
  have e3:p+(x.1.length+x.2.1.length)+nJ l=p+nJ (x::l):=by simp only[nJ]; omega
  have e4:p+(x.1.length+x.2.1.length)=p+x.1.length+x.2.1.length:=by omega
  rw[e2,e3];simp only[tokW,gG,List.singleton_append];rw[e4]
theorem aFk {g:ad} (hg:∀b∈g,da b=true) (n p:Nat) (out:List Token):fQ (n+1) p g out=(out++[⟨5,[],⟨0,0⟩,((p+g.length:Nat):Int)⟩],0,0):=by
 obtain ⟨t1,t2⟩:=YJ g [] hg (.inr rfl);rw[oK]at t1 t2;simp only[fQ];rw[t1,t2,if_pos rfl]
theorem aFl (l:List gX) (g:ad) (hg:∀b∈g,da b=true) (h:okW l g) (hl:nJ l+g.length<=20000):eX (eY l g)=(tokW 0 l++[⟨5,[],⟨0,0⟩,((nJ l+g.length:Nat):Int)⟩],0,0):=by
 unfold eX;have hlen:=YI l g;rw[if_neg (by omega)];have aJr:l.length<=nJ l:=by
  clear hl hlen
  induction l with
  | nil=>simp[nJ]
  | cons x l ih=>
   obtain ⟨_,⟨c,u,h2,_⟩,_,h5⟩:=h;have:=ih h5;have hw:0<x.2.1.length:=by rw[h2]; simp
   simp only[nJ,bj];omega
 rw[alY l g _ 0 [] h (by omega),hlen];obtain ⟨m,hm⟩:∃m,nJ l+g.length+1 - l.length=m+1:=⟨nJ l+g.length - l.length,by omega⟩;rw[hm,aFk hg];simp
def xm (r:ad):Prop:=r=[]\/∃b u,r=b::u/\dV b=false/\dv b=false
def Word (w:ad) (t:Token):Prop:=(∃c u,w=c::u/\da c=false)/\∀r,xm r->tokS (w++r)=some (t,r)
theorem YK {p:UInt8->Bool}:∀(w r:ad),(∀b∈w,p b=true)->(r=[]\/∃b u,r=b::u/\p b=false)->(w++r).takeWhile p=w/\(w++r).dropWhile p=r
 | [],r,_,h=>by
  rcases h with rfl|⟨b,u,rfl,hb⟩
  ·exact⟨rfl,rfl⟩
  ·exact⟨by rw[jf,Bg,hb]; rfl,by rw[jf,tD,hb]; rfl⟩
 | b::w,r,hw,h=>by
  have hb:=hw b (by simp);obtain ⟨h1,h2⟩:=YK w r (fun x hx=>hw x (by simp[hx])) h;exact⟨by rw[gg,Bg,hb,if_pos rfl,h1],by rw[gg,tD,hb,if_pos rfl,h2]⟩
theorem aFm {r:ad} (h:xm r):r=[]\/∃b u,r=b::u/\dV b=false:=h.imp id fun⟨b,u,e,h1,_⟩=>⟨b,u,e,h1⟩
theorem aFn {r:ad} (h:xm r):r=[]\/∃b u,r=b::u/\dv b=false:=h.imp id fun⟨b,u,e,_,h1⟩=>⟨b,u,e,h1⟩
theorem alZ (c:UInt8) (h:lP c=true):Word [c] ⟨1,[c],⟨0,0⟩,0⟩:=by
 have all:∀n:Fin 256,lP (bl n.val)=true->da (bl n.val)=false/\¬(n.val=45\/(48<=n.val/\n.val<=57))/\¬n.val=34:=by decide +kernel
 obtain ⟨h1,h2,h3⟩:=all ⟨c.toNat,fa c⟩ (by simpa using h);refine⟨⟨c,[],rfl,by simpa using h1⟩,fun r _ => ?_⟩;show tokS (c::r)=_;simp only[tokS];rw[if_neg h2,if_neg h3,if_pos h]
theorem Fp {w:ad} (h:w=jb\/w=gC\/w=gD):Word w ⟨4,w,⟨0,0⟩,0⟩:=by
 have hl:∀b∈w,dv b=true:=by rcases h with rfl|rfl|rfl<;>decide
 have hc:∃c u,w=c::u/\da c=false/\¬(c.toNat=45\/(48<=c.toNat/\c.toNat<=57))/\¬c.toNat=34/\lP c=false:=by
  rcases h with rfl|rfl|rfl<;>exact⟨_,_,rfl,by decide,by decide,by decide,by decide⟩
 obtain ⟨c,u,rfl,h1,h2,h3,h4⟩:=hc;refine⟨⟨c,u,rfl,h1⟩,fun r hr => ?_⟩;obtain ⟨t1,t2⟩:=YK (c::u) r hl (aFn hr);show tokS (c::(u++r))=_;have e:(c::(u++r):ad)=(c::u)++r:=rfl;simp only[tokS];rw[if_neg h2,if_neg h3,h4,if_neg (by simp),e,t1,t2,if_pos h]
theorem aFo {rs:List Nat} (hr:∀c∈rs,vr c):Word (qt rs) ⟨2,bE rs,⟨0,0⟩,0⟩:=by
 have e:qt rs=34::(gW rs++[34]):=by unfold qt; simp
 refine⟨⟨34,_,e,by decide⟩,fun r _ => ?_⟩;have hu:=alu rs hr r;have e2:qt rs++r=34::(gW rs++[34]++r):=by rw[e]; rfl
 rw[e2]at hu ⊢;simp only[tokS];rw[if_neg (by decide),if_pos (by decide),hu]
theorem aFp {d:au} (hd:Fm d):kW (ie d)=(d,true):=by
 have key:∀k:au->Bool->Option (au×Bool),mJ (ie d) k=k d true:=fun k=>by
  by_cases h0:d.aj=0
  ·rw[hd.zero h0,YB,aE3]
  ·have:=aE4 hd h0 [] 0 (.inl ⟨rfl,rfl⟩) (by omega) (by simp) k;rw[oK,Int.add_zero,aE5 hd h0]at this;exact this
 have hl:(ie d).length<=4000000000:=by
  by_cases h0:d.aj=0
  ·rw[hd.zero h0,YB]; simp
  ·obtain ⟨I,F,pt,a,b,e1,e2,i0,i1,f0,f1,fl,il,iD,fD⟩:=YA d hd h0;rw[e1];cases AT:decide (d.aj<0)<;>cases pt<;>simp<;>omega
 have h1:=alU (ie d) hl (fun a b=>some (a,b));rw[key]at h1;simp only[ij]at h1;rw[h1]
theorem al0 {d:au} (hd:Fm d):(∀b∈ie d,dV b=true)/\(∃c u,ie d=c::u/\(c.toNat=45\/(48<=c.toNat/\c.toNat<=57)))/\(ie d).length<=60:=by
 have dig:∀b:UInt8,eN b->dV b=true:=fun b hb=>by
  have all:∀n:Fin 256,(48<=n.val/\n.val<=57)->dV (bl n.val)=true:=by decide +kernel
  have:=all ⟨b.toNat,fa b⟩ hb;simpa using this
 by_cases h0:d.aj=0
 ·rw[hd.zero h0,YB];exact⟨by decide,⟨48,[],rfl,by decide⟩,by simp⟩
 ·obtain ⟨I,F,pt,a,b,e1,e2,i0,i1,f0,f1,fl,il,iD,fD⟩:=YA d hd h0;rw[e1];refine⟨fun x hx => ?_,?_,?_⟩
  ·rcases fU.1 hx with hx|hx
   ·split at hx
    ·simp at hx; subst hx; decide
    ·simp at hx
   ·rcases fU.1 hx with hx|hx
    ·exact dig x (iD x hx)
    ·split at hx
     ·rcases eJ.1 hx with rfl|hx
      ·decide
      ·exact dig x (fD x hx)
     ·simp at hx
  ·cases I with
   | nil=>exact(i0 rfl).elim
   | cons c I=>
    cases decide (d.aj<0)with
    | true=>exact⟨45,_,rfl,by decide⟩
    | false=>exact⟨c,_,rfl,.inr (iD c (by simp))⟩
  ·cases AT:decide (d.aj<0)<;>cases pt<;>simp<;>omega
theorem al1 {d:au} (hd:Fm d):Word (ie d) ⟨3,ie d,d,0⟩:=by
 obtain ⟨h1,⟨c,u,h2,h3⟩,_⟩:=al0 hd;have hp:=aFp hd;have hb:da c=false:=by
  have all:∀n:Fin 256,(n.val=45\/(48<=n.val/\n.val<=57))->da (bl n.val)=false:=by decide +kernel
  have:=all ⟨c.toNat,fa c⟩ h3;simpa using this
 refine⟨⟨c,u,h2,hb⟩,fun r hr => ?_⟩;obtain ⟨t1,t2⟩:=YK (ie d) r h1 (aFm hr);have e:ie d++r=c::(u++r):=by rw[h2]; rfl
 rw[e]at t1 t2 ⊢;simp only[tokS];rw[if_pos h3,t1,t2,hp];rfl
def sg (c:UInt8):gX:=([],[c],⟨1,[c],⟨0,0⟩,0⟩)
theorem AU:∀(a b:List gX) (z:ad),eY (a++b) z=eY a (eY b z)
 | [],_,_=>rfl
 | x::a,b,z=>by simp only[gg,eY,AU a b z]
theorem uP:∀(a b:List gX) (z:ad),okW (a++b) z↔okW a (eY b z)/\okW b z
 | [],b,z=>by simp[okW]
 | x::a,b,z=>by simp only[gg,okW,uP a b z,AU,and_assoc]
theorem AV {w:ad} {t:Token} (h:Word w t) {z:ad} (hz:xm z):okW [([],w,t)] z:=⟨by simp,h.1,h.2 z hz,trivial⟩
theorem AW {c:UInt8} (h:lP c=true) (z:ad):okW [sg c] z:=by
 refine⟨by simp[sg],(alZ c h).1,?_,trivial⟩;have all:∀n:Fin 256,lP (bl n.val)=true->¬(n.val=45\/(48<=n.val/\n.val<=57))/\¬n.val=34:=by decide +kernel
 obtain ⟨h2,h3⟩:=all ⟨c.toNat,fa c⟩ (by simpa using h);show tokS (c::z)=some (⟨1,[c],⟨0,0⟩,0⟩,z);simp only[tokS];rw[if_neg h2,if_neg h3,if_pos h]
theorem OA {c:UInt8} (h:lP c=true) (z:ad):xm (c::z):=by
 have all:∀n:Fin 256,lP (bl n.val)=true->dV (bl n.val)=false/\dv (bl n.val)=false:=by decide +kernel
 obtain ⟨h2,h3⟩:=all ⟨c.toNat,fa c⟩ (by simpa using h);exact .inr ⟨c,z,rfl,by simpa using h2,by simpa using h3⟩
def AX {R:Type} (k0:au->Bool->Option R) (z40:ad) (Xb:Int) (H4:Int) (H5:ad) (H6:Int) (H7:au):Option R:=
 bif(Xb != (z40.length:Int))then(k0 (⟨0,0⟩:au) false)else(kU (ah H4+av H5+ah H6+au.fu H7+64) H4 H5 H6 H7 (fun nr ll lH lI=>jr (ah nr+av ll+ah lH+au.fu lI+64) nr ll lH lI (fun wM sY wN sZ=>bif(decide ((sY.length:Int)>(17:Int)))then(k0 (⟨0,0⟩:au) false)else(kn (ah wM+av sY+ah wN+ah 0+ah 0+au.fu sZ+64) wM sY wN 0 0 sZ (fun AL AM yT E8=>dQ (ae.wrap (AL*yT)) AM (fun uG rR=>k0 uG rR))))))
def CP {R:Type} (k0:au->Bool->Option R) (x1:ad) (z4:Int) (bH:ad) (z12:Int) (lk:Int) (wH:Bool):Option R:=
 jR x1 lk (fun cP=>bif(cP==0)then(k0 (⟨0,0⟩:au) false)else(kT (av x1+ah lk+ah z4+ah cP+av bH+ah z12+ah 0+ah lk+au.fu (⟨0,0⟩:au)+64) x1 lk z4 cP bH z12 wH 0 lk (⟨0,0⟩:au) (fun cN fo dG fv ff iX kN kO ia=>bif kN then(AX k0 cN (ae.wrap (fo+fv)) dG ff (ae.wrap (iX+(ae.wrap (0 - kO)))) ia)else(AX k0 cN (ae.wrap (fo+fv)) dG ff (ae.wrap (iX+kO)) ia))))
def AY {R:Type} (k0:au->Bool->Option R) (x1:ad) (z4:Int) (bM:Int) (bH:ad) (z12:Int) (mE:Bool):Option R:=
 bif mE then(bif(decide ((ae.wrap (bM+1))<(x1.length:Int)))then(ag (decide ((0:Int)<=(ae.wrap (bM+1)))&&decide ((ae.wrap (bM+1))<x1.length)) (bif(((x1.getD ((ae.wrap (bM+1)).toNat) 0).toNat:Int)==43)then(ag (decide ((0:Int)<=(ae.wrap (bM+1)))&&decide ((ae.wrap (bM+1))<x1.length)) (CP k0 x1 z4 bH z12 (ae.wrap ((ae.wrap (bM+1))+1)) (((x1.getD ((ae.wrap (bM+1)).toNat) 0).toNat:Int)==45)))else(ag (decide ((0:Int)<=(ae.wrap (bM+1)))&&decide ((ae.wrap (bM+1))<x1.length)) (bif(((x1.getD ((ae.wrap (bM+1)).toNat) 0).toNat:Int)==45)then(ag (decide ((0:Int)<=(ae.wrap (bM+1)))&&decide ((ae.wrap (bM+1))<x1.length)) (CP k0 x1 z4 bH z12 (ae.wrap ((ae.wrap (bM+1))+1)) (((x1.getD ((ae.wrap (bM+1)).toNat) 0).toNat:Int)==45)))else(CP k0 x1 z4 bH z12 (ae.wrap (bM+1)) false)))))else(CP k0 x1 z4 bH z12 (ae.wrap (bM+1)) false))else(AX k0 x1 bM z4 bH z12 (⟨0,0⟩:au))
def IK {R:Type} (k0:au->Bool->Option R) (x1:ad) (z4:Int) (bM:Int) (bH:ad) (z12:Int):Option R:=
 bif(decide (bM<(x1.length:Int)))then(ag (decide ((0:Int)<=bM)&&decide (bM<x1.length)) (bif(((x1.getD bM.toNat 0).toNat:Int)==101)then(AY k0 x1 z4 bM bH z12 true)else(ag (decide ((0:Int)<=bM)&&decide (bM<x1.length)) (AY k0 x1 z4 bM bH z12 (((x1.getD bM.toNat 0).toNat:Int)==69)))))else(AY k0 x1 z4 bM bH z12 false)
def IL {R:Type} (k0:au->Bool->Option R) (x1:ad) (z3:Int) (z4:Int) (y5:Int) (z7:Bool):Option R:=
 bif z7 then(jR x1 (ae.wrap ((ae.wrap (z3+y5))+1)) (fun y8=>bif(y8==0)then(k0 (⟨0,0⟩:au) false)else(ag (decide ((0:Int)<=(ae.wrap ((ae.wrap ((ae.wrap (z3+y5))+1))+y8)))&&decide ((ae.wrap ((ae.wrap ((ae.wrap (z3+y5))+1))+y8))<=x1.length)) (ag (decide ((0:Int)<=(ae.wrap ((ae.wrap (z3+y5))+1)))&&decide ((ae.wrap ((ae.wrap (z3+y5))+1))<=(ae.wrap ((ae.wrap ((ae.wrap (z3+y5))+1))+y8)))) (ag (decide (((x1.drop z3.toNat).take ((ae.wrap (z3+y5)).toNat - z3.toNat)).length+((x1.drop (ae.wrap ((ae.wrap (z3+y5))+1)).toNat).take ((ae.wrap ((ae.wrap ((ae.wrap (z3+y5))+1))+y8)).toNat - (ae.wrap ((ae.wrap (z3+y5))+1)).toNat)).length<=9223372036854775807)) (IK k0 x1 z4 (ae.wrap ((ae.wrap ((ae.wrap (z3+y5))+1))+y8)) (((x1.drop z3.toNat).take ((ae.wrap (z3+y5)).toNat - z3.toNat))++((x1.drop (ae.wrap ((ae.wrap (z3+y5))+1)).toNat).take ((ae.wrap ((ae.wrap ((ae.wrap (z3+y5))+1))+y8)).toNat - (ae.wrap ((ae.wrap (z3+y5))+1)).toNat))) (ae.wrap (0 - y8))))))))else(IK k0 x1 z4 (ae.wrap (z3+y5)) ((x1.drop z3.toNat).take ((ae.wrap (z3+y5)).toNat - z3.toNat)) 0)
def YL {R:Type} (k0:au->Bool->Option R) (x1:ad) (z3:Int) (z4:Int) (y5:Int):Option R:=
 ag (decide ((0:Int)<=(ae.wrap (z3+y5)))&&decide ((ae.wrap (z3+y5))<=x1.length)) (ag (decide ((0:Int)<=z3)&&decide (z3<=(ae.wrap (z3+y5)))) (bif(decide ((ae.wrap (z3+y5))<(x1.length:Int)))then(ag (decide ((0:Int)<=(ae.wrap (z3+y5)))&&decide ((ae.wrap (z3+y5))<x1.length)) (IL k0 x1 z3 z4 y5 (((x1.getD ((ae.wrap (z3+y5)).toNat) 0).toNat:Int)==46)))else(IL k0 x1 z3 z4 y5 false)))
def Fq {R:Type} (k0:au->Bool->Option R) (x1:ad) (z3:Int) (z4:Int):Option R:=
 jR x1 z3 (fun y5=>bif(y5==0)then(k0 (⟨0,0⟩:au) false)else(bif(decide (y5>(1:Int)))then(ag (decide ((0:Int)<=z3)&&decide (z3<x1.length)) (bif(((x1.getD z3.toNat 0).toNat:Int)==48)then(k0 (⟨0,0⟩:au) false)else(YL k0 x1 z3 z4 y5)))else(YL k0 x1 z3 z4 y5)))
theorem aFq {R:Type} (x1:ad) (k0:au->Bool->Option R):NR dQ jR kT kU jr kn x1 k0 =
 bif(decide ((x1.length:Int)>(400:Int)))then(k0 (⟨0,0⟩:au) false)else(bif(decide ((0:Int)<(x1.length:Int)))then(ag (decide ((0:Int)<x1.length)) (bif(((x1.getD 0 0).toNat:Int)==45)then(Fq k0 x1 1 (-1))else(Fq k0 x1 0 1)))else(Fq k0 x1 0 1)):=rfl
theorem aFr {R:Type} (u x:Int) (k:au->Bool->Option R) :
  (bif(decide (u>(1000000000000000:Int)))then(k (⟨0,0⟩:au) false)else(bif(decide (u<(-1000000000000000:Int)))then(k (⟨0,0⟩:au) false)else(bif(decide (x>(9:Int)))then(k (⟨0,0⟩:au) false)else(bif(decide (x<(-9:Int)))then(k (⟨0,0⟩:au) false)else(k (⟨u,x⟩:au) true)))))=k (gf u x).1 (gf u x).2:=by
 unfold gf;by_cases h1:u>1000000000000000
 ·rw[ai h1,if_neg (by omega)]; rfl
 ·rw[aE h1,cond_false];by_cases h2:u < -1000000000000000
  ·rw[ai h2,if_neg (by omega)]; rfl
  ·rw[aE h2,cond_false];by_cases h3:x>9
   ·rw[ai h3,if_neg (by omega)]; rfl
   ·rw[aE h3,cond_false];by_cases h4:x < -9
    ·rw[ai h4,if_neg (by omega)]; rfl
    ·rw[aE h4,cond_false,if_pos (by omega)]
theorem aFs {R:Type} (k:au->Bool->Option R):∀(j n:Nat) (u x:Int) (d:au),j<n->bK u 10≠0->bR (u*10 ^ j)->bR x ->
  jO n (u*10 ^ j) x d (fun y6 y7 y8=>bif(decide (y6>(1000000000000000:Int)))then(k (⟨0,0⟩:au) false)else(bif(decide (y6<(-1000000000000000:Int)))then(k (⟨0,0⟩:au) false)else(bif(decide (y7>(9:Int)))then(k (⟨0,0⟩:au) false)else(bif(decide (y7<(-9:Int)))then(k (⟨0,0⟩:au) false)else(k (⟨y6,y7⟩:au) true))))) (fun y9 bu aS bg=>k bg aS)=k (gf u (x+j)).1 (gf u (x+j)).2:=by
 intro j
 induction j with
 | zero=>
  intro n u x d hn hu hb hx;obtain ⟨m,rfl⟩:∃m,n=m+1:=⟨n - 1,by omega⟩;rw[jO];unfold qi;have e1:u*10 ^ 0=u:=by simp
  have e2:(bK u 10==0)=false:=by rw[beq_eq_false_iff_ne]; exact hu
  have e3:x+((0:Nat):Int)=x:=by omega
  rw[e1,e2,cond_false,e3];exact aFr u x k
 | succ j ih=>
  intro n u x d hn hu hb hx;obtain ⟨m,rfl⟩:∃m,n=m+1:=⟨n - 1,by omega⟩;rw[jO];unfold qi;have ep:u*10 ^ (j+1)=u*10 ^ j*10:=by rw[tE,zE]
  unfold bR at hb hx;rw[ep]at hb ⊢;have e1:(bK (u*10 ^ j*10) 10==0)=true:=by rw[Jl]; rfl
  have e2:pz (u*10 ^ j*10) 10=u*10 ^ j:=Int.mul_tdiv_cancel _ (by omega);rw[e1,cond_true,e2,aV (n:=u*10 ^ j) (by omega) (by omega)];by_cases Gs:x>1099511627776
  ·rw[ai Gs,cond_true];unfold gf;rw[if_neg (by omega)]
  ·rw[aE Gs,cond_false,aV (n:=x+1) (by omega) (by omega)];refine(ih m u (x+1) d (by omega) hu (by unfold bR; omega) (by unfold bR; omega)).trans ?_;have:x+1+(j:Int)=x+((j+1:Nat):Int):=by omega
   rw[this]
theorem YM {R:Type} (u:Int) (j:Nat) (x:Int) (hu:bK u 10≠0) (hb:bR (u*10 ^ j)) (hx:bR x) (k:au->Bool->Option R):dQ (u*10 ^ j) x k=k (gf u (x+j)).1 (gf u (x+j)).2:=by
 have e:dQ (u*10 ^ j) x k=AO jO (u*10 ^ j) x k:=rfl;rw[e];unfold AO;have yr:u≠0:=by rintro rfl; exact hu rfl
 have ha:=N8 u j;have h64:=akE yr hb;have h0:(u*10 ^ j==0)=false:=by rw[beq_eq_false_iff_ne]; omega
 rw[h0,cond_false];exact aFs k j _ u x _ (by omega) hu hb hx
theorem YN {R:Type} (x:Int) (k:au->Bool->Option R):dQ 0 x k=k ⟨0,0⟩ true:=by
 have e:dQ 0 x k=AO jO 0 x k:=rfl;rw[e];rfl
theorem al2 (s:ad):s.take (takeD s).length=takeD s:=by
 have e:takeD s++cX s=s:=vm;have:=PW (l₁:=takeD s) (l₂:=cX s);rw[e]at this;exact this
theorem YO (s:ad):s.drop (takeD s).length=cX s:=by
 have e:takeD s++cX s=s:=vm;have:=Jm (l₁:=takeD s) (l₂:=cX s);rw[e]at this;exact this
theorem aFt (t:ad) (j:Nat) (h1:j<=(takeD t).length) (h2:j<t.length):eN (t.getD j 0)↔j<(takeD t).length:=by
 constructor
 ·intro h;rcases mo j (takeD t).length with h3|h3
  ·exact h3
  ·exfalso;have hj:j=(takeD t).length:=by omega
   have hd:cX t=t.drop j:=by rw[hj,YO]
   exact alK t _ _ (hd.trans (drop_cons h2)) h
 ·intro h;have e:takeD t++cX t=t:=vm;have e2:=E2 (s:=takeD t) (t:=cX t) h;rw[e]at e2;rw[e2];apply uO t;rw[getD_at h];exact jd h
theorem aFu {R:Type} (s:ad) (i:Nat) (hs:s.length<=4000000000) (e0:Int->Option R):∀(n j:Nat),(takeD (s.drop i)).length - j<n->j<=(takeD (s.drop i)).length->i<=s.length ->
  rZ n s (i:Int) (j:Int) e0=e0 ((takeD (s.drop i)).length:Int):=by
 intro n
 induction n with
 | zero=>intro j h; omega
 | succ n ih=>
  intro j h1 h2 h3;rw[rZ];unfold WV;have hl:=zc (s.drop i);rw[ct]at hl;rw[aV (n:=(i:Int)+(j:Int)) (by omega) (by omega)];by_cases hi:i+j<s.length
  ·have hd:=aFt (s.drop i) j h2 (by rw[ct]; omega);rw[CM]at hd;have e1:((i:Int)+(j:Int)).toNat=i+j:=by omega
   rw[ai (show(i:Int)+(j:Int)<(s.length:Int) by omega),cond_true,e1];simp only[ai (show(0:Int)<=(i:Int)+(j:Int) by omega),Jk,aw rfl];unfold eN at hd;by_cases hj:j<(takeD (s.drop i)).length
   ·have:=hd.2 hj;rw[ai (show((s.getD (i+j) 0).toNat:Int)>=48 by omega),cond_true,ai (show((s.getD (i+j) 0).toNat:Int)<=57 by omega),cond_true,aV (n:=(j:Int)+1) (by omega) (by omega)];exact ih (j+1) (by omega) (by omega) h3
   ·have hn:¬(48<=(s.getD (i+j) 0).toNat/\(s.getD (i+j) 0).toNat<=57):=fun h=>hj (hd.1 h)
    have ej:j=(takeD (s.drop i)).length:=by omega
    by_cases g:(48:Int)<=((s.getD (i+j) 0).toNat:Int)
    ·rw[ai (show((s.getD (i+j) 0).toNat:Int)>=48 from g),cond_true,aE (show ¬((s.getD (i+j) 0).toNat:Int)<=57 by omega),cond_false,<-ej]
    ·rw[aE (show ¬((s.getD (i+j) 0).toNat:Int)>=48 from g),cond_false,<-ej]
  ·rw[aE (by omega),cond_false];have:j=(takeD (s.drop i)).length:=by omega
   rw[<-this]
theorem YP {R:Type} (s:ad) (i:Nat) (hs:s.length<=4000000000) (hi:i<=s.length) (k:Int->Option R):jR s (i:Int) k=k ((takeD (s.drop i)).length:Int):=by
 have hl:=zc (s.drop i);rw[ct]at hl;exact aFu s i hs (fun y=>k y) (av s+ah (i:Int)+ah 0+64) 0 (by omega) (by omega) hi
def AZ:ad->ad
 | b::c::t=>if b.toNat=48 then AZ (c::t)else b::c::t
 | s=>s
theorem al3:∀s:ad,s≠[]->(aK s [48]=[]/\AZ s=[48])\/(aK s [48]≠[]/\AZ s=aK s [48])
 | [],h=>(h rfl).elim
 | [b],_=>by
  by_cases hb:b=48
  ·subst hb; exact .inl ⟨rfl,rfl⟩
  ·have:aK [b] [48]=[b]:=by unfold aK; simp[tD,hb]
   exact .inr ⟨by rw[this]; simp,by rw[this]; rfl⟩
 | b::c::t,_=>by
  by_cases hb:b=48
  ·subst hb;have e1:AZ (48::c::t)=AZ (c::t):=rfl;have e2:aK (48::c::t) [48]=aK (c::t) [48]:=rfl;rw[e1,e2];exact al3 (c::t) (by simp)
  ·have hn:b.toNat≠48:=fun h=>hb (xC.1 h)
   have:aK (b::c::t) [48]=b::c::t:=by unfold aK; simp[tD,hb]
   refine .inr ⟨by rw[this]; simp,?_⟩;rw[this];unfold AZ;rw[if_neg hn]
theorem aFv {R:Type} (sg x:Int) (d:au) (e0:Int->ad->Int->au->Option R):∀(n:Nat) (a:ad),a.length<n->a.length<=2000 ->
  kU n sg a x d e0=e0 sg (AZ a) x d:=by
 intro n
 induction n with
 | zero=>intro a h; omega
 | succ n ih=>
  intro a h hl;rw[kU];unfold W4
  match a,h,hl with
  | [],_,_=>rfl
  | [b],_,_=>rfl
  | b::c::t,h,hl=>
   simp only[bj]at h hl;have hlen:(b::c::t:ad).length=t.length+2:=rfl;have hg:(b::c::t:ad).getD 0 0=b:=rfl;have uN:((b.toNat:Int)==48)=decide (b.toNat=48):=fP _ 48;rw[hlen,hg,uN,ai (show((t.length+2:Nat):Int)>1 by omega),cond_true,aw (ai (by omega))];unfold AZ;by_cases hb:b.toNat=48
   ·rw[ai hb,cond_true,if_pos hb,aw (by rw[ai (by omega),ai (by omega)]; rfl),aw (ai (by omega))];have e:((b::c::t:ad).drop 1).take (((t.length+2:Nat):Int).toNat - 1)=c::t:=by
     rw[cM];show(c::t).take (t.length+1)=c::t;exact PV (l:=c::t)
    rw[e];exact ih (c::t) (by simp only[bj]; omega) (by simp only[bj]; omega)
   ·rw[aE hb,cond_false,if_neg hb]
theorem al4 (l:ad) (b:UInt8):(l++[b]).getD l.length 0=b:=VN (s:=l) (t:=[])
theorem aFw {R:Type} (sg:Int) (d:au) (l:ad) (b:UInt8) (hb:b≠48) (hl:l.length<=2000) (e0:Int->ad->Int->au->Option R):∀(m n:Nat) (x:Int),m<n->m<=2000 -> -4000000000<=x->x+m<=4000000000 ->
  jr n sg (l++[b]++bS m) x d e0=e0 sg (l++[b]) (x+m) d:=by
 intro m
 induction m with
 | zero=>
  intro n x h1 h2 h3 h4;obtain ⟨n,rfl⟩:∃q,n=q+1:=⟨n - 1,by omega⟩;rw[jr];unfold NQ;have CN:l++[b]++bS 0=l++[b]:=by simp[bS]
  have ex:x+((0:Nat):Int)=x:=by omega
  have hlen:(l++[b]).length=l.length+1:=by simp
  rw[CN,ex,hlen,aV (n:=((l.length+1:Nat):Int) - 1) (by omega) (by omega)];have en:(((l.length+1:Nat):Int) - 1).toNat=l.length:=by omega
  rw[en,al4];have hn:b.toNat≠48:=fun h=>hb (xC.1 h)
  have uN:((b.toNat:Int)==48)=false:=by rw[beq_eq_false_iff_ne]; omega
  rw[uN,aw (by rw[ai (by omega),ai (by omega)]; rfl)];simp only[cond_false,Dq]
 | succ m ih=>
  intro n x h1 h2 h3 h4;obtain ⟨n,rfl⟩:∃q,n=q+1:=⟨n - 1,by omega⟩;rw[jr];unfold NQ;have e1:l++[b]++bS (m+1)=(l++[b]++bS m)++[48]:=by rw[gG (l++[b]),alI]
  have hlen:(l++[b]++bS (m+1)).length=l.length+1+(m+1):=by rw[bf,bf,lN]; rfl
  have DW:(l++[b]++bS m).length=l.length+1+m:=by rw[bf,bf,lN]; rfl
  rw[hlen,aV (n:=((l.length+1+(m+1):Nat):Int) - 1) (by omega) (by omega)];have en:(((l.length+1+(m+1):Nat):Int) - 1).toNat=(l++[b]++bS m).length:=by omega
  rw[en,e1,al4];have uN:(((48:UInt8).toNat:Int)==48)=true:=rfl;rw[uN,ai (show((l.length+1+(m+1):Nat):Int)>1 by omega),cond_true,aw (by rw[ai (by omega),ai (by omega)]; rfl),cond_true,aw (by rw[ai (by omega),ai (by omega)]; rfl),aw (ai (by omega)),aV (n:=x+1) (by omega) (by omega),fV,vl,PW];refine(ih n (x+1) (by omega) (by omega) (by omega) (by omega)).trans ?_;have:x+1+(m:Int)=x+((m+1:Nat):Int):=by omega
  rw[this]
theorem al5 (a:ad) (j:Nat) (hj:j<a.length):cr (a.take (j+1)) 0=10*cr (a.take j) 0+((a.getD j 0).toNat - 48):=by
 rw[List.take_succ_eq_append_getElem hj,YD,getD_at hj];rfl
theorem al6 {R:Type} (sg x:Int) (a:ad) (d:au) (ha:∀c∈a,eN c) (hl:a.length<=17) (e0:Int->Int->Int->au->Option R):∀(n j:Nat),a.length - j<n->j<=a.length ->
  kn n sg a x (cr (a.take j) 0:Int) (j:Int) d e0=e0 sg x (cr a 0:Int) d:=by
 intro n
 induction n with
 | zero=>intro j h; omega
 | succ n ih=>
  intro j h1 h2;rw[kn];unfold W8;by_cases hj:j<a.length
  ·have hd:=ha (a.getD j 0) (by rw[getD_at hj]; exact jd hj);unfold eN at hd;have hv:=Ow (a.take j) 0 fun c hc=>ha c (List.mem_of_mem_take hc)
   have hp:(10:Nat) ^ (a.take j).length<=10 ^ 16:=zF (by omega) (by rw[eP]; omega);have e16:(10:Nat) ^ 16=10000000000000000:=rfl;have w8:=IC (a:=(a.getD j 0).toNat) (b:=48) hd.1 (by have:=fa (a.getD j 0); omega);have YQ:((48:Nat):Int)=48:=rfl;rw[YQ]at w8;rw[ai (show(j:Int)<(a.length:Int) by omega),cond_true,aw (by rw[ai (show(0:Int)<=(j:Int) by omega)]; rfl),cM,w8,aV (n:=10*(cr (a.take j) 0:Int)) (by omega) (by omega),aV (n:=(((a.getD j 0).toNat - 48:Nat):Int)) (by omega) (by omega),aV (n:=(j:Int)+1) (by omega) (by omega)];have e:=al5 a j hj;rw[aV (n:=10*(cr (a.take j) 0:Int)+(((a.getD j 0).toNat - 48:Nat):Int)) (by omega) (by omega)]
   have e2:10*(cr (a.take j) 0:Int)+(((a.getD j 0).toNat - 48:Nat):Int)=(cr (a.take (j+1)) 0:Int):=by omega
   rw[e2];exact ih (j+1) (by omega) (by omega)
  ·rw[aE (show ¬(j:Int)<(a.length:Int) by omega),cond_false,sk (by omega)]
theorem YR {R:Type} (k:au->Bool->Option R) (s:ad) (i:Nat) (sg:Int) (pg:sg=1\/sg = -1) (all:ad) (x:Int) (d:au) (ha:∀c∈all,eN c) (h0:all≠[]) (hl:all.length<=900) (hx : -2000000<=x/\x<=2000000) :
  AX k s (i:Int) sg all x d=if i=s.length then k (lO (decide (sg = -1)) all x).1 (lO (decide (sg = -1)) all x).2 else k ⟨0,0⟩ false:=by
 unfold AX;by_cases hi:i=s.length
 ·have e1:((i:Int) != (s.length:Int))=false:=by rw[hi]; simp
  rw[e1,cond_false,if_pos hi,aFv _ _ _ _ _ _ (by omega) (by omega)];unfold lO;have htl:(aK all [48]).length<=all.length:=pW _ _;rcases al3 all h0 with ⟨t1,t2⟩|⟨t1,t2⟩
  ·rw[t2,t1];have r1:jr (R:=R) (ah sg+av ([48]:ad)+ah x+au.fu d+64) sg [48] x d=fun e0=>e0 sg [48] x d:=by
    funext e0;rw[show ah sg+av ([48]:ad)+ah x+au.fu d+64=(ah sg+av ([48]:ad)+ah x+au.fu d+63)+1 by omega,jr];rfl
   rw[r1];have r2:∀(n:Nat) (h:2<=n) (e0:Int->Int->Int->au->Option R),kn n sg [48] x 0 0 d e0=e0 sg x 0 d:=fun n h e0=>al6 sg x [48] d (by intro c hc; simp at hc; subst hc; unfold eN; decide) (by simp) e0 n 0 (by simp; omega) (by simp)
   have hlen:decide (((([48]:ad)).length:Int)>17)=false:=rfl;simp only[hlen,cond_false];rw[r2 _ (by omega)];have w0:ae.wrap (sg*0)=0:=by rw[Int.mul_zero]; decide
   rw[w0,YN];rfl
  ·rw[t2];obtain ⟨m,hm⟩:=Ox (aK all [48]);have aT:bx (aK all [48]) [48]≠[]:=by
    intro e;rw[e,jf]at hm;cases m with
    | zero=>exact t1 hm
    | succ m=>exact alO all 48 (bS m) (by rw[hm]; rfl) rfl
   obtain ⟨f1,f2,f3⟩:=YF all ha aT;rw[if_neg aT];rcases alP (aK all [48])with e|⟨l,b,e,hb⟩
   ·exact(aT e).elim
   generalize bx (aK all [48]) [48]=sh at *;have hlen:(aK all [48]).length=sh.length+m:=by have:=congrArg av hm; rw[bf,lN]at this; exact this
   have BU:sh.length=l.length+1:=by rw[e]; simp
   rw[hm,e,aFw _ _ l b hb (by omega) _ _ _ _ (by rw[<-e,<-hm]; omega) (by omega) (by omega) (by omega),<-e];have hxx:x+(((sh++bS m).length:Int) - (sh.length:Int))=x+m:=by rw[bf,lN]; omega
   rw[hxx];have ze:(decide (sg = -1)=true->sg = -1)/\(decide (sg = -1)=false->sg=1):=by
    rcases pg with h|h<;>subst h<;>decide
   by_cases Jo:sh.length<=17
   ·rw[aE (show ¬(sh.length:Int)>17 by omega),cond_false];have key:=al6 (R:=R) sg (x+m) sh d f1 Jo (fun AL AM yT E8=>dQ (ae.wrap (AL*yT)) AM (fun uG rR=>k uG rR)) (ah sg+av sh+ah (x+m)+ah 0+ah 0+au.fu d+64) 0 (by omega) (by omega);have v0:cr (sh.take 0) 0=0:=rfl;rw[v0]at key;refine key.trans ?_;have hv:=Ow sh 0 f1;have hp:(10:Nat) ^ sh.length<=10 ^ 17:=zF (by omega) Jo;have e17:(10:Nat) ^ 17=100000000000000000:=rfl;have al7:bK (cr sh 0:Int) 10≠0:=by rw[PX (by omega)]; omega
    have unit:∀u:Int,bK u 10≠0->bR u->dQ u (x+m) (fun uG rR=>k uG rR)=k (gf u (x+m)).1 (gf u (x+m)).2:=fun u h1 h2=>by
     have:=YM (R:=R) u 0 (x+m) h1 (by simpa using h2) (by unfold bR; omega) k;simpa using this
    cases hd:decide (sg = -1)with
    | true=>
     have:=ze.1 hd;subst this;have en:(-1:Int)*(cr sh 0:Int) = -(cr sh 0:Int):=by omega
     rw[en,aV (by omega) (by omega),if_pos rfl];exact unit _ (tmod_neg al7) (by unfold bR; omega)
    | false=>
     have:=ze.2 hd;subst this;rw[Int.one_mul,aV (by omega) (by omega),if_neg (by simp)];exact unit _ al7 (by unfold bR; omega)
   ·rw[ai (show(sh.length:Int)>17 by omega),cond_true];have hp:(10:Nat) ^ 17<=10 ^ (sh.length - 1):=zF (by omega) (by omega);have e17:(10:Nat) ^ 17=100000000000000000:=rfl;rw[alR _ (by split<;>omega)]
 ·have e1:((i:Int) != (s.length:Int))=true:=by rw[bne_iff_ne]; omega
  rw[e1,cond_true,if_neg hi]
theorem getD_take (s:ad) (i j:Nat) (hj:j<(takeD (s.drop i)).length):s.getD (i+j) 0=(takeD (s.drop i)).getD j 0:=by
 have e:takeD (s.drop i)++cX (s.drop i)=s.drop i:=vm;have e2:=E2 (s:=takeD (s.drop i)) (t:=cX (s.drop i)) hj;rw[e,CM]at e2;exact e2
theorem aFx {R:Type} (s:ad) (i:Nat) (hs:s.length<=4000000000) (hi:i<=s.length) (sg:Int) (all:ad) (x:Int) (mi:Bool) (d:au) (e0:ad->Int->Int->Int->ad->Int->Bool->Int->au->Option R):∀(n j:Nat),(takeD (s.drop i)).length - j<n->j<=(takeD (s.drop i)).length ->
  kT n s (i:Int) sg ((takeD (s.drop i)).length:Int) all x mi ((min (cr ((takeD (s.drop i)).take j) 0) 100000:Nat):Int) ((i+j:Nat):Int) d e0 =
   e0 s (i:Int) sg ((takeD (s.drop i)).length:Int) all x mi ((min (cr (takeD (s.drop i)) 0) 100000:Nat):Int) d:=by
 intro n
 induction n with
 | zero=>intro j h; omega
 | succ n ih=>
  intro j h1 h2;rw[kT];unfold W3;have hl:=zc (s.drop i);rw[ct]at hl;rw[aV (n:=(i:Int)+((takeD (s.drop i)).length:Int)) (by omega) (by omega)];by_cases hj:j<(takeD (s.drop i)).length
  ·have hd:=uO (s.drop i) ((takeD (s.drop i)).getD j 0) (by rw[getD_at hj]; exact jd hj);have hv:=al5 (takeD (s.drop i)) j hj;have hg:=getD_take s i j hj;unfold eN at hd;rw[ai (show((i+j:Nat):Int)<(i:Int)+((takeD (s.drop i)).length:Int) by omega),cond_true,aw (by rw[ai (by omega),ai (by omega)]; rfl),cM,hg];generalize (takeD (s.drop i)).getD j 0=b at *;have w8:=IC (a:=b.toNat) (b:=48) hd.1 (by have:=fa b; omega);have YQ:((48:Nat):Int)=48:=rfl;rw[YQ]at w8;generalize cr ((takeD (s.drop i)).take j) 0=v at *;rw[w8,aV (n:=10*((min v 100000:Nat):Int)) (by omega) (by omega),aV (n:=((b.toNat - 48:Nat):Int)) (by omega) (by omega),aV (n:=((i+j:Nat):Int)+1) (by omega) (by omega),aV (n:=10*((min v 100000:Nat):Int)+((b.toNat - 48:Nat):Int)) (by omega) (by omega)]
   have e1:min (10*((min v 100000:Nat):Int)+((b.toNat - 48:Nat):Int)) 100000=((min (cr ((takeD (s.drop i)).take (j+1)) 0) 100000:Nat):Int):=by rw[hv]; omega
   have e2:((i+j:Nat):Int)+1=((i+(j+1):Nat):Int):=by omega
   rw[e1,e2];exact ih (j+1) (by omega) (by omega)
  ·rw[aE (show ¬((i+j:Nat):Int)<(i:Int)+((takeD (s.drop i)).length:Int) by omega),cond_false,sk (by omega)]
theorem OB {u x:Int} (h:x < -9\/9<x):gf u x=(⟨0,0⟩,false):=by
 unfold gf;rw[if_neg (by omega)]
theorem aFy (neg:Bool) (all:ad) (hl:all.length<=900) (x:Int) (hx : -1000<=x/\x<=1000) (v:Nat) (mi:Bool) :
  lO neg all (x+(if mi then -((min v 100000:Nat):Int)else((min v 100000:Nat):Int)))=lO neg all (x+(if mi then -(min (v:Int) 1000000)else min (v:Int) 1000000)):=by
 by_cases hv:v<=100000
 ·have e:((min v 100000:Nat):Int)=min (v:Int) 1000000:=by omega
  rw[e]
 ·unfold lO;have h1:(aK all [48]).length<=all.length:=pW _ _;obtain ⟨m,hm⟩:=Ox (aK all [48]);have hlen:(aK all [48]).length=(bx (aK all [48]) [48]).length+m:=by have:=congrArg av hm; rw[bf,lN]at this; exact this
  split
  ·rfl
  ·cases mi with
   | true=>rw[if_pos rfl,if_pos rfl,OB (by omega),OB (by omega)]
   | false=>rw[if_neg (show ¬(false=true) by simp),if_neg (show ¬(false=true) by simp),OB (by omega),OB (by omega)]
theorem drop_nil {s:ad} {i:Nat} (hi:i<=s.length):cX (s.drop i)=[]↔i+(takeD (s.drop i)).length=s.length:=by
 have e:takeD (s.drop i)++cX (s.drop i)=s.drop i:=vm;have hl:=congrArg av e;rw[bf,ct]at hl;constructor
 ·intro h; rw[h]at hl; simp at hl; omega
 ·intro h; exact gH (by omega)
def A0 {R:Type} (k:au->Bool->Option R) (r:au×Bool):Option R:=k r.1 r.2
section
variable {R:Type} (k:au->Bool->Option R) (s:ad) (hs:s.length<=4000000000) (sg:Int) (pg:sg=1\/sg = -1) (all:ad) (x:Int) (ha:∀c∈all,eN c) (h0:all≠[]) (hl:all.length<=900) (hx : -1000<=x/\x<=0)
include hs pg ha h0 hl hx
theorem aFz (i:Nat) (hi:i<=s.length) (mi:Bool):CP k s sg all x (i:Int) mi =
  if takeD (s.drop i)=[]then k ⟨0,0⟩ false else if cX (s.drop i)=[]then A0 k (lO (decide (sg = -1)) all (x+(if mi then -(min (cr (takeD (s.drop i)) 0:Int) 1000000)else min (cr (takeD (s.drop i)) 0:Int) 1000000)))else k ⟨0,0⟩ false:=by
 unfold CP;have CQ:=zc (s.drop i);rw[ct]at CQ;rw[YP s i hs hi];by_cases hD:takeD (s.drop i)=[]
 ·rw[if_pos hD,hD];rfl
 ·have aT:(((takeD (s.drop i)).length:Int)==0)=false:=by
   rw[beq_eq_false_iff_ne];intro h;exact hD (gH (by omega))
  rw[aT,cond_false,if_neg hD];have key:=aFx (R:=R) s i hs hi sg all x mi (⟨0,0⟩:au) (fun cN fo dG fv ff iX kN kO ia=>bif kN then(AX k cN (ae.wrap (fo+fv)) dG ff (ae.wrap (iX+(ae.wrap (0 - kO)))) ia)else(AX k cN (ae.wrap (fo+fv)) dG ff (ae.wrap (iX+kO)) ia)) (av s+ah (i:Int)+ah sg+ah ((takeD (s.drop i)).length:Int)+av all+ah x+ah 0+ah (i:Int)+au.fu (⟨0,0⟩:au)+64) 0 (by omega) (by omega);have v0:((min (cr ((takeD (s.drop i)).take 0) 0) 100000:Nat):Int)=0:=rfl;rw[v0,zk]at key;refine key.trans ?_;have w1:ae.wrap ((i:Int)+((takeD (s.drop i)).length:Int))=((i+(takeD (s.drop i)).length:Nat):Int):=by rw[aV (by omega) (by omega)]; omega
  have al8:=aFy (decide (sg = -1)) all hl x (by omega) (cr (takeD (s.drop i)) 0) mi;have AT:=drop_nil hi;cases mi with
  | true=>
   simp only[cond_true];rw[w1,aV (n:=0 - ((min (cr (takeD (s.drop i)) 0) 100000:Nat):Int)) (by omega) (by omega),aV (n:=x+(0 - ((min (cr (takeD (s.drop i)) 0) 100000:Nat):Int))) (by omega) (by omega),YR k s _ sg pg all _ _ ha h0 hl (by omega)];have e1:x+(0 - ((min (cr (takeD (s.drop i)) 0) 100000:Nat):Int))=x+(if true=true then -((min (cr (takeD (s.drop i)) 0) 100000:Nat):Int)else((min (cr (takeD (s.drop i)) 0) 100000:Nat):Int)):=by rw[if_pos rfl]; omega
   rw[e1,al8];by_cases hn:cX (s.drop i)=[]
   ·rw[if_pos hn,if_pos (AT.1 hn)]; rfl
   ·rw[if_neg hn,if_neg (fun h=>hn (AT.2 h))]
  | false=>
   simp only[cond_false];rw[w1,aV (n:=x+((min (cr (takeD (s.drop i)) 0) 100000:Nat):Int)) (by omega) (by omega),YR k s _ sg pg all _ _ ha h0 hl (by omega)];have e1:x+((min (cr (takeD (s.drop i)) 0) 100000:Nat):Int)=x+(if false=true then -((min (cr (takeD (s.drop i)) 0) 100000:Nat):Int)else((min (cr (takeD (s.drop i)) 0) 100000:Nat):Int)):=by rw[if_neg (by simp)]
   rw[e1,al8];by_cases hn:cX (s.drop i)=[]
   ·rw[if_pos hn,if_pos (AT.1 hn)]; rfl
   ·rw[if_neg hn,if_neg (fun h=>hn (AT.2 h))]
theorem aFA (i:Nat) (hi:i<s.length):AY k s sg (i:Int) all x true =
  if(lq (s.drop (i+1))).2.1=false then k ⟨0,0⟩ false else if(lq (s.drop (i+1))).2.2=[]then A0 k (lO (decide (sg = -1)) all (x+(lq (s.drop (i+1))).1))else k ⟨0,0⟩ false:=by
 unfold AY;have w1:ae.wrap ((i:Int)+1)=((i+1:Nat):Int):=by rw[aV (by omega) (by omega)]; omega
 have w2:ae.wrap (((i+1:Nat):Int)+1)=((i+1+1:Nat):Int):=by rw[aV (by omega) (by omega)]; omega
 rw[cond_true,w1,w2]
 
 have fin:∀(j:Nat) (mi:Bool) (q1:Nat),j<=s.length->cI [43,45] (s.drop (i+1))=(q1,s.drop j)->(mi=true↔q1=45)->CP k s sg all x (j:Int) mi =
   if(lq (s.drop (i+1))).2.1=false then k ⟨0,0⟩ false else if(lq (s.drop (i+1))).2.2=[]then A0 k (lO (decide (sg = -1)) all (x+(lq (s.drop (i+1))).1))else k ⟨0,0⟩ false:=by
  intro j mi q1 hj hq hmi;rw[aFz k s hs sg pg all x ha h0 hl hx j hj mi];unfold lq;rw[hq];simp only;by_cases hD:takeD (s.drop j)=[]
  ·rw[if_pos hD,hD,if_pos (by rfl)]
  ·have aT:(takeD (s.drop j)==([]:ad))=false:=by rw[beq_eq_false_iff_ne]; exact hD
   rw[if_neg hD,aT,if_neg (show ¬((!false)=false) by decide)];have:(if mi=true then -(min (cr (takeD (s.drop j)) 0:Int) 1000000)else min (cr (takeD (s.drop j)) 0:Int) 1000000)=(if q1=45 then -(min (cr (takeD (s.drop j)) 0:Int) 1000000)else min (cr (takeD (s.drop j)) 0:Int) 1000000):=by
    by_cases h:mi=true
    ·rw[if_pos h,if_pos (hmi.1 h)]
    ·rw[if_neg h,if_neg (fun g=>h (hmi.2 g))]
   rw[this]
 by_cases h1:i+1<s.length
 ·have hd:=drop_cons h1;rw[ai (show((i+1:Nat):Int)<(s.length:Int) by omega),cond_true,cM];simp only[ai (show(0:Int)<=((i+1:Nat):Int) by omega),qD,aw rfl];generalize s.getD (i+1) 0=b at *;have OC:((b.toNat:Int)==43)=decide (b.toNat=43):=fP _ 43;have sc:((b.toNat:Int)==45)=decide (b.toNat=45):=fP _ 45;rw[OC,sc];have hg:cI [43,45] (s.drop (i+1))=if([43,45]:ad).contains b then(b.toNat,s.drop (i+1+1))else(0,s.drop (i+1)):=by rw[hd]; rfl
  by_cases OD:b.toNat=43
  ·have hb:b=43:=xC.1 OD;rw[ai OD,cond_true];rw[hb,if_pos (by rfl)]at hg;exact fin _ _ _ (by omega) hg (by rw[hb]; simp)
  ·rw[aE OD,cond_false];by_cases OE:b.toNat=45
   ·have hb:b=45:=xC.1 OE;rw[ai OE,cond_true];rw[hb,if_pos (by rfl)]at hg;exact fin _ _ _ (by omega) hg (by simp)
   ·rw[aE OE,cond_false];have hc:([43,45]:ad).contains b=false:=by
     have h1:b≠43:=fun h=>OD (by rw[h]; rfl)
     have h2:b≠45:=fun h=>OE (by rw[h]; rfl)
     simp[h1,h2]
    rw[hc,if_neg (by simp)]at hg;exact fin _ _ _ (by omega) hg (by simp)
 ·rw[aE (show ¬((i+1:Nat):Int)<(s.length:Int) by omega),cond_false];refine fin _ _ 0 (by omega) ?_ (by simp);rw[Z4 (by omega)];rfl
theorem al9 (i:Nat) (hi:i<=s.length):IK k s sg (i:Int) all x=A0 k (tailD (decide (sg = -1)) all x (s.drop i)):=by
 unfold IK;have no:AY k s sg (i:Int) all x false=if i=s.length then A0 k (lO (decide (sg = -1)) all x)else k ⟨0,0⟩ false:=by
  have e:AY k s sg (i:Int) all x false=AX k s (i:Int) sg all x (⟨0,0⟩:au):=rfl;rw[e,YR k s i sg pg all x _ ha h0 hl (by omega)];rfl
 unfold tailD;by_cases h1:i<s.length
 ·have hd:=drop_cons h1;rw[ai (show(i:Int)<(s.length:Int) by omega),cond_true,cM];simp only[ai (show(0:Int)<=(i:Int) by omega),qD,aw rfl];have hg:cI [101,69] (s.drop i)=if([101,69]:ad).contains (s.getD i 0)then((s.getD i 0).toNat,s.drop (i+1))else(0,s.drop i):=by rw[hd]; rfl
  generalize s.getD i 0=b at *;have q1:((b.toNat:Int)==101)=decide (b.toNat=101):=fP _ 101;have q2:((b.toNat:Int)==69)=decide (b.toNat=69):=fP _ 69;rw[q1,q2];have yes:([101,69]:ad).contains b=true->b.toNat≠0->AY k s sg (i:Int) all x true=A0 k (if(cI [101,69] (s.drop i)).1=0 then(if(cI [101,69] (s.drop i)).2=[]then lO (decide (sg = -1)) all x else ml)
    else if(lq (cI [101,69] (s.drop i)).2).2.1=false then ml else if(lq (cI [101,69] (s.drop i)).2).2.2=[]then lO (decide (sg = -1)) all (x+(lq (cI [101,69] (s.drop i)).2).1)else ml):=by
   intro hc hb;rw[aFA k s hs sg pg all x ha h0 hl hx i h1,hg,hc,if_pos rfl];simp only;rw[if_neg hb];split
   ·rfl
   ·split<;>rfl
  by_cases g1:b.toNat=101
  ·have hb:b=101:=xC.1 g1;rw[ai g1,cond_true];exact yes (by rw[hb]; rfl) (by omega)
  ·rw[aE g1,cond_false];by_cases g2:b.toNat=69
   ·have hb:b=69:=xC.1 g2;rw[ai g2];exact yes (by rw[hb]; rfl) (by omega)
   ·rw[aE g2,no,if_neg (by omega)];have hc:([101,69]:ad).contains b=false:=by
     have h1:b≠101:=fun h=>g1 (by rw[h]; rfl)
     have h2:b≠69:=fun h=>g2 (by rw[h]; rfl)
     simp[h1,h2]
    rw[hg,hc,if_neg (show ¬(false=true) by simp),if_pos (show((0:Nat),s.drop i).1=0 from rfl),if_neg (show ¬((0:Nat),s.drop i).2=[] by rw[hd]; simp)];rfl
 ·have hi2:i=s.length:=by omega
  rw[aE (show ¬(i:Int)<(s.length:Int) by omega),cond_false,no,if_pos hi2,Z4 (by omega)];rfl
end
theorem ama {R:Type} (k:au->Bool->Option R) (s:ad) (hs:s.length<=400) (sg:Int) (pg:sg=1\/sg = -1) (i:Nat) (hi:i<=s.length):Fq k s (i:Int) sg =
  A0 k (if takeD (s.drop i)=[]then ml else if 1<(takeD (s.drop i)).length/\((takeD (s.drop i)).getD 0 0).toNat=48 then ml
   else if(cI [46] (cX (s.drop i))).1=0 then tailD (decide (sg = -1)) (takeD (s.drop i)) 0 (cI [46] (cX (s.drop i))).2
   else if takeD (cI [46] (cX (s.drop i))).2=[]then ml
   else tailD (decide (sg = -1)) (takeD (s.drop i)++takeD (cI [46] (cX (s.drop i))).2) (-((takeD (cI [46] (cX (s.drop i))).2).length:Int)) (cX (cI [46] (cX (s.drop i))).2)):=by
 unfold Fq;have CQ:=zc (s.drop i);rw[ct]at CQ;rw[YP s i (by omega) hi];have hI:=uO (s.drop i);have htk:=al2 (s.drop i);have js:=YO (s.drop i);have GR:takeD (s.drop i)≠[]->s.getD i 0=(takeD (s.drop i)).getD 0 0:=fun h=>by
  have:=getD_take s i 0 (by cases hT:takeD (s.drop i)with|nil=>exact(h hT).elim|cons _ _=>simp);simpa using this
 rw[py]at js;generalize Yx:takeD (s.drop i)=I at *;by_cases h0:I=[]
 ·rw[if_pos h0,h0];rfl
 have mX:1<=I.length:=by cases I with|nil=>exact(h0 rfl).elim|cons _ _=>simp
 have aT:((I.length:Int)==0)=false:=by rw[beq_eq_false_iff_ne]; omega
 rw[aT,cond_false,if_neg h0,cM,GR h0];have uN:(((I.getD 0 0).toNat:Int)==48)=decide ((I.getD 0 0).toNat=48):=fP _ 48;rw[uN,aw (by rw[ai (by omega),ai (by omega)]; rfl)];by_cases mj:1<I.length/\(I.getD 0 0).toNat=48
 ·rw[if_pos mj,ai (show(I.length:Int)>1 by omega),ai mj.2];rfl
 rw[if_neg mj];have cut:∀y:Option R,(bif decide ((I.length:Int)>1)then(bif decide ((I.getD 0 0).toNat=48)then k ⟨0,0⟩ false else y)else y)=y:=fun y=>by
  by_cases h1:1<I.length
  ·rw[ai (show(I.length:Int)>1 by omega),aE (fun h=>mj ⟨h1,h⟩)]; rfl
  ·rw[aE (show ¬(I.length:Int)>1 by omega)]; rfl
 rw[cut];unfold YL;have w1:ae.wrap ((i:Int)+(I.length:Int))=((i+I.length:Nat):Int):=by rw[aV (by omega) (by omega)]; omega
 rw[w1,aw (by rw[ai (by omega),ai (by omega)]; rfl),aw (by rw[ai (by omega),ai (by omega)]; rfl)];have CR:((s.drop i).take (((i+I.length:Nat):Int).toNat - i))=I:=by
  rw[cM,Ji]; exact htk
 have amb:(cI [46] (cX (s.drop i))).1=0->(cI [46] (cX (s.drop i))).2=s.drop (i+I.length)->IL k s (i:Int) sg (I.length:Int) false=A0 k (tailD (decide (sg = -1)) I 0 (cI [46] (cX (s.drop i))).2):=by
  intro g1 g2;have e:IL k s (i:Int) sg (I.length:Int) false=IK k s sg (ae.wrap ((i:Int)+(I.length:Int))) ((s.drop i).take ((ae.wrap ((i:Int)+(I.length:Int))).toNat - i)) 0:=rfl;rw[e,w1,CR,g2];exact al9 k s (by omega) sg pg I 0 hI h0 (by omega) (by omega) _ (by omega)
 by_cases h1:i+I.length<s.length
 ·have hd:=drop_cons h1;rw[ai (show((i+I.length:Nat):Int)<(s.length:Int) by omega),cond_true,aw (by rw[ai (show(0:Int)<=((i+I.length:Nat):Int) by omega)]; rfl),cM];have OF:(((s.getD (i+I.length) 0).toNat:Int)==46)=decide ((s.getD (i+I.length) 0).toNat=46):=fP _ 46;rw[OF];by_cases g:(s.getD (i+I.length) 0).toNat=46
  ·have hb:s.getD (i+I.length) 0=46:=xC.1 g;have gT:cI [46] (cX (s.drop i))=(46,s.drop (i+I.length+1)):=by rw[<-js,hd,hb]; rfl
   rw[ai g,gT];simp only;rw[if_neg (by omega)];have w2:ae.wrap (((i+I.length:Nat):Int)+1)=((i+I.length+1:Nat):Int):=by rw[aV (by omega) (by omega)]; omega
   unfold IL;rw[cond_true,w1,w2,YP s _ (by omega) (by omega)];have oD:=zc (s.drop (i+I.length+1));rw[ct]at oD;have hF:=uO (s.drop (i+I.length+1));have aFB:=al2 (s.drop (i+I.length+1));have amc:=YO (s.drop (i+I.length+1));rw[py]at amc;generalize takeD (s.drop (i+I.length+1))=F at *;by_cases Fo:F=[]
   ·rw[if_pos Fo,Fo];rfl
   have aFC:((F.length:Int)==0)=false:=by
    rw[beq_eq_false_iff_ne];intro h;exact Fo (gH (by omega))
   have w3:ae.wrap (((i+I.length+1:Nat):Int)+(F.length:Int))=((i+I.length+1+F.length:Nat):Int):=by rw[aV (by omega) (by omega)]; omega
   have aFD:((s.drop (i+I.length+1)).take (((i+I.length+1+F.length:Nat):Int).toNat - (i+I.length+1)))=F:=by
    rw[cM,Ji]; exact aFB
   rw[aFC,cond_false,if_neg Fo,w3,aw (by rw[ai (by omega),ai (by omega)]; rfl),aw (by rw[ai (by omega),ai (by omega)]; rfl)];rw[cM i,CR,cM (i+I.length+1),aFD,aw (ai (by omega)),aV (n:=0 - (F.length:Int)) (by omega) (by omega)];have e0:(0:Int) - (F.length:Int) = -(F.length:Int):=by omega
   rw[e0,<-amc];exact al9 k s (by omega) sg pg (I++F) (-(F.length:Int)) (fun c hc=>(fU.1 hc).elim (hI c) (hF c)) (by simp[h0]) (by rw[bf]; omega) (by omega) _ (by omega)
  ·have hb:([46]:ad).contains (s.getD (i+I.length) 0)=false:=by
    have:s.getD (i+I.length) 0≠46:=fun h=>g (by rw[h]; rfl)
    simp only[nR,PT,Bj,beq_eq_false_iff_ne];exact this
   have gT:cI [46] (cX (s.drop i))=(0,s.drop (i+I.length)):=by
    rw[<-js,hd];show(if([46]:ad).contains (s.getD (i+I.length) 0)then _ else _)=_;rw[hb]; rfl
   rw[aE g,if_pos (by rw[gT])];exact amb (by rw[gT]) (by rw[gT])
 ·have gT:cI [46] (cX (s.drop i))=(0,s.drop (i+I.length)):=by
   rw[<-js,Z4 (by omega)];rfl
  rw[aE (show ¬((i+I.length:Nat):Int)<(s.length:Int) by omega),cond_false,if_pos (by rw[gT])];exact amb (by rw[gT]) (by rw[gT])
theorem aFE {R:Type} (s:ad) (k:au->Bool->Option R):ta s k=k (kW s).1 (kW s).2:=by
 have e:ta s k=NR dQ jR kT kU jr kn s k:=rfl;rw[e,aFq];unfold kW;simp only;by_cases II:400<s.length
 ·rw[ai (show(s.length:Int)>400 by omega),cond_true,if_pos II];rfl
 rw[aE (show ¬(s.length:Int)>400 by omega),cond_false,if_neg II];have plain:∀q:Nat×ad,q=(0,s)->Fq k s 0 1=k (if takeD q.2=[]then ml else if 1<(takeD q.2).length/\((takeD q.2).getD 0 0).toNat=48 then ml
   else if(cI [46] (cX q.2)).1=0 then tailD (q.1 != 0) (takeD q.2) 0 (cI [46] (cX q.2)).2
   else if takeD (cI [46] (cX q.2)).2=[]then ml
   else tailD (q.1 != 0) (takeD q.2++takeD (cI [46] (cX q.2)).2) (-((takeD (cI [46] (cX q.2)).2).length:Int)) (cX (cI [46] (cX q.2)).2)).1 (if takeD q.2=[]then ml else if 1<(takeD q.2).length/\((takeD q.2).getD 0 0).toNat=48 then ml
   else if(cI [46] (cX q.2)).1=0 then tailD (q.1 != 0) (takeD q.2) 0 (cI [46] (cX q.2)).2
   else if takeD (cI [46] (cX q.2)).2=[]then ml
   else tailD (q.1 != 0) (takeD q.2++takeD (cI [46] (cX q.2)).2) (-((takeD (cI [46] (cX q.2)).2).length:Int)) (cX (cI [46] (cX q.2)).2)).2:=by
  rintro q rfl
  exact ama k s (by omega) 1 (.inl rfl) 0 (by omega)
 by_cases h1:0<s.length
 ·rw[ai (show(0:Int)<(s.length:Int) by omega),cond_true,aw rfl];have hd:=drop_cons h1;rw[fV]at hd;have sc:(((s.getD 0 0).toNat:Int)==45)=decide ((s.getD 0 0).toNat=45):=fP _ 45;rw[sc];by_cases g:(s.getD 0 0).toNat=45
  ·have hb:s.getD 0 0=45:=xC.1 g;have hq:cI [45] s=(45,s.drop 1):=by
    conv=>lhs; rw[hd,hb]
    rfl
   rw[ai g,cond_true,hq];exact ama k s (by omega) (-1) (.inr rfl) 1 (by omega)
  ·have hq:cI [45] s=(0,s):=by
    have hc:([45]:ad).contains (s.getD 0 0)=false:=by
     have:s.getD 0 0≠45:=fun h=>g (by rw[h]; rfl)
     simp only[nR,PT,Bj,beq_eq_false_iff_ne];exact this
    conv=>lhs; rw[hd]
    show(if([45]:ad).contains (s.getD 0 0)then _ else(0,_))=_;rw[hc];simp only[jy,if_false];rw[<-hd]
   rw[aE g,cond_false];exact plain _ hq
 ·have hn:s=[]:=gH (by omega);subst hn;exact plain _ rfl
def sd (d:au):Bool:=(d.aj==0&&d.exp==0)||(bK d.aj 10 != 0&&(decide (-1000000000000000<=d.aj)&&decide (d.aj<=1000000000000000)&&(decide (-9<=d.exp)&&decide (d.exp<=9))))
theorem xn {d:au}:sd d=true↔Fm d:=by
 unfold sd Fm;simp[and_assoc]
theorem amd {R:Type} (d:au) (k:Bool->Option R):fY d k=k (sd d):=by
 have e:fY d k=yx er d k:=rfl;rw[e];unfold yx sd;by_cases h0:d.aj=0
 ·rw[h0];have t0:((0:Int)==0)=true:=rfl;have t1:(bK 0 10 != 0)=false:=rfl;rw[t0,t1,cond_true,oJ,lu,Bj]
 ·have e0:(d.aj==0)=false:=by rw[beq_eq_false_iff_ne]; exact h0
  rw[e0,cond_false,lu,sn];cases ht:(bK d.aj 10 != 0)with
  | false=>rfl
  | true=>
   rw[cond_true,oJ,Il];cases (decide (-1000000000000000<=d.aj)&&decide (d.aj<=1000000000000000))with
   | false=>rfl
   | true=>rw[cond_true,Il,oJ]
theorem ame {R:Type} (d:au) (hm:bR d.aj) (he:bR d.exp) (k:Bool->Option R):eV d k=k (sd d):=by
 have e:eV d k=HQ dQ d k:=rfl;rw[e];unfold HQ;by_cases h0:d.aj=0
 ·rw[h0,YN,cond_true];unfold sd;rw[h0];have t0:((0:Int)==0)=true:=rfl;have t1:(bK 0 10 != 0)=false:=rfl;rw[t0,t1,oJ,lu,Bj,oJ,qD];congr 1;rw[FQ];simp only[beq_iff_eq];exact eq_comm
 ·obtain ⟨j,u,hu,hd⟩:=XD (d.aj.natAbs+1) d.aj h0 (by omega);have yr:u≠0:=by rintro rfl; exact hd rfl
  rw[hu]at hm;have key:=YM (R:=R) u j d.exp hd hm he;rw[<-hu]at key;rw[key];have e0:(d.aj==0)=false:=by rw[beq_eq_false_iff_ne]; exact h0
  unfold sd;rw[e0,lu,sn];cases j with
  | zero=>
   have eu:d.aj=u:=by rw[hu]; simp
   have ex:d.exp+((0:Nat):Int)=d.exp:=by omega
   have ht:(bK d.aj 10 != 0)=true:=bne_iff_ne.2 (by rw[eu]; exact hd);rw[ex,ht,oJ,eu];unfold gf;by_cases h : -1000000000000000<=u/\u<=1000000000000000 /\ -9<=d.exp/\d.exp<=9
   ·rw[if_pos h,ai h.1,ai h.2.1,ai h.2.2.1,ai h.2.2.2];simp
   ·rw[if_neg h,cond_false];congr 1
    symm
    rw[Bool.eq_false_iff];intro hh;simp only[bF,decide_eq_true_eq]at hh;exact h ⟨hh.1.1,hh.1.2,hh.2.1,hh.2.2⟩
  | succ j=>
   have ep:d.aj=u*10 ^ j*10:=by rw[hu,tE,zE]
   have ht:(bK d.aj 10 != 0)=false:=by rw[ep,Jl]; rfl
   rw[ht,lu];unfold gf;split
   ·have Eb:=N8 u j;have aT:(u==d.aj)=false:=by rw[beq_eq_false_iff_ne]; omega
    simp only[cond_true];rw[aT,lu]
   ·rfl
theorem aFF {R:Type} (k:ad->Option R):∀(F n:Nat),n<F->n<1000000000000000000->∀k:ad->Option R,rX F (n:Int) k=k (decDigits n):=by
 intro F
 induction F with
 | zero=>intro n h; omega
 | succ F ih=>
  intro n h1 h2 k;have e:rX (F+1) (n:Int) k=Ni (rX F) (n:Int) k:=rfl;rw[e];unfold Ni;have htm:bK (n:Int) 10=((n%10:Nat):Int):=by rw[PX (by omega)]; omega
  have htd:pz (n:Int) 10=((n / 10:Nat):Int):=by rw[Int.tdiv_eq_ediv_of_nonneg (by omega)]; omega
  have w1:ae.wrap (48+((n%10:Nat):Int))=((48+n%10:Nat):Int):=by rw[aV (by omega) (by omega)]; omega
  have hb:(cU (fun n:Int=>bl n.toNat) ([(aM.wrap (ae.wrap (48+(bK (n:Int) 10))))]:List Int):ad)=[bl (48+n%10)]:=by
   rw[htm,w1,Fg,u6 (by omega)];rfl
  rw[hb,htd,aV (n:=((n / 10:Nat):Int)) (by omega) (by omega)];by_cases h:n<10
  ·rw[aE (show ¬(n:Int)>=10 by omega),cond_false,decDigits,dif_pos h,u6 h]
  ·rw[ai (show(n:Int)>=10 by omega),cond_true,ih (n / 10) (by omega) (by omega)];have hl:=nDigits_le20 (n / 10) (by omega);rw[<-decDigits_length]at hl;rw[aw (ai (by simp only[bj,cu]; omega))]
   conv=>rhs; rw[decDigits,dif_neg h]
theorem aFG {R:Type} (n:Nat) (h:n<1000000000000000000) (k:ad->Option R):ov (n:Int) k=k (decDigits n):=by
 have e:ov (n:Int) k=rX (ah (n:Int)+2) (n:Int) k:=rfl;rw[e];exact aFF k _ n (by omega) h k
theorem aFH {R:Type} (d:au) (hd:d.exp<=1000) (e0:ad->au->Option R):∀(n i:Nat) (y:ad),d.exp.toNat - i<n->y.length<=100000+i->i<=2000 ->
  ow n y (i:Int) d e0=e0 (y++bS (d.exp.toNat - i)) d:=by
 intro n
 induction n with
 | zero=>intro i y h; omega
 | succ n ih=>
  intro i y h hy hi;rw[ow];unfold Wr;by_cases aX:(i:Int)<d.exp
  ·rw[ai aX,cond_true,aw (ai (by omega)),aV (n:=(i:Int)+1) (by omega) (by omega)];refine(ih (i+1) (y++[48]) (by omega) (by simp; omega) (by omega)).trans ?_;have e:d.exp.toNat - i=(d.exp.toNat - (i+1))+1:=by omega
   have e2:([48]:ad)++bS (d.exp.toNat - (i+1))=bS (d.exp.toNat - (i+1)+1):=by
    have:=alH 1 (d.exp.toNat - (i+1));rw[Nat.add_comm 1]at this;exact this
   rw[gG,e2,<-e]
  ·rw[aE aX,cond_false];have e:d.exp.toNat - i=0:=by omega
   have z0:bS 0=[]:=rfl;rw[e,z0,oK]
theorem aFI {R:Type} (d:au) (hd : -1000<=d.exp/\d.exp<=1000) (e0:ad->au->Option R):∀(n:Nat) (y:ad),(1 - d.exp - (y.length:Int)).toNat<n->y.length<=100000 ->
  ox n y d e0=e0 (bS (1 - d.exp - (y.length:Int)).toNat++y) d:=by
 intro n
 induction n with
 | zero=>intro y h; omega
 | succ n ih=>
  intro y h hy;rw[ox];unfold Ws;rw[aV (n:=0 - d.exp) (by omega) (by omega)];by_cases hle:(y.length:Int)<=0 - d.exp
  ·rw[ai hle,cond_true,aw (ai (by omega))];have hl:(([48]:ad)++y).length=y.length+1:=by simp
   refine(ih (([48]:ad)++y) (by rw[hl]; omega) (by rw[hl]; omega)).trans ?_;rw[hl];have e:(1 - d.exp - (y.length:Int)).toNat=(1 - d.exp - ((y.length+1:Nat):Int)).toNat+1:=by omega
   rw[e,<-alI,gG]
  ·rw[aE hle,cond_false];have e:(1 - d.exp - (y.length:Int)).toNat=0:=by omega
   rw[e];rfl
theorem aFJ {R:Type} {d:au} (hd:Fm d) (k:ad->Option R):qj d k=k (ie d):=by
 have bd:=hd.bounds;have e:qj d k=Nl eV ov ow ox d k:=rfl;rw[e];unfold Nl;rw[ame d (by unfold bR; omega) (by unfold bR; omega),xn.2 hd,cE,cond_false,aV (n:=0 - d.aj) (by omega) (by omega)];have hm:max d.aj (0 - d.aj)=(d.aj.natAbs:Int):=by omega
 have hlen:(decDigits d.aj.natAbs).length<=16:=by rw[decDigits_length]; exact Ir (by omega)
 rw[hm,aFG _ (by omega)];unfold ie;generalize decDigits d.aj.natAbs=L at *;have key:=aFH (R:=R) d (by omega);have c0:((0:Nat):Int)=0:=rfl;have IM:=fun(e0:ad->au->Option R) (F:Nat) (hF:20<=F)=>key e0 F 0 L (by omega) (by omega) (by omega)
 rw[c0]at IM;rw[IM _ _ (by omega),vl];by_cases he:d.exp<0
 ·have z0:bS d.exp.toNat=[]:=by rw[show d.exp.toNat=0 by omega]; rfl
  rw[ai he,cond_true,z0,oK,aFI d (by omega) _ _ _ (by omega) (by omega)];unfold body;rw[if_neg (show ¬0<=d.exp by omega)];have ez:(max 0 (1 - d.exp - (L.length:Int))).toNat=(1 - d.exp - (L.length:Int)).toNat:=by omega
  simp only[ez];have hzl:(bS (1 - d.exp - (L.length:Int)).toNat++L).length=(1 - d.exp - (L.length:Int)).toNat+L.length:=by rw[bf,lN]
  generalize bS (1 - d.exp - (L.length:Int)).toNat++L=t at *;have hb:0<=(t.length:Int)+d.exp:=by omega
  rw[aV (n:=(t.length:Int)+d.exp) (by omega) (by omega)];simp only[fV,vl,cM];have l1:(t.take ((t.length:Int)+d.exp).toNat).length<=t.length:=by rw[eP]; omega
  have et:(t.drop ((t.length:Int)+d.exp).toNat).take (t.length - ((t.length:Int)+d.exp).toNat)=t.drop ((t.length:Int)+d.exp).toNat:=sk (by rw[ct]; exact cD _);have l2:(t.drop ((t.length:Int)+d.exp).toNat).length<=t.length:=by rw[ct]; omega
  have tg:∀a b:ad,(a++b).length=a.length+b.length:=fun a b=>bf
  have lone:([46]:ad).length=1:=rfl;rw[et,aw (by rw[ai hb,ai (by omega)]; rfl),aw (ai hb),aw (ai (by omega)),aw (by rw[ai (by omega),ai (by omega)]; rfl),aw (by rw[ai hb,ai (by omega)]; rfl),aw (ai (by rw[tg,lone]; omega))];by_cases hn:d.aj<0
  ·rw[ai hn,cond_true,if_pos hn,aw (ai (by rw[tg,tg,lone]; omega))]
  ·rw[aE hn,cond_false,if_neg hn,jf]
 ·rw[aE he,cond_false];unfold body;rw[if_pos (show 0<=d.exp by omega)];by_cases hn:d.aj<0
  ·rw[ai hn,cond_true,if_pos hn,aw (ai (by rw[bf,lN]; omega))]
  ·rw[aE hn,cond_false,if_neg hn,jf]
theorem aFK {R:Type} {d:au} (hd:sd d=false) (k:ad->Option R):hZ d k=k []:=by
 have e:hZ d k=ED fY fZ di eS d k:=rfl;rw[e];unfold ED
 try dsimp only
 rw[amd,hd];rfl
def fR (d:au):ad:=if sd d then ie d else []
theorem amf {R:Type} (d:au) (k:ad->Option R):hZ d k=k (fR d):=by
 unfold fR;cases h:sd d with
 | true=>rw[aDY (xn.1 h)]; rfl
 | false=>rw[aFK h]; rfl
def fG:List ad->List ad->Bool
 | _,[]=>true
 | seen,n::l => !seen.contains n&&dh n&&fG (n::seen) l
mutual
def cC:Json->Int->Bool
 | ⟨k,n,t,ns,is⟩,d=>decide (d<=16)&&(decide (1<=k)&&decide (k<=7))&&(k==4||(n.aj==0&&n.exp==0))&&(k==5||t.isEmpty)&&(k==7||ns.isEmpty)&&(k==6||k==7||is.isEmpty) &&
   (if k=4 then sd n else if k=5 then dh t else if k=7 then decide (ns.length=is.length)&&fG [] ns&&cL is (d+1)else cL is (d+1))
def cL:List Json->Int->Bool
 | [],_=>true
 | x::l,d=>cC x d&&cL l d
end
theorem OG {d:Int}:∀ {l:List Json} {x:Json},cL l d=true->x∈l->cC x d=true
 | y::l,x,h,hx=>by
  simp only[cL,bF]at h;rcases eJ.1 hx with rfl|hx
  ·exact h.1
  ·exact OG h.2 hx
inductive Fs:Json->Int->Prop where
 | name (k:Int) (d:Int) (hd:d<=16) (hk:k=1\/k=2\/k=3):Fs ⟨k,⟨0,0⟩,[],[],[]⟩ d
 | num (n:au) (d:Int) (hd:d<=16) (hn:Fm n):Fs ⟨4,n,[],[],[]⟩ d
 | text (t:ad) (d:Int) (hd:d<=16) (ht:dh t=true):Fs ⟨5,⟨0,0⟩,t,[],[]⟩ d
 | arr (is:List Json) (d:Int) (hd:d<=16) (hi:cL is (d+1)=true):Fs ⟨6,⟨0,0⟩,[],[],is⟩ d
 | obj (ns:List ad) (is:List Json) (d:Int) (hd:d<=16) (hl:ns.length=is.length) (hu:fG [] ns=true) (hi:cL is (d+1)=true):Fs ⟨7,⟨0,0⟩,[],ns,is⟩ d
theorem kq {v:Json} {d:Int}:cC v d=true↔Fs v d:=by
 obtain ⟨k,⟨m,e⟩,t,ns,is⟩:=v;constructor
 ·intro h;simp only[cC,bF,je,decide_eq_true_eq,beq_iff_eq,List.isEmpty_iff]at h;obtain ⟨⟨⟨⟨⟨⟨hd,lT,fj⟩,hn⟩,ht⟩,ei⟩,ga⟩,hx⟩:=h;have hk:k=1\/k=2\/k=3\/k=4\/k=5\/k=6\/k=7:=by omega
  rcases hk with rfl|rfl|rfl|rfl|rfl|rfl|rfl
  ·simp at hn ht ei ga;obtain ⟨rfl,rfl⟩:=hn;subst ht ei ga;exact .name 1 d hd (by omega)
  ·simp at hn ht ei ga;obtain ⟨rfl,rfl⟩:=hn;subst ht ei ga;exact .name 2 d hd (by omega)
  ·simp at hn ht ei ga;obtain ⟨rfl,rfl⟩:=hn;subst ht ei ga;exact .name 3 d hd (by omega)
  ·simp at ht ei ga hx;subst ht ei ga;exact .num _ d hd (xn.1 hx)
  ·simp at hn ei ga hx;obtain ⟨rfl,rfl⟩:=hn;subst ei ga;exact .text t d hd hx
  ·simp at hn ht ei hx;obtain ⟨rfl,rfl⟩:=hn;subst ht ei;exact .arr is d hd hx
  ·simp at hn ht hx;obtain ⟨rfl,rfl⟩:=hn;subst ht;exact .obj ns is d hd hx.1.1 hx.1.2 hx.2
 ·intro h;cases h with
  | name _ _ hd hk=>rcases hk with rfl|rfl|rfl<;>simp[cC,cL,hd]
  | num _ _ hd hn=>simp[cC,hd,xn.2 hn]
  | text _ _ hd ht=>simp[cC,hd,ht]
  | arr _ _ hd hi=>simp[cC,hd,hi]
  | obj _ _ _ hd hl hu hi=>simp[cC,hd,hl,hu,hi]
def dW (t:ad):ad:=34::(t.flatMap qb++[34])
theorem IN {rs:List Nat} (hr:∀c∈rs,vr c):dW (bE rs)=qt rs:=by unfold dW qt; rw[Yl rs hr]
mutual
def bT:Json->ad
 | ⟨k,n,t,ns,is⟩=>if k=1 then gD else if k=2 then gC else if k=3 then jb else if k=4 then fR n else if k=5 then dW t else if k=7 then 123::(eO ns is true++[125])else 91::(fx is true++[93])
def fx:List Json->Bool->ad
 | [],_=>[]
 | x::l,first=>(if first then []else [44])++(bT x++fx l false)
def eO:List ad->List Json->Bool->ad
 | _,[],_=>[]
 | ns,x::l,first=>(if first then []else [44])++(dW (ns.headD [])++(58::(bT x++eO ns.tail l false)))
end
def ph (t:ad):gX:=([],dW t,⟨2,t,⟨0,0⟩,0⟩)
mutual
def mm:Json->List gX
 | ⟨k,n,t,ns,is⟩=>if k=1 then [([],gD,⟨4,gD,⟨0,0⟩,0⟩)]else if k=2 then [([],gC,⟨4,gC,⟨0,0⟩,0⟩)]else if k=3 then [([],jb,⟨4,jb,⟨0,0⟩,0⟩)]
   else if k=4 then [([],fR n,⟨3,fR n,n,0⟩)]else if k=5 then [ph t]else if k=7 then sg 123::(jt ns is true++[sg 125])else sg 91::(lr is true++[sg 93])
def lr:List Json->Bool->List gX
 | [],_=>[]
 | x::l,first=>(if first then []else [sg 44])++(mm x++lr l false)
def jt:List ad->List Json->Bool->List gX
 | _,[],_=>[]
 | ns,x::l,first=>(if first then []else [sg 44])++(ph (ns.headD [])::sg 58::(mm x++jt ns.tail l false))
end
mutual
theorem OH:∀(v:Json) (z:ad),eY (mm v) z=bT v++z
 | ⟨k,n,t,ns,is⟩,z=>by
  have hL:=amg is true;have hO:=amh ns is true;simp only[mm,bT];split
  ·simp[eY]
  split
  ·simp[eY]
  split
  ·simp[eY]
  split
  ·simp[eY]
  split
  ·simp[eY,ph]
  split
  ·simp only[eY,sg,AU,hO]; simp[eY,sg]
  ·simp only[eY,sg,AU,hL]; simp[eY,sg]
theorem amg:∀(l:List Json) (first:Bool) (z:ad),eY (lr l first) z=fx l first++z
 | [],_,z=>rfl
 | x::l,first,z=>by
  have h1:=OH x;have h2:=amg l false;simp only[lr,fx];rw[AU,AU,h1,h2];cases first<;>simp[eY,sg]
theorem amh:∀(ns:List ad) (l:List Json) (first:Bool) (z:ad),eY (jt ns l first) z=eO ns l first++z
 | ns,[],_,z=>by simp[jt,eO,eY]
 | ns,x::l,first,z=>by
  have h1:=OH x;have h2:=amh ns.tail l false;simp only[jt,eO];rw[AU];simp only[eY,ph,sg,AU,h1,h2];cases first<;>simp[eY,sg]
end
theorem YS {t:ad} (ht:dh t=true) (z:ad):okW [ph t] z:=by
 obtain ⟨rs,hr,rfl⟩:=Cw.1 ht;have e:=IN hr;have hw:=aFo hr;refine⟨by simp[ph],by simp only[ph,e]; exact hw.1,?_,trivial⟩;show tokS (dW (bE rs)++z)=some (⟨2,bE rs,⟨0,0⟩,0⟩,z);have e2:qt rs=34::(gW rs++[34]):=by unfold qt; simp
 have hu:=alu rs hr z;have e3:qt rs++z=34::(gW rs++[34]++z):=by rw[e2]; rfl
 rw[e,e3];rw[e3]at hu;simp only[tokS];rw[if_neg (by decide),if_pos (by decide),hu]
mutual
theorem OI:∀(v:Json) (d:Int),cC v d=true->∀z,xm z->okW (mm v) z
 | ⟨k,n,t,ns,is⟩,d,h,z,hz=>by
  have hL:=ami is;have hO:=amj ns is;cases kq.1 h with
  | name _ _ hd hk=>
   rcases hk with rfl|rfl|rfl
   ·exact AV (Fp (.inr (.inr rfl))) hz
   ·exact AV (Fp (.inr (.inl rfl))) hz
   ·exact AV (Fp (.inl rfl)) hz
  | num _ _ hd hn=>
   have e:fR n=ie n:=by unfold fR; rw[xn.2 hn]; rfl
   show okW [([],fR n,⟨3,fR n,n,0⟩)] z;rw[e];exact AV (al1 hn) hz
  | text _ _ hd ht=>exact YS ht z
  | arr _ _ hd hi=>
   show okW ([sg 91]++(lr is true++[sg 93])) z;rw[uP,uP];exact⟨AW (by decide) _,hL true (d+1) hi _ (OA (by decide) _),AW (by decide) _⟩
  | obj _ _ _ hd hl hu hi=>
   show okW ([sg 123]++(jt ns is true++[sg 125])) z;rw[uP,uP];exact⟨AW (by decide) _,hO true (d+1) hi hl [] hu _ (OA (by decide) _),AW (by decide) _⟩
theorem ami:∀(l:List Json) (first:Bool) (d:Int),cL l d=true->∀z,xm z->okW (lr l first) z
 | [],_,_,_,_,_=>trivial
 | x::l,first,d,h,z,hz=>by
  simp only[cL,bF]at h;have h1:=OI x d h.1;have h2:=ami l false d h.2 z hz;simp only[lr];rw[uP,uP];refine⟨?_,h1 _ ?_,h2⟩
  ·cases first
   ·exact AW (by decide) _
   ·trivial
  ·cases l with
   | nil=>exact hz
   | cons y l=>
    simp only[lr];exact OA (c:=44) (by decide) _
theorem amj:∀(ns:List ad) (l:List Json) (first:Bool) (d:Int),cL l d=true->ns.length=l.length->∀seen,fG seen ns=true->∀z,xm z->okW (jt ns l first) z
 | ns,[],_,_,_,_,_,_,_,_=>by simp[jt,okW]
 | [],_::_,_,_,_,hl,_,_,_,_=>by simp at hl
 | n::ns,x::l,first,d,h,hl,seen,hu,z,hz=>by
  simp only[cL,bF]at h;simp only[fG,bF]at hu;have h1:=OI x d h.1;have h2:=amj ns l false d h.2 (by simpa using hl) _ hu.2 z hz;simp only[jt,Ds,Dt];show okW ((if first=true then []else [sg 44])++([ph n]++([sg 58]++(mm x++jt ns l false)))) z;rw[uP,uP,uP,uP];refine⟨?_,YS hu.1.2 _,AW (by decide) _,h1 _ ?_,h2⟩
  ·cases first
   ·exact AW (by decide) _
   ·trivial
  ·cases l with
   | nil=>simp only[jt,eY]; exact hz
   | cons y l=>
    simp only[jt];exact OA (c:=44) (by decide) _
end
mutual
def nK:Json->Bool
 | ⟨_,_,t,ns,is⟩=>decide (ns.length<=1099511627776)&&decide (is.length<=1099511627776)&&qu is&&(decide (t.length<=10000000000)&&ns.all fun n=>decide (n.length<=10000000000))
def qu:List Json->Bool
 | []=>true
 | x::l=>nK x&&qu l
end
theorem Ft:∀ {l:List Json} {x:Json},qu l=true->x∈l->nK x=true
 | y::l,x,h,hx=>by
  simp only[qu,bF]at h;rcases eJ.1 hx with rfl|hx
  ·exact h.1
  ·exact Ft h.2 hx
theorem uQ {v:Json}:nK v=true↔v.names.length<=1099511627776/\v.items.length<=1099511627776/\qu v.items=true/\v.text.length<=10000000000/\∀n∈v.names,n.length<=10000000000:=by
 obtain ⟨k,n,t,ns,is⟩:=v;simp[nK,and_assoc]
theorem IP (a b:ad):mr .str a b=(a==b):=rfl
def OJ (m:List (ad×Bool)) (n:ad):Bool:=iu .str .bool n m
theorem aFL (m:List (ad×Bool)) (a b:ad):OJ (pD .str .bool a true m) b=((b==a)||OJ m b):=by
 induction m with
 | nil=>
  show(bif mr .str b a then true else false)=_;rw[IP];cases b==a<;>rfl
 | cons e m ih=>
  unfold OJ at ih ⊢;show iu .str .bool b (bif mr .str a e.1 then(a,true)::m else e::pD .str .bool a true m)=((b==a)||(bif mr .str b e.1 then e.2 else iu .str .bool b m));rw[IP,IP];by_cases h1:a=e.1
  ·have CS:(a==e.1)=true:=by simpa using h1
   rw[CS,cond_true];show(bif mr .str b a then true else iu .str .bool b m)=_;rw[IP,<-h1];cases b==a<;>rfl
  ·have CS:(a==e.1)=false:=by simpa using h1
   rw[CS,cond_false];show(bif mr .str b e.1 then e.2 else iu .str .bool b (pD .str .bool a true m))=_;rw[IP,ih];by_cases h2:b=a
   ·have h3:(b==e.1)=false:=by rw[h2]; exact CS
    rw[h3];rfl
   ·have h3:(b==a)=false:=by simpa using h2
    rw[h3];rfl
theorem aFM {R:Type} (ns:List ad) (hl:ns.length<=1099511627776) (k:Bool->Option R):∀(F i:Nat) (m:List (ad×Bool)) (seen:List ad),i<=ns.length->ns.length - i<F->(∀n,OJ m n=seen.contains n) ->
  rJ F ns (ns.length:Int) (i:Int) m (k true) k=k (fG seen (ns.drop i)):=by
 intro F
 induction F with
 | zero=>intro i m seen _ h; omega
 | succ F ih=>
  intro i m seen hi hF hm;show Lb fE (fun x0 x1 x2 x3=>rJ F x0 x1 x2 x3 (k true) k) ns (ns.length:Int) (i:Int) m (k true) k=_;unfold Lb;by_cases h:i<ns.length
  ·have h1:decide ((i:Int)<(ns.length:Int))=true:=by simp; omega
   have h2:(decide ((0:Int)<=(i:Int))&&true)=true:=by simp
   have hw:ae.wrap ((i:Int)+1)=((i+1:Nat):Int):=by rw[aV (by omega) (by omega)]; omega
   have hg:ns.getD (i:Int).toNat (Ty.az .str)=ns[i]:=getD_at h _;have ze:iu .str .bool ns[i] m=seen.contains ns[i]:=hm ns[i];rw[h1,cond_true,aw h2,hg,ze,hw,alv,im h];simp only[fG];cases seen.contains ns[i]with
   | true=>rfl
   | false=>
    cases dh ns[i]with
    | false=>rfl
    | true=>
     simp only[cond_false,cE,iq,oJ];refine ih (i+1) _ (ns[i]::seen) (by omega) (by omega) fun n => ?_
     rw[aFL,hm];simp only[nR]
  ·have h1:decide ((i:Int)<(ns.length:Int))=false:=by simp; omega
   rw[h1,cond_false,gQ (by omega)];rfl
theorem aFN {R:Type} (ns:List ad) (hl:ns.length<=1099511627776) (k:Bool->Option R):tY ns k=k (fG [] ns):=by
 have:=aFM ns hl k (av ns+ah (ns.length:Int)+ah 0+av ([]:List (ad×Bool))+64) 0 [] [] (by omega) (by omega) fun n=>rfl
 rw[fV]at this;exact this
theorem aFO {R:Type} (f:gq R) (is:List Json) (hl:is.length<=1099511627776) (d:Int) (hd:0<=d/\d<=16) (hf:∀x∈is,∀k:Bool->Option R,f x (d+1) k=k (cC x (d+1))) (k:Bool->Int->Option R):∀(F i:Nat),i<=is.length->is.length - i<F ->
  rL f F is (is.length:Int) (i:Int) d (fun y=>k (decide ((-1:Int)>=0)) y) (fun x y=>k (decide (x>=0)) y)=k (!cL (is.drop i) (d+1)) d:=by
 intro F
 induction F with
 | zero=>intro i _ h; omega
 | succ F ih=>
  intro i hi hF;show Lh (p8 f) (fun x0 x1 x2 x3=>rL f F x0 x1 x2 x3 _ _) is (is.length:Int) (i:Int) d _ _=_;unfold Lh;by_cases h:i<is.length
  ·have h1:decide ((i:Int)<(is.length:Int))=true:=by simp; omega
   have h2:(decide ((0:Int)<=(i:Int))&&true)=true:=by simp
   have hw:ae.wrap ((i:Int)+1)=((i+1:Nat):Int):=by rw[aV (by omega) (by omega)]; omega
   have YT:ae.wrap (d+1)=d+1:=aV (by omega) (by omega);have hg:is.getD (i:Int).toNat (Ty.az .json)=is[i]:=getD_at h _;have hj:(decide ((i:Int)>=0))=true:=by simp
   have he:∀(x:Json) (q:Bool->Int->Option R),p8 f x d q=f x (ae.wrap (d+1)) fun y=>q (!y) d:=fun x q=>by
    show Le f x d q=_;unfold Le;simp only[Json.eta]
   rw[h1,cond_true,aw h2,hg,Json.eta,he,YT,hf _ (jd h),im h];simp only[cL];cases cC is[i] (d+1)with
   | false=>simp only[iq,cond_true,lu,hj]
   | true=>
    simp only[cE,cond_false,oJ];rw[hw];exact ih (i+1) (by omega) (by omega)
  ·have h1:decide ((i:Int)<(is.length:Int))=false:=by simp; omega
   rw[h1,cond_false,gQ (by omega)];rfl
theorem aFP {R:Type} (f:gq R) (is:List Json) (hl:is.length<=1099511627776) (d:Int) (hd:0<=d/\d<=16) (hf:∀x∈is,∀k:Bool->Option R,f x (d+1) k=k (cC x (d+1))) (k:Bool->Int->Option R) :
  mH f is d k=k (!cL is (d+1)) d:=by
 have:=aFO f is hl d hd hf k (av is+ah (is.length:Int)+ah 0+ah d+64) 0 (by omega) (by omega);rw[fV]at this;exact this
theorem aFQ {l:List Json} {y:Json} (h:y∈l):y.depth<=Json.tR l:=by
 induction l with
 | nil=>cases h
 | cons a l ih=>
  simp only[Json.tR];rcases eJ.1 h with rfl|h
  ·exact Nat.le_max_left _ _
  ·exact pw (ih h) (Nat.le_max_right _ _)
theorem aFR (x:Json):x.depth=Json.tR x.items+1:=by cases x; simp[Json.depth]
theorem OK {x y:Json} (h:y∈x.items):y.depth<x.depth:=by rw[aFR x]; exact Nat.lt_succ_of_le (aFQ h)
theorem aFS {R:Type} (k n1 n2:Int) (t:ad) (ns:List ad) (is:List Json) (q:Json->Option R):wj ⟨k,⟨n1,n2⟩,t,ns,is⟩ q =
  q ⟨k,if k=4 then⟨0,0⟩else⟨n1,n2⟩,if k=5 then []else t,if k=7 then []else ns,if k=6\/k=7 then []else is⟩:=by
 show K7 _ q=_;unfold K7;simp only;by_cases h4:k=4
 ·subst h4; rfl
 by_cases h5:k=5
 ·subst h5; rfl
 by_cases h7:k=7
 ·subst h7; rfl
 by_cases h6:k=6
 ·subst h6; rfl
 have e4:(k==4)=false:=by simpa using h4
 have e5:(k==5)=false:=by simpa using h5
 have e6:(k==6)=false:=by simpa using h6
 have e7:(k==7)=false:=by simpa using h7
 rw[e4,e5,e6,e7];simp[h4,h5,h6,h7]
theorem chain {R:Type} (k:Bool->Option R) {a b c:Bool} {x:Option R} {r:Bool} (hx:a=true->b=true->c=false->x=k r) (hr:(a=true/\b=true/\c=false)\/r=false) :
  (bif !a then k false else(bif !b then k false else(bif c then k false else x)))=k r:=by
 cases a with
 | false=>
  rcases hr with ⟨h,_⟩|rfl
  ·cases h
  ·rfl
 | true=>
  cases b with
  | false=>
   rcases hr with ⟨_,h,_⟩|rfl
   ·cases h
   ·rfl
  | true=>
   cases c with
   | true=>
    rcases hr with ⟨_,_,h⟩|rfl
    ·cases h
    ·rfl
   | false=>exact hx rfl rfl rfl
theorem aFT {R:Type}:∀(n:Nat) (v:Json) (d:Int),nK v=true->v.depth<n->0<=d->d<=17->∀k:Bool->Option R,l7 n v d k=k (cC v d):=by
 intro n
 induction n with
 | zero=>intro v d _ h; omega
 | succ n ih=>
  intro v d hv hn YU Ei k;obtain ⟨ei,ga,nc,_⟩:=uQ.1 hv;have he:l7 (n+1) v d k=Lj fE fY wj tY (mH (l7 n)) v d k:=rfl;rw[he];have OL:d<=16->∀q:Bool->Int->Option R,mH (l7 n) v.items d q=q (!cL v.items (d+1)) d:=fun lv q=>
   aFP _ _ ga d ⟨YU,lv⟩ (fun x hx k=>ih x (d+1) (Ft nc hx) (by have:=OK hx; omega) (by omega) (by omega) k) q
  obtain ⟨kd,⟨n1,n2⟩,t,ns,is⟩:=v;unfold Lj;simp only at ei ga OL ⊢;rw[aFS];simp only;by_cases lv:d<=16;rotate_left
  ·have e1:decide (d>16)=true:=by simp; omega
   rw[e1,cond_true];simp[cC,lv]
  have e1:decide (d>16)=false:=by simp; omega
  rw[e1,cond_false];by_cases lT:kd<1
  ·have e2:decide (kd<1)=true:=by simpa using lT
   have:¬1<=kd:=by omega
   rw[e2,cond_true];simp[cC,this]
  have e2:decide (kd<1)=false:=by simpa using lT
  rw[e2,cond_false];by_cases hk7:kd>7
  ·have e3:decide (kd>7)=true:=by simpa using hk7
   have:¬kd<=7:=by omega
   rw[e3,cond_true];simp[cC,this]
  have e3:decide (kd>7)=false:=by simpa using hk7
  rw[e3,cond_false];have hk:kd=1\/kd=2\/kd=3\/kd=4\/kd=5\/kd=6\/kd=7:=by omega
  have CT:∀a b:Nat,a<=1099511627776->b<=1099511627776->decide (ae.wrap ((a:Int)+(b:Int))>0)=!(a==0&&b==0):=by
   intro a b ha hb;rw[aV (by omega) (by omega)];rw[FQ,decide_eq_true_eq];simp only[xx,Z1,beq_eq_false_iff_ne];omega
  have Fu:∀l:List ad,(l.length==0)=l.isEmpty:=fun l=>by cases l<;>rfl
  have IQ:∀l:List Json,(l.length==0)=l.isEmpty:=fun l=>by cases l<;>rfl
  have oR:∀l:ad,(l==([]:ad))=l.isEmpty:=fun l=>by cases l<;>rfl
  have iw:∀d:Int,cL [] d=true:=fun _=>rfl
  have Fv:∀a b:Int,((a==0)&&((b==0)&&true))=(a==0&&b==0):=fun a b=>by cases a==0<;>cases b==0<;>rfl
  have YV:∀q:Bool->Int->Option R,is.isEmpty=true->mH (l7 n) is d q=q false d:=fun q h=>by
   rw[OL lv];obtain rfl:is=[]:=List.isEmpty_iff.1 h;rfl
  have YW:∀a b c:Bool,(a=true/\b=true/\(!c)=false)\/((a&&b)&&c)=false:=by decide
  have hb4:∀b c q:Bool,(true=true/\b=true/\(!c)=false)\/((b&&c)&&q)=false:=by decide
  have hb5:∀a c q:Bool,(a=true/\true=true/\(!c)=false)\/((a&&c)&&q)=false:=by decide
  have hb6:∀a b c q:Bool,(a=true/\b=true/\(!c)=false)\/(((a&&b)&&c)&&q)=false:=by decide
  have hb7:∀a b q:Bool,(a=true/\b=true/\false=false)\/((a&&b)&&q)=false:=by decide
  rcases hk with rfl|rfl|rfl|rfl|rfl|rfl|rfl
  ·have hr:cC ⟨1,⟨n1,n2⟩,t,ns,is⟩ d=(((n1==0&&n2==0)&&t.isEmpty)&&(ns.isEmpty&&is.isEmpty)):=by
    cases is<;>simp[cC,cL,lv]
   simp only[F0,if_false,or_self,Fv];rw[CT _ _ ei ga,Fu,IQ,oR,hr];refine chain k (fun h1 h2 h3 => ?_) (YW _ _ _);have h4:ns.isEmpty=true/\is.isEmpty=true:=by simpa using h3
   rw[h1,h2,h4.1,h4.2];show mH (l7 n) is d (fun cd aU=>k (!cd))=k true;exact YV _ h4.2
  ·have hr:cC ⟨2,⟨n1,n2⟩,t,ns,is⟩ d=(((n1==0&&n2==0)&&t.isEmpty)&&(ns.isEmpty&&is.isEmpty)):=by
    cases is<;>simp[cC,cL,lv]
   simp only[F0,if_false,or_self,Fv];rw[CT _ _ ei ga,Fu,IQ,oR,hr];refine chain k (fun h1 h2 h3 => ?_) (YW _ _ _);have h4:ns.isEmpty=true/\is.isEmpty=true:=by simpa using h3
   rw[h1,h2,h4.1,h4.2];show mH (l7 n) is d (fun cd aU=>k (!cd))=k true;exact YV _ h4.2
  ·have hr:cC ⟨3,⟨n1,n2⟩,t,ns,is⟩ d=(((n1==0&&n2==0)&&t.isEmpty)&&(ns.isEmpty&&is.isEmpty)):=by
    cases is<;>simp[cC,cL,lv]
   simp only[F0,if_false,or_self,Fv];rw[CT _ _ ei ga,Fu,IQ,oR,hr];refine chain k (fun h1 h2 h3 => ?_) (YW _ _ _);have h4:ns.isEmpty=true/\is.isEmpty=true:=by simpa using h3
   rw[h1,h2,h4.1,h4.2];show mH (l7 n) is d (fun cd aU=>k (!cd))=k true;exact YV _ h4.2
  ·have hr:cC ⟨4,⟨n1,n2⟩,t,ns,is⟩ d=((t.isEmpty&&(ns.isEmpty&&is.isEmpty))&&sd ⟨n1,n2⟩):=by
    simp[cC,lv,Dn]
   simp only[F0,if_false,if_true,or_self];rw[CT _ _ ei ga,Fu,IQ,oR,hr];refine chain k (a:=true) (b:=t.isEmpty) (c := !(ns.isEmpty&&is.isEmpty)) (fun h1 h2 h3 => ?_) (hb4 _ _ _);have h4:ns.isEmpty=true/\is.isEmpty=true:=by simpa using h3
   rw[h2,h4.1,h4.2];exact amd _ _
  ·have hr:cC ⟨5,⟨n1,n2⟩,t,ns,is⟩ d=(((n1==0&&n2==0)&&(ns.isEmpty&&is.isEmpty))&&dh t):=by
    simp[cC,lv,Dn]
   simp only[F0,if_false,if_true,or_self,Fv];rw[CT _ _ ei ga,Fu,IQ,hr];refine chain k (a:=(n1==0&&n2==0)) (b:=true) (c := !(ns.isEmpty&&is.isEmpty)) (fun h1 h2 h3 => ?_) (hb5 _ _ _);have h4:ns.isEmpty=true/\is.isEmpty=true:=by simpa using h3
   rw[h1,h4.1,h4.2];exact alv _ _
  ·have hr:cC ⟨6,⟨n1,n2⟩,t,ns,is⟩ d=((((n1==0&&n2==0)&&t.isEmpty)&&ns.isEmpty)&&cL is (d+1)):=by
    simp[cC,lv,Dn]
   simp only[F0,if_false,if_true,true_or,Fv];have qs:=CT ns.length 0 ei (by omega);have hq:((0:Nat)==0)=true:=rfl;rw[hq,qD,Fu]at qs;rw[cu,qs,oR,hr];refine chain k (a:=(n1==0&&n2==0)) (b:=t.isEmpty) (c := !ns.isEmpty) (fun h1 h2 h3 => ?_) (hb6 _ _ _ _);have h4:ns.isEmpty=true:=by simpa using h3
   rw[h1,h2,h4];show mH (l7 n) is d (fun cd aU=>k (!cd))=k (cL is (d+1));rw[OL lv,Bool.not_not]
  ·have hr:cC ⟨7,⟨n1,n2⟩,t,ns,is⟩ d=(((n1==0&&n2==0)&&t.isEmpty)&&(decide (ns.length=is.length)&&fG [] ns&&cL is (d+1))):=by
    simp[cC,lv,Dn]
   simp only[F0,if_false,if_true,or_true,Fv];have qs:=CT 0 0 (by omega) (by omega);rw[cu,cu,qs,oR,hr];refine chain k (a:=(n1==0&&n2==0)) (b:=t.isEmpty) (c:=false) (fun h1 h2 h3 => ?_) (hb7 _ _ _);rw[h1,h2];show(bif((ns.length:Int) != (is.length:Int))then k false else tY ns (fun y7=>bif !y7 then k false else mH (l7 n) is d (fun aS bg=>k (!aS))))=_;by_cases hl:ns.length=is.length
   ·have e9:((ns.length:Int) != (is.length:Int))=false:=by rw[hl]; simp
    rw[e9,cond_false,aFN ns ei,OL lv,Bool.not_not];cases fG [] ns<;>simp[hl]
   ·have e9:((ns.length:Int) != (is.length:Int))=true:=by simp; omega
    rw[e9,cond_true];simp[hl]
theorem aFU {R:Type} (v:Json) (hv:nK v=true) (k:Bool->Option R):tZ v k=k (cC v 1):=by
 have e:tZ v k=Ll wm v k:=rfl;rw[e];unfold Ll;simp only[Json.eta];exact aFT (v.depth+2) v 1 hv (by omega) (by omega) (by omega) k
theorem zf (p:UInt8->Bool) (s:ad):(s.takeWhile p).length+(s.dropWhile p).length=s.length:=by
 have:=congrArg av (vm (p:=p) (l:=s));rwa [bf]at this
theorem amk (p:UInt8->Bool) (s:ad):s.take (s.takeWhile p).length=s.takeWhile p:=by
 have:=PW (l₁:=s.takeWhile p) (l₂:=s.dropWhile p);rwa [vm]at this
theorem aml (p:UInt8->Bool) (s:ad):s.drop (s.takeWhile p).length=s.dropWhile p:=by
 have:=Jm (l₁:=s.takeWhile p) (l₂:=s.dropWhile p);rwa [vm]at this
theorem YX {R:Type} (s cs:ad) (hs:s.length<=4000000000) (h1:kh cs=true) (h2:cs.length<4294967281) (k:ad->Option R):iH s cs k=k (s.takeWhile (cs.contains ·)):=by
 have e:iH s cs k=LQ s cs k:=rfl;rw[e];unfold LQ;have hl:=zf (cs.contains ·) s;have ht:(aK s cs).length=(s.dropWhile (cs.contains ·)).length:=rfl;have hw:ae.wrap ((s.length:Int) - ((aK s cs).length:Int))=((s.takeWhile (cs.contains ·)).length:Int):=by rw[ht,aV (by omega) (by omega)]; omega
 rw[hw,h1,aw (by rw[ai h2]; rfl),aw (by rw[ai (by omega),ai (by omega)]; rfl),aw (ai (by omega)),fV,vl,cM,amk]
theorem aFV (c:UInt8):decide (v7 CO (c.toNat:Int)>=0)=lP c:=by
 have hi:v7 CO (c.toNat:Int)=so CO c:=by
  unfold v7;rw[cM];simp
 have h:=Ot c CO;rw[hi];unfold lP;cases hc:CO.contains c with
 | true=>
  apply ai;have:¬so CO c<0:=fun g=>by rw[h.1 g]at hc; cases hc
  omega
 | false=>
  apply aE;have:=h.2 hc;omega
theorem aFW {R:Type} (s:ad) (hs:s.length<=4000000000) (h0:s≠[]) (k:Token->Int->Option R) :
  qf s k=match tokS s with|some (t,r)=>k t ((s.length - r.length:Nat):Int)|none=>k ⟨0,[],⟨0,0⟩,0⟩ 0:=by
 have e:qf s k=Ml qe mJ iH s k:=rfl;rw[e];unfold Ml;cases s with
 | nil=>exact(h0 rfl).elim
 | cons c u=>
  have hlen:(c::u:ad).length=u.length+1:=rfl;have hg:(c::u:ad).getD 0 0=c:=rfl;simp only[bj]at hs;rw[hg,aw (ai (by rw[hlen]; omega))];simp only;have sc:((c.toNat:Int)==45)=decide (c.toNat=45):=fP _ 45;have th:((c.toNat:Int)==34)=decide (c.toNat=34):=fP _ 34;have l48:decide ((c.toNat:Int)>=48)=decide (48<=c.toNat):=by
   by_cases h:48<=c.toNat
   ·rw[ai h,ai (by omega)]
   ·rw[aE h,aE (by omega)]
  have l57:decide ((c.toNat:Int)<=57)=decide (c.toNat<=57):=by
   by_cases h:c.toNat<=57
   ·rw[ai h,ai (by omega)]
   ·rw[aE h,aE (by omega)]
  have pg:decide (v7 ([123,125,91,93,44,58]:ad) (c.toNat:Int)>=0)=lP c:=aFV c;have aX:∀p:UInt8->Bool,((c::u).takeWhile p).length<=(c::u).length:=fun p=>by have:=zf p (c::u); omega
  have num:∀k:Token->Int->Option R,iH (c::u) ([48,49,50,51,52,53,54,55,56,57,43,45,46,101,69]:ad) (fun y6=>mJ y6 (fun y7 y8=>bif(!y8)then(k (⟨0,([]:ad),⟨0,0⟩,0⟩:Token) 0)else(k (⟨3,y6,⟨y7.aj,y7.exp⟩,0⟩:Token) (y6.length:Int)))) =
    (if(kW ((c::u).takeWhile dV)).2 then k ⟨3,(c::u).takeWhile dV,(kW ((c::u).takeWhile dV)).1,0⟩ (((c::u).length - ((c::u).dropWhile dV).length:Nat):Int)else k ⟨0,[],⟨0,0⟩,0⟩ 0):=fun k=>by
   rw[YX _ _ (by rw[hlen]; omega) rfl (by decide)];have e:(c::u).takeWhile (fun x=>List.contains [48,49,50,51,52,53,54,55,56,57,43,45,46,101,69] x)=(c::u).takeWhile dV:=rfl;have hl:=aX dV;have hd:=zf dV (c::u);rw[e,alU _ (by omega)];have el:(c::u).length - ((c::u).dropWhile dV).length=((c::u).takeWhile dV).length:=by omega
   rw[el];cases (kW ((c::u).takeWhile dV)).2<;>rfl
  have txt:∀k:Token->Int->Option R,qe (c::u) (fun bU cA cP=>bif(!cP)then(k (⟨0,([]:ad),⟨0,0⟩,0⟩:Token) 0)else(k (⟨2,bU,⟨0,0⟩,0⟩:Token) cA)) =
    match nI (c::u)with|some (o,r)=>k ⟨2,o,⟨0,0⟩,0⟩ (((c::u).length - r.length:Nat):Int)|none=>k ⟨0,[],⟨0,0⟩,0⟩ 0:=fun k=>by
   rw[aEn _ (by rw[hlen]; omega)];cases hu:nI (c::u)with
   | none=>rfl
   | some p=>
    obtain ⟨o,r⟩:=p;obtain ⟨_,hr,_⟩:=YH hu;simp only[cE,cond_false];rw[aV (by omega) (by omega)];congr 1;omega
  have OM:∀k:Token->Int->Option R,iH (c::u) ([97,98,99,100,101,102,103,104,105,106,107,108,109,110,111,112,113,114,115,116,117,118,119,120,121,122]:ad) (fun bB=>bif(bB==([116,114,117,101]:ad))then(k (⟨4,bB,⟨0,0⟩,0⟩:Token) (bB.length:Int))else(bif(bB==([102,97,108,115,101]:ad))then(k (⟨4,bB,⟨0,0⟩,0⟩:Token) (bB.length:Int))else(bif(!(bB==([110,117,108,108]:ad)))then(k (⟨0,([]:ad),⟨0,0⟩,0⟩:Token) 0)else(k (⟨4,bB,⟨0,0⟩,0⟩:Token) (bB.length:Int))))) =
    (if(c::u).takeWhile dv=jb\/(c::u).takeWhile dv=gC\/(c::u).takeWhile dv=gD then k ⟨4,(c::u).takeWhile dv,⟨0,0⟩,0⟩ (((c::u).length - ((c::u).dropWhile dv).length:Nat):Int)else k ⟨0,[],⟨0,0⟩,0⟩ 0):=fun k=>by
   rw[YX _ _ (by rw[hlen]; omega) rfl (by decide)];have e:(c::u).takeWhile (fun x=>List.contains [97,98,99,100,101,102,103,104,105,106,107,108,109,110,111,112,113,114,115,116,117,118,119,120,121,122] x)=(c::u).takeWhile dv:=rfl;have hd:=zf dv (c::u);have el:(c::u).length - ((c::u).dropWhile dv).length=((c::u).takeWhile dv).length:=by omega
   rw[e,el];generalize (c::u).takeWhile dv=w;have eq:∀a:ad,(w==a)=decide (w=a):=fun a=>by
    by_cases h:w=a
    ·rw[ai h]; exact beq_iff_eq.2 h
    ·rw[aE h]; exact beq_eq_false_iff_ne.2 h
   rw[eq,eq,eq];by_cases h1:w=jb
   ·rw[ai (show w=[116,114,117,101]from h1),if_pos (.inl h1)]; rfl
   ·by_cases h2:w=gC
    ·rw[aE (show ¬w=[116,114,117,101]from h1),ai (show w=[102,97,108,115,101]from h2),if_pos (.inr (.inl h2))]; rfl
    ·by_cases h3:w=gD
     ·rw[aE (show ¬w=[116,114,117,101]from h1),aE (show ¬w=[102,97,108,115,101]from h2),ai (show w=[110,117,108,108]from h3),if_pos (.inr (.inr h3))]; rfl
     ·rw[aE (show ¬w=[116,114,117,101]from h1),aE (show ¬w=[102,97,108,115,101]from h2),aE (show ¬w=[110,117,108,108]from h3),if_neg (by rintro (h|h|h); exact h1 h; exact h2 h; exact h3 h)]; rfl
  have aFX:∀k:Token->Int->Option R,ag (decide ((1:Int)<=((c::u:ad).length:Int))) (k (⟨1,(((c::u:ad).drop 0).take (1 - 0)),⟨0,0⟩,0⟩:Token) 1)=k ⟨1,[c],⟨0,0⟩,0⟩ (((c::u).length - u.length:Nat):Int):=fun k=>by
   have e1:(c::u).length - u.length=1:=by rw[hlen]; omega
   rw[aw (ai (by rw[hlen]; omega)),e1];rfl
  simp only[tokS];rw[sc,th,l48,l57,pg];by_cases A1:c.toNat=45
  ·rw[ai A1,cond_true,if_pos (.inl A1)];refine(num k).trans ?_;split<;>rfl
  ·rw[aE A1,cond_false];have rest:¬(48<=c.toNat/\c.toNat<=57)->(bif decide (c.toNat=34)then qe (c::u) (fun bU cA cP=>bif(!cP)then(k (⟨0,([]:ad),⟨0,0⟩,0⟩:Token) 0)else(k (⟨2,bU,⟨0,0⟩,0⟩:Token) cA))else(bif lP c then ag (decide ((1:Int)<=((c::u:ad).length:Int))) (k (⟨1,(((c::u:ad).drop 0).take (1 - 0)),⟨0,0⟩,0⟩:Token) 1)else iH (c::u) ([97,98,99,100,101,102,103,104,105,106,107,108,109,110,111,112,113,114,115,116,117,118,119,120,121,122]:ad) (fun bB=>bif(bB==([116,114,117,101]:ad))then(k (⟨4,bB,⟨0,0⟩,0⟩:Token) (bB.length:Int))else(bif(bB==([102,97,108,115,101]:ad))then(k (⟨4,bB,⟨0,0⟩,0⟩:Token) (bB.length:Int))else(bif(!(bB==([110,117,108,108]:ad)))then(k (⟨0,([]:ad),⟨0,0⟩,0⟩:Token) 0)else(k (⟨4,bB,⟨0,0⟩,0⟩:Token) (bB.length:Int))))))) =
     match (if c.toNat=45\/(48<=c.toNat/\c.toNat<=57)then(if(kW ((c::u).takeWhile dV)).2 then some (⟨3,(c::u).takeWhile dV,(kW ((c::u).takeWhile dV)).1,0⟩,(c::u).dropWhile dV)else none)else if c.toNat=34 then(match nI (c::u)with|some (o,r)=>some (⟨2,o,⟨0,0⟩,0⟩,r)|none=>none)else if lP c then some ((⟨1,[c],⟨0,0⟩,0⟩:Token),u)else if(c::u).takeWhile dv=jb\/(c::u).takeWhile dv=gC\/(c::u).takeWhile dv=gD then some (⟨4,(c::u).takeWhile dv,⟨0,0⟩,0⟩,(c::u).dropWhile dv)else none)with
     | some (t,r)=>k t (((c::u).length - r.length:Nat):Int)|none=>k ⟨0,[],⟨0,0⟩,0⟩ 0:=by
    intro hd;rw[if_neg (by rintro (h|h); exact A1 h; exact hd h)];by_cases du:c.toNat=34
    ·rw[ai du,cond_true,if_pos du,txt];cases nI (c::u)with
     | none=>rfl
     | some p=>rfl
    ·rw[aE du,cond_false,if_neg du];cases GX:lP c with
     | true=>rw[cond_true,aFX,if_pos rfl]
     | false=>
      rw[cond_false,OM,if_neg (show ¬(false=true) by simp)];split<;>rfl
   by_cases mj:48<=c.toNat
   ·rw[ai mj,cond_true];by_cases Fw:c.toNat<=57
    ·rw[ai Fw,cond_true,if_pos (.inr ⟨mj,Fw⟩)];refine(num k).trans ?_;split<;>rfl
    ·rw[aE Fw,cond_false];exact rest (fun h=>Fw h.2)
   ·rw[aE mj,cond_false];exact rest (fun h=>mj h.1)
theorem aFY {R:Type} (s:ad) (hs:s.length<=20000) (e0:List Token->Int->Int->Option R) (e1:Int->Int->Option R) (hz:∀a b,e0 [] a b=e1 a b):∀(n p:Nat) (out:List Token),s.length - p<n->p<=s.length->out.length<=p ->
  qg n s out (p:Int) e0 e1=e0 (fQ n p (s.drop p) out).1 (fQ n p (s.drop p) out).2.1 (fQ n p (s.drop p) out).2.2:=by
 intro n
 induction n with
 | zero=>intro p out h; omega
 | succ n ih=>
  intro p out h1 h2 h3;rw[qg];unfold UX;have CR:∀q:Nat,(s.drop q).take ((s.length:Int).toNat - q)=s.drop q:=fun q=>sk (by rw[ct,cM]; exact cD _)
  have hl:=zf da (s.drop p);rw[ct]at hl;have CQ:(s.drop p).length=s.length - p:=ct;rw[aw (by rw[ai (by omega),ai (by omega)]; rfl),aw (by rw[ai (by omega),ai (by omega)]; rfl),cM p,CR,YX _ _ (by omega) rfl (by decide)];have eb:(s.drop p).takeWhile (fun x=>List.contains [32,9,10,13] x)=(s.drop p).takeWhile da:=rfl;rw[eb];have hdd:s.drop (p+((s.drop p).takeWhile da).length)=(s.drop p).dropWhile da:=by rw[<-aml da (s.drop p),py]
  have hw:ae.wrap ((p:Int)+(((s.drop p).takeWhile da).length:Int))=((p+((s.drop p).takeWhile da).length:Nat):Int):=by rw[aV (by omega) (by omega)]; omega
  rw[hw];simp only[fQ];generalize hq:p+((s.drop p).takeWhile da).length=q at *;by_cases qv:(s.drop p).dropWhile da=[]
  ·have hqe:q=s.length:=by rw[qv]at hl; simp at hl; omega
   have qR:(((q:Nat):Int)==(s.length:Int))=true:=by rw[hqe]; simp
   rw[qR,cond_true,aw (ai (by omega)),if_pos qv]
  ·have mX:0<((s.drop p).dropWhile da).length:=Ba.2 qv;have qR:(((q:Nat):Int)==(s.length:Int))=false:=by rw[beq_eq_false_iff_ne]; omega
   rw[qR,cond_false,aw (by rw[ai (by omega),ai (by omega)]; rfl),aw (by rw[ai (by omega),ai (by omega)]; rfl),cM q,CR,hdd,aFW _ (by omega) qv,if_neg qv];cases ht:tokS ((s.drop p).dropWhile da)with
   | none=>
    have CN:((0:Int)==0)=true:=rfl;simp only;rw[CN,cond_true,hz]
   | some x=>
    obtain ⟨t,r⟩:=x;obtain ⟨f1,f2⟩:=tokS_sfx ht;have hn:((((s.drop p).dropWhile da).length - r.length:Nat):Int)≠0:=by omega
    simp only;rw[beq_eq_false_iff_ne.2 hn,cond_false,aw (ai (by omega))];have oP:ae.wrap (((q:Nat):Int)+((((s.drop p).dropWhile da).length - r.length:Nat):Int))=((p+((s.drop p).length - r.length):Nat):Int):=by rw[aV (by omega) (by omega)]; omega
    rw[oP];have hr:s.drop (p+((s.drop p).length - r.length))=r:=by
     have:=alW (f1.trans (List.dropWhile_suffix da));rw[<-py,<-this]
    have key:=ih (p+((s.drop p).length - r.length)) (out++[zd t ((q:Nat):Int)]) (by omega) (by omega) (by simp; omega);rw[hr]at key;exact key
theorem aFZ {R:Type} (s:ad) (k:List Token->Int->Int->Option R):uh s k=k (eX s).1 (eX s).2.1 (eX s).2.2:=by
 have e:uh s k=Mo qg s k:=rfl;rw[e];unfold Mo eX;by_cases h:20000<s.length
 ·rw[ai (show(s.length:Int)>20000 by omega),cond_true,if_pos h]
 ·rw[aE (show ¬(s.length:Int)>20000 by omega),cond_false,if_neg h];have key:=aFY (R:=R) s (by omega) (fun y8 y9 bu=>k y8 y9 bu) (fun aS bg=>k [] aS bg) (fun _ _=>rfl) (av s+av ([]:List Token)+ah 0+64) 0 [] (by omega) (by omega) (by simp);rw[fV,Oz _ (s.length+1) 0 s [] (by omega) (by omega)]at key;exact key
abbrev ju:=Int×List Token
def cJ (x:ad):List Token->Option (List Token)
 | t::r=>if t.kind=1/\t.text=x then some r else none
 | []=>none
def pj (ns:List ad):List Token->Except ju (ad×List Token)
 | t::r=>
  if t.kind≠2 then .error (40,t::r)else if ns.contains t.text then .error (42,t::r)else
   match cJ [58] r with
   | some r'=>.ok (t.text,r')
   | none=>.error (40,r)
 | []=>.error (0,[])
def jX (f:List Token->Except ju (Json×List Token)) (obj:Bool) (ns:List ad) (is:List Json) (ts:List Token):Except ju ((List ad×List Json)×List Token):=
 match obj with
 | true=>
  (match pj ns ts with
   | .error b=>.error b
   | .ok (nm,zg)=>(match f zg with | .error b=>.error b | .ok (v,eG)=>.ok ((ns++[nm],is++[v]),eG)))
 | false=>(match f ts with | .error b=>.error b | .ok (v,eG)=>.ok ((ns,is++[v]),eG))
def iN (f:List Token->Except ju (Json×List Token)) (cl:ad) (obj:Bool):Nat->List ad->List Json->List Token->Except ju ((List ad×List Json)×List Token)
 | 0,_,_,ts=>.error (0,ts)
 | m+1,ns,is,ts=>
  match jX f obj ns is ts with
  | .error b=>.error b
  | .ok (p,eG)=>
   match cJ cl eG with
   | some r=>.ok (p,r)
   | none=>
    match cJ [44] eG with
    | some r=>iN f cl obj m p.1 p.2 r
    | none=>.error (40,eG)
def qw (t:ad):Bool:=t==gD||(t==gC||t==jb)
def Fx:List (ad×Int):=[(gD,1),(gC,2),(jb,3)]
def mP (t:ad):Bool:=t==[91]||t==[123]
def jY (t:Token):Bool:=t.kind==2||(t.kind==3||(t.kind==4||(t.kind==1&&mP t.text)))
def eH:Nat->Int->List Token->Except ju (Json×List Token)
 | 0,_,ts=>.error (0,ts)
 | _+1,_,[]=>.error (0,[])
 | n+1,d,t::r=>
  if jY t=false then .error (40,t::r)else
  if d>16 then .error (41,t::r)else
  if t.kind=1/\mP t.text=true then
   let obj:=t.text==[123]
   let k:Int:=if obj then 7 else 6
   let cl:ad:=if obj then [125]else [93]
   match cJ cl r with
   | some r'=>.ok (⟨k,⟨0,0⟩,[],[],[]⟩,r')
   | none=>
    match iN (eH n (d+1)) cl obj (r.length+1) [] [] r with
    | .error b=>.error b
    | .ok (p,r')=>.ok (⟨k,⟨0,0⟩,[],p.1,p.2⟩,r')
  else if t.kind=4/\qw t.text=true then .ok (⟨iu .str (.int .i64) t.text Fx,⟨0,0⟩,[],[],[]⟩,r)
  else if t.kind=3 then .ok (⟨4,t.num,[],[],[]⟩,r)
  else .ok (⟨5,⟨0,0⟩,t.text,[],[]⟩,r)
theorem zh {x:ad} {ts r:List Token} (h:cJ x ts=some r):r.length<ts.length:=by
 cases ts with
 | nil=>cases h
 | cons t ts=>
  simp only[cJ]at h;split at h
  ·cases h; simp
  ·cases h
theorem amm {ns:List ad} {ts:List Token} {p:ad×List Token} (h:pj ns ts=.ok p):p.2.length<ts.length:=by
 cases ts with
 | nil=>cases h
 | cons t ts=>
  simp only[pj]at h;split at h
  ·cases h
  ·split at h
   ·cases h
   ·split at h
    ·rename_i r hr;have:=zh hr;cases h;simp; omega
    ·cases h
theorem YY {f:List Token->Except ju (Json×List Token)} (hf:∀ts p,f ts=.ok p->p.2.length<ts.length) {obj:Bool} {ns:List ad} {is:List Json} {ts:List Token} {p:(List ad×List Json)×List Token} (h:jX f obj ns is ts=.ok p) :
  p.2.length<ts.length:=by
 cases obj with
 | true=>
  simp only[jX]at h;split at h
  ·cases h
  ·rename_i nm zg hn;have h1:=amm hn;split at h
   ·cases h
   ·rename_i v eG hv;have h2:=hf _ _ hv;cases h;simp only at h1 h2 ⊢;omega
 | false=>
  simp only[jX]at h;split at h
  ·cases h
  ·rename_i v eG hv;have h2:=hf _ _ hv;cases h;exact h2
theorem amn {f:List Token->Except ju (Json×List Token)} (hf:∀ts p,f ts=.ok p->p.2.length<ts.length) {cl:ad} {obj:Bool}:∀(m:Nat) (ns:List ad) (is:List Json) (ts:List Token) (p:(List ad×List Json)×List Token),
  iN f cl obj m ns is ts=.ok p->p.2.length<ts.length
 | 0,_,_,_,_,h=>by cases h
 | m+1,ns,is,ts,p,h=>by
  simp only[iN]at h;split at h
  ·cases h
  ·rename_i q eG hq;have h1:=YY hf hq;split at h
   ·rename_i r hr;have h2:=zh hr;cases h;simp only at h1 h2 ⊢;omega
   ·split at h
    ·rename_i r hr;have h2:=zh hr;have h3:=amn hf m _ _ _ _ h;simp only at h1 h2 h3 ⊢;omega
    ·cases h
theorem YZ:∀(n:Nat) (d:Int) (ts:List Token) (p:Json×List Token),eH n d ts=.ok p->p.2.length<ts.length
 | 0,_,_,_,h=>by cases h
 | _+1,_,[],_,h=>by cases h
 | n+1,d,t::r,p,h=>by
  simp only[eH]at h;split at h
  ·cases h
  split at h
  ·cases h
  split at h
  ·split at h
   ·rename_i r' hr;have:=zh hr;cases h;simp; omega
   ·split at h
    ·cases h
    ·rename_i q r' hq;have:=amn (fun ts p=>YZ n (d+1) ts p) _ _ _ _ _ hq;cases h;simp only[bj]at this ⊢;omega
  split at h
  ·cases h; simp
  split at h
  ·cases h; simp
  ·cases h; simp
theorem amo {f:List Token->Except ju (Json×List Token)} (hf:∀ts p,f ts=.ok p->p.2.length<ts.length) {cl:ad} {obj:Bool}:∀(m m':Nat) (ns:List ad) (is:List Json) (ts:List Token),ts.length<m->ts.length<m' ->
  iN f cl obj m ns is ts=iN f cl obj m' ns is ts
 | 0,_,_,_,_,h,_=>by omega
 | _+1,0,_,_,_,_,h=>by omega
 | m+1,m'+1,ns,is,ts,h,h'=>by
  simp only[iN];cases hq:jX f obj ns is ts with
  | error b=>rfl
  | ok q=>
   obtain ⟨p,eG⟩:=q;have h1:=YY hf hq;simp only;cases cJ cl eG with
   | some r=>rfl
   | none=>
    simp only;cases hr:cJ [44] eG with
    | none=>rfl
    | some r=>
     have h2:=zh hr;simp only at h1 h2 ⊢;exact amo hf m m' _ _ _ (by omega) (by omega)
def zi {α:Type} (P:α->Prop) (Q:ju->Prop):Except ju α->Prop
 | .ok p=>P p
 | .error b=>Q b
def fS (ts:List Token):Prop:=∃e,ts.getLast? = some e/\e.kind=5
theorem fS.ne {ts:List Token} (h:fS ts):ts≠[]:=by
 rintro rfl
 obtain ⟨e,h,_⟩:=h;cases h
theorem fS.tail {t:Token} {r:List Token} (h:fS (t::r)) (ht:t.kind≠5):fS r:=by
 obtain ⟨e,h1,h2⟩:=h;cases r with
 | nil=>
  simp at h1;subst h1;exact(ht h2).elim
 | cons u r=>exact⟨e,by simpa [List.getLast?_cons_cons]using h1,h2⟩
theorem tj {x:ad} {ts r:List Token} (he:fS ts) (h:cJ x ts=some r):fS r:=by
 cases ts with
 | nil=>cases h
 | cons t ts=>
  simp only[cJ]at h;split at h
  ·rename_i hc;cases h;exact he.tail (by rw[hc.1]; decide)
  ·cases h
theorem aF0 {ns:List ad} {ts:List Token} (he:fS ts):zi (fun p:ad×List Token=>fS p.2) (fun b=>fS b.2/\b.1≠0) (pj ns ts):=by
 cases ts with
 | nil=>exact(he.ne rfl).elim
 | cons t ts=>
  simp only[pj];by_cases hk:t.kind=2
  ·rw[if_neg (by simp[hk])];have h1:=he.tail (by rw[hk]; decide);by_cases hc:ns.contains t.text=true
   ·rw[if_pos hc];exact⟨he,by show(_:Int)≠0; simp⟩
   ·rw[if_neg hc];cases hr:cJ [58] ts with
    | some r=>exact tj h1 hr
    | none=>exact⟨h1,by show(_:Int)≠0; simp⟩
  ·rw[if_pos hk];exact⟨he,by show(_:Int)≠0; simp⟩
theorem xo {t:Token} {r:List Token}:decide ((0:Int)<((t::r).length:Int))=true:=by rw[decide_eq_true_eq,bj]; omega
theorem ON {t:Token} {r:List Token}:decide ((1:Int)<=((t::r).length:Int))=true:=by rw[decide_eq_true_eq,bj]; omega
theorem IS {R:Type} (x:ad) {ts:List Token} (hn:ts≠[]) (k:Bool->List Token->Int->Option R):ef x ts 0 k=match cJ x ts with|some r=>k true r 0|none=>k false ts 0:=by
 cases ts with
 | nil=>exact(hn rfl).elim
 | cons t r=>
  have e0:ef x (t::r) 0 k=ag (decide ((0:Int)<((t::r).length:Int))) (bif(t.kind != 1)then(k false (t::r) 0)else(bif(!(t.text==x))then(k false (t::r) 0)else(ag (decide ((1:Int)<=((t::r).length:Int))) (k true r 0)))):=rfl;rw[e0,aw xo];simp only[cJ];by_cases h1:t.kind=1
  ·by_cases h2:t.text=x
   ·rw[if_pos ⟨h1,h2⟩];have e1:(t.kind != 1)=false:=by simp[h1]
    have e2:(!(t.text==x))=false:=by simp[h2]
    rw[e1,e2,aw ON];rfl
   ·rw[if_neg (fun h=>h2 h.2)];have e1:(t.kind != 1)=false:=by simp[h1]
    have e2:(!(t.text==x))=true:=by simp[h2]
    rw[e1,e2];rfl
  ·rw[if_neg (fun h=>h1 h.1)];have e1:(t.kind != 1)=true:=by simp[h1]
   rw[e1];rfl
theorem VI {R:Type} (ns:List ad) (x:ad) (hl:ns.length<=1099511627776) (k:Bool->Option R):∀(F i:Nat),i<=ns.length->ns.length - i<F ->
  oV F ns x (ns.length:Int) (i:Int) (k (decide ((-1:Int)>=0))) (fun y=>k (decide (y>=0)))=k ((ns.drop i).contains x):=by
 intro F
 induction F with
 | zero=>intro i _ h; omega
 | succ F ih=>
  intro i hi hF;show Eu (fun x0 x1 x2 x3=>oV F x0 x1 x2 x3 _ _) ns x (ns.length:Int) (i:Int) _ _=_;unfold Eu;by_cases h:i<ns.length
  ·have h1:decide ((i:Int)<(ns.length:Int))=true:=by simp; omega
   have h2:(decide ((0:Int)<=(i:Int))&&true)=true:=by simp
   have hw:ae.wrap ((i:Int)+1)=((i+1:Nat):Int):=by rw[aV (by omega) (by omega)]; omega
   have hg:ns.getD (i:Int).toNat (Ty.az .str)=ns[i]:=getD_at h _;have hj:(decide ((i:Int)>=0))=true:=by simp
   rw[h1,cond_true,aw h2,hg,im h,nR];cases hq:x==ns[i]with
   | true=>
    rw[cond_true,Bool.true_or];show k (decide ((i:Int)>=0))=k true;rw[hj]
   | false=>
    rw[cond_false,sn,hw];exact ih (i+1) (by omega) (by omega)
  ·have h1:decide ((i:Int)<(ns.length:Int))=false:=by simp; omega
   rw[h1,cond_false,gQ (by omega)];rfl
theorem Y0 {R:Type} (ns:List ad) (x:ad) (hl:ns.length<=1099511627776) (k:Bool->Option R):ki ns x k=k (ns.contains x):=by
 have:=VI ns x hl k (av ns+av x+ah (ns.length:Int)+ah 0+64) 0 (by omega) (by omega);rw[fV]at this;exact this
theorem aF1 {R:Type} (ns:List ad) (hl:ns.length<=1099511627776) {ts:List Token} (he:fS ts):zi (fun p:ad×List Token=>∀k:ad->List Token->Int->Option R,sW ns ts 0 k=k p.1 p.2 0)
  (fun b=>∃nm,∀k:ad->List Token->Int->Option R,sW ns ts 0 k=k nm b.2 b.1) (pj ns ts):=by
 cases ts with
 | nil=>exact(he.ne rfl).elim
 | cons t r=>
  have e0:∀k:ad->List Token->Int->Option R,sW ns (t::r) 0 k=ag (decide ((0:Int)<((t::r).length:Int))) (bif(t.kind != 2)then(k t.text (t::r) 40)else(ki ns t.text (fun y6=>bif y6 then(k t.text (t::r) 42)else(ag (decide ((1:Int)<=((t::r).length:Int))) (ef [58] r 0 (fun y9 bu aS=>bif(!y9)then(dS 40 bu aS (fun bg cd=>k t.text bg cd))else(k t.text bu aS))))))):=fun k=>rfl
  simp only[pj];by_cases hk:t.kind=2
  ·have e1:(t.kind != 2)=false:=by simp[hk]
   have hr:=he.tail (by rw[hk]; decide);rw[if_neg (by simp[hk])];cases hc:ns.contains t.text with
   | true=>
    rw[if_pos rfl];refine⟨t.text,fun k => ?_⟩;rw[e0,aw xo,e1,cond_false,Y0 ns _ hl,hc];rfl
   | false=>
    rw[if_neg (by simp)];have hs:=fun k:Bool->List Token->Int->Option R=>IS [58] hr.ne k
    cases hq:cJ [58] r with
    | some r'=>
     rw[hq]at hs;intro k;rw[e0,aw xo,e1,cond_false,Y0 ns _ hl,hc,cond_false,aw ON];exact hs _
    | none=>
     rw[hq]at hs;refine⟨t.text,fun k => ?_⟩;rw[e0,aw xo,e1,cond_false,Y0 ns _ hl,hc,cond_false,aw ON];exact hs _
  ·have e1:(t.kind != 2)=true:=by simp[hk]
   rw[if_pos hk];refine⟨t.text,fun k => ?_⟩;rw[e0,aw xo,e1];rfl
def OO {R:Type} (bN:jq R) (f:List Token->Except ju (Json×List Token)) (d:Int) (B:Nat):Prop:=
 ∀ts,fS ts->ts.length<=B->zi (fun p:Json×List Token=>fS p.2/\∀k:Json->List Token->Int->Option R,bN d ts 0 k=k p.1 p.2 0)
  (fun b=>(fS b.2/\b.1≠0)/\∃v,∀k:Json->List Token->Int->Option R,bN d ts 0 k=k v b.2 b.1) (f ts)
theorem OP {α:Type} (l:List α) (a b:α):(l++[a]).set ((l.length:Int)).toNat b=l++[b]:=by
 rw[cM,List.set_append_right _ _ (cD _),Nat.sub_self];rfl
abbrev Y1 (R:Type):=Bool->Int->Int->Int->ad->List ad->Nat->Int->List Json->List Token->Int->Option R
theorem aF2 {R:Type} (bN:jq R) (f:List Token->Except ju (Json×List Token)) (d:Int) (hd:0<=d/\d<=16) (B:Nat) (hv:OO bN f (d+1) B) (obj:Bool) (kd a b:Int) (tx:ad) (ns:List ad) (is:List Json) (ts:List Token)
  (he:fS ts) (hB:ts.length<=B) (ei:ns.length<=1000000000) (ga:is.length<=1000000000) :
  zi (fun p:(List ad×List Json)×List Token=>fS p.2/\∀G:Y1 R,nt bN obj kd a b tx ns is.length d is ts 0 (fun a1 a2 a3 a4 a5 a6 a7 a8 t e i=>G a1 a2 a3 a4 a5 a6 a7 a8 i t e) G (fun a1 a2 a3 a4 a5 a6 a7 a8 t e i=>G a1 a2 a3 a4 a5 a6 a7 a8 i t e) G=G obj kd a b tx p.1.1 p.1.2.length d p.1.2 p.2 0)
   (fun q=>(fS q.2/\q.1≠0)/\∃uR n' pk,∀G:Y1 R,nt bN obj kd a b tx ns is.length d is ts 0 (fun a1 a2 a3 a4 a5 a6 a7 a8 t e i=>G a1 a2 a3 a4 a5 a6 a7 a8 i t e) G (fun a1 a2 a3 a4 a5 a6 a7 a8 t e i=>G a1 a2 a3 a4 a5 a6 a7 a8 i t e) G=G obj kd a b tx uR n' d pk q.2 q.1)
   (jX f obj ns is ts):=by
 have e0:∀k0 k1 k2 k3,nt bN obj kd a b tx ns is.length d is ts 0 k0 k1 k2 k3=AK sW bN obj kd a b tx ns is.length d is ts 0 k0 k1 k2 k3:=fun _ _ _ _=>rfl
 have c1:decide ((ns.length+1)*16<=140737488355328)=true:=by rw[decide_eq_true_eq]; omega
 have c2:decide ((is.length+1)*88<=140737488355328)=true:=by rw[decide_eq_true_eq]; omega
 have hw:ae.wrap (d+1)=d+1:=aV (by omega) (by omega);have aT:∀c:Int,c≠0->(c==0)=false:=fun c hc=>by simpa using hc
 cases obj with
 | true=>
  have hn:=aF1 (R:=R) ns (by omega) he;have IT:=aF0 (ns:=ns) he;have hnL:=fun p=>amm (ns:=ns) (ts:=ts) (p:=p)
  simp only[jX];cases hq:pj ns ts with
  | error q=>
   rw[hq]at hn IT;obtain ⟨nm,hn⟩:=hn;refine⟨IT,ns++[nm],is.length,is,fun G => ?_⟩;rw[e0];unfold AK;rw[cond_true,hn,aw c1,aT _ IT.2];rfl
  | ok q=>
   obtain ⟨nm,zg⟩:=q;rw[hq]at hn IT hnL;have Ag:=hnL _ rfl;have h2:=hv zg IT (by simp only at Ag; omega);simp only;cases hf:f zg with
   | error q=>
    rw[hf]at h2;obtain ⟨h2,v,h3⟩:=h2;refine⟨h2,ns++[nm],is.length+1,is++[v],fun G => ?_⟩;rw[e0];unfold AK;rw[cond_true,hn,aw c1];show(bN (ae.wrap (d+1)) zg 0 _)=_;rw[hw,h3,aw c2,aw (by simp; omega),aw (by simp),OP,Json.eta]
   | ok q=>
    obtain ⟨v,eG⟩:=q;rw[hf]at h2;obtain ⟨h2,h3⟩:=h2;refine⟨h2,fun G => ?_⟩;rw[e0];unfold AK;rw[cond_true,hn,aw c1];show(bN (ae.wrap (d+1)) zg 0 _)=_;rw[hw,h3,aw c2,aw (by simp; omega),aw (by simp),OP,Json.eta];simp only[bf,bj,cu]
 | false=>
  have h2:=hv ts he hB;simp only[jX];cases hf:f ts with
  | error q=>
   rw[hf]at h2;obtain ⟨h2,v,h3⟩:=h2;refine⟨h2,ns,is.length+1,is++[v],fun G => ?_⟩;rw[e0];unfold AK;show(bN (ae.wrap (d+1)) ts 0 _)=_;rw[hw,h3,aw c2,aw (by simp; omega),aw (by simp),OP,Json.eta]
  | ok q=>
   obtain ⟨v,eG⟩:=q;rw[hf]at h2;obtain ⟨h2,h3⟩:=h2;refine⟨h2,fun G => ?_⟩;rw[e0];unfold AK;show(bN (ae.wrap (d+1)) ts 0 _)=_;rw[hw,h3,aw c2,aw (by simp; omega),aw (by simp),OP,Json.eta];simp only[bf,bj,cu]
theorem aF3 {f:List Token->Except ju (Json×List Token)} {obj:Bool} {ns:List ad} {is:List Json} {ts:List Token} {p:(List ad×List Json)×List Token} (h:jX f obj ns is ts=.ok p) :
  p.1.1.length<=ns.length+1/\p.1.2.length=is.length+1:=by
 cases obj with
 | true=>
  simp only[jX]at h;split at h
  ·cases h
  ·split at h
   ·cases h
   ·cases h; simp
 | false=>
  simp only[jX]at h;split at h
  ·cases h
  ·cases h; simp
theorem aF4 {R:Type} (bN:jq R) (f:List Token->Except ju (Json×List Token)) (oD:∀ts p,f ts=.ok p->p.2.length<ts.length) (d:Int) (hd:0<=d/\d<=16) (B:Nat) (IU:B<=100000000) (hv:OO bN f (d+1) B) (obj:Bool) (kd a b:Int) (tx cl:ad) :
  ∀(F:Nat) (ns:List ad) (is:List Json) (ts:List Token),ts.length<F->fS ts->ts.length<=B->ns.length+ts.length<=1000000000->is.length+ts.length<=1000000000 ->
  zi (fun p:(List ad×List Json)×List Token=>fS p.2/\∀e0,kQ bN F cl ts 0 obj kd a b tx ns is.length d is e0=e0 p.2 0 obj kd a b tx p.1.1 p.1.2.length d p.1.2)
   (fun q=>(fS q.2/\q.1≠0)/\∃uR n' pk,∀e0,kQ bN F cl ts 0 obj kd a b tx ns is.length d is e0=e0 q.2 q.1 obj kd a b tx uR n' d pk)
   (iN f cl obj F ns is ts):=by
 intro F
 induction F with
 | zero=>intro ns is ts h; omega
 | succ F ih=>
  intro ns is ts hF he hB ei ga;have e1:∀e0,kQ bN (F+1) cl ts 0 obj kd a b tx ns is.length d is e0=U7 dS (nt bN) ef (fun aB aC aG bq cg cw dP eC eD eE fm jm=>kQ bN F aB aC aG bq cg cw dP eC eD eE fm jm e0) cl ts 0 obj kd a b tx ns is.length d is e0:=fun e0=>rfl
  let G:(List Token->Int->Bool->Int->Int->Int->ad->List ad->Nat->Int->List Json->Option R)->Y1 R:=fun e0 ia l8 l9 jk kJ lY lZ mF mG od nj=>
   bif(nj != 0)then(e0 od nj ia l8 l9 jk kJ lY lZ mF mG)else(ef cl od nj (fun Cr ui uj=>bif Cr then(e0 ui uj ia l8 l9 jk kJ lY lZ mF mG)else(ef [44] ui uj (fun Cs uk um=>bif(!Cs)then(dS 40 uk um (fun yD EX=>e0 yD EX ia l8 l9 jk kJ lY lZ mF mG))else(kQ bN F cl uk um ia l8 l9 jk kJ lY lZ mF mG e0)))))
  have e2:∀e0,kQ bN (F+1) cl ts 0 obj kd a b tx ns is.length d is e0=nt bN obj kd a b tx ns is.length d is ts 0 (fun a1 a2 a3 a4 a5 a6 a7 a8 t e i=>G e0 a1 a2 a3 a4 a5 a6 a7 a8 i t e) (G e0) (fun a1 a2 a3 a4 a5 a6 a7 a8 t e i=>G e0 a1 a2 a3 a4 a5 a6 a7 a8 i t e) (G e0):=fun e0=>rfl
  have hp:=aF2 bN f d hd B hv obj kd a b tx ns is ts he hB (by omega) (by omega);simp only[iN];cases hq:jX f obj ns is ts with
  | error q=>
   rw[hq]at hp;obtain ⟨h1,uR,n',pk,h2⟩:=hp;refine⟨h1,uR,n',pk,fun e0 => ?_⟩;rw[e2,h2];show(bif(q.1 != 0)then _ else _)=_;have:(q.1 != 0)=true:=by simpa using h1.2
   rw[this,cond_true]
  | ok q=>
   obtain ⟨⟨Y2,IV⟩,eG⟩:=q;rw[hq]at hp;obtain ⟨h1,h2⟩:=hp;have hlen:=YY oD hq;have SQ:=aF3 hq;simp only at h1 h2 hlen SQ ⊢;have s1:=fun k:Bool->List Token->Int->Option R=>IS cl h1.ne k
   cases hs:cJ cl eG with
   | some r=>
    rw[hs]at s1;refine⟨tj h1 hs,fun e0 => ?_⟩;rw[e2,h2];show ef cl eG 0 _=_;rw[s1];rfl
   | none=>
    rw[hs]at s1;have s2:=fun k:Bool->List Token->Int->Option R=>IS [44] h1.ne k
    simp only;cases qs:cJ [44] eG with
    | none=>
     rw[qs]at s2;refine⟨⟨h1,by show(_:Int)≠0; simp⟩,Y2,IV.length,IV,fun e0 => ?_⟩;rw[e2,h2];show ef cl eG 0 _=_;rw[s1];show ef [44] eG 0 _=_;rw[s2];rfl
    | some r=>
     rw[qs]at s2;have hl3:=zh qs;have xp:=ih Y2 IV r (by omega) (tj h1 qs) (by omega) (by omega) (by omega);have e3:∀e0,kQ bN (F+1) cl ts 0 obj kd a b tx ns is.length d is e0=kQ bN F cl r 0 obj kd a b tx Y2 IV.length d IV e0:=fun e0=>by
      rw[e2,h2];show ef cl eG 0 _=_;rw[s1];show ef [44] eG 0 _=_;rw[s2];rfl
     simp only[e3];exact xp
theorem amp {R:Type} (bN:jq R) (f:List Token->Except ju (Json×List Token)) (oD:∀ts p,f ts=.ok p->p.2.length<ts.length) (d:Int) (hd:0<=d/\d<=16) (B:Nat) (IU:B<=100000000) (hv:OO bN f (d+1) B) (obj:Bool) (kd a b:Int) (tx cl:ad)
  (r:List Token) (he:fS r) (hB:r.length<=B) (hs:cJ cl r=none) :
  zi (fun p:(List ad×List Json)×List Token=>fS p.2/\∀K0 (K:Json->List Token->Int->Option R),nu bN cl r 0 obj kd a b tx d K0 (fun cd aU bU cA cP cV eA eB bB jl fe=>K ⟨cA,⟨cP,cV⟩,eA,eB,fe⟩ cd aU)=K ⟨kd,⟨a,b⟩,tx,p.1.1,p.1.2⟩ p.2 0)
   (fun q=>(fS q.2/\q.1≠0)/\∃v,∀K0 (K:Json->List Token->Int->Option R),nu bN cl r 0 obj kd a b tx d K0 (fun cd aU bU cA cP cV eA eB bB jl fe=>K ⟨cA,⟨cP,cV⟩,eA,eB,fe⟩ cd aU)=K v q.2 q.1) (iN f cl obj (r.length+1) [] [] r):=by
 have e1:∀K0 K1,nu bN cl r 0 obj kd a b tx d K0 K1=ef cl r 0 (fun bu aS bg=>bif bu then(K0 aS bg obj kd a b tx d)else(kQ bN (av cl+av aS+ah bg+ah kd+ah a+ah b+av tx+av ([]:List ad)+ah d+av ([]:List Json)+64) cl aS bg obj kd a b tx ([]:List ad) 0 d ([]:List Json) K1)):=fun K0 K1=>rfl
 have s1:=fun k:Bool->List Token->Int->Option R=>IS cl he.ne k
 rw[hs]at s1;have hl:=aF4 bN f oD d hd B IU hv obj kd a b tx cl (av cl+av r+ah 0+ah kd+ah a+ah b+av tx+av ([]:List ad)+ah d+av ([]:List Json)+64) [] [] r (by omega) he hB (by simp; omega) (by simp; omega);have e2:∀K0 K1,nu bN cl r 0 obj kd a b tx d K0 K1=kQ bN (av cl+av r+ah 0+ah kd+ah a+ah b+av tx+av ([]:List ad)+ah d+av ([]:List Json)+64) cl r 0 obj kd a b tx ([]:List ad) ([]:List Json).length d ([]:List Json) K1:=fun K0 K1=>by
  rw[e1,s1];rfl
 rw[amo oD _ (r.length+1) [] [] r (by omega) (by omega)]at hl;cases hq:iN f cl obj (r.length+1) [] [] r with
 | error q=>
  rw[hq]at hl;obtain ⟨h1,uR,n',pk,h2⟩:=hl;exact⟨h1,⟨kd,⟨a,b⟩,tx,uR,pk⟩,fun K0 K=>by rw[e2,h2]⟩
 | ok p=>
  rw[hq]at hl;obtain ⟨h1,h2⟩:=hl;exact⟨h1,fun K0 K=>by rw[e2,h2]⟩
theorem amq {R:Type} (bN:jq R) (obj:Bool) (kd a b d:Int) (tx cl:ad) (r r':List Token) (hn:r≠[]) (hs:cJ cl r=some r') (K0 K1) :
  nu (R:=R) bN cl r 0 obj kd a b tx d K0 K1=K0 r' 0 obj kd a b tx d:=by
 have e1:nu bN cl r 0 obj kd a b tx d K0 K1=ef cl r 0 (fun bu aS bg=>bif bu then(K0 aS bg obj kd a b tx d)else(kQ bN (av cl+av aS+ah bg+ah kd+ah a+ah b+av tx+av ([]:List ad)+ah d+av ([]:List Json)+64) cl aS bg obj kd a b tx ([]:List ad) 0 d ([]:List Json) K1)):=rfl;rw[e1,IS cl hn,hs];rfl
theorem Y3 {R:Type} (bN:jq R) (d:Int) (r:List Token) (q:Json->List Token->Int->Option R):s5 bN true d r 0 q =
  nu bN [125] r 0 true 7 0 0 [] d (fun y5 y6 y7 y8 y9 bu aS bg=>q ⟨y8,⟨y9,bu⟩,aS,[],[]⟩ y5 y6) (fun cd aU bU cA cP cV eA eB bB jl fe=>q ⟨cA,⟨cP,cV⟩,eA,eB,fe⟩ cd aU):=rfl
theorem Y4 {R:Type} (bN:jq R) (d:Int) (r:List Token) (q:Json->List Token->Int->Option R):s5 bN false d r 0 q =
  nu bN [93] r 0 false 6 0 0 [] d (fun y5 y6 y7 y8 y9 bu aS bg=>q ⟨y8,⟨y9,bu⟩,aS,[],[]⟩ y5 y6) (fun cd aU bU cA cP cV eA eB bB jl fe=>q ⟨cA,⟨cP,cV⟩,eA,eB,fe⟩ cd aU):=rfl
section
variable {R:Type} (bN:jq R) (d:Int) (t:Token) (r:List Token) (k:Json->List Token->Int->Option R)
def Fy:Option R:=bif(t.kind==3)then k ⟨4,⟨t.num.aj,t.num.exp⟩,[],[],[]⟩ r 0 else k ⟨5,⟨0,0⟩,t.text,[],[]⟩ r 0
def se (z:Bool):Option R:=bif z then(bif(t.kind==4)then k ⟨iu .str (.int .i64) t.text Fx,⟨0,0⟩,[],[],[]⟩ r 0 else Fy t r k)else Fy t r k
def Fz (z:Bool):Option R:=bif z then(bif(t.kind==1)then s5 bN (t.text==[123]) d r 0 (fun bg cd aU=>k ⟨bg.kind,⟨bg.num.aj,bg.num.exp⟩,bg.text,bg.names,bg.items⟩ cd aU)else Fy t r k)
 else(bif(t.text==gD)then se t r k (t.text==gD)else(bif(t.text==gC)then se t r k (t.text==gC)else se t r k (t.text==jb)))
def J19:Option R:=ag (decide ((1:Int)<=((t::r).length:Int))) (bif(t.text==[91])then Fz bN d t r k (t.text==[91])else Fz bN d t r k (t.text==[123]))
def OQ (z:Bool):Option R:=bif(!z)then k ⟨0,⟨0,0⟩,[],[],[]⟩ (t::r) 40 else(bif(decide (d>16))then k ⟨0,⟨0,0⟩,[],[],[]⟩ (t::r) 41 else J19 bN d t r k)
end
theorem aF5 {R:Type} (n:Nat) (d:Int) (t:Token) (r:List Token) (k:Json->List Token->Int->Option R):lL (n+1) d (t::r) 0 k=OQ (lL n) d t r k (jY t):=by
 have e0:lL (n+1) d (t::r) 0 k=ag (decide ((0:Int)<((t::r).length:Int))) (let j:=OQ (lL n) d t r k; bif(t.kind==2)then j true else(bif(t.kind==3)then j true else(bif(t.kind==4)then j true else(bif(t.kind==1)then(bif(t.text==[91])then j true else j (t.text==[123]))else j false)))):=rfl;rw[e0,aw xo];unfold jY mP;simp only;cases t.kind==2<;>cases t.kind==3<;>cases t.kind==4<;>cases t.kind==1<;>cases t.text==[91]<;>rfl
theorem aF6 {x:ad} (h:mP x=true):qw x=false:=by
 unfold mP at h;rw[je,beq_iff_eq,beq_iff_eq]at h;rcases h with rfl|rfl<;>rfl
theorem amr {R:Type} (B:Nat) (IU:B<=100000000):∀(n:Nat) (d:Int),0<=d->d<=17->17 - d<n->OO (R:=R) (lL n) (eH n d) d B:=by
 intro n
 induction n with
 | zero=>intro d h0 h1 h2; omega
 | succ n ih=>
  intro d h0 h1 h2 ts he hB;cases ts with
  | nil=>exact(he.ne rfl).elim
  | cons t r=>
   simp only[eH];have hv:=fun k=>aF5 (R:=R) n d t r k
   cases kG:jY t with
   | false=>
    rw[if_pos rfl];rw[kG]at hv;exact⟨⟨he,by show(_:Int)≠0; simp⟩,_,fun k=>hv k⟩
   | true=>
    rw[if_neg (by simp)];rw[kG]at hv;by_cases hd:d>16
    ·rw[if_pos hd];refine⟨⟨he,by show(_:Int)≠0; simp⟩,⟨0,⟨0,0⟩,[],[],[]⟩,fun k => ?_⟩;rw[hv];unfold OQ;have e1:decide (d>16)=true:=by simpa using hd
     rw[e1];rfl
    ·rw[if_neg hd];have OR:t.kind≠5:=by
      intro h5;simp[jY,h5]at kG
     have mQ:=he.tail OR;have hrB:r.length<=B:=by simp only[bj]at hB; omega
     have oT:∀k,lL (n+1) d (t::r) 0 k=Fz (lL n) d t r k (mP t.text):=fun k=>by
      rw[hv];unfold OQ;have e1:decide (d>16)=false:=by simpa using hd
      rw[e1,cE,cond_false,cond_false];unfold J19;rw[aw ON];unfold mP;cases t.text==[91]<;>rfl
     have F1:¬(t.kind=1/\mP t.text=true)->¬(t.kind=4/\qw t.text=true)->∀k,lL (n+1) d (t::r) 0 k=Fy t r k:=fun g1 g2 k=>by
      rw[oT];unfold Fz;cases ho:mP t.text with
      | true=>
       have:(t.kind==1)=false:=by
        rw[beq_eq_false_iff_ne];exact fun h=>g1 ⟨h,ho⟩
       rw[cond_true,this,cond_false]
      | false=>
       rw[cond_false];have jc:(bif(t.text==gD)then se t r k (t.text==gD)else(bif(t.text==gC)then se t r k (t.text==gC)else se t r k (t.text==jb)))=se t r k (qw t.text):=by
        unfold qw;cases t.text==gD<;>cases t.text==gC<;>rfl
       rw[jc];unfold se;cases hn:qw t.text with
       | false=>rfl
       | true=>
        have:(t.kind==4)=false:=by
         rw[beq_eq_false_iff_ne];exact fun h=>g2 ⟨h,hn⟩
        rw[cond_true,this,cond_false]
     by_cases lD:t.kind=1/\mP t.text=true
     ·rw[if_pos lD];have ek:(t.kind==1)=true:=by simpa using lD.1
      have A2:∀k,lL (n+1) d (t::r) 0 k=s5 (lL n) (t.text==[123]) d r 0 k:=fun k=>by
       rw[oT];unfold Fz;rw[lD.2,cond_true,ek,cond_true];simp only[Json.eta]
      have bN:=ih (d+1) (by omega) (by omega) (by omega);have oD:=fun ts p=>YZ n (d+1) ts p
      cases Am:t.text==[123]with
      | true=>
       simp only[if_true];rw[Am]at A2;cases hs:cJ [125] r with
       | some r'=>
        refine⟨tj mQ hs,fun k => ?_⟩;rw[A2];rw[Y3];rw[amq _ _ _ _ _ _ _ _ _ _ mQ.ne hs]
       | none=>
        have hl:=amp (R:=R) _ _ oD d ⟨h0,by omega⟩ B IU bN true 7 0 0 [] [125] r mQ hrB hs;simp only;cases hq:iN (eH n (d+1)) [125] true (r.length+1) [] [] r with
        | error q=>
         rw[hq]at hl;obtain ⟨g1,v,g2⟩:=hl;refine⟨g1,v,fun k => ?_⟩;rw[A2];rw[Y3];exact g2 _ k
        | ok p=>
         rw[hq]at hl;obtain ⟨g1,g2⟩:=hl;refine⟨g1,fun k => ?_⟩;rw[A2];rw[Y3];exact g2 _ k
      | false=>
       simp only[jy,if_false];rw[Am]at A2;cases hs:cJ [93] r with
       | some r'=>
        refine⟨tj mQ hs,fun k => ?_⟩;rw[A2];rw[Y4];rw[amq _ _ _ _ _ _ _ _ _ _ mQ.ne hs]
       | none=>
        have hl:=amp (R:=R) _ _ oD d ⟨h0,by omega⟩ B IU bN false 6 0 0 [] [93] r mQ hrB hs;simp only;cases hq:iN (eH n (d+1)) [93] false (r.length+1) [] [] r with
        | error q=>
         rw[hq]at hl;obtain ⟨g1,v,g2⟩:=hl;refine⟨g1,v,fun k => ?_⟩;rw[A2];rw[Y4];exact g2 _ k
        | ok p=>
         rw[hq]at hl;obtain ⟨g1,g2⟩:=hl;refine⟨g1,fun k => ?_⟩;rw[A2];rw[Y4];exact g2 _ k
     ·rw[if_neg lD];by_cases jc:t.kind=4/\qw t.text=true
      ·rw[if_pos jc];refine⟨mQ,fun k => ?_⟩;rw[oT];have ho:mP t.text=false:=by
        cases ho:mP t.text with
        | false=>rfl
        | true=>rw[aF6 ho]at jc; cases jc.2
       have ek:(t.kind==4)=true:=by simpa using jc.1
       unfold Fz;rw[ho,cond_false];have gm:(bif(t.text==gD)then se t r k (t.text==gD)else(bif(t.text==gC)then se t r k (t.text==gC)else se t r k (t.text==jb)))=se t r k (qw t.text):=by
        unfold qw;cases t.text==gD<;>cases t.text==gC<;>rfl
       rw[gm,jc.2];unfold se;rw[ek];rfl
      ·rw[if_neg jc];have h:=F1 lD jc;by_cases sK:t.kind=3
       ·rw[if_pos sK];refine⟨mQ,fun k => ?_⟩;rw[h];unfold Fy;have ek:(t.kind==3)=true:=by simpa using sK
        rw[ek];rfl
       ·rw[if_neg sK];refine⟨mQ,fun k => ?_⟩;rw[h];unfold Fy;have ek:(t.kind==3)=false:=by simpa using sK
        rw[ek];rfl
end Go.Proofs.YtidfokedcnhahaaGreatDoor
end
