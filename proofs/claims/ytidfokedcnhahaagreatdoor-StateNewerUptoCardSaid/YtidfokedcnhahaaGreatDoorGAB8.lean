/-
  GA, part 8 of 10.
-/
import Derived.Test.YtidfokedcnhahaaGreatDoorGAB7
set_option linter.unusedSimpArgs false
set_option linter.unnecessarySimpa false
set_option linter.unusedVariables false
set_option linter.unusedSectionVars false
noncomputable section
set_option maxRecDepth 100000
namespace Go.Proofs.YtidfokedcnhahaaGreatDoor
open Go Go.aq Go.Lib
theorem dec_all (u:Nat):∀b∈decDigits u,48≤b.toNat∧b.toNat≤57:=by
 induction u using Nat.strongRecOn with
 | _ u ih =>
  intro b hb
  by_cases h:u<10
  ·rw[decDigits,dif_pos h]at hb
   simp only[List.mem_cons,List.not_mem_nil,or_false]at hb
   subst hb
   rw[gW _ (by omega)]; omega
  ·rw[decDigits,dif_neg h]at hb
   rcases List.mem_append.1 hb with hb|hb
   ·exact ih (u / 10) (by omega) b hb
   ·simp only[List.mem_cons,List.not_mem_nil,or_false]at hb
    subst hb
    rw[gW _ (by omega)]; omega
theorem Rx (u:Nat) (hu:0<u):∃b t,decDigits u=b::t∧b.toNat≠48:=by
 induction u using Nat.strongRecOn with
 | _ u ih =>
  by_cases h:u<10
  ·exact ⟨_, [],by rw[decDigits,dif_pos h],by rw[gW _ (by omega)]; omega⟩
  ·obtain ⟨b,t,e,hb⟩:=ih (u / 10) (by omega) (by omega)
   exact ⟨b,t ++ [UInt8.ofNat (48+u % 10)],by rw[decDigits,dif_neg h,e]; rfl,hb⟩
theorem dec_last (u:Nat):∃l,decDigits u=l ++ [UInt8.ofNat (48+u % 10)]:=by
 by_cases h:u<10
 ·exact ⟨[],by rw[decDigits,dif_pos h,Nat.mod_eq_of_lt h]; rfl⟩
 ·exact ⟨decDigits (u / 10),by rw[decDigits,dif_neg h]⟩
theorem tmod_abs {m:Int} (h:Int.tmod m 10≠0):m.natAbs % 10≠0:=by
 intro h2
 apply h
 have e:m=(m / 10)*10:=by omega
 rw[e]
 exact Int.mul_tmod_left _ _
theorem Xl (a b:ag) (j:Nat):(a++b).getD (a.length+j) 0=b.getD j 0:=by
 show ((a++b)[a.length+j]?).getD 0=(b[j]?).getD 0
 rw[List.getElem?_append_right (by omega),Nat.add_sub_cancel_left]
def okAt (z:ag) (j:Nat):Prop:=((z.getD j 0).toNat=46∧j≠0∧j+1≠z.length)∨(48≤(z.getD j 0).toNat∧(z.getD j 0).toNat≤57)
def dots (z:ag):Nat:=(z.filter fun b=>decide (b.toNat=46)).length
theorem dots_app (a b:ag):dots (a++b)=dots a+dots b:=by unfold dots; rw[List.filter_append,List.length_append]
theorem QJ {z:ag} (h:∀b∈z,48≤b.toNat∧b.toNat≤57):dots z=0:=by
 unfold dots
 rw[List.length_eq_zero_iff,List.filter_eq_nil_iff]
 intro b hb
 have:=h b hb
 simp
 omega
theorem QK {z:ag} {j:Nat} (h:j<z.length):z.getD j 0∈z:=by
 have:z.getD j 0=z[j]:=by simp[List.getD,h]
 rw[this]
 exact List.getElem_mem h
theorem body_ok (d:fT) (hd:Fm d):∃z:ag,z=body (decDigits d.ao.natAbs) d.exp∧1≤z.length∧z.length≤30∧(∀j,j<z.length→okAt z j)∧48≤(z.getD 0 0).toNat ∧
  ((dots z=0∧((z.getD 0 0).toNat≠48∨z.length=1))∨(dots z=1∧(z.getD (z.length - 1) 0).toNat≠48∧2≤z.length∧((z.getD 0 0).toNat≠48∨(z.getD 1 0).toNat=46))):=by
 have b:=hd.bounds
 refine ⟨_,rfl,?_⟩
 have pP:=dec_all d.ao.natAbs
 have hlen:(decDigits d.ao.natAbs).length≤16:=by rw[decDigits_length]; exact Vk (by omega)
 have RQ:1≤(decDigits d.ao.natAbs).length:=by rw[decDigits_length]; exact nDigits_pos _
 by_cases he:0≤d.exp
 ·have hb:body (decDigits d.ao.natAbs) d.exp=decDigits d.ao.natAbs++gk d.exp.toNat:=by unfold body; rw[if_pos he]
  rw[hb]
  have hdig:∀x∈decDigits d.ao.natAbs++gk d.exp.toNat,48≤x.toNat∧x.toNat≤57:=by
   intro x hx
   rcases List.mem_append.1 hx with hx|hx
   ·exact pP x hx
   ·have:=List.eq_of_mem_replicate hx
    subst this; decide
  have hl:(decDigits d.ao.natAbs++gk d.exp.toNat).length=(decDigits d.ao.natAbs).length+d.exp.toNat:=by rw[List.length_append,oA]
  refine ⟨by omega,by omega,fun j hj => .inr (hdig _ (QK hj)),(hdig _ (QK (by omega))).1, .inl ⟨QJ hdig,?_⟩⟩
  by_cases h0:d.ao=0
  ·right
   have:=hd.zero h0
   subst this
   show (decDigits 0++gk 0).length=1
   rw[decDigits_one (by omega)]
   rfl
  ·left
   obtain ⟨x,t,e,hx⟩:=Rx d.ao.natAbs (by omega)
   rw[e]
   exact hx
 ·have h0:d.ao≠0:=by
   intro h
   have:=hd.zero h
   rw[this]at he
   exact he (Int.le_refl _)
  obtain ⟨l,hlast⟩:=dec_last d.ao.natAbs
  have hmod:=tmod_abs (hd.nz h0)
  obtain ⟨x0,t0,aae,hx0⟩:=Rx d.ao.natAbs (by omega)
  generalize hL:decDigits d.ao.natAbs=L at *
  have hb:body L d.exp=(gk (max 0 (1 - d.exp - (L.length:Int))).toNat++L).take (((gk (max 0 (1 - d.exp - (L.length:Int))).toNat++L).length:Int)+d.exp).toNat ++ [46]++(gk (max 0 (1 - d.exp - (L.length:Int))).toNat++L).drop (((gk (max 0 (1 - d.exp - (L.length:Int))).toNat++L).length:Int)+d.exp).toNat:=by
   unfold body; rw[if_neg he]
  rw[hb]
  have tl:(gk (max 0 (1 - d.exp - (L.length:Int))).toNat++L).length=(max 0 (1 - d.exp - (L.length:Int))).toNat+L.length:=by rw[List.length_append,oA]
  have tdig:∀x∈gk (max 0 (1 - d.exp - (L.length:Int))).toNat++L,48≤x.toNat∧x.toNat≤57:=by
   intro x hx
   rcases List.mem_append.1 hx with hx|hx
   ·have:=List.eq_of_mem_replicate hx
    subst this; decide
   ·exact pP x hx
  have tlast:∃l',gk (max 0 (1 - d.exp - (L.length:Int))).toNat++L=l' ++ [UInt8.ofNat (48+d.ao.natAbs % 10)]:=⟨gk (max 0 (1 - d.exp - (L.length:Int))).toNat++l,by rw[hlast,List.append_assoc]⟩
  have tfirst:(gk (max 0 (1 - d.exp - (L.length:Int))).toNat++L).getD 0 0=(if (max 0 (1 - d.exp - (L.length:Int))).toNat=0 then x0 else 48):=by
   rw[aae]
   cases hz:(max 0 (1 - d.exp - ((x0::t0).length:Int))).toNat with
   | zero=>rfl
   | succ q=>rfl
  generalize hz:(max 0 (1 - d.exp - (L.length:Int))).toNat=z at *
  generalize ht:gk z++L=t at *
  have Yi:((t.length:Int)+d.exp).toNat=t.length - d.exp.natAbs:=by omega
  rw[Yi]
  have h1:d.exp.natAbs+1≤t.length:=by omega
  have la:(t.take (t.length - d.exp.natAbs)).length=t.length - d.exp.natAbs:=by rw[List.length_take]; omega
  have lb:(t.drop (t.length - d.exp.natAbs)).length=d.exp.natAbs:=by rw[List.length_drop]; omega
  generalize hA:t.take (t.length - d.exp.natAbs)=A at *
  generalize hB:t.drop (t.length - d.exp.natAbs)=B at *
  have hAB:A++B=t:=by rw[←hA,←hB,List.take_append_drop]
  have lz:(A ++ [46]++B).length=A.length+1+B.length:=by simp only[List.length_append,List.length_cons,List.length_nil]
  have dA:∀x∈A,48≤x.toNat∧x.toNat≤57:=fun x hx=>tdig x (by rw[←hAB]; exact List.mem_append_left _ hx)
  have dB:∀x∈B,48≤x.toNat∧x.toNat≤57:=fun x hx=>tdig x (by rw[←hAB]; exact List.mem_append_right _ hx)
  have gA:∀j,j<A.length→(A ++ [46]++B).getD j 0=A.getD j 0:=fun j hj=>by
   rw[List.append_assoc]; exact P6 hj
  have gM:(A ++ [46]++B).getD A.length 0=46:=by rw[List.append_assoc]; exact Xc
  have gB:∀j,j<B.length→(A ++ [46]++B).getD (A.length+1+j) 0=B.getD j 0:=fun j hj=>by
   have e:A.length+1+j=(A ++ [46]).length+j:=by simp
   rw[e]
   exact Xl _ _ _
  have he1:1≤d.exp.natAbs:=by omega
  refine ⟨by omega,by omega,fun j hj => ?_,?_, .inr ⟨?_,?_,by omega,?_⟩⟩
  ·rcases Nat.lt_trichotomy j A.length with h|h|h
   ·right; rw[gA j h]; exact dA _ (QK h)
   ·left; subst h; rw[gM]; exact ⟨rfl,by omega,by omega⟩
   ·right
    obtain ⟨q,rfl⟩:∃q,j=A.length+1+q:=⟨j - A.length - 1,by omega⟩
    rw[gB q (by omega)]; exact dB _ (QK (by omega))
  ·rw[gA 0 (by omega)]; exact (dA _ (QK (by omega))).1
  ·rw[dots_app,dots_app,QJ dA,QJ dB]; rfl
  ·have e:(A ++ [46]++B).length - 1=A.length+1+(B.length - 1):=by omega
   rw[e,gB _ (by omega)]
   obtain ⟨l',hl'⟩:=tlast
   have hBl:B.getD (B.length - 1) 0=UInt8.ofNat (48+d.ao.natAbs % 10):=by
    have e2:t.getD (t.length - 1) 0=UInt8.ofNat (48+d.ao.natAbs % 10):=by
     rw[hl']
     have:(l' ++ [UInt8.ofNat (48+d.ao.natAbs % 10)]).length - 1=l'.length:=by simp
     rw[this]
     exact Xc
    have e3:t.getD (t.length - 1) 0=B.getD (B.length - 1) 0:=by
     rw[←hAB]
     have:(A++B).length - 1=A.length+(B.length - 1):=by rw[List.length_append]; omega
     rw[this]
     exact Xl _ _ _
    rw[←e3,e2]
   rw[hBl,gW _ (by omega)]
   omega
  ·have hA0:A.getD 0 0=t.getD 0 0:=by rw[←hAB]; exact (P6 (by omega)).symm
   rw[gA 0 (by omega),hA0,tfirst]
   by_cases hzz:z=0
   ·left; rw[if_pos hzz]; exact hx0
   ·right
    have:A.length=1:=by omega
    have e:(A ++ [46]++B).getD 1 0=46:=by rw[←this]; exact gM
    rw[e]; rfl
theorem Yu (c:UInt8):∀l:ag,Go.Lib.indexByte l c<0↔l.contains c=false
 | []=>by simp[Go.Lib.indexByte]
 | x::l=>by
  have ih:=Yu c l
  have hg:=Go.Lib.indexByte_ge l c
  unfold Go.Lib.indexByte
  rw[List.contains_cons]
  by_cases h:x=c
  ·subst h; simp
  ·have h2:(c==x)=false:=by rw[beq_eq_false_iff_ne]; exact fun e=>h e.symm
   rw[h2,Bool.false_or,←ih]
   split
   ·rename_i h3; exact (h (beq_iff_eq.1 h3)).elim
   ·split
    ·rename_i h4
     have:=beq_iff_eq.1 h4
     omega
    ·rename_i h4
     have:¬Go.Lib.indexByte l c = -1:=fun e=>h4 (beq_iff_eq.2 e)
     omega
def s4 (L5 s:ag):Nat×ag:=match s with | []=>(0, [])|b::t=>if L5.contains b then (b.toNat,t)else (0,b::t)
theorem Hq {R:Type} (L5 s:ag) (hs:s.length≤4000000000) (k:Int→ag→Option R):aU L5 s k=k ((s4 L5 s).1:Int) (s4 L5 s).2:=by
 have e:aU L5 s k=kG L5 s k:=rfl
 rw[e]
 unfold kG
 cases s with
 | nil=>rfl
 | cons b t =>
  simp only[List.length_cons]at hs
  have jA:((b::t:ag)==([]:ag))=false:=rfl
  have hg:((b::t:ag).getD 0 0)=b:=rfl
  have hd:((b::t:ag).drop 1).take (((b::t:ag).length:Int).toNat - 1)=t:=by
   rw[Int.toNat_natCast,List.drop_succ_cons,List.drop_zero,List.length_cons,Nat.add_sub_cancel,List.take_length]
  have hi:EI L5 ((b.toNat:Nat):Int)=Go.Lib.indexByte L5 b:=by
   unfold EI
   rw[Int.toNat_natCast]
   simp
  have hl:(b::t:ag).length=t.length+1:=rfl
  rw[jA,cond_false,hg,hd,hi,hl,ay (aQ (by omega))]
  unfold s4
  cases hc:L5.contains b with
  | false =>
   rw[aQ ((Yu b L5).2 hc),cond_true]
   simp only[hc,Bool.false_eq_true,if_false]
   rfl
  | true =>
   have:¬Go.Lib.indexByte L5 b<0:=fun h=>by rw[(Yu b L5).1 h]at hc; cases hc
   rw[cv this,cond_false,ay (aQ (by omega)),ay (by rw[aQ (show (0:Int)≤((t.length+1:Nat):Int) by omega),aQ (by omega)]; rfl),ay (aQ (by omega))]
   simp only[hc,if_true]
def digS:ag := [48,49,50,51,52,53,54,55,56,57]
def nI (b:UInt8):Prop:=48≤b.toNat∧b.toNat≤57
theorem digS_all:∀n:Fin 256,digS.contains (UInt8.ofNat n.val)=decide (48≤n.val∧n.val≤57):=by decide +kernel
theorem digS_ok (b:UInt8):digS.contains b=decide (48≤b.toNat∧b.toNat≤57):=by
 have:=digS_all ⟨b.toNat,UInt8.toNat_lt b⟩
 simpa using this
theorem Ry (p:UInt8→Bool):∀(a r:ag),(∀x∈a,p x=true)→(a++r).dropWhile p=r.dropWhile p
 | [],r,_=>rfl
 | x::a,r,h=>by
  rw[List.cons_append,List.dropWhile_cons,h x (by simp),if_pos rfl]
  exact Ry p a r fun y hy=>h y (by simp[hy])
theorem TJ (p:UInt8→Bool) (r:ag) (h:∀b t,r=b::t→p b=false):r.dropWhile p=r:=by
 cases r with
 | nil=>rfl
 | cons b t=>rw[List.dropWhile_cons,h b t rfl]; rfl
theorem Ws {R:Type} (a r:ag) (ha:∀x∈a,nI x) (hr:∀b t,r=b::t→¬nI b) (hl:(a++r).length≤4000000000) (k:ag→ag→Option R):aR (a++r) k=k a r:=by
 have e:aR (a++r) k=jE (a++r) k:=rfl
 rw[e]
 unfold jE
 have ht:bx (a++r) ([48,49,50,51,52,53,54,55,56,57]:ag)=r:=by
  unfold bx
  have h1:=Ry (fun x=>digS.contains x) a r (fun x hx=>by rw[digS_ok]; exact aQ (ha x hx))
  have h2:=TJ (fun x=>digS.contains x) r (fun b t hb=>by rw[digS_ok]; exact cv (hr b t hb))
  exact h1.trans h2
 rw[ht]
 have hlen:(a++r).length=a.length+r.length:=List.length_append
 have hw:IntKind.i64.wrap (((a++r).length:Int) - (r.length:Int))=(a.length:Int):=by rw[hlen,cL (by omega) (by omega)]; omega
 rw[hw,ay (by rfl),ay (by rw[aQ (by omega),aQ (by omega)]; rfl),ay (aQ (by omega)),List.drop_zero,Int.toNat_natCast,Nat.sub_zero,List.take_left]
theorem parse_ok {R:Type} (neg:Bool) (I F X:ag) (pt:Bool) (ev:Int) (hI:∀x∈I,nI x) (hI0:I ≠ []) (hI1:1<I.length→(I.getD 0 0).toNat≠48) (hF:∀x∈F,nI x) (hF0:pt=true→F ≠ []) (hF1:pt=false→F = [])
  (hX:(X = []∧ev=0)∨∃b Y,X=b::Y∧(b=101∨b=69)∧∀f:Int→Bool→ag→Option R,bA Y f=f ev true []) (hev : -1000000≤ev∧ev≤1000000)
  (hlen:((if neg then [45]else [])++(I++((if pt then 46::F else [])++X))).length≤400)
  (hsh:(cM (bx (I++F) [48]) [48]).length≤18) (k:fT→Bool→Option R) :
  er ((if neg then [45]else [])++(I++((if pt then 46::F else [])++X))) k =
   bk (if neg then IntKind.i64.wrap (0 - eJ (48::cM (bx (I++F) [48]) [48]))else eJ (48::cM (bx (I++F) [48]) [48])) (-(F.length:Int)+ev+(((bx (I++F) [48]).length:Int) - ((cM (bx (I++F) [48]) [48]).length:Int))) k:=by
 generalize hS:(if neg then [45]else [])++(I++((if pt then 46::F else [])++X))=s at *
 have e:er s k=pK bk aU aR bA s k:=rfl
 rw[e]
 unfold pK
 -- the pieces
 obtain ⟨i0,It,hIe⟩:∃b t,I=b::t:=by cases I with|nil=>exact (hI0 rfl).elim|cons b t=>exact ⟨b,t,rfl⟩
 have hi0:=hI i0 (by rw[hIe]; simp)
 have hXh:∀b t,X=b::t→¬nI b∧b.toNat≠46:=by
  intro b t hb
  rcases hX with ⟨rfl,_⟩|⟨c,Y,rfl,hc,_⟩
  ·cases hb
  ·cases hb
   rcases hc with rfl|rfl <;> exact ⟨by unfold nI; decide,by decide⟩
 have hs1:s4 [45] s=(if neg then 45 else 0,I++((if pt then 46::F else [])++X)):=by
  rw[←hS]
  cases neg with
  | true=>rfl
  | false =>
   rw[hIe]
   have:([45]:ag).contains i0=false:=by
    have:i0≠45:=by rintro rfl; exact absurd hi0.1 (by decide)
    simp[this]
   simp only[Bool.false_eq_true,if_false,List.nil_append,List.cons_append,s4,this]
 have hsl:s.length≤400:=hlen
 have Mt:s.length=(if neg then 1 else 0)+(I.length+((if pt then F.length+1 else 0)+X.length)):=by
  rw[←hS]
  cases neg <;> cases pt <;> simp <;> omega
 have hFl:F.length≤400:=by
  cases pt with
  | true=>simp at Mt; omega
  | false=>rw[hF1 rfl]; simp
 have hIl:I.length≤400:=by omega
 have hXl:X.length≤400:=by omega
 rw[Hq _ _ (by omega),hs1]
 simp only
 have hPh:∀b t,(if pt then 46::F else [])++X=b::t→¬nI b:=by
  intro b t hb
  cases pt with
  | true=>simp at hb; rw[←hb.1]; unfold nI; decide
  | false=>exact (hXh b t (by simpa using hb)).1
 have hl2:(I++((if pt then 46::F else [])++X)).length≤4000000000:=by
  have:(I++((if pt then 46::F else [])++X)).length=I.length+((if pt then F.length+1 else 0)+X.length):=by cases pt <;> simp <;> omega
  omega
 rw[Ws I _ hI hPh hl2]
 have jA:(I==([]:ag))=false:=by rw[beq_eq_false_iff_ne]; exact hI0
 rw[cv (show ¬(s.length:Int)>400 by omega),cond_false,jA,cond_false]
 have q48:(((I.getD 0 0).toNat:Int)==48)=decide ((I.getD 0 0).toNat=48):=eqI _ 48
 -- the rest, behind the first test
 have drop1:∀x:Option R,(bif (decide ((I.length:Int)>1))then (cw (decide ((0:Int)<I.length)) (bif (((I.getD 0 0).toNat:Int)==48)then (k ⟨0,0⟩ false)else x))else x)=x:=by
  intro x
  by_cases h:1<I.length
  ·rw[aQ (show (I.length:Int)>1 by omega),cond_true,ay (aQ (by omega)),q48,cv (hI1 h),cond_false]
  ·rw[cv (show ¬(I.length:Int)>1 by omega),cond_false]
 rw[drop1]
 generalize hA:I++F=all at *
 have pP:all.length≤800:=by rw[←hA,List.length_append]; omega
 have htl:(bx all [48]).length≤all.length:=BJ _ _
 have lone:([48]:ag).length=1:=rfl
 have hc:(([48]:ag)++(cM (bx all ([48]:ag)) ([48]:ag)))=48::cM (bx all [48]) [48]:=rfl
 have hbe:((([]:ag)==([]:ag)))=true:=rfl
 have hs2:decide ((48::cM (bx all [48]) [48]:ag).length≤281474976710656)=true:=aQ (by simp only[List.length_cons]; omega)
 have w0:IntKind.i64.wrap (((bx all [48]).length:Int) - ((cM (bx all [48]) [48]).length:Int))=((bx all [48]).length:Int) - ((cM (bx all [48]) [48]).length:Int):=cL (by omega) (by omega)
 have q1:decide (1+(cM (bx all [48]) [48]).length≤9223372036854775807)=true:=aQ (by omega)
 have q2:decide (((cM (bx all [48]) [48]).length:Int)>18)=false:=cv (by omega)
 have q3:(wG ([48]:ag)&&decide (([48]:ag).length<4294967281))=true:=rfl
 have qn:(((if neg then 45 else 0:Nat):Int) != 0)=neg:=by cases neg <;> rfl
 have sX:s4 [101,69] X=match X with | []=>(0, [])|b::Y=>(b.toNat,Y):=by
  rcases hX with ⟨rfl,_⟩|⟨b,Y,rfl,hb,_⟩
  ·rfl
  ·rcases hb with rfl|rfl <;> rfl
 cases pt with
 | false =>
  have hFe:=hF1 rfl
  subst hFe
  rw[List.append_nil]at hA
  subst hA
  have s46:s4 [46] X=(0,X):=by
   rcases hX with ⟨rfl,_⟩|⟨b,Y,rfl,hb,_⟩
   ·rfl
   ·rcases hb with rfl|rfl <;> rfl
  simp only[Bool.false_eq_true,if_false,List.nil_append]
  rw[Hq _ _ (by omega),s46]
  have z0:(((0:Nat):Int) != 0)=false:=rfl
  simp only[z0,cond_false]
  rw[Hq _ _ (by omega),sX]
  rcases hX with ⟨rfl,rfl⟩|⟨b,Y,rfl,hb,hE⟩
  ·simp only[z0,cond_false,q3,ay rfl,hbe,Bool.not_true,q2,q1,hc,hs2,Bool.cond_self,w0,qn]
   rw[cL (n:=0+(((bx I [48]).length:Int) - ((cM (bx I [48]) [48]).length:Int))) (by omega) (by omega)]
   have e0 : -((([]:ag).length:Nat):Int)+0=0:=rfl
   rw[e0]
   cases neg <;> rfl
  ·have zb:((b.toNat:Int) != 0)=true:=by rcases hb with rfl|rfl <;> rfl
   simp only[zb,cond_true,hE,Bool.not_true,cond_false,q3,ay rfl,hbe,q2,q1,hc,hs2,Bool.cond_self,w0,qn]
   rw[cL (n:=0+ev) (by omega) (by omega),cL (n:=0+ev+(((bx I [48]).length:Int) - ((cM (bx I [48]) [48]).length:Int))) (by omega) (by omega)]
   have e0 : -((([]:ag).length:Nat):Int)+ev=0+ev:=rfl
   rw[e0]
   cases neg <;> rfl
 | true =>
  have hFe:=hF0 rfl
  simp only[if_true,List.cons_append,List.nil_append]
  have s46:s4 [46] (46::(F++X))=(46,F++X):=rfl
  have lFX:(F++X).length=F.length+X.length:=List.length_append
  rw[Hq _ _ (by simp only[List.length_cons]; omega),s46]
  have z46:(((46:Nat):Int) != 0)=true:=rfl
  have z0:(((0:Nat):Int) != 0)=false:=rfl
  simp only[z46,cond_true]
  rw[Ws F X hF (fun b t hb=>(hXh b t hb).1) (by omega)]
  have hFn:(F==([]:ag))=false:=by rw[beq_eq_false_iff_ne]; exact hFe
  rw[hFn,cond_false,ay (aQ (by omega)),hA,cL (n:=0 - (F.length:Int)) (by omega) (by omega)]
  rw[Hq _ _ (by omega),sX]
  rcases hX with ⟨rfl,rfl⟩|⟨b,Y,rfl,hb,hE⟩
  ·simp only[z0,cond_false,q3,ay rfl,hbe,Bool.not_true,q2,q1,hc,hs2,Bool.cond_self,w0,qn]
   rw[cL (n:=0 - (F.length:Int)+(((bx all [48]).length:Int) - ((cM (bx all [48]) [48]).length:Int))) (by omega) (by omega)]
   have e0 : -(F.length:Int)+0=0 - (F.length:Int):=by omega
   rw[e0]
   cases neg <;> rfl
  ·have zb:((b.toNat:Int) != 0)=true:=by rcases hb with rfl|rfl <;> rfl
   simp only[zb,cond_true,hE,Bool.not_true,cond_false,q3,ay rfl,hbe,q2,q1,hc,hs2,Bool.cond_self,w0,qn]
   rw[cL (n:=0 - (F.length:Int)+ev) (by omega) (by omega),cL (n:=0 - (F.length:Int)+ev+(((bx all [48]).length:Int) - ((cM (bx all [48]) [48]).length:Int))) (by omega) (by omega)]
   have e0 : -(F.length:Int)+ev=0 - (F.length:Int)+ev:=by omega
   rw[e0]
   cases neg <;> rfl
theorem uint_app:∀(l r:ag) (acc v:Nat),parseUint10 acc l = .ok v→parseUint10 acc (l++r)=parseUint10 v r
 | [],r,acc,v,h=>by
  simp only[parseUint10]at h
  injection h with h
  subst h
  rfl
 | c::l,r,acc,v,h=>by
  simp only[parseUint10,List.cons_append]at h ⊢
  split at h
  ·rename_i h1
   rw[if_pos h1]
   split at h
   ·cases h
   ·rename_i h2
    rw[if_neg h2]
    split at h
    ·cases h
    ·rename_i h3
     rw[if_neg h3]
     exact uint_app l r _ v h
  ·cases h
theorem uint_dec (u:Nat) (hu:u<1000000000000000000):parseUint10 0 (decDigits u) = .ok u:=by
 induction u using Nat.strongRecOn with
 | _ u ih =>
  by_cases h:u<10
  ·rw[decDigits,dif_pos h]
   simp only[parseUint10,gW (48+u) (by omega)]
   rw[if_pos (by omega),if_neg (by omega),if_neg (by omega)]
   congr 1
   omega
  ·rw[decDigits,dif_neg h,uint_app _ _ _ _ (ih (u / 10) (by omega) (by omega))]
   simp only[parseUint10,gW (48+u % 10) (by omega)]
   rw[if_pos (by omega),if_neg (by omega),if_neg (by omega)]
   congr 1
   omega
theorem atoi_dec (u:Nat) (hu:u<1000000000000000000):eJ (48::decDigits u)=(u:Int):=by
 have h1:parseMag (48::decDigits u) = .ok u:=by
  unfold parseMag
  rw[if_neg (by simp)]
  have:=uint_dec u hu
  simp only[parseUint10]
  exact this
 have h2:atoiAll (48::decDigits u) = .ok (u:Int):=by
  unfold atoiAll
  simp only
  have e:(if (48:UInt8).toNat=43∨(48:UInt8).toNat=45 then decDigits u else 48::decDigits u)=48::decDigits u:=if_neg (by decide)
  rw[e,h1]
  simp only
  rw[if_neg (by omega),if_neg (fun h=>absurd h.1 (by decide)),if_neg (by decide)]
 unfold eJ
 rw[h2]
theorem trimL_z (n:Nat) (r:ag) (hr:∀b t,r=b::t→b≠48):bx (gk n++r) [48]=r:=by
 unfold bx
 rw[Ry _ _ _ (fun x hx=>by have:=List.eq_of_mem_replicate hx; subst this; rfl)]
 exact TJ _ _ fun b t hb=>by simp[hr b t hb]
theorem trimR_z (l:ag) (n:Nat) (b:UInt8) (hb:b≠48):cM (l ++ [b]++gk n) [48]=l ++ [b]:=by
 unfold cM
 rw[List.reverse_append,List.reverse_append]
 have e:(gk n).reverse=gk n:=List.reverse_replicate
 rw[e,Ry _ _ _ (fun x hx=>by have:=List.eq_of_mem_replicate hx; subst this; rfl)]
 have:List.dropWhile (fun x=>([48]:ag).contains x) (([b]:ag).reverse++l.reverse) = [b]++l.reverse:=TJ _ _ fun c t hc=>by
  have:b=c:=by
   have:=congrArg List.head? hc
   simpa using this
  subst this
  simp[hb]
 rw[this,List.reverse_append,List.reverse_reverse]
 rfl
theorem trims {u:Nat} (hu:u % 10≠0) (a b:Nat):bx (gk a++(decDigits u++gk b)) [48]=decDigits u++gk b∧cM (decDigits u++gk b) [48]=decDigits u:=by
 obtain ⟨x,t,e,hx⟩:=Rx u (by omega)
 obtain ⟨l,hl⟩:=dec_last u
 constructor
 ·apply trimL_z
  intro c t' hc
  rw[e]at hc
  have:x=c:=by
   have:=congrArg List.head? hc
   simpa using this
  subst this
  rintro rfl
  exact hx rfl
 ·rw[hl]
  apply trimR_z
  intro h
  have:=congrArg UInt8.toNat h
  rw[gW _ (by omega)]at this
  have e48:(48:UInt8).toNat=48:=rfl
  omega
theorem Wu (d:fT) (hd:Fm d) (h0:d.ao≠0):∃(I F:ag) (pt:Bool) (a b:Nat),X2 d=(if decide (d.ao<0)then [45]else [])++(I++(if pt then 46::F else [])) ∧
  I++F=gk a++(decDigits d.ao.natAbs++gk b)∧I ≠ []∧(1<I.length→(I.getD 0 0).toNat≠48)∧(pt=true→F ≠ [])∧(pt=false→F = [])∧(F.length:Int)=(b:Int) - d.exp∧I.length+F.length≤40∧(∀x∈I,nI x)∧(∀x∈F,nI x):=by
 have bd:=hd.bounds
 have pP:=dec_all d.ao.natAbs
 have hlen:(decDigits d.ao.natAbs).length≤16:=by rw[decDigits_length]; exact Vk (by omega)
 have RQ:1≤(decDigits d.ao.natAbs).length:=by rw[decDigits_length]; exact nDigits_pos _
 obtain ⟨x0,t0,aae,hx0⟩:=Rx d.ao.natAbs (by omega)
 have hsg:(if d.ao<0 then ([45]:ag)else [])=if decide (d.ao<0)then [45]else []:=by by_cases h:d.ao<0 <;> simp[h]
 unfold X2
 rw[hsg]
 generalize decDigits d.ao.natAbs=L at *
 by_cases he:0≤d.exp
 ·refine ⟨L++gk d.exp.toNat, [],false,0,d.exp.toNat,?_,by simp[gk],?_,fun _ => ?_,by simp,by simp,by simp; omega,?_,?_,by simp⟩
  ·unfold body; rw[if_pos he]; simp
  ·rw[aae]; simp
  ·rw[aae]; exact hx0
  ·rw[List.length_append,oA,List.length_nil]; omega
  ·intro x hx
   rcases List.mem_append.1 hx with hx|hx
   ·exact pP x hx
   ·have:=List.eq_of_mem_replicate hx
    subst this; unfold nI; decide
 ·have hz:∃z:Nat,(max 0 (1 - d.exp - (L.length:Int))).toNat=z:=⟨_,rfl⟩
  obtain ⟨z,hz⟩:=hz
  have tl:(gk z++L).length=z+L.length:=by rw[List.length_append,oA]
  have Yi:(((gk z++L).length:Int)+d.exp).toNat=(gk z++L).length - d.exp.natAbs:=by omega
  have h1:d.exp.natAbs+1≤(gk z++L).length:=by omega
  have tdig:∀x∈gk z++L,nI x:=by
   intro x hx
   rcases List.mem_append.1 hx with hx|hx
   ·have:=List.eq_of_mem_replicate hx
    subst this; unfold nI; decide
   ·exact pP x hx
  have tfirst:z=0→((gk z++L).getD 0 0).toNat≠48:=by
   rintro rfl
   rw[aae]
   exact hx0
  refine ⟨(gk z++L).take ((gk z++L).length - d.exp.natAbs),(gk z++L).drop ((gk z++L).length - d.exp.natAbs),true,z,0,?_,?_,?_,?_,fun _ => ?_,(fun h=>by cases h),?_,?_,?_,?_⟩
  ·unfold body
   rw[if_neg he]
   simp only[hz,Yi,if_true]
   simp
  ·rw[List.take_append_drop]; simp[gk]
  ·intro e
   have:=congrArg List.length e
   rw[List.length_take,List.length_nil]at this
   omega
  ·intro hI
   rw[List.length_take]at hI
   have e:((gk z++L).take ((gk z++L).length - d.exp.natAbs)).getD 0 0=(gk z++L).getD 0 0:=by
    have:=(P6 (s:=(gk z++L).take ((gk z++L).length - d.exp.natAbs)) (t:=(gk z++L).drop ((gk z++L).length - d.exp.natAbs)) (i:=0) (by rw[List.length_take]; omega)).symm
    rw[List.take_append_drop]at this
    exact this
   rw[e]
   exact tfirst (by omega)
  ·intro e
   have:=congrArg List.length e
   rw[List.length_drop,List.length_nil]at this
   omega
  ·rw[List.length_drop]; omega
  ·rw[List.length_take,List.length_drop]; omega
  ·intro x hx; exact tdig x (List.mem_of_mem_take hx)
  ·intro x hx; exact tdig x (List.mem_of_mem_drop hx)
theorem parse_zero {R:Type} (k:fT→Bool→Option R):er [48] k=k ⟨0,0⟩ true:=by kernel_rfl
theorem aaf:X2 ⟨0,0⟩ = [48]:=by
 show []++body (decDigits 0) 0 = [48]
 rw[decDigits_one (by omega)]
 rfl
theorem parse_prt {R:Type} {d:fT} (hd:Fm d) (h0:d.ao≠0) (X:ag) (ev:Int) (hX:(X = []∧ev=0)∨∃b Y,X=b::Y∧(b=101∨b=69)∧∀f:Int→Bool→ag→Option R,bA Y f=f ev true [])
  (hev : -1000000≤ev∧ev≤1000000) (hXl:X.length≤100) (k:fT→Bool→Option R):er (X2 d++X) k=bk d.ao (d.exp+ev) k:=by
 have bd:=hd.bounds
 obtain ⟨I,F,pt,a,b,e1,e2,i0,i1,f0,f1,fl,il,iD,fD⟩:=Wu d hd h0
 obtain ⟨t1,t2⟩:=trims (u:=d.ao.natAbs) (tmod_abs (hd.nz h0)) a b
 have hlen:(decDigits d.ao.natAbs).length≤16:=by rw[decDigits_length]; exact Vk (by omega)
 have key:=parse_ok (R:=R) (decide (d.ao<0)) I F X pt ev iD i0 i1 fD f0 f1 hX hev (by
  cases hd2:decide (d.ao<0) <;> cases pt <;> simp <;> omega) (by rw[e2,t1,t2]; omega) k
 have e3:X2 d++X=(if decide (d.ao<0)then [45]else [])++(I++((if pt then 46::F else [])++X)):=by rw[e1]; simp only[List.append_assoc]
 rw[e3,key,e2,t1,t2,atoi_dec _ (by omega)]
 have e4:(if decide (d.ao<0)=true then IntKind.i64.wrap (0 - (d.ao.natAbs:Int))else (d.ao.natAbs:Int))=d.ao:=by
  by_cases h:d.ao<0
  ·rw[if_pos (by rw[aQ h]),cL (by omega) (by omega)]; omega
  ·rw[if_neg (by rw[cv h]; simp)]; omega
 have e5 : -(F.length:Int)+ev+(((decDigits d.ao.natAbs++gk b).length:Int) - ((decDigits d.ao.natAbs).length:Int))=d.exp+ev:=by
  rw[List.length_append,oA]
  omega
 rw[e4,e5]
theorem make_same {R:Type} {d:fT} (hd:Fm d) (h0:d.ao≠0) (k:fT→Bool→Option R):bk d.ao d.exp k=k d true:=by
 have bd:=hd.bounds
 obtain ⟨r,hr,hm⟩:=make_any (R:=R) d.ao d.exp (by unfold yx; omega) (by omega) (by omega)
 have e5:d.ao=d.ao*10 ^ 0:=by simp
 rw[e5]at hr
 rw[hm,made_same hd h0 (j:=0) (x:=d.exp) (by omega) hr]
theorem prt_len (d:fT) (hd:Fm d):(X2 d).length≤40:=by
 obtain ⟨z,hz,z1,z2,_⟩:=body_ok d hd
 unfold X2
 rw[←hz,List.length_append]
 split <;> simp <;> omega
abbrev isD (b:UInt8):Bool:=digS.contains b
theorem isD_ok (b:UInt8):isD b=decide (48≤b.toNat∧b.toNat≤57):=digS_ok b
abbrev takeD (s:ag):ag:=s.takeWhile isD
abbrev QL (s:ag):ag:=s.dropWhile isD
theorem Im (s:ag):∀x∈takeD s,nI x:=fun x hx=>by
 have h:=List.all_takeWhile (l:=s) (p:=isD)
 have:=List.all_eq_true.1 h x hx
 rw[isD_ok]at this
 exact of_decide_eq_true (p:=48≤x.toNat∧x.toNat≤57) this
theorem drop_dig (s:ag):∀b t,QL s=b::t→¬nI b:=fun b t h hb=>by
 have h2:isD b=false:=by
  have:=List.head?_dropWhile_not isD s
  have e:s.dropWhile isD=b::t:=h
  rw[e]at this
  simpa using this
 rw[isD_ok,aQ (p:=48≤b.toNat∧b.toNat≤57) hb]at h2
 cases h2
theorem take_le (s:ag):(takeD s).length≤s.length:=by
 have:=congrArg List.length (List.takeWhile_append_dropWhile (p:=isD) (l:=s))
 rw[List.length_append]at this
 unfold takeD
 omega
theorem dropD_le (s:ag):(QL s).length≤s.length:=BJ _ _
theorem TK {R:Type} (s:ag) (hl:s.length≤4000000000) (k:ag→ag→Option R):aR s k=k (takeD s) (QL s):=by
 have e:takeD s++QL s=s:=List.takeWhile_append_dropWhile
 have h:=Ws (R:=R) (takeD s) (QL s) (Im s) (drop_dig s) (by rw[e]; exact hl) k
 rw[e]at h
 exact h
theorem Vq (g s:ag):(s4 g s).2.length≤s.length:=by
 unfold s4
 cases s with
 | nil=>simp
 | cons b t=>simp only; split <;> simp
def uK:ag→Nat→Nat
 | [],v=>v
 | b::s,v=>uK s (10*v+(b.toNat - 48))
theorem valD_app:∀(a b:ag) (v:Nat),uK (a++b) v=uK b (uK a v)
 | [],_,_=>rfl
 | x::a,b,v=>valD_app a b _
theorem valD_ge:∀(s:ag) (v:Nat),v*10 ^ s.length≤uK s v
 | [],v=>by simp[uK]
 | b::s,v=>by
  have:=valD_ge s (10*v+(b.toNat - 48))
  have h2:10*v*10 ^ s.length≤(10*v+(b.toNat - 48))*10 ^ s.length:=Nat.mul_le_mul_right _ (by omega)
  have e:v*10 ^ (b::s).length=10*v*10 ^ s.length:=by rw[List.length_cons,Nat.pow_succ,Nat.mul_comm 10,Nat.mul_assoc,Nat.mul_comm 10]
  simp only[uK]
  omega
theorem valD_self (s:ag) (v:Nat):v≤uK s v:=Nat.le_trans (Nat.le_mul_of_pos_right _ (Nat.pos_of_ne_zero (by simp))) (valD_ge s v)
theorem valD_lt:∀(s:ag) (v:Nat),(∀x∈s,nI x)→uK s v<(v+1)*10 ^ s.length
 | [],v,_=>by simp[uK]
 | b::s,v,h=>by
  have hb:=h b (by simp)
  unfold nI at hb
  have:=valD_lt s (10*v+(b.toNat - 48)) fun x hx=>h x (by simp[hx])
  have h2:(10*v+(b.toNat - 48)+1)*10 ^ s.length≤((v+1)*10)*10 ^ s.length:=Nat.mul_le_mul_right _ (by omega)
  have e:(v+1)*10 ^ (b::s).length=((v+1)*10)*10 ^ s.length:=by rw[List.length_cons,Nat.pow_succ,Nat.mul_assoc,Nat.mul_comm 10]
  simp only[uK]
  omega
theorem uint_dig:∀(D:ag) (acc:Nat),(∀x∈D,nI x) →
  (uK D acc<18446744073709551616→parseUint10 acc D = .ok (uK D acc))∧(acc<18446744073709551616→18446744073709551616≤uK D acc→parseUint10 acc D = .range)
 | [],acc,_=>⟨fun _=>rfl,fun h1 h2=>by simp only[uK]at h2; omega⟩
 | b::D,acc,h=>by
  have hb:=h b (by simp)
  unfold nI at hb
  obtain ⟨i1,i2⟩:=uint_dig D (10*acc+(b.toNat - 48)) fun x hx=>h x (by simp[hx])
  have hs:=valD_self D (10*acc+(b.toNat - 48))
  have e:acc*10+(b.toNat - 48)=10*acc+(b.toNat - 48):=by omega
  simp only[uK,parseUint10]
  rw[if_pos hb,e]
  refine ⟨fun h1 => ?_,fun h1 h2 => ?_⟩
  ·rw[if_neg (by omega),if_neg (by omega)]
   exact i1 h1
  ·by_cases g1:1844674407370955162≤acc
   ·rw[if_pos g1]
   ·rw[if_neg g1]
    by_cases g2:18446744073709551616≤10*acc+(b.toNat - 48)
    ·rw[if_pos g2]
    ·rw[if_neg g2]
     exact i2 (by omega) h2
theorem atoi_dig (D:ag) (hD:∀x∈D,nI x) (h0:D ≠ []) :
  (uK D 0<9223372036854775808→atoiAll D = .ok (uK D 0:Int))∧(9223372036854775808≤uK D 0→atoiAll D = .range):=by
 obtain ⟨i1,i2⟩:=uint_dig D 0 hD
 cases D with
 | nil=>exact (h0 rfl).elim
 | cons b D =>
  have hb:=hD b (by simp)
  unfold nI at hb
  have e:(if b.toNat=43∨b.toNat=45 then D else b::D)=b::D:=if_neg (by omega)
  have m:parseMag (b::D)=parseUint10 0 (b::D):=by unfold parseMag; rw[if_neg (by simp)]
  unfold atoiAll
  simp only
  rw[e,m]
  refine ⟨fun h => ?_,fun h => ?_⟩
  ·rw[i1 (by omega)]
   simp only
   rw[if_neg (by omega),if_neg (fun h2=>absurd h2.1 (by omega)),if_neg (by omega)]
  ·by_cases h2:uK (b::D) 0<18446744073709551616
   ·rw[i1 h2]
    simp only
    rw[if_pos ⟨by omega,h⟩]
   ·rw[i2 (by omega) (by omega)]
def aag (X:ag):Int×Bool×ag :=
 let q:=s4 [43,45] X
 let v:Int:=min (uK (takeD q.2) 0:Int) 1000000
 (if q.1=45 then -v else v, !(takeD q.2 == []),QL q.2)
theorem exp_any {R:Type} (X:ag) (hl:X.length≤4000000000) (k:Int→Bool→ag→Option R):bA X k=k (aag X).1 (aag X).2.1 (aag X).2.2:=by
 have e:bA X k=iU aU aR X k:=rfl
 rw[e]
 unfold iU
 have h1:=Vq [43,45] X
 rw[Hq _ _ hl]
 unfold aag
 simp only
 generalize s4 [43,45] X=q at *
 rw[TK _ (by omega)]
 have h2:=take_le q.2
 have hD:=Im q.2
 generalize takeD q.2=D at *
 generalize QL q.2=r at *
 have q45:((q.1:Int)==45)=decide (q.1=45):=eqI _ 45
 rw[ay (aQ (by omega)),q45]
 by_cases h0:D = []
 ·subst h0
  have a1:wH []=false:=rfl
  have a2:eJ []=0:=rfl
  rw[a1,a2]
  simp only[cond_false,uK]
  by_cases hq:q.1=45
  ·rw[aQ hq,if_pos hq]; rfl
  ·rw[cv hq,if_neg hq]; rfl
 ·have jA:(D==([]:ag))=false:=by rw[beq_eq_false_iff_ne]; exact h0
  obtain ⟨i1,i2⟩:=atoi_dig D hD h0
  rw[jA]
  simp only[Bool.not_false,cond_true]
  by_cases hv:uK D 0<9223372036854775808
  ·have a1:wH D=true:=by unfold wH; rw[i1 hv]
   have a2:eJ D=(uK D 0:Int):=by unfold eJ; rw[i1 hv]
   rw[a1,a2,cond_true]
   by_cases hb:(uK D 0:Int)>1000000
   ·rw[aQ hb,cond_true,Int.min_eq_right (by omega)]
    by_cases hq:q.1=45
    ·rw[aQ hq,if_pos hq]; rfl
    ·rw[cv hq,if_neg hq]; rfl
   ·rw[cv hb,cond_false,Int.min_eq_left (by omega),cL (by omega) (by omega)]
    by_cases hq:q.1=45
    ·rw[aQ hq,if_pos hq,cond_true]; congr 1; omega
    ·rw[cv hq,if_neg hq,cond_false]
  ·have a1:wH D=false:=by unfold wH; rw[i2 (by omega)]
   rw[a1,cond_false,Int.min_eq_right (by omega)]
   by_cases hq:q.1=45
   ·rw[aQ hq,if_pos hq]; rfl
   ·rw[cv hq,if_neg hq]; rfl
theorem trimL_head (a:ag):∀b t,bx a [48]=b::t→b≠48:=fun b t h hb=>by
 have h2:=List.head?_dropWhile_not (([48]:ag).contains ·) a
 have e:a.dropWhile (([48]:ag).contains ·)=b::t:=h
 rw[e]at h2
 subst hb
 exact absurd (show (([48]:ag).contains 48)=false from h2) (by decide)
theorem trimL_sub (a:ag):∀x∈bx a [48],x∈a:=fun x hx=>(List.dropWhile_sublist _).subset hx
theorem trimR_cases (a:ag):cM a [48] = []∨∃l b,cM a [48]=l ++ [b]∧b≠48:=by
 unfold cM
 have h2:=List.head?_dropWhile_not (([48]:ag).contains ·) a.reverse
 cases h:a.reverse.dropWhile (([48]:ag).contains ·)with
 | nil=>exact .inl rfl
 | cons b t =>
  rw[h]at h2
  refine .inr ⟨t.reverse,b,by simp,fun hb => ?_⟩
  subst hb
  exact absurd (show (([48]:ag).contains 48)=false from h2) (by decide)
theorem trimR_pre (a:ag):∃n,a=cM a [48]++gk n:=by
 have h:=List.takeWhile_append_dropWhile (p:=(([48]:ag).contains ·)) (l:=a.reverse)
 have h2:=congrArg List.reverse h
 rw[List.reverse_append,List.reverse_reverse]at h2
 refine ⟨(a.reverse.takeWhile (([48]:ag).contains ·)).length,?_⟩
 have hz:(a.reverse.takeWhile (([48]:ag).contains ·)).reverse=gk (a.reverse.takeWhile (([48]:ag).contains ·)).length:=by
  unfold gk
  rw[List.eq_replicate_iff]
  refine ⟨List.length_reverse,fun x hx => ?_⟩
  have h3:=List.all_takeWhile (l:=a.reverse) (p:=(([48]:ag).contains ·))
  have:=List.all_eq_true.1 h3 x (List.mem_reverse.1 hx)
  simpa using this
 rw[←hz]
 exact h2.symm
def finD (neg:Bool) (all:ag) (x:Int):fT×Bool :=
 if cM (bx all [48]) [48] = []then (⟨0,0⟩,true)
 else Xj (if neg then -(uK (cM (bx all [48]) [48]) 0:Int)else (uK (cM (bx all [48]) [48]) 0:Int)) (x+(((bx all [48]).length:Int) - ((cM (bx all [48]) [48]).length:Int)))
theorem make_min {R:Type} (m x:Int) (k:fT→Bool→Option R):bk m x k=bk m (min x 1000000) k:=by
 have e:∀x,bk m x k=kq az bL m x k:=fun _=>rfl
 rw[e,e]
 unfold kq
 have:min (min x 1000000) 1000000=min x 1000000:=by omega
 rw[this]
theorem mkD_min (u x:Int):Xj u (min x 1000000)=Xj u x:=by
 unfold Xj
 by_cases h:x≤1000000
 ·rw[Int.min_eq_left h]
 ·rw[if_neg (by omega),if_neg (by omega)]
theorem make_unit {R:Type} (u x:Int) (hu:Int.tmod u 10≠0) (hb:yx u) (hx : -9223372036854775808≤x) (k:fT→Bool→Option R):bk u x k=k (Xj u x).1 (Xj u x).2:=by
 rw[make_min,←mkD_min u x]
 have:=make_ok (R:=R) u 0 (min x 1000000) hu (by simpa using hb) (by omega) (by omega) k
 simpa using this
theorem Xm (all:ag) (h:∀x∈all,nI x) (h0:cM (bx all [48]) [48] ≠ []) :
  (∀x∈cM (bx all [48]) [48],nI x)∧uK (cM (bx all [48]) [48]) 0 % 10≠0∧10 ^ ((cM (bx all [48]) [48]).length - 1)≤uK (cM (bx all [48]) [48]) 0:=by
 obtain ⟨n,hn⟩:=trimR_pre (bx all [48])
 have hd:∀x∈cM (bx all [48]) [48],nI x:=fun x hx=>h x (trimL_sub _ _ (by rw[hn]; simp[hx]))
 refine ⟨hd,?_,?_⟩
 ·rcases trimR_cases (bx all [48])with e|⟨l,b,e,hb⟩
  ·exact (h0 e).elim
  ·have hbd:=hd b (by rw[e]; simp)
   rw[e,valD_app]
   simp only[uK]
   unfold nI at hbd
   have:b.toNat≠48:=fun h=>hb (UInt8.toNat_inj.1 h)
   omega
 ·cases e:cM (bx all [48]) [48]with
  | nil=>exact (h0 e).elim
  | cons b t =>
   have hb:b≠48:=trimL_head all b (t++gk n) (by rw[hn,e]; rfl)
   have hbd:=hd b (by rw[e]; simp)
   unfold nI at hbd
   have h48:b.toNat≠48:=fun h=>hb (UInt8.toNat_inj.1 h)
   have:=valD_ge t (10*0+(b.toNat - 48))
   have h2:1*10 ^ t.length≤(10*0+(b.toNat - 48))*10 ^ t.length:=Nat.mul_le_mul_right _ (by omega)
   simp only[uK,List.length_cons,Nat.add_sub_cancel]
   omega
theorem mkD_far {u:Int} (x:Int) (h:1000000000000000<u.natAbs):Xj u x=(⟨0,0⟩,false):=by
 unfold Xj
 rw[if_neg (by omega)]
theorem fin_ok {R:Type} (y2:Int) (yb:ag) (z19:Int) (z20:ag) (h:∀x∈yb,nI x) (hl:yb.length≤1000) (hx : -2000000≤z19∧z19≤2000000) (k0:fT→Bool→Option R) :
  (cw (wG ([48]:ag)&&decide (([48]:ag).length<4294967281)) (cw (wG ([48]:ag)&&decide (([48]:ag).length<4294967281)) (bif (!(z20==([]:ag)))then (k0 (⟨0,0⟩:fT) false)else (bif (decide (((cM (bx yb ([48]:ag)) ([48]:ag)).length:Int)>(18:Int)))then (k0 (⟨0,0⟩:fT) false)else (cw (decide (1+(cM (bx yb ([48]:ag)) ([48]:ag)).length≤9223372036854775807)) (cw (decide ((([48]:ag)++(cM (bx yb ([48]:ag)) ([48]:ag))).length≤281474976710656)) (bif wH (([48]:ag)++(cM (bx yb ([48]:ag)) ([48]:ag)))then (bif (y2 != 0)then (bk (IntKind.i64.wrap (0 - (eJ (([48]:ag)++(cM (bx yb ([48]:ag)) ([48]:ag)))))) (IntKind.i64.wrap (z19+(IntKind.i64.wrap (((bx yb ([48]:ag)).length:Int) - ((cM (bx yb ([48]:ag)) ([48]:ag)).length:Int))))) (fun AY I1=>k0 AY I1))else (bk (eJ (([48]:ag)++(cM (bx yb ([48]:ag)) ([48]:ag)))) (IntKind.i64.wrap (z19+(IntKind.i64.wrap (((bx yb ([48]:ag)).length:Int) - ((cM (bx yb ([48]:ag)) ([48]:ag)).length:Int))))) (fun FJ Pd=>k0 FJ Pd)))else (bif (y2 != 0)then (bk (IntKind.i64.wrap (0 - (eJ (([48]:ag)++(cM (bx yb ([48]:ag)) ([48]:ag)))))) (IntKind.i64.wrap (z19+(IntKind.i64.wrap (((bx yb ([48]:ag)).length:Int) - ((cM (bx yb ([48]:ag)) ([48]:ag)).length:Int))))) (fun AY I1=>k0 AY I1))else (bk (eJ (([48]:ag)++(cM (bx yb ([48]:ag)) ([48]:ag)))) (IntKind.i64.wrap (z19+(IntKind.i64.wrap (((bx yb ([48]:ag)).length:Int) - ((cM (bx yb ([48]:ag)) ([48]:ag)).length:Int))))) (fun FJ Pd=>k0 FJ Pd)))))))))) =
  if z20 = []then k0 (finD (y2 != 0) yb z19).1 (finD (y2 != 0) yb z19).2 else k0 ⟨0,0⟩ false:=by
 have q3:(wG ([48]:ag)&&decide (([48]:ag).length<4294967281))=true:=rfl
 have htl:(bx yb [48]).length≤yb.length:=BJ _ _
 obtain ⟨n,hn⟩:=trimR_pre (bx yb [48])
 have htr:(bx yb [48]).length=(cM (bx yb [48]) [48]).length+n:=by have:=congrArg List.length hn; rw[List.length_append,oA]at this; exact this
 rw[q3,ay rfl,ay rfl]
 by_cases hz:z20 = []
 ·subst hz
  have hbe:((([]:ag)==([]:ag)))=true:=rfl
  rw[hbe,if_pos rfl]
  simp only[Bool.not_true,cond_false]
  have w0:IntKind.i64.wrap (((bx yb [48]).length:Int) - ((cM (bx yb [48]) [48]).length:Int))=((bx yb [48]).length:Int) - ((cM (bx yb [48]) [48]).length:Int):=cL (by omega) (by omega)
  have w1:IntKind.i64.wrap (z19+(((bx yb [48]).length:Int) - ((cM (bx yb [48]) [48]).length:Int)))=z19+(((bx yb [48]).length:Int) - ((cM (bx yb [48]) [48]).length:Int)):=cL (by omega) (by omega)
  rw[w0,w1,ay (aQ (by omega)),ay (aQ (by simp only[List.length_append,List.length_cons,List.length_nil]; omega)),Bool.cond_self]
  unfold finD
  have hc:(([48]:ag)++(cM (bx yb ([48]:ag)) ([48]:ag)))=48::cM (bx yb [48]) [48]:=rfl
  rw[hc]
  by_cases h0:cM (bx yb [48]) [48] = []
  ·rw[h0,if_pos rfl]
   have a0:eJ (48::([]:ag))=0:=by decide +kernel
   have a1:decide (((([]:ag)).length:Int)>18)=false:=rfl
   have a2:IntKind.i64.wrap (0 - 0)=0:=by decide
   rw[a0,a1,cond_false,a2,Wn,Bool.cond_self]
  ·rw[if_neg h0]
   obtain ⟨f1,f2,f3⟩:=Xm yb h h0
   have hX : -3000000≤z19+(((bx yb [48]).length:Int) - ((cM (bx yb [48]) [48]).length:Int)):=by omega
   generalize cM (bx yb [48]) [48]=sh at *
   generalize (z19+(((bx yb [48]).length:Int) - (sh.length:Int)))=X at *
   have RQ:1≤sh.length:=by cases sh with|nil=>exact (h0 rfl).elim|cons _ _=>simp
   by_cases h18:sh.length≤18
   ·rw[cv (show ¬(sh.length:Int)>18 by omega),cond_false]
    have je:=valD_lt sh 0 f1
    have hp:(10:Nat) ^ sh.length≤10 ^ 18:=Nat.pow_le_pow_right (by omega) h18
    have e18:(10:Nat) ^ 18=1000000000000000000:=rfl
    have v48:uK (48::sh) 0=uK sh 0:=rfl
    have ha:eJ (48::sh)=(uK sh 0:Int):=by
     obtain ⟨i1,_⟩:=atoi_dig (48::sh) (fun x hx=>by rcases List.mem_cons.1 hx with rfl|hx; (unfold nI; decide); exact f1 x hx) (by simp)
     unfold eJ
     rw[i1 (by rw[v48]; omega),v48]
    rw[ha]
    have hm:Int.tmod (uK sh 0:Int) 10≠0:=by rw[Int.tmod_eq_emod_of_nonneg (by omega)]; omega
    cases hy:(y2 != 0)with
    | true =>
     rw[cond_true,if_pos rfl,cL (by omega) (by omega)]
     have e0:(0 - (uK sh 0:Int)) = -(uK sh 0:Int):=by omega
     rw[e0]
     exact make_unit _ _ (tmod_neg hm) (by unfold yx; omega) (by omega) _
    | false =>
     rw[cond_false,if_neg (by simp)]
     exact make_unit _ _ hm (by unfold yx; omega) (by omega) _
   ·rw[aQ (show (sh.length:Int)>18 by omega),cond_true]
    have hp:(10:Nat) ^ 18≤10 ^ (sh.length - 1):=Nat.pow_le_pow_right (by omega) (by omega)
    have e18:(10:Nat) ^ 18=1000000000000000000:=rfl
    rw[mkD_far _ (by split <;> omega)]
 ·have hbe:(z20==([]:ag))=false:=by rw[beq_eq_false_iff_ne]; exact hz
  rw[hbe,if_neg hz]
  rfl
def noD:fT×Bool:=(⟨0,0⟩,false)
def tailD (neg:Bool) (all:ag) (x:Int) (X:ag):fT×Bool :=
 if (s4 [101,69] X).1=0 then (if (s4 [101,69] X).2 = []then finD neg all x else noD)
 else if (aag (s4 [101,69] X).2).2.1=false then noD
 else if (aag (s4 [101,69] X).2).2.2 = []then finD neg all (x+(aag (s4 [101,69] X).2).1)else noD
def CR (s:ag):fT×Bool :=
 let q:=s4 [45] s
 let I:=takeD q.2
 let r:=QL q.2
 if 400<s.length then noD else if I = []then noD else if 1<I.length∧(I.getD 0 0).toNat=48 then noD
 else if (s4 [46] r).1=0 then tailD (q.1 != 0) I 0 (s4 [46] r).2
 else if takeD (s4 [46] r).2 = []then noD
 else tailD (q.1 != 0) (I++takeD (s4 [46] r).2) (-((takeD (s4 [46] r).2).length:Int)) (QL (s4 [46] r).2)
theorem expP_lim (X:ag) : -1000000≤(aag X).1∧(aag X).1≤1000000:=by
 unfold aag
 simp only
 split <;> omega
theorem neN (n:Nat):(((n:Nat):Int) != 0)=(n != 0):=by
 cases n with
 | zero=>rfl
 | succ n=>rw[bne_iff_ne.2 (by omega),bne_iff_ne.2 (by omega)]
theorem tailD_ok {R:Type} (q:Nat) (all:ag) (x:Int) (X:ag) (ha:∀c∈all,nI c) (hl:all.length≤900) (h1 : -1000≤x) (h2:x≤0) (hX:X.length≤1000) (k:fT→Bool→Option R) :
  aU ([101,69]:ag) X (fun Gm Ej=>bif (Gm != 0)then (bA Ej (fun Ar K2 J9=>bif (!K2)then (k (⟨0,0⟩:fT) false)else (cw (wG ([48]:ag)&&decide (([48]:ag).length<4294967281)) (cw (wG ([48]:ag)&&decide (([48]:ag).length<4294967281)) (bif (!(J9==([]:ag)))then (k (⟨0,0⟩:fT) false)else (bif (decide (((cM (bx all ([48]:ag)) ([48]:ag)).length:Int)>(18:Int)))then (k (⟨0,0⟩:fT) false)else (cw (decide (1+(cM (bx all ([48]:ag)) ([48]:ag)).length≤9223372036854775807)) (cw (decide ((([48]:ag)++(cM (bx all ([48]:ag)) ([48]:ag))).length≤281474976710656)) (bif wH (([48]:ag)++(cM (bx all ([48]:ag)) ([48]:ag)))then (bif ((q:Int) != 0)then (bk (IntKind.i64.wrap (0 - (eJ (([48]:ag)++(cM (bx all ([48]:ag)) ([48]:ag)))))) (IntKind.i64.wrap ((IntKind.i64.wrap (x+Ar))+(IntKind.i64.wrap (((bx all ([48]:ag)).length:Int) - ((cM (bx all ([48]:ag)) ([48]:ag)).length:Int))))) (fun AY I1=>k AY I1))else (bk (eJ (([48]:ag)++(cM (bx all ([48]:ag)) ([48]:ag)))) (IntKind.i64.wrap ((IntKind.i64.wrap (x+Ar))+(IntKind.i64.wrap (((bx all ([48]:ag)).length:Int) - ((cM (bx all ([48]:ag)) ([48]:ag)).length:Int))))) (fun FJ Pd=>k FJ Pd)))else (bif ((q:Int) != 0)then (bk (IntKind.i64.wrap (0 - (eJ (([48]:ag)++(cM (bx all ([48]:ag)) ([48]:ag)))))) (IntKind.i64.wrap ((IntKind.i64.wrap (x+Ar))+(IntKind.i64.wrap (((bx all ([48]:ag)).length:Int) - ((cM (bx all ([48]:ag)) ([48]:ag)).length:Int))))) (fun AY I1=>k AY I1))else (bk (eJ (([48]:ag)++(cM (bx all ([48]:ag)) ([48]:ag)))) (IntKind.i64.wrap ((IntKind.i64.wrap (x+Ar))+(IntKind.i64.wrap (((bx all ([48]:ag)).length:Int) - ((cM (bx all ([48]:ag)) ([48]:ag)).length:Int))))) (fun FJ Pd=>k FJ Pd))))))))))))else (cw (wG ([48]:ag)&&decide (([48]:ag).length<4294967281)) (cw (wG ([48]:ag)&&decide (([48]:ag).length<4294967281)) (bif (!(Ej==([]:ag)))then (k (⟨0,0⟩:fT) false)else (bif (decide (((cM (bx all ([48]:ag)) ([48]:ag)).length:Int)>(18:Int)))then (k (⟨0,0⟩:fT) false)else (cw (decide (1+(cM (bx all ([48]:ag)) ([48]:ag)).length≤9223372036854775807)) (cw (decide ((([48]:ag)++(cM (bx all ([48]:ag)) ([48]:ag))).length≤281474976710656)) (bif wH (([48]:ag)++(cM (bx all ([48]:ag)) ([48]:ag)))then (bif ((q:Int) != 0)then (bk (IntKind.i64.wrap (0 - (eJ (([48]:ag)++(cM (bx all ([48]:ag)) ([48]:ag)))))) (IntKind.i64.wrap (x+(IntKind.i64.wrap (((bx all ([48]:ag)).length:Int) - ((cM (bx all ([48]:ag)) ([48]:ag)).length:Int))))) (fun AY I1=>k AY I1))else (bk (eJ (([48]:ag)++(cM (bx all ([48]:ag)) ([48]:ag)))) (IntKind.i64.wrap (x+(IntKind.i64.wrap (((bx all ([48]:ag)).length:Int) - ((cM (bx all ([48]:ag)) ([48]:ag)).length:Int))))) (fun FJ Pd=>k FJ Pd)))else (bif ((q:Int) != 0)then (bk (IntKind.i64.wrap (0 - (eJ (([48]:ag)++(cM (bx all ([48]:ag)) ([48]:ag)))))) (IntKind.i64.wrap (x+(IntKind.i64.wrap (((bx all ([48]:ag)).length:Int) - ((cM (bx all ([48]:ag)) ([48]:ag)).length:Int))))) (fun AY I1=>k AY I1))else (bk (eJ (([48]:ag)++(cM (bx all ([48]:ag)) ([48]:ag)))) (IntKind.i64.wrap (x+(IntKind.i64.wrap (((bx all ([48]:ag)).length:Int) - ((cM (bx all ([48]:ag)) ([48]:ag)).length:Int))))) (fun FJ Pd=>k FJ Pd)))))))))))=k (tailD (q != 0) all x X).1 (tailD (q != 0) all x X).2:=by
 rw[Hq _ _ (by omega)]
 unfold tailD
 have l5:=Vq [101,69] X
 generalize s4 [101,69] X=g at *
 rw[neN]
 by_cases hg:g.1=0
 ·rw[if_pos hg,hg]
  simp only[bne_self_eq_false,cond_false]
  rw[fin_ok _ _ _ _ ha (by omega) (by omega),neN]
  split <;> rfl
 ·rw[if_neg hg,bne_iff_ne.2 hg,cond_true,exp_any _ (by omega)]
  have hlim:=expP_lim g.2
  generalize aag g.2=z at *
  rw[cL (n:=x+z.1) (by omega) (by omega)]
  cases hz:z.2.1 with
  | false=>rfl
  | true =>
   rw[Bool.not_true,cond_false,fin_ok _ _ _ _ ha (by omega) (by omega),neN,if_neg (show ¬(true=false) by simp)]
   split <;> rfl
theorem parse_any {R:Type} (s:ag) (hs:s.length≤4000000000) (k:fT→Bool→Option R):er s k=k (CR s).1 (CR s).2:=by
 have e:er s k=pK bk aU aR bA s k:=rfl
 rw[e]
 unfold pK
 have l1:=Vq [45] s
 rw[Hq _ _ hs]
 unfold CR
 simp only
 generalize s4 [45] s=q at *
 rw[TK _ (by omega)]
 have l2:=take_le q.2
 have l3:=dropD_le q.2
 have dI:=Im q.2
 generalize takeD q.2=I at *
 generalize QL q.2=r at *
 by_cases h400:400<s.length
 ·rw[aQ (show (s.length:Int)>400 by omega),cond_true,if_pos h400]
  rfl
 rw[cv (show ¬(s.length:Int)>400 by omega),cond_false,if_neg h400]
 by_cases hI:I = []
 ·subst hI
  rw[if_pos rfl]
  rfl
 have jA:(I==([]:ag))=false:=by rw[beq_eq_false_iff_ne]; exact hI
 rw[jA,cond_false,if_neg hI]
 have RQ:1≤I.length:=by cases I with|nil=>exact (hI rfl).elim|cons _ _=>simp
 have q48:(((I.getD 0 0).toNat:Int)==48)=decide ((I.getD 0 0).toNat=48):=eqI _ 48
 rw[ay (aQ (show (0:Int)<I.length by omega)),q48]
 by_cases h48:1<I.length∧(I.getD 0 0).toNat=48
 ·rw[if_pos h48,aQ (show (I.length:Int)>1 by omega),aQ h48.2]
  rfl
 rw[if_neg h48]
 have cut:∀x:Option R,(bif decide ((I.length:Int)>1)then (bif decide ((I.getD 0 0).toNat=48)then k ⟨0,0⟩ false else x)else x)=x:=fun x=>by
  by_cases h1:1<I.length
  ·rw[aQ (show (I.length:Int)>1 by omega),cv (fun h=>h48 ⟨h1,h⟩)]; rfl
  ·rw[cv (show ¬(I.length:Int)>1 by omega)]; rfl
 rw[cut]
 rw[Hq _ _ (by omega)]
 have l4:=Vq [46] r
 generalize s4 [46] r=p at *
 rw[neN]
 by_cases hp:p.1=0
 ·rw[if_pos hp,hp]
  simp only[bne_self_eq_false,cond_false]
  exact tailD_ok q.1 I 0 p.2 dI (by omega) (by omega) (by omega) (by omega) k
 ·rw[if_neg hp,bne_iff_ne.2 hp,cond_true,TK _ (by omega)]
  have l5:=take_le p.2
  have l6:=dropD_le p.2
  have dF:=Im p.2
  generalize takeD p.2=F at *
  generalize QL p.2=Y at *
  by_cases hF:F = []
  ·subst hF
   rw[if_pos rfl]
   rfl
  have jA:(F==([]:ag))=false:=by rw[beq_eq_false_iff_ne]; exact hF
  rw[jA,cond_false,if_neg hF,ay (aQ (by omega)),cL (n:=0 - (F.length:Int)) (by omega) (by omega)]
  have e0:(0:Int) - (F.length:Int) = -(F.length:Int):=by omega
  rw[e0]
  exact tailD_ok q.1 (I++F) (-(F.length:Int)) Y (fun c hc=>(List.mem_append.1 hc).elim (dI c) (dF c)) (by rw[List.length_append]; omega) (by omega) (by omega) (by omega) k
theorem longP_sfx {s r:ag} {c:Nat} (h:Vn s=some (c,r)):r <:+ s:=by
 unfold Vn at h
 split at h
 ·cases h
 ·rename_i v r1 hu
  obtain ⟨_,_,hr⟩:=Il hu
  have s1:r1 <:+ s:=by rw[hr]; exact List.drop_suffix _ _
  split at h
  ·cases h; exact s1
  ·split at h
   ·cases h
   ·split at h
    ·split at h
     ·cases h
     ·rename_i w r2 hu2
      obtain ⟨_,_,hr2⟩:=Il hu2
      split at h
      ·simp only[Option.some.injEq,Prod.mk.injEq]at h
       obtain ⟨_,rfl⟩:=h
       rw[hr2]
       exact ((List.drop_suffix _ _).trans (List.drop_suffix _ _)).trans s1
      ·cases h
    ·cases h
theorem escP_sfx {s r:ag} {c:Nat} (h:escP s=some (c,r)):r <:+ s:=by
 cases s with
 | nil=>cases h
 | cons b t =>
  have st:t <:+ b::t:=List.suffix_cons b t
  simp only[escP]at h
  split at h
  ·cases h; exact st
  split at h
  ·cases h; exact st
  split at h
  ·cases h; exact st
  split at h
  ·cases h; exact st
  split at h
  ·cases h; exact st
  split at h
  ·cases h; exact st
  split at h
  ·exact (longP_sfx h).trans st
  ·cases h
theorem plainP_sfx {s r:ag} {c:Nat} (h:NX s=some (c,r)):r <:+ s:=by
 unfold NX at h
 split at h
 ·cases h
 split at h
 ·cases h
 split at h
 ·cases h
 simp only[Option.some.injEq,Prod.mk.injEq]at h
 rw[←h.2]
 exact List.drop_suffix _ _
theorem stepU_sfx {s r:ag} {c:Nat} (h:Vp s=some (c,r)):r <:+ s:=by
 unfold Vp at h
 split at h
 ·exact (escP_sfx h).trans (List.drop_suffix _ _)
 ·exact plainP_sfx h
theorem uq_sfx:∀(n:Nat) (s o o' r:ag),uq n s o=some (o',r)→r <:+ s∧r.length<s.length∧∃rs:List Nat,(∀c∈rs,vr c)∧o'=o++fp rs
 | 0,_,_,_,_,h=>by cases h
 | n+1,s,o,o',r,h=>by
  simp only[uq]at h
  split at h
  ·rename_i SN
   simp only[Option.some.injEq,Prod.mk.injEq]at h
   obtain ⟨rfl,rfl⟩:=h
   refine ⟨List.drop_suffix _ _,?_, [],by simp,by simp[fp]⟩
   cases s with
   | nil=>cases SN
   | cons b t=>simp
  ·split at h
   ·cases h
   ·rename_i c r1 hs
    obtain ⟨h1,h2,rs,h3,h4⟩:=uq_sfx n r1 (o++enc c) o' r h
    obtain ⟨hv,hl⟩:=aac hs
    refine ⟨h1.trans (stepU_sfx hs),by omega,c::rs,fun x hx => ?_,?_⟩
    ·rcases List.mem_cons.1 hx with rfl|hx
     ·exact hv
     ·exact h3 x hx
    ·rw[h4]; simp[fp]
theorem uqS_sfx {s o r:ag} (h:uqS s=some (o,r)):r <:+ s∧r.length+1<s.length∧∃rs:List Nat,(∀c∈rs,vr c)∧o=fp rs:=by
 unfold uqS at h
 split at h
 ·rename_i SN
  obtain ⟨h1,h2,rs,h3,h4⟩:=uq_sfx _ _ _ _ _ h
  refine ⟨h1.trans (List.drop_suffix _ _),?_,rs,h3,by simpa using h4⟩
  rw[List.length_drop]at h2
  omega
 ·cases h
theorem sfx_drop {s r:ag} (h:r <:+ s):r=s.drop (s.length - r.length):=by
 obtain ⟨t,rfl⟩:=h
 rw[List.length_append,Nat.add_sub_cancel,List.drop_left]
def numS:ag := [48,49,50,51,52,53,54,55,56,57,43,45,46,101,69]
def letS:ag := [97,98,99,100,101,102,103,104,105,106,107,108,109,110,111,112,113,114,115,116,117,118,119,120,121,122]
def blaS:ag := [32,9,10,13]
def sigS:ag := [123,125,91,93,44,58]
def Fz (b:UInt8):Bool:=numS.contains b
def EA (b:UInt8):Bool:=letS.contains b
def th (b:UInt8):Bool:=blaS.contains b
def TL (b:UInt8):Bool:=sigS.contains b
def xa:ag := [116,114,117,101]
def lv:ag := [102,97,108,115,101]
def rS:ag := [110,117,108,108]
def tokS (s:ag):Option (Token×ag) :=
 match s with
 | []=>none
 | c::t =>
  if c.toNat=45∨(48≤c.toNat∧c.toNat≤57)then
   (if (CR (s.takeWhile Fz)).2 then some (⟨3,s.takeWhile Fz,(CR (s.takeWhile Fz)).1,0⟩,s.dropWhile Fz)else none)
  else if c.toNat=34 then (match uqS s with|some (o,r)=>some (⟨2,o,⟨0,0⟩,0⟩,r)|none=>none)
  else if TL c then some (⟨1, [c],⟨0,0⟩,0⟩,t)
  else if s.takeWhile EA=xa∨s.takeWhile EA=lv∨s.takeWhile EA=rS then some (⟨4,s.takeWhile EA,⟨0,0⟩,0⟩,s.dropWhile EA)
  else none
theorem tw_nil {p:UInt8→Bool} {c:UInt8} {t:ag} (h:p c=true):((c::t).dropWhile p).length<(c::t:ag).length:=by
 rw[List.dropWhile_cons,if_pos h]
 have:=BJ p t
 simp only[List.length_cons]
 omega
theorem tokS_sfx {s r:ag} {t:Token} (h:tokS s=some (t,r)):r <:+ s∧r.length<s.length:=by
 cases s with
 | nil=>cases h
 | cons c u =>
  simp only[tokS]at h
  split at h
  ·rename_i hc
   split at h
   ·simp only[Option.some.injEq,Prod.mk.injEq]at h
    rw[←h.2]
    refine ⟨List.dropWhile_suffix _,tw_nil ?_⟩
    have all:∀n:Fin 256,(n.val=45∨(48≤n.val∧n.val≤57))→Fz (UInt8.ofNat n.val)=true:=by decide +kernel
    have:=all ⟨c.toNat,UInt8.toNat_lt c⟩ hc
    simpa using this
   ·cases h
  ·split at h
   ·split at h
    ·rename_i o q hq
     simp only[Option.some.injEq,Prod.mk.injEq]at h
     obtain ⟨_,rfl⟩:=h
     obtain ⟨h1,h2,_⟩:=uqS_sfx hq
     exact ⟨h1,by omega⟩
    ·cases h
   ·split at h
    ·simp only[Option.some.injEq,Prod.mk.injEq]at h
     rw[←h.2]
     exact ⟨List.suffix_cons _ _,by simp⟩
    ·split at h
     ·rename_i hw
      simp only[Option.some.injEq,Prod.mk.injEq]at h
      rw[←h.2]
      refine ⟨List.dropWhile_suffix _,tw_nil ?_⟩
      cases hl:EA c with
      | true=>rfl
      | false =>
       have e:(c::u).takeWhile EA = []:=by rw[List.takeWhile_cons,hl]; rfl
       rw[e]at hw
       rcases hw with hw|hw|hw <;> cases hw
     ·cases h
def putT (t:Token) (n:Int):Token:=⟨t.kind,t.text,t.num,n⟩
def xT:Nat→Nat→ag→List Token→List Token×Int×Int
 | 0,_,_,_=>([],0,0)
 | n+1,p,s,out =>
  if s.dropWhile th = []then (out ++ [⟨5, [],⟨0,0⟩,((p+(s.takeWhile th).length:Nat):Int)⟩],0,0)
  else match tokS (s.dropWhile th)with
   | none=>([],30,((p+(s.takeWhile th).length:Nat):Int))
   | some (t,r)=>xT n (p+(s.length - r.length)) r (out ++ [putT t ((p+(s.takeWhile th).length:Nat):Int)])
def rT (s:ag):List Token×Int×Int:=if 20000<s.length then ([],30,0)else xT (s.length+1) 0 s []
theorem aah:∀(n m p:Nat) (s:ag) (out:List Token),s.length<n→s.length<m→xT n p s out=xT m p s out
 | 0,_,_,_,_,h,_=>by omega
 | _,0,_,_,_,_,h=>by omega
 | n+1,m+1,p,s,out,h1,h2=>by
  simp only[xT]
  split
  ·rfl
  ·split
   ·rfl
   ·rename_i t r hr
    have h3:=(tokS_sfx hr).2
    have h4:=BJ th s
    exact aah n m _ r _ (by omega) (by omega)
abbrev qz:=ag×ag×Token
def tS:List qz→ag→ag
 | [],z=>z
 | x::l,z=>x.1++(x.2.1++tS l z)
def okW:List qz→ag→Prop
 | [],_=>True
 | x::l,z=>(∀b∈x.1,th b=true)∧(∃c u,x.2.1=c::u∧th c=false)∧tokS (x.2.1++tS l z)=some (x.2.2,tS l z)∧okW l z
def tokW:Nat→List qz→List Token
 | _, [] => []
 | p,x::l=>putT x.2.2 ((p+x.1.length:Nat):Int)::tokW (p+x.1.length+x.2.1.length) l
def QM:List qz→Nat
 | []=>0
 | x::l=>x.1.length+x.2.1.length+QM l
theorem aai:∀(l:List qz) (z:ag),(tS l z).length=QM l+z.length
 | [],z=>by simp[tS,QM]
 | x::l,z=>by simp only[tS,QM,List.length_append,aai l z]; omega
theorem tw_gap:∀(g r:ag),(∀b∈g,th b=true)→(∃c u,r=c::u∧th c=false)∨r = []→(g++r).takeWhile th=g∧(g++r).dropWhile th=r
 | [],r,_,h=>by
  rcases h with ⟨c,u,rfl,hc⟩|rfl
  ·exact ⟨by rw[List.nil_append,List.takeWhile_cons,hc]; rfl,by rw[List.nil_append,List.dropWhile_cons,hc]; rfl⟩
  ·exact ⟨rfl,rfl⟩
 | b::g,r,hg,h=>by
  have hb:=hg b (by simp)
  obtain ⟨h1,h2⟩:=tw_gap g r (fun x hx=>hg x (by simp[hx])) h
  refine ⟨?_,?_⟩
  ·rw[List.cons_append,List.takeWhile_cons,hb,if_pos rfl,h1]
  ·rw[List.cons_append,List.dropWhile_cons,hb,if_pos rfl,h2]
theorem aaj:∀(l:List qz) (z:ag) (n p:Nat) (out:List Token),okW l z→l.length<n→xT n p (tS l z) out=xT (n - l.length) (p+QM l) z (out++tokW p l)
 | [],z,n,p,out,_,_=>by simp[tS,QM,tokW]
 | x::l,z,n,p,out,h,hn=>by
  obtain ⟨h1,⟨c,u,h2,h3⟩,h4,h5⟩:=h
  obtain ⟨n,rfl⟩:∃m,n=m+1:=⟨n - 1,by omega⟩
  simp only[List.length_cons]at hn
  obtain ⟨t1,t2⟩:=tw_gap x.1 (x.2.1++tS l z) h1 (.inl ⟨c,u++tS l z,by rw[h2]; rfl,h3⟩)
  have hlay:tS (x::l) z=x.1++(x.2.1++tS l z):=rfl
  have jA:¬(x.2.1++tS l z = []):=by rw[h2]; simp
  have hw:0<x.2.1.length:=by rw[h2]; simp
  simp only[xT]
  rw[hlay,t1,t2,if_neg jA,h4]
  simp only
  have e1:(x.1++(x.2.1++tS l z)).length - (tS l z).length=x.1.length+x.2.1.length:=by simp only[List.length_append]; omega
  rw[e1,aaj l z n _ _ h5 (by omega)]
  have e2:n+1 - (x::l).length=n - l.length:=by simp
  have e3:p+(x.1.length+x.2.1.length)+QM l=p+QM (x::l):=by simp only[QM]; omega
  have e4:p+(x.1.length+x.2.1.length)=p+x.1.length+x.2.1.length:=by omega
  rw[e2,e3]
  simp only[tokW,List.append_assoc,List.singleton_append]
  rw[e4]
theorem scan_end {g:ag} (hg:∀b∈g,th b=true) (n p:Nat) (out:List Token):xT (n+1) p g out=(out ++ [⟨5, [],⟨0,0⟩,((p+g.length:Nat):Int)⟩],0,0):=by
 obtain ⟨t1,t2⟩:=tw_gap g [] hg (.inr rfl)
 rw[List.append_nil]at t1 t2
 simp only[xT]
 rw[t1,t2,if_pos rfl]
theorem scanS_words (l:List qz) (g:ag) (hg:∀b∈g,th b=true) (h:okW l g) (hl:QM l+g.length≤20000):rT (tS l g)=(tokW 0 l ++ [⟨5, [],⟨0,0⟩,((QM l+g.length:Nat):Int)⟩],0,0):=by
 unfold rT
 have hlen:=aai l g
 rw[if_neg (by omega)]
 have hcount:l.length≤QM l:=by
  clear hl hlen
  induction l with
  | nil=>simp[QM]
  | cons x l ih =>
   obtain ⟨_,⟨c,u,h2,_⟩,_,h5⟩:=h
   have:=ih h5
   have hw:0<x.2.1.length:=by rw[h2]; simp
   simp only[QM,List.length_cons]
   omega
 rw[aaj l g _ 0 [] h (by omega),hlen]
 obtain ⟨m,hm⟩:∃m,QM l+g.length+1 - l.length=m+1:=⟨QM l+g.length - l.length,by omega⟩
 rw[hm,scan_end hg]
 simp
def SO (r:ag):Prop:=r = []∨∃b u,r=b::u∧Fz b=false∧EA b=false
def Word (w:ag) (t:Token):Prop:=(∃c u,w=c::u∧th c=false)∧∀r,SO r→tokS (w++r)=some (t,r)
theorem tw_stop {p:UInt8→Bool}:∀(w r:ag),(∀b∈w,p b=true)→(r = []∨∃b u,r=b::u∧p b=false)→(w++r).takeWhile p=w∧(w++r).dropWhile p=r
 | [],r,_,h=>by
  rcases h with rfl|⟨b,u,rfl,hb⟩
  ·exact ⟨rfl,rfl⟩
  ·exact ⟨by rw[List.nil_append,List.takeWhile_cons,hb]; rfl,by rw[List.nil_append,List.dropWhile_cons,hb]; rfl⟩
 | b::w,r,hw,h=>by
  have hb:=hw b (by simp)
  obtain ⟨h1,h2⟩:=tw_stop w r (fun x hx=>hw x (by simp[hx])) h
  exact ⟨by rw[List.cons_append,List.takeWhile_cons,hb,if_pos rfl,h1],by rw[List.cons_append,List.dropWhile_cons,hb,if_pos rfl,h2]⟩
theorem stop_num {r:ag} (h:SO r):r = []∨∃b u,r=b::u∧Fz b=false:=h.imp id fun ⟨b,u,e,h1,_⟩=>⟨b,u,e,h1⟩
theorem stop_let {r:ag} (h:SO r):r = []∨∃b u,r=b::u∧EA b=false:=h.imp id fun ⟨b,u,e,_,h1⟩=>⟨b,u,e,h1⟩
theorem word_sign (c:UInt8) (h:TL c=true):Word [c] ⟨1, [c],⟨0,0⟩,0⟩:=by
 have all:∀n:Fin 256,TL (UInt8.ofNat n.val)=true→th (UInt8.ofNat n.val)=false∧¬(n.val=45∨(48≤n.val∧n.val≤57))∧¬n.val=34:=by decide +kernel
 obtain ⟨h1,h2,h3⟩:=all ⟨c.toNat,UInt8.toNat_lt c⟩ (by simpa using h)
 refine ⟨⟨c, [],rfl,by simpa using h1⟩,fun r _ => ?_⟩
 show tokS (c::r)=_
 simp only[tokS]
 rw[if_neg h2,if_neg h3,if_pos h]
theorem Hz {w:ag} (h:w=xa∨w=lv∨w=rS):Word w ⟨4,w,⟨0,0⟩,0⟩:=by
 have hl:∀b∈w,EA b=true:=by rcases h with rfl|rfl|rfl <;> decide
 have hc:∃c u,w=c::u∧th c=false∧¬(c.toNat=45∨(48≤c.toNat∧c.toNat≤57))∧¬c.toNat=34∧TL c=false:=by
  rcases h with rfl|rfl|rfl <;> exact ⟨_,_,rfl,by decide,by decide,by decide,by decide⟩
 obtain ⟨c,u,rfl,h1,h2,h3,h4⟩:=hc
 refine ⟨⟨c,u,rfl,h1⟩,fun r hr => ?_⟩
 obtain ⟨t1,t2⟩:=tw_stop (c::u) r hl (stop_let hr)
 show tokS (c::(u++r))=_
 have e:(c::(u++r):ag)=(c::u)++r:=rfl
 simp only[tokS]
 rw[if_neg h2,if_neg h3,h4,if_neg (by simp),e,t1,t2,if_pos h]
theorem word_text {rs:List Nat} (hr:∀c∈rs,vr c):Word (qt rs) ⟨2,fp rs,⟨0,0⟩,0⟩:=by
 have e:qt rs=34::(Vo rs ++ [34]):=by unfold qt; simp
 refine ⟨⟨34,_,e,by decide⟩,fun r _ => ?_⟩
 have hu:=uqS_qt rs hr r
 have e2:qt rs++r=34::(Vo rs ++ [34]++r):=by rw[e]; rfl
 rw[e2]at hu ⊢
 simp only[tokS]
 rw[if_neg (by decide),if_pos (by decide),hu]
theorem parseS_prt {d:fT} (hd:Fm d):CR (X2 d)=(d,true):=by
 have key:∀k:fT→Bool→Option (fT×Bool),er (X2 d) k=k d true:=fun k=>by
  by_cases h0:d.ao=0
  ·rw[hd.zero h0,aaf,parse_zero]
  ·have:=parse_prt hd h0 [] 0 (.inl ⟨rfl,rfl⟩) (by omega) (by simp) k
   rw[List.append_nil,Int.add_zero,make_same hd h0]at this
   exact this
 have hl:(X2 d).length≤4000000000:=by
  by_cases h0:d.ao=0
  ·rw[hd.zero h0,aaf]; simp
  ·obtain ⟨I,F,pt,a,b,e1,e2,i0,i1,f0,f1,fl,il,iD,fD⟩:=Wu d hd h0
   rw[e1]
   cases hdn:decide (d.ao<0) <;> cases pt <;> simp <;> omega
 have h1:=parse_any (X2 d) hl (fun a b=>some (a,b))
 rw[key]at h1
 simp only[Option.some.injEq]at h1
 rw[h1]
theorem prt_chars {d:fT} (hd:Fm d):(∀b∈X2 d,Fz b=true)∧(∃c u,X2 d=c::u∧(c.toNat=45∨(48≤c.toNat∧c.toNat≤57)))∧(X2 d).length≤60:=by
 have dig:∀b:UInt8,nI b→Fz b=true:=fun b hb=>by
  have all:∀n:Fin 256,(48≤n.val∧n.val≤57)→Fz (UInt8.ofNat n.val)=true:=by decide +kernel
  have:=all ⟨b.toNat,UInt8.toNat_lt b⟩ hb
  simpa using this
 by_cases h0:d.ao=0
 ·rw[hd.zero h0,aaf]
  exact ⟨by decide,⟨48, [],rfl,by decide⟩,by simp⟩
 ·obtain ⟨I,F,pt,a,b,e1,e2,i0,i1,f0,f1,fl,il,iD,fD⟩:=Wu d hd h0
  rw[e1]
  refine ⟨fun x hx => ?_,?_,?_⟩
  ·rcases List.mem_append.1 hx with hx|hx
   ·split at hx
    ·simp at hx; subst hx; decide
    ·simp at hx
   ·rcases List.mem_append.1 hx with hx|hx
    ·exact dig x (iD x hx)
    ·split at hx
     ·rcases List.mem_cons.1 hx with rfl|hx
      ·decide
      ·exact dig x (fD x hx)
     ·simp at hx
  ·cases I with
   | nil=>exact (i0 rfl).elim
   | cons c I =>
    cases decide (d.ao<0)with
    | true=>exact ⟨45,_,rfl,by decide⟩
    | false=>exact ⟨c,_,rfl, .inr (iD c (by simp))⟩
  ·cases hdn:decide (d.ao<0) <;> cases pt <;> simp <;> omega
theorem word_num {d:fT} (hd:Fm d):Word (X2 d) ⟨3,X2 d,d,0⟩:=by
 obtain ⟨h1,⟨c,u,h2,h3⟩,_⟩:=prt_chars hd
 have hp:=parseS_prt hd
 have hb:th c=false:=by
  have all:∀n:Fin 256,(n.val=45∨(48≤n.val∧n.val≤57))→th (UInt8.ofNat n.val)=false:=by decide +kernel
  have:=all ⟨c.toNat,UInt8.toNat_lt c⟩ h3
  simpa using this
 refine ⟨⟨c,u,h2,hb⟩,fun r hr => ?_⟩
 obtain ⟨t1,t2⟩:=tw_stop (X2 d) r h1 (stop_num hr)
 have e:X2 d++r=c::(u++r):=by rw[h2]; rfl
 rw[e]at t1 t2 ⊢
 simp only[tokS]
 rw[if_pos h3,t1,t2,hp]
 rfl
def sg (c:UInt8):qz:=([], [c],⟨1, [c],⟨0,0⟩,0⟩)
theorem FA:∀(a b:List qz) (z:ag),tS (a++b) z=tS a (tS b z)
 | [],_,_=>rfl
 | x::a,b,z=>by simp only[List.cons_append,tS,FA a b z]
theorem CS:∀(a b:List qz) (z:ag),okW (a++b) z↔okW a (tS b z)∧okW b z
 | [],b,z=>by simp[okW]
 | x::a,b,z=>by simp only[List.cons_append,okW,CS a b z,FA,and_assoc]
theorem FB {w:ag} {t:Token} (h:Word w t) {z:ag} (hz:SO z):okW [([],w,t)] z:=⟨by simp,h.1,h.2 z hz,trivial⟩
theorem FC {c:UInt8} (h:TL c=true) (z:ag):okW [sg c] z:=by
 refine ⟨by simp[sg],(word_sign c h).1,?_,trivial⟩
 have all:∀n:Fin 256,TL (UInt8.ofNat n.val)=true→¬(n.val=45∨(48≤n.val∧n.val≤57))∧¬n.val=34:=by decide +kernel
 obtain ⟨h2,h3⟩:=all ⟨c.toNat,UInt8.toNat_lt c⟩ (by simpa using h)
 show tokS (c::z)=some (⟨1, [c],⟨0,0⟩,0⟩,z)
 simp only[tokS]
 rw[if_neg h2,if_neg h3,if_pos h]
theorem Rz {c:UInt8} (h:TL c=true) (z:ag):SO (c::z):=by
 have all:∀n:Fin 256,TL (UInt8.ofNat n.val)=true→Fz (UInt8.ofNat n.val)=false∧EA (UInt8.ofNat n.val)=false:=by decide +kernel
 obtain ⟨h2,h3⟩:=all ⟨c.toNat,UInt8.toNat_lt c⟩ (by simpa using h)
 exact .inr ⟨c,z,rfl,by simpa using h2,by simpa using h3⟩
theorem refMake_end {R:Type} (u x:Int) (k:fT→Bool→Option R) :
  (bif (decide (u>(1000000000000000:Int)))then (k (⟨0,0⟩:fT) false)else (bif (decide (u<(-1000000000000000:Int)))then (k (⟨0,0⟩:fT) false)else (bif (decide (x>(9:Int)))then (k (⟨0,0⟩:fT) false)else (bif (decide (x<(-9:Int)))then (k (⟨0,0⟩:fT) false)else (k (⟨u,x⟩:fT) true)))))=k (Xj u x).1 (Xj u x).2:=by
 unfold Xj
 by_cases h1:u>1000000000000000
 ·rw[aQ h1,if_neg (by omega)]; rfl
 ·rw[cv h1,cond_false]
  by_cases h2:u < -1000000000000000
  ·rw[aQ h2,if_neg (by omega)]; rfl
  ·rw[cv h2,cond_false]
   by_cases h3:x>9
   ·rw[aQ h3,if_neg (by omega)]; rfl
   ·rw[cv h3,cond_false]
    by_cases h4:x < -9
    ·rw[aQ h4,if_neg (by omega)]; rfl
    ·rw[cv h4,cond_false,if_pos (by omega)]
theorem refMake_loop {R:Type} (k:fT→Bool→Option R):∀(j n:Nat) (u x:Int) (d:fT),j<n→Int.tmod u 10≠0→yx (u*10 ^ j)→yx x →
  cF n (u*10 ^ j) x d (fun y6 y7 y8=>bif (decide (y6>(1000000000000000:Int)))then (k (⟨0,0⟩:fT) false)else (bif (decide (y6<(-1000000000000000:Int)))then (k (⟨0,0⟩:fT) false)else (bif (decide (y7>(9:Int)))then (k (⟨0,0⟩:fT) false)else (bif (decide (y7<(-9:Int)))then (k (⟨0,0⟩:fT) false)else (k (⟨y6,y7⟩:fT) true))))) (fun y9 od ug zj=>k zj ug)=k (Xj u (x+j)).1 (Xj u (x+j)).2:=by
 intro j
 induction j with
 | zero =>
  intro n u x d hn hu hb hx
  obtain ⟨m,rfl⟩:∃m,n=m+1:=⟨n - 1,by omega⟩
  rw[cF]
  unfold jX
  have e1:u*10 ^ 0=u:=by simp
  have e2:(Int.tmod u 10==0)=false:=by rw[beq_eq_false_iff_ne]; exact hu
  have e3:x+((0:Nat):Int)=x:=by omega
  rw[e1,e2,cond_false,e3]
  exact refMake_end u x k
 | succ j ih =>
  intro n u x d hn hu hb hx
  obtain ⟨m,rfl⟩:∃m,n=m+1:=⟨n - 1,by omega⟩
  rw[cF]
  unfold jX
  have ep:u*10 ^ (j+1)=u*10 ^ j*10:=by rw[Int.pow_succ,Int.mul_assoc]
  unfold yx at hb hx
  rw[ep]at hb ⊢
  have e1:(Int.tmod (u*10 ^ j*10) 10==0)=true:=by rw[Int.mul_tmod_left]; rfl
  have e2:Int.tdiv (u*10 ^ j*10) 10=u*10 ^ j:=Int.mul_tdiv_cancel _ (by omega)
  rw[e1,cond_true,e2,cL (n:=u*10 ^ j) (by omega) (by omega)]
  by_cases hx2:x>1099511627776
  ·rw[aQ hx2,cond_true]
   unfold Xj
   rw[if_neg (by omega)]
  ·rw[cv hx2,cond_false,cL (n:=x+1) (by omega) (by omega)]
   refine (ih m u (x+1) d (by omega) hu (by unfold yx; omega) (by unfold yx; omega)).trans ?_
   have:x+1+(j:Int)=x+((j+1:Nat):Int):=by omega
   rw[this]
theorem refMake_ok {R:Type} (u:Int) (j:Nat) (x:Int) (hu:Int.tmod u 10≠0) (hb:yx (u*10 ^ j)) (hx:yx x) (k:fT→Bool→Option R):tL (u*10 ^ j) x k=k (Xj u (x+j)).1 (Xj u (x+j)).2:=by
 have e:tL (u*10 ^ j) x k=tK cF (u*10 ^ j) x k:=rfl
 rw[e]
 unfold tK
 have hu0:u≠0:=by rintro rfl; exact hu rfl
 have ha:=TE u j
 have h64:=Z5 hu0 hb
 have h0:(u*10 ^ j==0)=false:=by rw[beq_eq_false_iff_ne]; omega
 rw[h0,cond_false]
 exact refMake_loop k j _ u x _ (by omega) hu hb hx
theorem refMake_zero {R:Type} (x:Int) (k:fT→Bool→Option R):tL 0 x k=k ⟨0,0⟩ true:=by
 have e:tL 0 x k=tK cF 0 x k:=rfl
 rw[e]
 rfl
section
variable {R:Type} (k:fT→Bool→Option R) (s:ag) (hs:s.length≤4000000000) (sg:Int) (hsg:sg=1∨sg = -1) (all:ag) (x:Int) (ha:∀c∈all,nI c) (h0:all ≠ []) (hl:all.length≤900) (hx : -1000≤x∧x≤0)
include hs hsg ha h0 hl hx
end
def fmB (d:fT):Bool:=(d.ao==0&&d.exp==0)||(Int.tmod d.ao 10 != 0&&(decide (-1000000000000000≤d.ao)&&decide (d.ao≤1000000000000000)&&(decide (-9≤d.exp)&&decide (d.exp≤9))))
theorem JV {d:fT}:fmB d=true↔Fm d:=by
 unfold fmB Fm
 simp[and_assoc]
theorem right_any {R:Type} (d:fT) (k:Bool→Option R):bS d k=k (fmB d):=by
 have e:bS d k=jD az d k:=rfl
 rw[e]
 unfold jD fmB
 by_cases h0:d.ao=0
 ·rw[h0]
  have t0:((0:Int)==0)=true:=rfl
  have t1:(Int.tmod 0 10 != 0)=false:=rfl
  rw[t0,t1,cond_true,Bool.true_and,Bool.false_and,Bool.or_false]
 ·have e0:(d.ao==0)=false:=by rw[beq_eq_false_iff_ne]; exact h0
  rw[e0,cond_false,Bool.false_and,Bool.false_or]
  cases ht:(Int.tmod d.ao 10 != 0)with
  | false=>rfl
  | true =>
   rw[cond_true,Bool.true_and,LH]
   cases (decide (-1000000000000000≤d.ao)&&decide (d.ao≤1000000000000000))with
   | false=>rfl
   | true=>rw[cond_true,LH,Bool.true_and]
theorem print_bad {R:Type} {d:fT} (hd:fmB d=false) (k:ag→Option R):bT d k=k []:=by
 have e:bT d k=pJ bS aj ae ai d k:=rfl
 rw[e]
 unfold pJ
 rw[right_any,hd]
 rfl
def AL (d:fT):ag:=if fmB d then X2 d else []
theorem print_any {R:Type} (d:fT) (k:ag→Option R):bT d k=k (AL d):=by
 unfold AL
 cases h:fmB d with
 | true=>rw[print_ok (JV.1 h)]; rfl
 | false=>rw[print_bad h]; rfl
def tu:List ag→List ag→Bool
 | _, []=>true
 | seen,n::l => !seen.contains n&&fE n&&tu (n::seen) l
mutual
def dZ:Json→Int→Bool
 | ⟨k,n,t,ns,is⟩,d=>decide (d≤16)&&(decide (1≤k)&&decide (k≤7))&&(k==4||(n.ao==0&&n.exp==0))&&(k==5||t.isEmpty)&&(k==7||ns.isEmpty)&&(k==6||k==7||is.isEmpty) &&
   (if k=4 then fmB n else if k=5 then fE t else if k=7 then decide (ns.length=is.length)&&tu [] ns&&eQ is (d+1)else eQ is (d+1))
def eQ:List Json→Int→Bool
 | [],_=>true
 | x::l,d=>dZ x d&&eQ l d
end
theorem TM {d:Int}:∀ {l:List Json} {x:Json},eQ l d=true→x∈l→dZ x d=true
 | y::l,x,h,hx=>by
  simp only[eQ,Bool.and_eq_true]at h
  rcases List.mem_cons.1 hx with rfl|hx
  ·exact h.1
  ·exact TM h.2 hx
inductive Wv:Json→Int→Prop where
 | name (k:Int) (d:Int) (hd:d≤16) (hk:k=1∨k=2∨k=3):Wv ⟨k,⟨0,0⟩, [], [], []⟩ d
 | num (n:fT) (d:Int) (hd:d≤16) (hn:Fm n):Wv ⟨4,n, [], [], []⟩ d
 | text (t:ag) (d:Int) (hd:d≤16) (ht:fE t=true):Wv ⟨5,⟨0,0⟩,t, [], []⟩ d
 | arr (is:List Json) (d:Int) (hd:d≤16) (hi:eQ is (d+1)=true):Wv ⟨6,⟨0,0⟩, [], [],is⟩ d
 | obj (ns:List ag) (is:List Json) (d:Int) (hd:d≤16) (hl:ns.length=is.length) (hu:tu [] ns=true) (hi:eQ is (d+1)=true):Wv ⟨7,⟨0,0⟩, [],ns,is⟩ d
theorem fx {v:Json} {d:Int}:dZ v d=true↔Wv v d:=by
 obtain ⟨k,⟨m,e⟩,t,ns,is⟩:=v
 constructor
 ·intro h
  simp only[dZ,Bool.and_eq_true,Bool.or_eq_true,decide_eq_true_eq,beq_iff_eq,List.isEmpty_iff]at h
  obtain ⟨⟨⟨⟨⟨⟨hd,hk1,Rj⟩,hn⟩,ht⟩,TY⟩,Yv⟩,hx⟩:=h
  have hk:k=1∨k=2∨k=3∨k=4∨k=5∨k=6∨k=7:=by omega
  rcases hk with rfl|rfl|rfl|rfl|rfl|rfl|rfl
  ·simp at hn ht TY Yv
   obtain ⟨rfl,rfl⟩:=hn
   subst ht TY Yv
   exact .name 1 d hd (by omega)
  ·simp at hn ht TY Yv
   obtain ⟨rfl,rfl⟩:=hn
   subst ht TY Yv
   exact .name 2 d hd (by omega)
  ·simp at hn ht TY Yv
   obtain ⟨rfl,rfl⟩:=hn
   subst ht TY Yv
   exact .name 3 d hd (by omega)
  ·simp at ht TY Yv hx
   subst ht TY Yv
   exact .num _ d hd (JV.1 hx)
  ·simp at hn TY Yv hx
   obtain ⟨rfl,rfl⟩:=hn
   subst TY Yv
   exact .text t d hd hx
  ·simp at hn ht TY hx
   obtain ⟨rfl,rfl⟩:=hn
   subst ht TY
   exact .arr is d hd hx
  ·simp at hn ht hx
   obtain ⟨rfl,rfl⟩:=hn
   subst ht
   exact .obj ns is d hd hx.1.1 hx.1.2 hx.2
 ·intro h
  cases h with
  | name _ _ hd hk=>rcases hk with rfl|rfl|rfl <;> simp[dZ,eQ,hd]
  | num _ _ hd hn=>simp[dZ,hd,JV.2 hn]
  | text _ _ hd ht=>simp[dZ,hd,ht]
  | arr _ _ hd hi=>simp[dZ,hd,hi]
  | obj _ _ _ hd hl hu hi=>simp[dZ,hd,hl,hu,hi]
def NY (t:ag):ag:=34::(t.flatMap qb ++ [34])
theorem Yw {rs:List Nat} (hr:∀c∈rs,vr c):NY (fp rs)=qt rs:=by unfold NY qt; rw[qb_encL rs hr]
mutual
def cE:Json→ag
 | ⟨k,n,t,ns,is⟩=>if k=1 then rS else if k=2 then lv else if k=3 then xa else if k=4 then AL n else if k=5 then NY t else if k=7 then 123::(iu ns is true ++ [125])else 91::(k7 is true ++ [93])
def k7:List Json→Bool→ag
 | [],_ => []
 | x::l,first=>(if first then []else [44])++(cE x++k7 l false)
def iu:List ag→List Json→Bool→ag
 | _, [],_ => []
 | ns,x::l,first=>(if first then []else [44])++(NY (ns.headD [])++(58::(cE x++iu ns.tail l false)))
end
def txW (t:ag):qz:=([],NY t,⟨2,t,⟨0,0⟩,0⟩)
mutual
def tT:Json→List qz
 | ⟨k,n,t,ns,is⟩=>if k=1 then [([],rS,⟨4,rS,⟨0,0⟩,0⟩)]else if k=2 then [([],lv,⟨4,lv,⟨0,0⟩,0⟩)]else if k=3 then [([],xa,⟨4,xa,⟨0,0⟩,0⟩)]
   else if k=4 then [([],AL n,⟨3,AL n,n,0⟩)]else if k=5 then [txW t]else if k=7 then sg 123::(np ns is true ++ [sg 125])else sg 91::(rA is true ++ [sg 93])
def rA:List Json→Bool→List qz
 | [],_ => []
 | x::l,first=>(if first then []else [sg 44])++(tT x++rA l false)
def np:List ag→List Json→Bool→List qz
 | _, [],_ => []
 | ns,x::l,first=>(if first then []else [sg 44])++(txW (ns.headD [])::sg 58::(tT x++np ns.tail l false))
end
mutual
theorem RA:∀(v:Json) (z:ag),tS (tT v) z=cE v++z
 | ⟨k,n,t,ns,is⟩,z=>by
  have hL:=aak is true
  have hO:=aal ns is true
  simp only[tT,cE]
  split
  ·simp[tS]
  split
  ·simp[tS]
  split
  ·simp[tS]
  split
  ·simp[tS]
  split
  ·simp[tS,txW]
  split
  ·simp only[tS,sg,FA,hO]; simp[tS,sg]
  ·simp only[tS,sg,FA,hL]; simp[tS,sg]
theorem aak:∀(l:List Json) (first:Bool) (z:ag),tS (rA l first) z=k7 l first++z
 | [],_,z=>rfl
 | x::l,first,z=>by
  have h1:=RA x
  have h2:=aak l false
  simp only[rA,k7]
  rw[FA,FA,h1,h2]
  cases first <;> simp[tS,sg]
theorem aal:∀(ns:List ag) (l:List Json) (first:Bool) (z:ag),tS (np ns l first) z=iu ns l first++z
 | ns, [],_,z=>by simp[np,iu,tS]
 | ns,x::l,first,z=>by
  have h1:=RA x
  have h2:=aal ns.tail l false
  simp only[np,iu]
  rw[FA]
  simp only[tS,txW,sg,FA,h1,h2]
  cases first <;> simp[tS,sg]
end
theorem aam {t:ag} (ht:fE t=true) (z:ag):okW [txW t] z:=by
 obtain ⟨rs,hr,rfl⟩:=Hx.1 ht
 have e:=Yw hr
 have hw:=word_text hr
 refine ⟨by simp[txW],by simp only[txW,e]; exact hw.1,?_,trivial⟩
 show tokS (NY (fp rs)++z)=some (⟨2,fp rs,⟨0,0⟩,0⟩,z)
 have e2:qt rs=34::(Vo rs ++ [34]):=by unfold qt; simp
 have hu:=uqS_qt rs hr z
 have e3:qt rs++z=34::(Vo rs ++ [34]++z):=by rw[e2]; rfl
 rw[e,e3]
 rw[e3]at hu
 simp only[tokS]
 rw[if_neg (by decide),if_pos (by decide),hu]
mutual
theorem Vr:∀(v:Json) (d:Int),dZ v d=true→∀z,SO z→okW (tT v) z
 | ⟨k,n,t,ns,is⟩,d,h,z,hz=>by
  have hL:=words_okL is
  have hO:=words_okO ns is
  cases fx.1 h with
  | name _ _ hd hk =>
   rcases hk with rfl|rfl|rfl
   ·exact FB (Hz (.inr (.inr rfl))) hz
   ·exact FB (Hz (.inr (.inl rfl))) hz
   ·exact FB (Hz (.inl rfl)) hz
  | num _ _ hd hn =>
   have e:AL n=X2 n:=by unfold AL; rw[JV.2 hn]; rfl
   show okW [([],AL n,⟨3,AL n,n,0⟩)] z
   rw[e]
   exact FB (word_num hn) hz
  | text _ _ hd ht=>exact aam ht z
  | arr _ _ hd hi =>
   show okW ([sg 91]++(rA is true ++ [sg 93])) z
   rw[CS,CS]
   exact ⟨FC (by decide) _,hL true (d+1) hi _ (Rz (by decide) _),FC (by decide) _⟩
  | obj _ _ _ hd hl hu hi =>
   show okW ([sg 123]++(np ns is true ++ [sg 125])) z
   rw[CS,CS]
   exact ⟨FC (by decide) _,hO true (d+1) hi hl [] hu _ (Rz (by decide) _),FC (by decide) _⟩
theorem words_okL:∀(l:List Json) (first:Bool) (d:Int),eQ l d=true→∀z,SO z→okW (rA l first) z
 | [],_,_,_,_,_=>trivial
 | x::l,first,d,h,z,hz=>by
  simp only[eQ,Bool.and_eq_true]at h
  have h1:=Vr x d h.1
  have h2:=words_okL l false d h.2 z hz
  simp only[rA]
  rw[CS,CS]
  refine ⟨?_,h1 _ ?_,h2⟩
  ·cases first
   ·exact FC (by decide) _
   ·trivial
  ·cases l with
   | nil=>exact hz
   | cons y l =>
    simp only[rA]
    exact Rz (c:=44) (by decide) _
theorem words_okO:∀(ns:List ag) (l:List Json) (first:Bool) (d:Int),eQ l d=true→ns.length=l.length→∀seen,tu seen ns=true→∀z,SO z→okW (np ns l first) z
 | ns, [],_,_,_,_,_,_,_,_=>by simp[np,okW]
 | [],_::_,_,_,_,hl,_,_,_,_=>by simp at hl
 | n::ns,x::l,first,d,h,hl,seen,hu,z,hz=>by
  simp only[eQ,Bool.and_eq_true]at h
  simp only[tu,Bool.and_eq_true]at hu
  have h1:=Vr x d h.1
  have h2:=words_okO ns l false d h.2 (by simpa using hl) _ hu.2 z hz
  simp only[np,List.headD_cons,List.tail_cons]
  show okW ((if first=true then []else [sg 44])++([txW n]++([sg 58]++(tT x++np ns l false)))) z
  rw[CS,CS,CS,CS]
  refine ⟨?_,aam hu.1.2 _,FC (by decide) _,h1 _ ?_,h2⟩
  ·cases first
   ·exact FC (by decide) _
   ·trivial
  ·cases l with
   | nil=>simp only[np,tS]; exact hz
   | cons y l =>
    simp only[np]
    exact Rz (c:=44) (by decide) _
end
mutual
def O6:Json→Bool
 | ⟨_,_,t,ns,is⟩=>decide (ns.length≤1099511627776)&&decide (is.length≤1099511627776)&&Vs is&&(decide (t.length≤10000000000)&&ns.all fun n=>decide (n.length≤10000000000))
def Vs:List Json→Bool
 | []=>true
 | x::l=>O6 x&&Vs l
end
theorem Vt:∀ {l:List Json} {x:Json},Vs l=true→x∈l→O6 x=true
 | y::l,x,h,hx=>by
  simp only[Vs,Bool.and_eq_true]at h
  rcases List.mem_cons.1 hx with rfl|hx
  ·exact h.1
  ·exact Vt h.2 hx
theorem xb {v:Json}:O6 v=true↔v.names.length≤1099511627776∧v.items.length≤1099511627776∧Vs v.items=true∧v.text.length≤10000000000∧∀n∈v.names,n.length≤10000000000:=by
 obtain ⟨k,n,t,ns,is⟩:=v
 simp[O6,and_assoc]
theorem L6 (a b:ag):Dk .str a b=(a==b):=rfl
def seenM (m:List (ag×Bool)) (n:ag):Bool:=mn .str .bool n m
theorem seen_put (m:List (ag×Bool)) (a b:ag):seenM (BC .str .bool a true m) b=((b==a)||seenM m b):=by
 induction m with
 | nil =>
  show (bif Dk .str b a then true else false)=_
  rw[L6]
  cases b==a <;> rfl
 | cons e m ih =>
  unfold seenM at ih ⊢
  show mn .str .bool b (bif Dk .str a e.1 then (a,true)::m else e::BC .str .bool a true m)=((b==a)||(bif Dk .str b e.1 then e.2 else mn .str .bool b m))
  rw[L6,L6]
  by_cases h1:a=e.1
  ·have h1':(a==e.1)=true:=by simpa using h1
   rw[h1',cond_true]
   show (bif Dk .str b a then true else mn .str .bool b m)=_
   rw[L6,←h1]
   cases b==a <;> rfl
  ·have h1':(a==e.1)=false:=by simpa using h1
   rw[h1',cond_false]
   show (bif Dk .str b e.1 then e.2 else mn .str .bool b (BC .str .bool a true m))=_
   rw[L6,ih]
   by_cases h2:b=a
   ·have h3:(b==e.1)=false:=by rw[h2]; exact h1'
    rw[h3]
    rfl
   ·have h3:(b==a)=false:=by simpa using h2
    rw[h3]
    rfl
theorem unique_loop {R:Type} (ns:List ag) (hl:ns.length≤1099511627776) (k:Bool→Option R):∀(F i:Nat) (m:List (ag×Bool)) (seen:List ag),i≤ns.length→ns.length - i<F→(∀n,seenM m n=seen.contains n) →
  cW F ns (ns.length:Int) (i:Int) m (k true) k=k (tu seen (ns.drop i)):=by
 intro F
 induction F with
 | zero=>intro i m seen _ h; omega
 | succ F ih =>
  intro i m seen hi hF hm
  show vW bU (fun x0 x1 x2 x3=>cW F x0 x1 x2 x3 (k true) k) ns (ns.length:Int) (i:Int) m (k true) k=_
  unfold vW
  by_cases h:i<ns.length
  ·have h1:decide ((i:Int)<(ns.length:Int))=true:=by simp; omega
   have h2:(decide ((0:Int)≤(i:Int))&&true)=true:=by simp
   have hw:IntKind.i64.wrap ((i:Int)+1)=((i+1:Nat):Int):=by rw[cL (by omega) (by omega)]; omega
   have hg:ns.getD (i:Int).toNat (Ty.bR .str)=ns[i]:=getD_at h _
   have hsn:mn .str .bool ns[i] m=seen.contains ns[i]:=hm ns[i]
   rw[h1,cond_true,ay h2,hg,hsn,hw,whole_eq,List.drop_eq_getElem_cons h]
   simp only[tu]
   cases seen.contains ns[i]with
   | true=>rfl
   | false =>
    cases fE ns[i]with
    | false=>rfl
    | true =>
     simp only[cond_false,Bool.not_true,Bool.not_false,Bool.true_and]
     refine ih (i+1) _ (ns[i]::seen) (by omega) (by omega) fun n => ?_
     rw[seen_put,hm]
     simp only[List.contains_cons]
  ·have h1:decide ((i:Int)<(ns.length:Int))=false:=by simp; omega
   rw[h1,cond_false,List.drop_eq_nil_of_le (by omega)]
   rfl
theorem unique_any {R:Type} (ns:List ag) (hl:ns.length≤1099511627776) (k:Bool→Option R):lk ns k=k (tu [] ns):=by
 have:=unique_loop ns hl k (List.length ns+Int.natAbs (ns.length:Int)+Int.natAbs 0+List.length ([]:List (ag×Bool))+64) 0 [] [] (by omega) (by omega) fun n=>rfl
 rw[List.drop_zero]at this
 exact this
theorem rightL_loop {R:Type} (f:cR R) (is:List Json) (hl:is.length≤1099511627776) (d:Int) (hd:0≤d∧d≤16) (hf:∀x∈is,∀k:Bool→Option R,f x (d+1) k=k (dZ x (d+1))) (k:Bool→Int→Option R):∀(F i:Nat),i≤is.length→is.length - i<F →
  aP f F is (is.length:Int) (i:Int) d (fun y=>k (decide ((-1:Int)≥0)) y) (fun x y=>k (decide (x≥0)) y)=k (!eQ (is.drop i) (d+1)) d:=by
 intro F
 induction F with
 | zero=>intro i _ h; omega
 | succ F ih =>
  intro i hi hF
  show gn (cS f) (fun x0 x1 x2 x3=>aP f F x0 x1 x2 x3 _ _) is (is.length:Int) (i:Int) d _ _=_
  unfold gn
  by_cases h:i<is.length
  ·have h1:decide ((i:Int)<(is.length:Int))=true:=by simp; omega
   have h2:(decide ((0:Int)≤(i:Int))&&true)=true:=by simp
   have hw:IntKind.i64.wrap ((i:Int)+1)=((i+1:Nat):Int):=by rw[cL (by omega) (by omega)]; omega
   have hwd:IntKind.i64.wrap (d+1)=d+1:=cL (by omega) (by omega)
   have hg:is.getD (i:Int).toNat (Ty.bR .json)=is[i]:=getD_at h _
   have hj:(decide ((i:Int)≥0))=true:=by simp
   have he:∀(x:Json) (q:Bool→Int→Option R),cS f x d q=f x (IntKind.i64.wrap (d+1)) fun y=>q (!y) d:=fun x q=>by
    show rW f x d q=_
    unfold rW
    simp only[Json.eta]
   rw[h1,cond_true,ay h2,hg,Json.eta,he,hwd,hf _ (List.getElem_mem h),List.drop_eq_getElem_cons h]
   simp only[eQ]
   cases dZ is[i] (d+1)with
   | false=>simp only[Bool.not_false,cond_true,Bool.false_and,hj]
   | true =>
    simp only[Bool.not_true,cond_false,Bool.true_and]
    rw[hw]
    exact ih (i+1) (by omega) (by omega)
  ·have h1:decide ((i:Int)<(is.length:Int))=false:=by simp; omega
   rw[h1,cond_false,List.drop_eq_nil_of_le (by omega)]
   rfl
theorem containsFunc {R:Type} (f:cR R) (is:List Json) (hl:is.length≤1099511627776) (d:Int) (hd:0≤d∧d≤16) (hf:∀x∈is,∀k:Bool→Option R,f x (d+1) k=k (dZ x (d+1))) (k:Bool→Int→Option R) :
  aO f is d k=k (!eQ is (d+1)) d:=by
 have:=rightL_loop f is hl d hd hf k (List.length is+Int.natAbs (is.length:Int)+Int.natAbs 0+Int.natAbs d+64) 0 (by omega) (by omega)
 rw[List.drop_zero]at this
 exact this
theorem jdepthL_mem {l:List Json} {y:Json} (h:y∈l):y.depth≤Json.HL l:=by
 induction l with
 | nil=>cases h
 | cons a l ih =>
  simp only[Json.HL]
  rcases List.mem_cons.1 h with rfl|h
  ·exact Nat.le_max_left _ _
  ·exact Nat.le_trans (ih h) (Nat.le_max_right _ _)
theorem jdepth_eq (x:Json):x.depth=Json.HL x.items+1:=by cases x; simp[Json.depth]
theorem Xn {x y:Json} (h:y∈x.items):y.depth<x.depth:=by rw[jdepth_eq x]; exact Nat.lt_succ_of_le (jdepthL_mem h)
theorem bare_eq {R:Type} (k n1 n2:Int) (t:ag) (ns:List ag) (is:List Json) (q:Json→Option R):se ⟨k,⟨n1,n2⟩,t,ns,is⟩ q =
  q ⟨k,if k=4 then ⟨0,0⟩else ⟨n1,n2⟩,if k=5 then []else t,if k=7 then []else ns,if k=6∨k=7 then []else is⟩:=by
 show JC _ q=_
 unfold JC
 simp only
 by_cases h4:k=4
 ·subst h4; rfl
 by_cases h5:k=5
 ·subst h5; rfl
 by_cases h7:k=7
 ·subst h7; rfl
 by_cases h6:k=6
 ·subst h6; rfl
 have e4:(k==4)=false:=by simpa using h4
 have e5:(k==5)=false:=by simpa using h5
 have e6:(k==6)=false:=by simpa using h6
 have e7:(k==7)=false:=by simpa using h7
 rw[e4,e5,e6,e7]
 simp[h4,h5,h6,h7]
theorem chain {R:Type} (k:Bool→Option R) {a b c:Bool} {x:Option R} {r:Bool} (hx:a=true→b=true→c=false→x=k r) (hr:(a=true∧b=true∧c=false)∨r=false) :
  (bif !a then k false else (bif !b then k false else (bif c then k false else x)))=k r:=by
 cases a with
 | false =>
  rcases hr with ⟨h,_⟩|rfl
  ·cases h
  ·rfl
 | true =>
  cases b with
  | false =>
   rcases hr with ⟨_,h,_⟩|rfl
   ·cases h
   ·rfl
  | true =>
   cases c with
   | true =>
    rcases hr with ⟨_,_,h⟩|rfl
    ·cases h
    ·rfl
   | false=>exact hx rfl rfl rfl
theorem right_N {R:Type}:∀(n:Nat) (v:Json) (d:Int),O6 v=true→v.depth<n→0≤d→d≤17→∀k:Bool→Option R,fa n v d k=k (dZ v d):=by
 intro n
 induction n with
 | zero=>intro v d _ h; omega
 | succ n ih =>
  intro v d hv hn hd0 hd1 k
  obtain ⟨TY,Yv,hil,_⟩:=xb.1 hv
  have he:fa (n+1) v d k=G2 bU bS se lk (aO (fa n)) v d k:=rfl
  rw[he]
  have hcf:d≤16→∀q:Bool→Int→Option R,aO (fa n) v.items d q=q (!eQ v.items (d+1)) d:=fun h16 q =>
   containsFunc _ _ Yv d ⟨hd0,h16⟩ (fun x hx k=>ih x (d+1) (Vt hil hx) (by have:=Xn hx; omega) (by omega) (by omega) k) q
  obtain ⟨kd,⟨n1,n2⟩,t,ns,is⟩:=v
  unfold G2
  simp only at TY Yv hcf ⊢
  rw[bare_eq]
  simp only
  by_cases h16:d≤16
  rotate_left
  ·have e1:decide (d>16)=true:=by simp; omega
   rw[e1,cond_true]
   simp[dZ,h16]
  have e1:decide (d>16)=false:=by simp; omega
  rw[e1,cond_false]
  by_cases hk1:kd<1
  ·have e2:decide (kd<1)=true:=by simpa using hk1
   have:¬1≤kd:=by omega
   rw[e2,cond_true]
   simp[dZ,this]
  have e2:decide (kd<1)=false:=by simpa using hk1
  rw[e2,cond_false]
  by_cases hk7:kd>7
  ·have e3:decide (kd>7)=true:=by simpa using hk7
   have:¬kd≤7:=by omega
   rw[e3,cond_true]
   simp[dZ,this]
  have e3:decide (kd>7)=false:=by simpa using hk7
  rw[e3,cond_false]
  have hk:kd=1∨kd=2∨kd=3∨kd=4∨kd=5∨kd=6∨kd=7:=by omega
  have hsum:∀a b:Nat,a≤1099511627776→b≤1099511627776→decide (IntKind.i64.wrap ((a:Int)+(b:Int))>0) = !(a==0&&b==0):=by
   intro a b ha hb
   rw[cL (by omega) (by omega)]
   rw[Bool.eq_iff_iff,decide_eq_true_eq]
   simp only[Bool.not_eq_true',Bool.and_eq_false_iff,beq_eq_false_iff_ne]
   omega
  have hie:∀l:List ag,(l.length==0)=l.isEmpty:=fun l=>by cases l <;> rfl
  have hje:∀l:List Json,(l.length==0)=l.isEmpty:=fun l=>by cases l <;> rfl
  have hte:∀l:ag,(l==([]:ag))=l.isEmpty:=fun l=>by cases l <;> rfl
  have D1:∀d:Int,eQ [] d=true:=fun _=>rfl
  have hnum:∀a b:Int,((a==0)&&((b==0)&&true))=(a==0&&b==0):=fun a b=>by cases a==0 <;> cases b==0 <;> rfl
  have hcf0:∀q:Bool→Int→Option R,is.isEmpty=true→aO (fa n) is d q=q false d:=fun q h=>by
   rw[hcf h16]
   obtain rfl:is = []:=List.isEmpty_iff.1 h
   rfl
  have hbool:∀a b c:Bool,(a=true∧b=true∧(!c)=false)∨((a&&b)&&c)=false:=by decide
  have hb4:∀b c q:Bool,(true=true∧b=true∧(!c)=false)∨((b&&c)&&q)=false:=by decide
  have hb5:∀a c q:Bool,(a=true∧true=true∧(!c)=false)∨((a&&c)&&q)=false:=by decide
  have hb6:∀a b c q:Bool,(a=true∧b=true∧(!c)=false)∨(((a&&b)&&c)&&q)=false:=by decide
  have hb7:∀a b q:Bool,(a=true∧b=true∧false=false)∨((a&&b)&&q)=false:=by decide
  rcases hk with rfl|rfl|rfl|rfl|rfl|rfl|rfl
  ·have hr:dZ ⟨1,⟨n1,n2⟩,t,ns,is⟩ d=(((n1==0&&n2==0)&&t.isEmpty)&&(ns.isEmpty&&is.isEmpty)):=by
    cases is <;> simp[dZ,eQ,h16]
   simp only[Int.reduceEq,if_false,or_self,hnum]
   rw[hsum _ _ TY Yv,hie,hje,hte,hr]
   refine chain k (fun h1 h2 h3 => ?_) (hbool _ _ _)
   have h4:ns.isEmpty=true∧is.isEmpty=true:=by simpa using h3
   rw[h1,h2,h4.1,h4.2]
   show aO (fa n) is d (fun FW Gm=>k (!FW))=k true
   exact hcf0 _ h4.2
  ·have hr:dZ ⟨2,⟨n1,n2⟩,t,ns,is⟩ d=(((n1==0&&n2==0)&&t.isEmpty)&&(ns.isEmpty&&is.isEmpty)):=by
    cases is <;> simp[dZ,eQ,h16]
   simp only[Int.reduceEq,if_false,or_self,hnum]
   rw[hsum _ _ TY Yv,hie,hje,hte,hr]
   refine chain k (fun h1 h2 h3 => ?_) (hbool _ _ _)
   have h4:ns.isEmpty=true∧is.isEmpty=true:=by simpa using h3
   rw[h1,h2,h4.1,h4.2]
   show aO (fa n) is d (fun FW Gm=>k (!FW))=k true
   exact hcf0 _ h4.2
  ·have hr:dZ ⟨3,⟨n1,n2⟩,t,ns,is⟩ d=(((n1==0&&n2==0)&&t.isEmpty)&&(ns.isEmpty&&is.isEmpty)):=by
    cases is <;> simp[dZ,eQ,h16]
   simp only[Int.reduceEq,if_false,or_self,hnum]
   rw[hsum _ _ TY Yv,hie,hje,hte,hr]
   refine chain k (fun h1 h2 h3 => ?_) (hbool _ _ _)
   have h4:ns.isEmpty=true∧is.isEmpty=true:=by simpa using h3
   rw[h1,h2,h4.1,h4.2]
   show aO (fa n) is d (fun FW Gm=>k (!FW))=k true
   exact hcf0 _ h4.2
  ·have hr:dZ ⟨4,⟨n1,n2⟩,t,ns,is⟩ d=((t.isEmpty&&(ns.isEmpty&&is.isEmpty))&&fmB ⟨n1,n2⟩):=by
    simp[dZ,h16,Bool.and_assoc]
   simp only[Int.reduceEq,if_false,if_true,or_self]
   rw[hsum _ _ TY Yv,hie,hje,hte,hr]
   refine chain k (a:=true) (b:=t.isEmpty) (c := !(ns.isEmpty&&is.isEmpty)) (fun h1 h2 h3 => ?_) (hb4 _ _ _)
   have h4:ns.isEmpty=true∧is.isEmpty=true:=by simpa using h3
   rw[h2,h4.1,h4.2]
   exact right_any _ _
  ·have hr:dZ ⟨5,⟨n1,n2⟩,t,ns,is⟩ d=(((n1==0&&n2==0)&&(ns.isEmpty&&is.isEmpty))&&fE t):=by
    simp[dZ,h16,Bool.and_assoc]
   simp only[Int.reduceEq,if_false,if_true,or_self,hnum]
   rw[hsum _ _ TY Yv,hie,hje,hr]
   refine chain k (a:=(n1==0&&n2==0)) (b:=true) (c := !(ns.isEmpty&&is.isEmpty)) (fun h1 h2 h3 => ?_) (hb5 _ _ _)
   have h4:ns.isEmpty=true∧is.isEmpty=true:=by simpa using h3
   rw[h1,h4.1,h4.2]
   exact whole_eq _ _
  ·have hr:dZ ⟨6,⟨n1,n2⟩,t,ns,is⟩ d=((((n1==0&&n2==0)&&t.isEmpty)&&ns.isEmpty)&&eQ is (d+1)):=by
    simp[dZ,h16,Bool.and_assoc]
   simp only[Int.reduceEq,if_false,if_true,true_or,hnum]
   have hs2:=hsum ns.length 0 TY (by omega)
   have hq:((0:Nat)==0)=true:=rfl
   rw[hq,Bool.and_true,hie]at hs2
   rw[List.length_nil,hs2,hte,hr]
   refine chain k (a:=(n1==0&&n2==0)) (b:=t.isEmpty) (c := !ns.isEmpty) (fun h1 h2 h3 => ?_) (hb6 _ _ _ _)
   have h4:ns.isEmpty=true:=by simpa using h3
   rw[h1,h2,h4]
   show aO (fa n) is d (fun FW Gm=>k (!FW))=k (eQ is (d+1))
   rw[hcf h16,Bool.not_not]
  ·have hr:dZ ⟨7,⟨n1,n2⟩,t,ns,is⟩ d=(((n1==0&&n2==0)&&t.isEmpty)&&(decide (ns.length=is.length)&&tu [] ns&&eQ is (d+1))):=by
    simp[dZ,h16,Bool.and_assoc]
   simp only[Int.reduceEq,if_false,if_true,or_true,hnum]
   have hs2:=hsum 0 0 (by omega) (by omega)
   rw[List.length_nil,List.length_nil,hs2,hte,hr]
   refine chain k (a:=(n1==0&&n2==0)) (b:=t.isEmpty) (c:=false) (fun h1 h2 h3 => ?_) (hb7 _ _ _)
   rw[h1,h2]
   show (bif ((ns.length:Int) != (is.length:Int))then k false else lk ns (fun y7=>bif !y7 then k false else aO (fa n) is d (fun ug zj=>k (!ug))))=_
   by_cases hl:ns.length=is.length
   ·have e9:((ns.length:Int) != (is.length:Int))=false:=by rw[hl]; simp
    rw[e9,cond_false,unique_any ns TY,hcf h16,Bool.not_not]
    cases tu [] ns <;> simp[hl]
   ·have e9:((ns.length:Int) != (is.length:Int))=true:=by simp; omega
    rw[e9,cond_true]
    simp[hl]
theorem right_json {R:Type} (v:Json) (hv:O6 v=true) (k:Bool→Option R):nc v k=k (dZ v 1):=by
 have e:nc v k=G3 oJ v k:=rfl
 rw[e]
 unfold G3
 simp only[Json.eta]
 exact right_N (v.depth+2) v 1 hv (by omega) (by omega) (by omega) k
theorem L7 (p:UInt8→Bool) (s:ag):(s.takeWhile p).length+(s.dropWhile p).length=s.length:=by
 have:=congrArg List.length (List.takeWhile_append_dropWhile (p:=p) (l:=s))
 rwa [List.length_append]at this
theorem take_tw (p:UInt8→Bool) (s:ag):s.take (s.takeWhile p).length=s.takeWhile p:=by
 have:=List.take_left (l₁:=s.takeWhile p) (l₂:=s.dropWhile p)
 rwa [List.takeWhile_append_dropWhile]at this
theorem drop_tw (p:UInt8→Bool) (s:ag):s.drop (s.takeWhile p).length=s.dropWhile p:=by
 have:=List.drop_left (l₁:=s.takeWhile p) (l₂:=s.dropWhile p)
 rwa [List.takeWhile_append_dropWhile]at this
theorem aan {R:Type} (s cs:ag) (hs:s.length≤4000000000) (h1:wG cs=true) (h2:cs.length<4294967281) (k:ag→Option R):cP s cs k=k (s.takeWhile (cs.contains ·)):=by
 have e:cP s cs k=EM s cs k:=rfl
 rw[e]
 unfold EM
 have hl:=L7 (cs.contains ·) s
 have ht:(bx s cs).length=(s.dropWhile (cs.contains ·)).length:=rfl
 have hw:IntKind.i64.wrap ((s.length:Int) - ((bx s cs).length:Int))=((s.takeWhile (cs.contains ·)).length:Int):=by rw[ht,cL (by omega) (by omega)]; omega
 rw[hw,h1,ay (by rw[aQ h2]; rfl),ay (by rw[aQ (by omega),aQ (by omega)]; rfl),ay (aQ (by omega)),List.drop_zero,Nat.sub_zero,Int.toNat_natCast,take_tw]
theorem sign_has (c:UInt8):decide (EI sigS (c.toNat:Int)≥0)=TL c:=by
 have hi:EI sigS (c.toNat:Int)=Go.Lib.indexByte sigS c:=by
  unfold EI
  rw[Int.toNat_natCast]
  simp
 have h:=Yu c sigS
 rw[hi]
 unfold TL
 cases hc:sigS.contains c with
 | true =>
  apply aQ
  have:¬Go.Lib.indexByte sigS c<0:=fun g=>by rw[h.1 g]at hc; cases hc
  omega
 | false =>
  apply cv
  have:=h.2 hc
  omega
theorem next_ok {R:Type} (s:ag) (hs:s.length≤4000000000) (h0:s ≠ []) (k:Token→Int→Option R) :
  hM s k=match tokS s with|some (t,r)=>k t ((s.length - r.length:Nat):Int)|none=>k ⟨0, [],⟨0,0⟩,0⟩ 0:=by
 have e:hM s k=G8 fW er cP s k:=rfl
 rw[e]
 unfold G8
 cases s with
 | nil=>exact (h0 rfl).elim
 | cons c u =>
  have hlen:(c::u:ag).length=u.length+1:=rfl
  have hg:(c::u:ag).getD 0 0=c:=rfl
  simp only[List.length_cons]at hs
  rw[hg,ay (aQ (by rw[hlen]; omega))]
  simp only
  have q45:((c.toNat:Int)==45)=decide (c.toNat=45):=eqI _ 45
  have q34:((c.toNat:Int)==34)=decide (c.toNat=34):=eqI _ 34
  have l48:decide ((c.toNat:Int)≥48)=decide (48≤c.toNat):=by
   by_cases h:48≤c.toNat
   ·rw[aQ h,aQ (by omega)]
   ·rw[cv h,cv (by omega)]
  have l57:decide ((c.toNat:Int)≤57)=decide (c.toNat≤57):=by
   by_cases h:c.toNat≤57
   ·rw[aQ h,aQ (by omega)]
   ·rw[cv h,cv (by omega)]
  have hsg:decide (EI ([123,125,91,93,44,58]:ag) (c.toNat:Int)≥0)=TL c:=sign_has c
  have je:∀p:UInt8→Bool,((c::u).takeWhile p).length≤(c::u).length:=fun p=>by have:=L7 p (c::u); omega
  have num:∀k:Token→Int→Option R,cP (c::u) ([48,49,50,51,52,53,54,55,56,57,43,45,46,101,69]:ag) (fun y6=>er y6 (fun y7 y8=>bif (!y8)then (k (⟨0,([]:ag),⟨0,0⟩,0⟩:Token) 0)else (k (⟨3,y6,⟨y7.ao,y7.exp⟩,0⟩:Token) (y6.length:Int)))) =
    (if (CR ((c::u).takeWhile Fz)).2 then k ⟨3,(c::u).takeWhile Fz,(CR ((c::u).takeWhile Fz)).1,0⟩ (((c::u).length - ((c::u).dropWhile Fz).length:Nat):Int)else k ⟨0, [],⟨0,0⟩,0⟩ 0):=fun k=>by
   rw[aan _ _ (by rw[hlen]; omega) rfl (by decide)]
   have e:(c::u).takeWhile (fun x=>List.contains [48,49,50,51,52,53,54,55,56,57,43,45,46,101,69] x)=(c::u).takeWhile Fz:=rfl
   have hl:=je Fz
   have hd:=L7 Fz (c::u)
   rw[e,parse_any _ (by omega)]
   have el:(c::u).length - ((c::u).dropWhile Fz).length=((c::u).takeWhile Fz).length:=by omega
   rw[el]
   cases (CR ((c::u).takeWhile Fz)).2 <;> rfl
  have txt:∀k:Token→Int→Option R,fW (c::u) (fun Ej Ar K2=>bif (!K2)then (k (⟨0,([]:ag),⟨0,0⟩,0⟩:Token) 0)else (k (⟨2,Ej,⟨0,0⟩,0⟩:Token) Ar)) =
    match uqS (c::u)with|some (o,r)=>k ⟨2,o,⟨0,0⟩,0⟩ (((c::u).length - r.length:Nat):Int)|none=>k ⟨0, [],⟨0,0⟩,0⟩ 0:=fun k=>by
   rw[unquote_ok _ (by rw[hlen]; omega)]
   cases hu:uqS (c::u)with
   | none=>rfl
   | some p =>
    obtain ⟨o,r⟩:=p
    obtain ⟨_,hr,_⟩:=uqS_sfx hu
    simp only[Bool.not_true,cond_false]
    rw[cL (by omega) (by omega)]
    congr 1
    omega
  have nam:∀k:Token→Int→Option R,cP (c::u) ([97,98,99,100,101,102,103,104,105,106,107,108,109,110,111,112,113,114,115,116,117,118,119,120,121,122]:ag) (fun C6=>bif (C6==([116,114,117,101]:ag))then (k (⟨4,C6,⟨0,0⟩,0⟩:Token) (C6.length:Int))else (bif (C6==([102,97,108,115,101]:ag))then (k (⟨4,C6,⟨0,0⟩,0⟩:Token) (C6.length:Int))else (bif (!(C6==([110,117,108,108]:ag)))then (k (⟨0,([]:ag),⟨0,0⟩,0⟩:Token) 0)else (k (⟨4,C6,⟨0,0⟩,0⟩:Token) (C6.length:Int))))) =
    (if (c::u).takeWhile EA=xa∨(c::u).takeWhile EA=lv∨(c::u).takeWhile EA=rS then k ⟨4,(c::u).takeWhile EA,⟨0,0⟩,0⟩ (((c::u).length - ((c::u).dropWhile EA).length:Nat):Int)else k ⟨0, [],⟨0,0⟩,0⟩ 0):=fun k=>by
   rw[aan _ _ (by rw[hlen]; omega) rfl (by decide)]
   have e:(c::u).takeWhile (fun x=>List.contains [97,98,99,100,101,102,103,104,105,106,107,108,109,110,111,112,113,114,115,116,117,118,119,120,121,122] x)=(c::u).takeWhile EA:=rfl
   have hd:=L7 EA (c::u)
   have el:(c::u).length - ((c::u).dropWhile EA).length=((c::u).takeWhile EA).length:=by omega
   rw[e,el]
   generalize (c::u).takeWhile EA=w
   have eq:∀a:ag,(w==a)=decide (w=a):=fun a=>by
    by_cases h:w=a
    ·rw[aQ h]; exact beq_iff_eq.2 h
    ·rw[cv h]; exact beq_eq_false_iff_ne.2 h
   rw[eq,eq,eq]
   by_cases h1:w=xa
   ·rw[aQ (show w = [116,114,117,101]from h1),if_pos (.inl h1)]; rfl
   ·by_cases h2:w=lv
    ·rw[cv (show ¬w = [116,114,117,101]from h1),aQ (show w = [102,97,108,115,101]from h2),if_pos (.inr (.inl h2))]; rfl
    ·by_cases h3:w=rS
     ·rw[cv (show ¬w = [116,114,117,101]from h1),cv (show ¬w = [102,97,108,115,101]from h2),aQ (show w = [110,117,108,108]from h3),if_pos (.inr (.inr h3))]; rfl
     ·rw[cv (show ¬w = [116,114,117,101]from h1),cv (show ¬w = [102,97,108,115,101]from h2),cv (show ¬w = [110,117,108,108]from h3),if_neg (by rintro (h|h|h); exact h1 h; exact h2 h; exact h3 h)]; rfl
  have sgn1:∀k:Token→Int→Option R,cw (decide ((1:Int)≤((c::u:ag).length:Int))) (k (⟨1,(((c::u:ag).drop 0).take (1 - 0)),⟨0,0⟩,0⟩:Token) 1)=k ⟨1, [c],⟨0,0⟩,0⟩ (((c::u).length - u.length:Nat):Int):=fun k=>by
   have e1:(c::u).length - u.length=1:=by rw[hlen]; omega
   rw[ay (aQ (by rw[hlen]; omega)),e1]
   rfl
  simp only[tokS]
  rw[q45,q34,l48,l57,hsg]
  by_cases h45:c.toNat=45
  ·rw[aQ h45,cond_true,if_pos (.inl h45)]
   refine (num k).trans ?_
   split <;> rfl
  ·rw[cv h45,cond_false]
   have rest:¬(48≤c.toNat∧c.toNat≤57)→(bif decide (c.toNat=34)then fW (c::u) (fun Ej Ar K2=>bif (!K2)then (k (⟨0,([]:ag),⟨0,0⟩,0⟩:Token) 0)else (k (⟨2,Ej,⟨0,0⟩,0⟩:Token) Ar))else (bif TL c then cw (decide ((1:Int)≤((c::u:ag).length:Int))) (k (⟨1,(((c::u:ag).drop 0).take (1 - 0)),⟨0,0⟩,0⟩:Token) 1)else cP (c::u) ([97,98,99,100,101,102,103,104,105,106,107,108,109,110,111,112,113,114,115,116,117,118,119,120,121,122]:ag) (fun C6=>bif (C6==([116,114,117,101]:ag))then (k (⟨4,C6,⟨0,0⟩,0⟩:Token) (C6.length:Int))else (bif (C6==([102,97,108,115,101]:ag))then (k (⟨4,C6,⟨0,0⟩,0⟩:Token) (C6.length:Int))else (bif (!(C6==([110,117,108,108]:ag)))then (k (⟨0,([]:ag),⟨0,0⟩,0⟩:Token) 0)else (k (⟨4,C6,⟨0,0⟩,0⟩:Token) (C6.length:Int))))))) =
     match (if c.toNat=45∨(48≤c.toNat∧c.toNat≤57)then (if (CR ((c::u).takeWhile Fz)).2 then some (⟨3,(c::u).takeWhile Fz,(CR ((c::u).takeWhile Fz)).1,0⟩,(c::u).dropWhile Fz)else none)else if c.toNat=34 then (match uqS (c::u)with|some (o,r)=>some (⟨2,o,⟨0,0⟩,0⟩,r)|none=>none)else if TL c then some ((⟨1, [c],⟨0,0⟩,0⟩:Token),u)else if (c::u).takeWhile EA=xa∨(c::u).takeWhile EA=lv∨(c::u).takeWhile EA=rS then some (⟨4,(c::u).takeWhile EA,⟨0,0⟩,0⟩,(c::u).dropWhile EA)else none)with
     | some (t,r)=>k t (((c::u).length - r.length:Nat):Int)|none=>k ⟨0, [],⟨0,0⟩,0⟩ 0:=by
    intro hd
    rw[if_neg (by rintro (h|h); exact h45 h; exact hd h)]
    by_cases SN:c.toNat=34
    ·rw[aQ SN,cond_true,if_pos SN,txt]
     cases uqS (c::u)with
     | none=>rfl
     | some p=>rfl
    ·rw[cv SN,cond_false,if_neg SN]
     cases hs':TL c with
     | true=>rw[cond_true,sgn1,if_pos rfl]
     | false =>
      rw[cond_false,nam,if_neg (show ¬(false=true) by simp)]
      split <;> rfl
   by_cases h48:48≤c.toNat
   ·rw[aQ h48,cond_true]
    by_cases h57:c.toNat≤57
    ·rw[aQ h57,cond_true,if_pos (.inr ⟨h48,h57⟩)]
     refine (num k).trans ?_
     split <;> rfl
    ·rw[cv h57,cond_false]
     exact rest (fun h=>h57 h.2)
   ·rw[cv h48,cond_false]
    exact rest (fun h=>h48 h.1)
theorem scan_loop {R:Type} (s:ag) (hs:s.length≤20000) (e0:List Token→Int→Int→Option R) (e1:Int→Int→Option R) (hz:∀a b,e0 [] a b=e1 a b):∀(n p:Nat) (out:List Token),s.length - p<n→p≤s.length→out.length≤p →
  cZ n s out (p:Int) e0 e1=e0 (xT n p (s.drop p) out).1 (xT n p (s.drop p) out).2.1 (xT n p (s.drop p) out).2.2:=by
 intro n
 induction n with
 | zero=>intro p out h; omega
 | succ n ih =>
  intro p out h1 h2 h3
  rw[cZ]
  unfold Em
  have hsub:∀q:Nat,(s.drop q).take ((s.length:Int).toNat - q)=s.drop q:=fun q=>List.take_of_length_le (by rw[List.length_drop,Int.toNat_natCast]; exact Nat.le_refl _)
  have hl:=L7 th (s.drop p)
  rw[List.length_drop]at hl
  have hdl:(s.drop p).length=s.length - p:=List.length_drop
  rw[ay (by rw[aQ (by omega),aQ (by omega)]; rfl),ay (by rw[aQ (by omega),aQ (by omega)]; rfl),Int.toNat_natCast p,hsub,aan _ _ (by omega) rfl (by decide)]
  have eb:(s.drop p).takeWhile (fun x=>List.contains [32,9,10,13] x)=(s.drop p).takeWhile th:=rfl
  rw[eb]
  have hdd:s.drop (p+((s.drop p).takeWhile th).length)=(s.drop p).dropWhile th:=by rw[←drop_tw th (s.drop p),List.drop_drop]
  have hw:IntKind.i64.wrap ((p:Int)+(((s.drop p).takeWhile th).length:Int))=((p+((s.drop p).takeWhile th).length:Nat):Int):=by rw[cL (by omega) (by omega)]; omega
  rw[hw]
  simp only[xT]
  generalize hq:p+((s.drop p).takeWhile th).length=q at *
  by_cases hend:(s.drop p).dropWhile th = []
  ·have hqe:q=s.length:=by rw[hend]at hl; simp at hl; omega
   have e1':(((q:Nat):Int)==(s.length:Int))=true:=by rw[hqe]; simp
   rw[e1',cond_true,ay (aQ (by omega)),if_pos hend]
  ·have RQ:0<((s.drop p).dropWhile th).length:=List.length_pos_iff.2 hend
   have e1':(((q:Nat):Int)==(s.length:Int))=false:=by rw[beq_eq_false_iff_ne]; omega
   rw[e1',cond_false,ay (by rw[aQ (by omega),aQ (by omega)]; rfl),ay (by rw[aQ (by omega),aQ (by omega)]; rfl),Int.toNat_natCast q,hsub,hdd,next_ok _ (by omega) hend,if_neg hend]
   cases ht:tokS ((s.drop p).dropWhile th)with
   | none =>
    have e0':((0:Int)==0)=true:=rfl
    simp only
    rw[e0',cond_true,hz]
   | some x =>
    obtain ⟨t,r⟩:=x
    obtain ⟨f1,f2⟩:=tokS_sfx ht
    have hn:((((s.drop p).dropWhile th).length - r.length:Nat):Int)≠0:=by omega
    simp only
    rw[beq_eq_false_iff_ne.2 hn,cond_false,ay (aQ (by omega))]
    have hq2:IntKind.i64.wrap (((q:Nat):Int)+((((s.drop p).dropWhile th).length - r.length:Nat):Int))=((p+((s.drop p).length - r.length):Nat):Int):=by rw[cL (by omega) (by omega)]; omega
    rw[hq2]
    have hr:s.drop (p+((s.drop p).length - r.length))=r:=by
     have:=sfx_drop (f1.trans (List.dropWhile_suffix th))
     rw[←List.drop_drop,←this]
    have key:=ih (p+((s.drop p).length - r.length)) (out ++ [putT t ((q:Nat):Int)]) (by omega) (by omega) (by simp; omega)
    rw[hr]at key
    exact key
theorem scan_ok {R:Type} (s:ag) (k:List Token→Int→Int→Option R):nj s k=k (rT s).1 (rT s).2.1 (rT s).2.2:=by
 have e:nj s k=G9 cZ s k:=rfl
 rw[e]
 unfold G9 rT
 by_cases h:20000<s.length
 ·rw[aQ (show (s.length:Int)>20000 by omega),cond_true,if_pos h]
 ·rw[cv (show ¬(s.length:Int)>20000 by omega),cond_false,if_neg h]
  have key:=scan_loop (R:=R) s (by omega) (fun y8 y9 od=>k y8 y9 od) (fun ug zj=>k [] ug zj) (fun _ _=>rfl) (List.length s+List.length ([]:List Token)+Int.natAbs 0+64) 0 [] (by omega) (by omega) (by simp)
  rw[List.drop_zero,aah _ (s.length+1) 0 s [] (by omega) (by omega)]at key
  exact key
abbrev X4:=Int×List Token
def kh (x:ag):List Token→Option (List Token)
 | t::r=>if t.kind=1∧t.text=x then some r else none
 | []=>none
def JW (ns:List ag):List Token→Except X4 (ag×List Token)
 | t::r =>
  if t.kind≠2 then .error (40,t::r)else if ns.contains t.text then .error (42,t::r)else
   match kh [58] r with
   | some r' => .ok (t.text,r')
   | none => .error (40,r)
 | [] => .error (0, [])
def xU (f:List Token→Except X4 (Json×List Token)) (obj:Bool) (ns:List ag) (is:List Json) (ts:List Token):Except X4 ((List ag×List Json)×List Token) :=
 match obj with
 | true =>
  (match JW ns ts with
   | .error b => .error b
   | .ok (nm,ts1)=>(match f ts1 with | .error b => .error b | .ok (v,TN) => .ok ((ns ++ [nm],is ++ [v]),TN)))
 | false=>(match f ts with | .error b => .error b | .ok (v,TN) => .ok ((ns,is ++ [v]),TN))
def zY (f:List Token→Except X4 (Json×List Token)) (cl:ag) (obj:Bool):Nat→List ag→List Json→List Token→Except X4 ((List ag×List Json)×List Token)
 | 0,_,_,ts => .error (0,ts)
 | m+1,ns,is,ts =>
  match xU f obj ns is ts with
  | .error b => .error b
  | .ok (p,TN) =>
   match kh cl TN with
   | some r => .ok (p,r)
   | none =>
    match kh [44] TN with
    | some r=>zY f cl obj m p.1 p.2 r
    | none => .error (40,TN)
def EB (t:ag):Bool:=t==rS||(t==lv||t==xa)
def aao:List (ag×Int) := [(rS,1),(lv,2),(xa,3)]
def Io (t:ag):Bool:=t == [91]||t == [123]
def tU (t:Token):Bool:=t.kind==2||(t.kind==3||(t.kind==4||(t.kind==1&&Io t.text)))
def yZ:Nat→Int→List Token→Except X4 (Json×List Token)
 | 0,_,ts => .error (0,ts)
 | _+1,_, [] => .error (0, [])
 | n+1,d,t::r =>
  if tU t=false then .error (40,t::r)else
  if d>16 then .error (41,t::r)else
  if t.kind=1∧Io t.text=true then
   let obj:=t.text == [123]
   let k:Int:=if obj then 7 else 6
   let cl:ag:=if obj then [125]else [93]
   match kh cl r with
   | some r' => .ok (⟨k,⟨0,0⟩, [], [], []⟩,r')
   | none =>
    match zY (yZ n (d+1)) cl obj (r.length+1) [] [] r with
    | .error b => .error b
    | .ok (p,r') => .ok (⟨k,⟨0,0⟩, [],p.1,p.2⟩,r')
  else if t.kind=4∧EB t.text=true then .ok (⟨mn .str (.int .i64) t.text aao,⟨0,0⟩, [], [], []⟩,r)
  else if t.kind=3 then .ok (⟨4,t.num, [], [], []⟩,r)
  else .ok (⟨5,⟨0,0⟩,t.text, [], []⟩,r)
theorem HA {x:ag} {ts r:List Token} (h:kh x ts=some r):r.length<ts.length:=by
 cases ts with
 | nil=>cases h
 | cons t ts =>
  simp only[kh]at h
  split at h
  ·cases h; simp
  ·cases h
theorem nameS_len {ns:List ag} {ts:List Token} {p:ag×List Token} (h:JW ns ts = .ok p):p.2.length<ts.length:=by
 cases ts with
 | nil=>cases h
 | cons t ts =>
  simp only[JW]at h
  split at h
  ·cases h
  ·split at h
   ·cases h
   ·split at h
    ·rename_i r hr
     have:=HA hr
     cases h
     simp; omega
    ·cases h
theorem Ww {f:List Token→Except X4 (Json×List Token)} (hf:∀ts p,f ts = .ok p→p.2.length<ts.length) {obj:Bool} {ns:List ag} {is:List Json} {ts:List Token} {p:(List ag×List Json)×List Token} (h:xU f obj ns is ts = .ok p) :
  p.2.length<ts.length:=by
 cases obj with
 | true =>
  simp only[xU]at h
  split at h
  ·cases h
  ·rename_i nm ts1 hn
   have h1:=nameS_len hn
   split at h
   ·cases h
   ·rename_i v TN hv
    have h2:=hf _ _ hv
    cases h
    simp only at h1 h2 ⊢
    omega
 | false =>
  simp only[xU]at h
  split at h
  ·cases h
  ·rename_i v TN hv
   have h2:=hf _ _ hv
   cases h
   exact h2
theorem listS_len {f:List Token→Except X4 (Json×List Token)} (hf:∀ts p,f ts = .ok p→p.2.length<ts.length) {cl:ag} {obj:Bool}:∀(m:Nat) (ns:List ag) (is:List Json) (ts:List Token) (p:(List ag×List Json)×List Token),
  zY f cl obj m ns is ts = .ok p→p.2.length<ts.length
 | 0,_,_,_,_,h=>by cases h
 | m+1,ns,is,ts,p,h=>by
  simp only[zY]at h
  split at h
  ·cases h
  ·rename_i q TN hq
   have h1:=Ww hf hq
   split at h
   ·rename_i r hr
    have h2:=HA hr
    cases h
    simp only at h1 h2 ⊢
    omega
   ·split at h
    ·rename_i r hr
     have h2:=HA hr
     have h3:=listS_len hf m _ _ _ _ h
     simp only at h1 h2 h3 ⊢
     omega
    ·cases h
theorem valS_len:∀(n:Nat) (d:Int) (ts:List Token) (p:Json×List Token),yZ n d ts = .ok p→p.2.length<ts.length
 | 0,_,_,_,h=>by cases h
 | _+1,_, [],_,h=>by cases h
 | n+1,d,t::r,p,h=>by
  simp only[yZ]at h
  split at h
  ·cases h
  split at h
  ·cases h
  split at h
  ·split at h
   ·rename_i r' hr
    have:=HA hr
    cases h
    simp; omega
   ·split at h
    ·cases h
    ·rename_i q r' hq
     have:=listS_len (fun ts p=>valS_len n (d+1) ts p) _ _ _ _ _ hq
     cases h
     simp only[List.length_cons]at this ⊢
     omega
  split at h
  ·cases h; simp
  split at h
  ·cases h; simp
  ·cases h; simp
theorem aap {f:List Token→Except X4 (Json×List Token)} (hf:∀ts p,f ts = .ok p→p.2.length<ts.length) {cl:ag} {obj:Bool}:∀(m m':Nat) (ns:List ag) (is:List Json) (ts:List Token),ts.length<m→ts.length<m' →
  zY f cl obj m ns is ts=zY f cl obj m' ns is ts
 | 0,_,_,_,_,h,_=>by omega
 | _+1,0,_,_,_,_,h=>by omega
 | m+1,m'+1,ns,is,ts,h,h'=>by
  simp only[zY]
  cases hq:xU f obj ns is ts with
  | error b=>rfl
  | ok q =>
   obtain ⟨p,TN⟩:=q
   have h1:=Ww hf hq
   simp only
   cases kh cl TN with
   | some r=>rfl
   | none =>
    simp only
    cases hr:kh [44] TN with
    | none=>rfl
    | some r =>
     have h2:=HA hr
     simp only at h1 h2 ⊢
     exact aap hf m m' _ _ _ (by omega) (by omega)
def Both {α:Type} (P:α→Prop) (Q:X4→Prop):Except X4 α→Prop
 | .ok p=>P p
 | .error b=>Q b
def Dj (ts:List Token):Prop:=∃e,ts.getLast? = some e∧e.kind=5
theorem Dj.ne {ts:List Token} (h:Dj ts):ts ≠ []:=by
 rintro rfl
 obtain ⟨e,h,_⟩:=h
 cases h
theorem Dj.tail {t:Token} {r:List Token} (h:Dj (t::r)) (ht:t.kind≠5):Dj r:=by
 obtain ⟨e,h1,h2⟩:=h
 cases r with
 | nil =>
  simp at h1
  subst h1
  exact (ht h2).elim
 | cons u r=>exact ⟨e,by simpa [List.getLast?_cons_cons]using h1,h2⟩
theorem L8 {x:ag} {ts r:List Token} (he:Dj ts) (h:kh x ts=some r):Dj r:=by
 cases ts with
 | nil=>cases h
 | cons t ts =>
  simp only[kh]at h
  split at h
  ·rename_i hc
   cases h
   exact he.tail (by rw[hc.1]; decide)
  ·cases h
theorem nameS_end {ns:List ag} {ts:List Token} (he:Dj ts):Both (fun p:ag×List Token=>Dj p.2) (fun b=>Dj b.2∧b.1≠0) (JW ns ts):=by
 cases ts with
 | nil=>exact (he.ne rfl).elim
 | cons t ts =>
  simp only[JW]
  by_cases hk:t.kind=2
  ·rw[if_neg (by simp[hk])]
   have h1:=he.tail (by rw[hk]; decide)
   by_cases hc:ns.contains t.text=true
   ·rw[if_pos hc]
    exact ⟨he,by show (_:Int)≠0; simp⟩
   ·rw[if_neg hc]
    cases hr:kh [58] ts with
    | some r=>exact L8 h1 hr
    | none=>exact ⟨h1,by show (_:Int)≠0; simp⟩
  ·rw[if_pos hk]
   exact ⟨he,by show (_:Int)≠0; simp⟩
theorem ET {t:Token} {r:List Token}:decide ((0:Int)<((t::r).length:Int))=true:=by rw[decide_eq_true_eq,List.length_cons]; omega
theorem Yx {t:Token} {r:List Token}:decide ((1:Int)≤((t::r).length:Int))=true:=by rw[decide_eq_true_eq,List.length_cons]; omega
theorem QN {R:Type} (x:ag) {ts:List Token} (hn:ts ≠ []) (k:Bool→List Token→Int→Option R):ax x ts 0 k=match kh x ts with|some r=>k true r 0|none=>k false ts 0:=by
 cases ts with
 | nil=>exact (hn rfl).elim
 | cons t r =>
  have e0:ax x (t::r) 0 k=cw (decide ((0:Int)<((t::r).length:Int))) (bif (t.kind != 1)then (k false (t::r) 0)else (bif (!(t.text==x))then (k false (t::r) 0)else (cw (decide ((1:Int)≤((t::r).length:Int))) (k true r 0)))):=rfl
  rw[e0,ay ET]
  simp only[kh]
  by_cases h1:t.kind=1
  ·by_cases h2:t.text=x
   ·rw[if_pos ⟨h1,h2⟩]
    have e1:(t.kind != 1)=false:=by simp[h1]
    have e2:(!(t.text==x))=false:=by simp[h2]
    rw[e1,e2,ay Yx]
    rfl
   ·rw[if_neg (fun h=>h2 h.2)]
    have e1:(t.kind != 1)=false:=by simp[h1]
    have e2:(!(t.text==x))=true:=by simp[h2]
    rw[e1,e2]
    rfl
  ·rw[if_neg (fun h=>h1 h.1)]
   have e1:(t.kind != 1)=true:=by simp[h1]
   rw[e1]
   rfl
theorem Tt {R:Type} (ns:List ag) (x:ag) (hl:ns.length≤1099511627776) (k:Bool→Option R):∀(F i:Nat),i≤ns.length→ns.length - i<F →
  aS F ns x (ns.length:Int) (i:Int) (k (decide ((-1:Int)≥0))) (fun y=>k (decide (y≥0)))=k ((ns.drop i).contains x):=by
 intro F
 induction F with
 | zero=>intro i _ h; omega
 | succ F ih =>
  intro i hi hF
  show eY (fun x0 x1 x2 x3=>aS F x0 x1 x2 x3 _ _) ns x (ns.length:Int) (i:Int) _ _=_
  unfold eY
  by_cases h:i<ns.length
  ·have h1:decide ((i:Int)<(ns.length:Int))=true:=by simp; omega
   have h2:(decide ((0:Int)≤(i:Int))&&true)=true:=by simp
   have hw:IntKind.i64.wrap ((i:Int)+1)=((i+1:Nat):Int):=by rw[cL (by omega) (by omega)]; omega
   have hg:ns.getD (i:Int).toNat (Ty.bR .str)=ns[i]:=getD_at h _
   have hj:(decide ((i:Int)≥0))=true:=by simp
   rw[h1,cond_true,ay h2,hg,List.drop_eq_getElem_cons h,List.contains_cons]
   cases hq:x==ns[i]with
   | true =>
    rw[cond_true,Bool.true_or]
    show k (decide ((i:Int)≥0))=k true
    rw[hj]
   | false =>
    rw[cond_false,Bool.false_or,hw]
    exact ih (i+1) (by omega) (by omega)
  ·have h1:decide ((i:Int)<(ns.length:Int))=false:=by simp; omega
   rw[h1,cond_false,List.drop_eq_nil_of_le (by omega)]
   rfl
theorem NZ {R:Type} (ns:List ag) (x:ag) (hl:ns.length≤1099511627776) (k:Bool→Option R):aB ns x k=k (ns.contains x):=by
 have:=Tt ns x hl k (List.length ns+List.length x+Int.natAbs (ns.length:Int)+Int.natAbs 0+64) 0 (by omega) (by omega)
 rw[List.drop_zero]at this
 exact this
theorem name_ok {R:Type} (ns:List ag) (hl:ns.length≤1099511627776) {ts:List Token} (he:Dj ts):Both (fun p:ag×List Token=>∀k:ag→List Token→Int→Option R,da ns ts 0 k=k p.1 p.2 0)
  (fun b=>∃nm,∀k:ag→List Token→Int→Option R,da ns ts 0 k=k nm b.2 b.1) (JW ns ts):=by
 cases ts with
 | nil=>exact (he.ne rfl).elim
 | cons t r =>
  have e0:∀k:ag→List Token→Int→Option R,da ns (t::r) 0 k=cw (decide ((0:Int)<((t::r).length:Int))) (bif (t.kind != 2)then (k t.text (t::r) 40)else (aB ns t.text (fun y6=>bif y6 then (k t.text (t::r) 42)else (cw (decide ((1:Int)≤((t::r).length:Int))) (ax [58] r 0 (fun y9 od ug=>bif (!y9)then (au 40 od ug (fun zj FW=>k t.text zj FW))else (k t.text od ug))))))):=fun k=>rfl
  simp only[JW]
  by_cases hk:t.kind=2
  ·have e1:(t.kind != 2)=false:=by simp[hk]
   have hr:=he.tail (by rw[hk]; decide)
   rw[if_neg (by simp[hk])]
   cases hc:ns.contains t.text with
   | true =>
    rw[if_pos rfl]
    refine ⟨t.text,fun k => ?_⟩
    rw[e0,ay ET,e1,cond_false,NZ ns _ hl,hc]
    rfl
   | false =>
    rw[if_neg (by simp)]
    have hs:=fun k:Bool→List Token→Int→Option R=>QN [58] hr.ne k
    cases hq:kh [58] r with
    | some r' =>
     rw[hq]at hs
     intro k
     rw[e0,ay ET,e1,cond_false,NZ ns _ hl,hc,cond_false,ay Yx]
     exact hs _
    | none =>
     rw[hq]at hs
     refine ⟨t.text,fun k => ?_⟩
     rw[e0,ay ET,e1,cond_false,NZ ns _ hl,hc,cond_false,ay Yx]
     exact hs _
  ·have e1:(t.kind != 2)=true:=by simp[hk]
   rw[if_pos hk]
   refine ⟨t.text,fun k => ?_⟩
   rw[e0,ay ET,e1]
   rfl
def Hval {R:Type} (j8:aD R) (f:List Token→Except X4 (Json×List Token)) (d:Int) (B:Nat):Prop :=
 ∀ts,Dj ts→ts.length≤B→Both (fun p:Json×List Token=>Dj p.2∧∀k:Json→List Token→Int→Option R,j8 d ts 0 k=k p.1 p.2 0)
  (fun b=>(Dj b.2∧b.1≠0)∧∃v,∀k:Json→List Token→Int→Option R,j8 d ts 0 k=k v b.2 b.1) (f ts)
theorem Yy {α:Type} (l:List α) (a b:α):(l ++ [a]).set ((l.length:Int)).toNat b=l ++ [b]:=by
 rw[Int.toNat_natCast,List.set_append_right _ _ (Nat.le_refl _),Nat.sub_self]
 rfl
abbrev PartG (R:Type):=Bool→Int→Int→Int→ag→List ag→Nat→Int→List Json→List Token→Int→Option R
theorem parts_ok {R:Type} (j8:aD R) (f:List Token→Except X4 (Json×List Token)) (d:Int) (hd:0≤d∧d≤16) (B:Nat) (hv:Hval j8 f (d+1) B) (obj:Bool) (kd a b:Int) (tx:ag) (ns:List ag) (is:List Json) (ts:List Token)
  (he:Dj ts) (hB:ts.length≤B) (TY:ns.length≤1000000000) (Yv:is.length≤1000000000) :
  Both (fun p:(List ag×List Json)×List Token=>Dj p.2∧∀G:PartG R,bn j8 obj kd a b tx ns is.length d is ts 0 (fun a1 a2 a3 a4 a5 a6 a7 a8 t e i=>G a1 a2 a3 a4 a5 a6 a7 a8 i t e) G (fun a1 a2 a3 a4 a5 a6 a7 a8 t e i=>G a1 a2 a3 a4 a5 a6 a7 a8 i t e) G=G obj kd a b tx p.1.1 p.1.2.length d p.1.2 p.2 0)
   (fun q=>(Dj q.2∧q.1≠0)∧∃ns' n' is',∀G:PartG R,bn j8 obj kd a b tx ns is.length d is ts 0 (fun a1 a2 a3 a4 a5 a6 a7 a8 t e i=>G a1 a2 a3 a4 a5 a6 a7 a8 i t e) G (fun a1 a2 a3 a4 a5 a6 a7 a8 t e i=>G a1 a2 a3 a4 a5 a6 a7 a8 i t e) G=G obj kd a b tx ns' n' d is' q.2 q.1)
   (xU f obj ns is ts):=by
 have e0:∀k0 k1 k2 k3,bn j8 obj kd a b tx ns is.length d is ts 0 k0 k1 k2 k3=eF da j8 obj kd a b tx ns is.length d is ts 0 k0 k1 k2 k3:=fun _ _ _ _=>rfl
 have c1:decide ((ns.length+1)*16≤140737488355328)=true:=by rw[decide_eq_true_eq]; omega
 have c2:decide ((is.length+1)*88≤140737488355328)=true:=by rw[decide_eq_true_eq]; omega
 have hw:IntKind.i64.wrap (d+1)=d+1:=cL (by omega) (by omega)
 have jA:∀c:Int,c≠0→(c==0)=false:=fun c hc=>by simpa using hc
 cases obj with
 | true =>
  have hn:=name_ok (R:=R) ns (by omega) he
  have hnE:=nameS_end (ns:=ns) he
  have hnL:=fun p=>nameS_len (ns:=ns) (ts:=ts) (p:=p)
  simp only[xU]
  cases hq:JW ns ts with
  | error q =>
   rw[hq]at hn hnE
   obtain ⟨nm,hn⟩:=hn
   refine ⟨hnE,ns ++ [nm],is.length,is,fun G => ?_⟩
   rw[e0]
   unfold eF
   rw[cond_true,hn,ay c1,jA _ hnE.2]
   rfl
  | ok q =>
   obtain ⟨nm,ts1⟩:=q
   rw[hq]at hn hnE hnL
   have hl1:=hnL _ rfl
   have h2:=hv ts1 hnE (by simp only at hl1; omega)
   simp only
   cases hf:f ts1 with
   | error q =>
    rw[hf]at h2
    obtain ⟨h2,v,h3⟩:=h2
    refine ⟨h2,ns ++ [nm],is.length+1,is ++ [v],fun G => ?_⟩
    rw[e0]
    unfold eF
    rw[cond_true,hn,ay c1]
    show (j8 (IntKind.i64.wrap (d+1)) ts1 0 _)=_
    rw[hw,h3,ay c2,ay (by simp; omega),ay (by simp),Yy,Json.eta]
   | ok q =>
    obtain ⟨v,TN⟩:=q
    rw[hf]at h2
    obtain ⟨h2,h3⟩:=h2
    refine ⟨h2,fun G => ?_⟩
    rw[e0]
    unfold eF
    rw[cond_true,hn,ay c1]
    show (j8 (IntKind.i64.wrap (d+1)) ts1 0 _)=_
    rw[hw,h3,ay c2,ay (by simp; omega),ay (by simp),Yy,Json.eta]
    simp only[List.length_append,List.length_cons,List.length_nil]
 | false =>
  have h2:=hv ts he hB
  simp only[xU]
  cases hf:f ts with
  | error q =>
   rw[hf]at h2
   obtain ⟨h2,v,h3⟩:=h2
   refine ⟨h2,ns,is.length+1,is ++ [v],fun G => ?_⟩
   rw[e0]
   unfold eF
   show (j8 (IntKind.i64.wrap (d+1)) ts 0 _)=_
   rw[hw,h3,ay c2,ay (by simp; omega),ay (by simp),Yy,Json.eta]
  | ok q =>
   obtain ⟨v,TN⟩:=q
   rw[hf]at h2
   obtain ⟨h2,h3⟩:=h2
   refine ⟨h2,fun G => ?_⟩
   rw[e0]
   unfold eF
   show (j8 (IntKind.i64.wrap (d+1)) ts 0 _)=_
   rw[hw,h3,ay c2,ay (by simp; omega),ay (by simp),Yy,Json.eta]
   simp only[List.length_append,List.length_cons,List.length_nil]
theorem partS_out {f:List Token→Except X4 (Json×List Token)} {obj:Bool} {ns:List ag} {is:List Json} {ts:List Token} {p:(List ag×List Json)×List Token} (h:xU f obj ns is ts = .ok p) :
  p.1.1.length≤ns.length+1∧p.1.2.length=is.length+1:=by
 cases obj with
 | true =>
  simp only[xU]at h
  split at h
  ·cases h
  ·split at h
   ·cases h
   ·cases h; simp
 | false =>
  simp only[xU]at h
  split at h
  ·cases h
  ·cases h; simp
theorem loop_ok {R:Type} (j8:aD R) (f:List Token→Except X4 (Json×List Token)) (hfl:∀ts p,f ts = .ok p→p.2.length<ts.length) (d:Int) (hd:0≤d∧d≤16) (B:Nat) (hBB:B≤100000000) (hv:Hval j8 f (d+1) B) (obj:Bool) (kd a b:Int) (tx cl:ag) :
  ∀(F:Nat) (ns:List ag) (is:List Json) (ts:List Token),ts.length<F→Dj ts→ts.length≤B→ns.length+ts.length≤1000000000→is.length+ts.length≤1000000000 →
  Both (fun p:(List ag×List Json)×List Token=>Dj p.2∧∀e0,aJ j8 F cl ts 0 obj kd a b tx ns is.length d is e0=e0 p.2 0 obj kd a b tx p.1.1 p.1.2.length d p.1.2)
   (fun q=>(Dj q.2∧q.1≠0)∧∃ns' n' is',∀e0,aJ j8 F cl ts 0 obj kd a b tx ns is.length d is e0=e0 q.2 q.1 obj kd a b tx ns' n' d is')
   (zY f cl obj F ns is ts):=by
 intro F
 induction F with
 | zero=>intro ns is ts h; omega
 | succ F ih =>
  intro ns is ts hF he hB TY Yv
  have e1:∀e0,aJ j8 (F+1) cl ts 0 obj kd a b tx ns is.length d is e0=nU au (bn j8) ax (fun jf jj jr ur Eg FT RS RT RU RV yc Ka=>aJ j8 F jf jj jr ur Eg FT RS RT RU RV yc Ka e0) cl ts 0 obj kd a b tx ns is.length d is e0:=fun e0=>rfl
  let G:(List Token→Int→Bool→Int→Int→Int→ag→List ag→Nat→Int→List Json→Option R)→PartG R:=fun e0 y36 y37 y38 ZE y40 y41 y42 y43 y44 y45 y46 =>
   bif (y46 != 0)then (e0 y45 y46 y36 y37 y38 ZE y40 y41 y42 y43 y44)else (ax cl y45 y46 (fun y80 y81 y82=>bif y80 then (e0 y81 y82 y36 y37 y38 ZE y40 y41 y42 y43 y44)else (ax [44] y81 y82 (fun y86 y87 y88=>bif (!y86)then (au 40 y87 y88 (fun y89 y90=>e0 y89 y90 y36 y37 y38 ZE y40 y41 y42 y43 y44))else (aJ j8 F cl y87 y88 y36 y37 y38 ZE y40 y41 y42 y43 y44 e0)))))
  have e2:∀e0,aJ j8 (F+1) cl ts 0 obj kd a b tx ns is.length d is e0=bn j8 obj kd a b tx ns is.length d is ts 0 (fun a1 a2 a3 a4 a5 a6 a7 a8 t e i=>G e0 a1 a2 a3 a4 a5 a6 a7 a8 i t e) (G e0) (fun a1 a2 a3 a4 a5 a6 a7 a8 t e i=>G e0 a1 a2 a3 a4 a5 a6 a7 a8 i t e) (G e0):=fun e0=>rfl
  have hp:=parts_ok j8 f d hd B hv obj kd a b tx ns is ts he hB (by omega) (by omega)
  simp only[zY]
  cases hq:xU f obj ns is ts with
  | error q =>
   rw[hq]at hp
   obtain ⟨h1,ns',n',is',h2⟩:=hp
   refine ⟨h1,ns',n',is',fun e0 => ?_⟩
   rw[e2,h2]
   show (bif (q.1 != 0)then _ else _)=_
   have:(q.1 != 0)=true:=by simpa using h1.2
   rw[this,cond_true]
  | ok q =>
   obtain ⟨⟨ns1,is1⟩,TN⟩:=q
   rw[hq]at hp
   obtain ⟨h1,h2⟩:=hp
   have hlen:=Ww hfl hq
   have hout:=partS_out hq
   simp only at h1 h2 hlen hout ⊢
   have s1:=fun k:Bool→List Token→Int→Option R=>QN cl h1.ne k
   cases hs:kh cl TN with
   | some r =>
    rw[hs]at s1
    refine ⟨L8 h1 hs,fun e0 => ?_⟩
    rw[e2,h2]
    show ax cl TN 0 _=_
    rw[s1]
    rfl
   | none =>
    rw[hs]at s1
    have s2:=fun k:Bool→List Token→Int→Option R=>QN [44] h1.ne k
    simp only
    cases hs2:kh [44] TN with
    | none =>
     rw[hs2]at s2
     refine ⟨⟨h1,by show (_:Int)≠0; simp⟩,ns1,is1.length,is1,fun e0 => ?_⟩
     rw[e2,h2]
     show ax cl TN 0 _=_
     rw[s1]
     show ax [44] TN 0 _=_
     rw[s2]
     rfl
    | some r =>
     rw[hs2]at s2
     have hl3:=HA hs2
     have hih:=ih ns1 is1 r (by omega) (L8 h1 hs2) (by omega) (by omega) (by omega)
     have e3:∀e0,aJ j8 (F+1) cl ts 0 obj kd a b tx ns is.length d is e0=aJ j8 F cl r 0 obj kd a b tx ns1 is1.length d is1 e0:=fun e0=>by
      rw[e2,h2]
      show ax cl TN 0 _=_
      rw[s1]
      show ax [44] TN 0 _=_
      rw[s2]
      rfl
     simp only[e3]
     exact hih
theorem list_ok {R:Type} (j8:aD R) (f:List Token→Except X4 (Json×List Token)) (hfl:∀ts p,f ts = .ok p→p.2.length<ts.length) (d:Int) (hd:0≤d∧d≤16) (B:Nat) (hBB:B≤100000000) (hv:Hval j8 f (d+1) B) (obj:Bool) (kd a b:Int) (tx cl:ag)
  (r:List Token) (he:Dj r) (hB:r.length≤B) (hs:kh cl r=none) :
  Both (fun p:(List ag×List Json)×List Token=>Dj p.2∧∀K0 (K:Json→List Token→Int→Option R),cq j8 cl r 0 obj kd a b tx d K0 (fun FW Gm Ej Ar K2 J9 Pz Li C6 Yr Sn=>K ⟨Ar,⟨K2,J9⟩,Pz,Li,Sn⟩ FW Gm)=K ⟨kd,⟨a,b⟩,tx,p.1.1,p.1.2⟩ p.2 0)
   (fun q=>(Dj q.2∧q.1≠0)∧∃v,∀K0 (K:Json→List Token→Int→Option R),cq j8 cl r 0 obj kd a b tx d K0 (fun FW Gm Ej Ar K2 J9 Pz Li C6 Yr Sn=>K ⟨Ar,⟨K2,J9⟩,Pz,Li,Sn⟩ FW Gm)=K v q.2 q.1) (zY f cl obj (r.length+1) [] [] r):=by
 have e1:∀K0 K1,cq j8 cl r 0 obj kd a b tx d K0 K1=ax cl r 0 (fun od ug zj=>bif od then (K0 ug zj obj kd a b tx d)else (aJ j8 (List.length cl+List.length ug+Int.natAbs zj+Int.natAbs kd+Int.natAbs a+Int.natAbs b+List.length tx+List.length ([]:List ag)+Int.natAbs d+List.length ([]:List Json)+64) cl ug zj obj kd a b tx ([]:List ag) 0 d ([]:List Json) K1)):=fun K0 K1=>rfl
 have s1:=fun k:Bool→List Token→Int→Option R=>QN cl he.ne k
 rw[hs]at s1
 have hl:=loop_ok j8 f hfl d hd B hBB hv obj kd a b tx cl (List.length cl+List.length r+Int.natAbs 0+Int.natAbs kd+Int.natAbs a+Int.natAbs b+List.length tx+List.length ([]:List ag)+Int.natAbs d+List.length ([]:List Json)+64) [] [] r (by omega) he hB (by simp; omega) (by simp; omega)
 have e2:∀K0 K1,cq j8 cl r 0 obj kd a b tx d K0 K1=aJ j8 (List.length cl+List.length r+Int.natAbs 0+Int.natAbs kd+Int.natAbs a+Int.natAbs b+List.length tx+List.length ([]:List ag)+Int.natAbs d+List.length ([]:List Json)+64) cl r 0 obj kd a b tx ([]:List ag) ([]:List Json).length d ([]:List Json) K1:=fun K0 K1=>by
  rw[e1,s1]
  rfl
 rw[aap hfl _ (r.length+1) [] [] r (by omega) (by omega)]at hl
 cases hq:zY f cl obj (r.length+1) [] [] r with
 | error q =>
  rw[hq]at hl
  obtain ⟨h1,ns',n',is',h2⟩:=hl
  exact ⟨h1,⟨kd,⟨a,b⟩,tx,ns',is'⟩,fun K0 K=>by rw[e2,h2]⟩
 | ok p =>
  rw[hq]at hl
  obtain ⟨h1,h2⟩:=hl
  exact ⟨h1,fun K0 K=>by rw[e2,h2]⟩
theorem list_none {R:Type} (j8:aD R) (obj:Bool) (kd a b d:Int) (tx cl:ag) (r r':List Token) (hn:r ≠ []) (hs:kh cl r=some r') (K0 K1) :
  cq (R:=R) j8 cl r 0 obj kd a b tx d K0 K1=K0 r' 0 obj kd a b tx d:=by
 have e1:cq j8 cl r 0 obj kd a b tx d K0 K1=ax cl r 0 (fun od ug zj=>bif od then (K0 ug zj obj kd a b tx d)else (aJ j8 (List.length cl+List.length ug+Int.natAbs zj+Int.natAbs kd+Int.natAbs a+Int.natAbs b+List.length tx+List.length ([]:List ag)+Int.natAbs d+List.length ([]:List Json)+64) cl ug zj obj kd a b tx ([]:List ag) 0 d ([]:List Json) K1)):=rfl
 rw[e1,QN cl hn,hs]
 rfl
theorem parts_t {R:Type} (j8:aD R) (d:Int) (r:List Token) (q:Json→List Token→Int→Option R):cV j8 true d r 0 q =
  cq j8 [125] r 0 true 7 0 0 [] d (fun y5 y6 y7 y8 y9 od ug zj=>q ⟨y8,⟨y9,od⟩,ug, [], []⟩ y5 y6) (fun FW Gm Ej Ar K2 J9 Pz Li C6 Yr Sn=>q ⟨Ar,⟨K2,J9⟩,Pz,Li,Sn⟩ FW Gm):=rfl
theorem parts_f {R:Type} (j8:aD R) (d:Int) (r:List Token) (q:Json→List Token→Int→Option R):cV j8 false d r 0 q =
  cq j8 [93] r 0 false 6 0 0 [] d (fun y5 y6 y7 y8 y9 od ug zj=>q ⟨y8,⟨y9,od⟩,ug, [], []⟩ y5 y6) (fun FW Gm Ej Ar K2 J9 Pz Li C6 Yr Sn=>q ⟨Ar,⟨K2,J9⟩,Pz,Li,Sn⟩ FW Gm):=rfl
section
variable {R:Type} (j8:aD R) (d:Int) (t:Token) (r:List Token) (k:Json→List Token→Int→Option R)
def J18:Option R:=bif (t.kind==3)then k ⟨4,⟨t.num.ao,t.num.exp⟩, [], [], []⟩ r 0 else k ⟨5,⟨0,0⟩,t.text, [], []⟩ r 0
def J16 (z:Bool):Option R:=bif z then (bif (t.kind==4)then k ⟨mn .str (.int .i64) t.text aao,⟨0,0⟩, [], [], []⟩ r 0 else J18 t r k)else J18 t r k
def J17 (z:Bool):Option R:=bif z then (bif (t.kind==1)then cV j8 (t.text == [123]) d r 0 (fun zj FW Gm=>k ⟨zj.kind,⟨zj.num.ao,zj.num.exp⟩,zj.text,zj.names,zj.items⟩ FW Gm)else J18 t r k)
 else (bif (t.text==rS)then J16 t r k (t.text==rS)else (bif (t.text==lv)then J16 t r k (t.text==lv)else J16 t r k (t.text==xa)))
def J19:Option R:=cw (decide ((1:Int)≤((t::r).length:Int))) (bif (t.text == [91])then J17 j8 d t r k (t.text == [91])else J17 j8 d t r k (t.text == [123]))
def J20 (z:Bool):Option R:=bif (!z)then k ⟨0,⟨0,0⟩, [], [], []⟩ (t::r) 40 else (bif (decide (d>16))then k ⟨0,⟨0,0⟩, [], [], []⟩ (t::r) 41 else J19 j8 d t r k)
end
theorem value_head {R:Type} (n:Nat) (d:Int) (t:Token) (r:List Token) (k:Json→List Token→Int→Option R):bt (n+1) d (t::r) 0 k=J20 (bt n) d t r k (tU t):=by
 have e0:bt (n+1) d (t::r) 0 k=cw (decide ((0:Int)<((t::r).length:Int))) (let j:=J20 (bt n) d t r k; bif (t.kind==2)then j true else (bif (t.kind==3)then j true else (bif (t.kind==4)then j true else (bif (t.kind==1)then (bif (t.text == [91])then j true else j (t.text == [123]))else j false)))):=rfl
 rw[e0,ay ET]
 unfold tU Io
 simp only
 cases t.kind==2 <;> cases t.kind==3 <;> cases t.kind==4 <;> cases t.kind==1 <;> cases t.text == [91] <;> rfl
theorem open_named {x:ag} (h:Io x=true):EB x=false:=by
 unfold Io at h
 rw[Bool.or_eq_true,beq_iff_eq,beq_iff_eq]at h
 rcases h with rfl|rfl <;> rfl
theorem value_ok {R:Type} (B:Nat) (hBB:B≤100000000):∀(n:Nat) (d:Int),0≤d→d≤17→17 - d<n→Hval (R:=R) (bt n) (yZ n d) d B:=by
 intro n
 induction n with
 | zero=>intro d h0 h1 h2; omega
 | succ n ih =>
  intro d h0 h1 h2 ts he hB
  cases ts with
  | nil=>exact (he.ne rfl).elim
  | cons t r =>
   simp only[yZ]
   have hv:=fun k=>value_head (R:=R) n d t r k
   cases hst:tU t with
   | false =>
    rw[if_pos rfl]
    rw[hst]at hv
    exact ⟨⟨he,by show (_:Int)≠0; simp⟩,_,fun k=>hv k⟩
   | true =>
    rw[if_neg (by simp)]
    rw[hst]at hv
    by_cases hd:d>16
    ·rw[if_pos hd]
     refine ⟨⟨he,by show (_:Int)≠0; simp⟩,⟨0,⟨0,0⟩, [], [], []⟩,fun k => ?_⟩
     rw[hv]
     unfold J20
     have e1:decide (d>16)=true:=by simpa using hd
     rw[e1]
     rfl
    ·rw[if_neg hd]
     have hk5:t.kind≠5:=by
      intro h5
      simp[tU,h5]at hst
     have her:=he.tail hk5
     have hrB:r.length≤B:=by simp only[List.length_cons]at hB; omega
     have hv2:∀k,bt (n+1) d (t::r) 0 k=J17 (bt n) d t r k (Io t.text):=fun k=>by
      rw[hv]
      unfold J20
      have e1:decide (d>16)=false:=by simpa using hd
      rw[e1,Bool.not_true,cond_false,cond_false]
      unfold J19
      rw[ay Yx]
      unfold Io
      cases t.text == [91] <;> rfl
     have h18:¬(t.kind=1∧Io t.text=true)→¬(t.kind=4∧EB t.text=true)→∀k,bt (n+1) d (t::r) 0 k=J18 t r k:=fun g1 g2 k=>by
      rw[hv2]
      unfold J17
      cases ho:Io t.text with
      | true =>
       have:(t.kind==1)=false:=by
        rw[beq_eq_false_iff_ne]
        exact fun h=>g1 ⟨h,ho⟩
       rw[cond_true,this,cond_false]
      | false =>
       rw[cond_false]
       have hnm:(bif (t.text==rS)then J16 t r k (t.text==rS)else (bif (t.text==lv)then J16 t r k (t.text==lv)else J16 t r k (t.text==xa)))=J16 t r k (EB t.text):=by
        unfold EB
        cases t.text==rS <;> cases t.text==lv <;> rfl
       rw[hnm]
       unfold J16
       cases hn:EB t.text with
       | false=>rfl
       | true =>
        have:(t.kind==4)=false:=by
         rw[beq_eq_false_iff_ne]
         exact fun h=>g2 ⟨h,hn⟩
        rw[cond_true,this,cond_false]
     by_cases hop:t.kind=1∧Io t.text=true
     ·rw[if_pos hop]
      have ek:(t.kind==1)=true:=by simpa using hop.1
      have hvp:∀k,bt (n+1) d (t::r) 0 k=cV (bt n) (t.text == [123]) d r 0 k:=fun k=>by
       rw[hv2]
       unfold J17
       rw[hop.2,cond_true,ek,cond_true]
       simp only[Json.eta]
      have j8:=ih (d+1) (by omega) (by omega) (by omega)
      have hfl:=fun ts p=>valS_len n (d+1) ts p
      cases hobj:t.text == [123]with
      | true =>
       simp only[if_true]
       rw[hobj]at hvp
       cases hs:kh [125] r with
       | some r' =>
        refine ⟨L8 her hs,fun k => ?_⟩
        rw[hvp]
        rw[parts_t]
        rw[list_none _ _ _ _ _ _ _ _ _ _ her.ne hs]
       | none =>
        have hl:=list_ok (R:=R) _ _ hfl d ⟨h0,by omega⟩ B hBB j8 true 7 0 0 [] [125] r her hrB hs
        simp only
        cases hq:zY (yZ n (d+1)) [125] true (r.length+1) [] [] r with
        | error q =>
         rw[hq]at hl
         obtain ⟨g1,v,g2⟩:=hl
         refine ⟨g1,v,fun k => ?_⟩
         rw[hvp]
         rw[parts_t]
         exact g2 _ k
        | ok p =>
         rw[hq]at hl
         obtain ⟨g1,g2⟩:=hl
         refine ⟨g1,fun k => ?_⟩
         rw[hvp]
         rw[parts_t]
         exact g2 _ k
      | false =>
       simp only[Bool.false_eq_true,if_false]
       rw[hobj]at hvp
       cases hs:kh [93] r with
       | some r' =>
        refine ⟨L8 her hs,fun k => ?_⟩
        rw[hvp]
        rw[parts_f]
        rw[list_none _ _ _ _ _ _ _ _ _ _ her.ne hs]
       | none =>
        have hl:=list_ok (R:=R) _ _ hfl d ⟨h0,by omega⟩ B hBB j8 false 6 0 0 [] [93] r her hrB hs
        simp only
        cases hq:zY (yZ n (d+1)) [93] false (r.length+1) [] [] r with
        | error q =>
         rw[hq]at hl
         obtain ⟨g1,v,g2⟩:=hl
         refine ⟨g1,v,fun k => ?_⟩
         rw[hvp]
         rw[parts_f]
         exact g2 _ k
        | ok p =>
         rw[hq]at hl
         obtain ⟨g1,g2⟩:=hl
         refine ⟨g1,fun k => ?_⟩
         rw[hvp]
         rw[parts_f]
         exact g2 _ k
     ·rw[if_neg hop]
      by_cases hnm:t.kind=4∧EB t.text=true
      ·rw[if_pos hnm]
       refine ⟨her,fun k => ?_⟩
       rw[hv2]
       have ho:Io t.text=false:=by
        cases ho:Io t.text with
        | false=>rfl
        | true=>rw[open_named ho]at hnm; cases hnm.2
       have ek:(t.kind==4)=true:=by simpa using hnm.1
       unfold J17
       rw[ho,cond_false]
       have S5:(bif (t.text==rS)then J16 t r k (t.text==rS)else (bif (t.text==lv)then J16 t r k (t.text==lv)else J16 t r k (t.text==xa)))=J16 t r k (EB t.text):=by
        unfold EB
        cases t.text==rS <;> cases t.text==lv <;> rfl
       rw[S5,hnm.2]
       unfold J16
       rw[ek]
       rfl
      ·rw[if_neg hnm]
       have h:=h18 hop hnm
       by_cases hk3:t.kind=3
       ·rw[if_pos hk3]
        refine ⟨her,fun k => ?_⟩
        rw[h]
        unfold J18
        have ek:(t.kind==3)=true:=by simpa using hk3
        rw[ek]
        rfl
       ·rw[if_neg hk3]
        refine ⟨her,fun k => ?_⟩
        rw[h]
        unfold J18
        have ek:(t.kind==3)=false:=by simpa using hk3
        rw[ek]
        rfl
theorem scanN_len:∀(n p:Nat) (s:ag) (out:List Token),(xT n p s out).1.length≤out.length+s.length+1
 | 0,_,_,_=>by simp[xT]
 | n+1,p,s,out=>by
  simp only[xT]
  split
  ·simp <;> omega
  ·split
   ·simp
   ·rename_i t r hr
    have h1:=(tokS_sfx hr).2
    have h2:=BJ th s
    have h3:=scanN_len n (p+(s.length - r.length)) r (out ++ [putT t ((p+(s.takeWhile th).length:Nat):Int)])
    rw[List.length_append,List.length_cons,List.length_nil]at h3
    omega
theorem scanS_len (s:ag):(rT s).1.length≤20002:=by
 unfold rT
 split
 ·simp
 ·have:=scanN_len (s.length+1) 0 s []
  simp at this
  omega
def stT (t:Token):Int×ag×fT:=(t.kind,t.text,t.num)
theorem tokW_st:∀(l:List qz) (p:Nat),(tokW p l).map stT=l.map fun x=>stT x.2.2
 | [],_=>rfl
 | x::l,p=>by simp only[tokW,List.map_cons,tokW_st l]; rfl
theorem scanN_end:∀(n p:Nat) (s:ag) (out:List Token),s.length<n→(xT n p s out).2.1=0→Dj (xT n p s out).1
 | 0,_,_,_,h,_=>by omega
 | n+1,p,s,out,h,he=>by
  simp only[xT]at he ⊢
  by_cases hd:s.dropWhile th = []
  ·rw[if_pos hd]
   exact ⟨_,List.getLast?_concat ..,rfl⟩
  ·rw[if_neg hd]at he ⊢
   cases hr:tokS (s.dropWhile th)with
   | none=>rw[hr]at he; cases he
   | some q =>
    obtain ⟨t,r⟩:=q
    rw[hr]at he
    have h3:=(tokS_sfx hr).2
    have h4:=BJ th s
    exact scanN_end n _ r _ (by omega) he
theorem scanS_end (s:ag) (he:(rT s).2.1=0):Dj (rT s).1:=by
 unfold rT at he ⊢
 split at he
 ·cases he
 ·rename_i h
  rw[if_neg h]
  exact scanN_end _ _ _ _ (by omega) he
def pF (s:ag):Json×Int×Int :=
 if (rT s).2.1≠0 then (⟨0,⟨0,0⟩, [], [], []⟩,(rT s).2.1,(rT s).2.2)else
 match yZ 40 1 (rT s).1 with
 | .error b=>(⟨0,⟨0,0⟩, [], [], []⟩,b.1,(b.2.getD 0 ⟨0, [],⟨0,0⟩,0⟩).at_)
 | .ok (v,r)=>if (r.getD 0 ⟨0, [],⟨0,0⟩,0⟩).kind≠5 then (⟨0,⟨0,0⟩, [], [], []⟩,40,(r.getD 0 ⟨0, [],⟨0,0⟩,0⟩).at_)else (v,0,0)
theorem jparse_ok {R:Type} (s:ag) (k:Json→Int→Int→Option R):cI s k=k (pF s).1 (pF s).2.1 (pF s).2.2:=by
 have e0:cI s k=Hh au dj nj s k:=rfl
 rw[e0]
 unfold Hh pF
 rw[scan_ok]
 by_cases h:(rT s).2.1=0
 rotate_left
 ·have e1:((rT s).2.1 != 0)=true:=by simpa using h
  rw[if_pos h,e1]
  rfl
 have e1:((rT s).2.1 != 0)=false:=by simpa using h
 rw[if_neg (by simpa using h),e1,cond_false]
 have hE:=scanS_end s h
 have hL:=scanS_len s
 have hv:=value_ok (R:=R) 20002 (by omega) 40 1 (by omega) (by omega) (by omega) (rT s).1 hE hL
 have e2:∀q,dj (R:=R) 1 (rT s).1 0 q=bt 40 1 (rT s).1 0 q:=fun q=>rfl
 rw[e2]
 cases hq:yZ 40 1 (rT s).1 with
 | error b =>
  rw[hq]at hv
  obtain ⟨⟨g1,g2⟩,v,g3⟩:=hv
  rw[g3]
  obtain ⟨c,r⟩:=b
  cases r with
  | nil=>exact (g1.ne rfl).elim
  | cons t r =>
   have e3:(c != 0)=true:=by simpa using g2
   have hf:∀q:List Token→Int→Option R,au 40 (t::r) c q=q (t::r) c:=fun q=>by
    show (bif c==0 then q (t::r) 40 else q (t::r) c)=_
    have e4:(c==0)=false:=by simpa using g2
    rw[e4]; rfl
   rw[ay ET]
   simp only[hf]
   have hz:∀z:Bool,(bif z then (bif (c != 0)then cw (decide ((0:Int)<((t::r).length:Int))) (k ⟨0,⟨0,0⟩, [], [], []⟩ c t.at_)else k v 0 0)else (bif (c != 0)then cw (decide ((0:Int)<((t::r).length:Int))) (k ⟨0,⟨0,0⟩, [], [], []⟩ c t.at_)else k v 0 0))=k ⟨0,⟨0,0⟩, [], [], []⟩ c t.at_:=fun z=>by
    rw[e3,ay ET]
    cases z <;> rfl
   have:=hz (t.kind != 5)
   obtain ⟨kd,⟨n1,n2⟩,tx,ns,is⟩:=v
   exact this
 | ok p =>
  rw[hq]at hv
  obtain ⟨g1,g2⟩:=hv
  obtain ⟨v,r⟩:=p
  rw[g2]
  cases r with
  | nil=>exact (g1.ne rfl).elim
  | cons t r =>
   rw[ay ET]
   by_cases hk:t.kind=5
   ·have e3:(t.kind != 5)=false:=by simpa using hk
    have:((((v,t::r):Json×List Token).2).getD 0 (Ty.bR .token)).kind=t.kind:=rfl
    show (bif (t.kind != 5)then _ else _)=_
    rw[e3,cond_false]
    obtain ⟨kd,⟨n1,n2⟩,tx,ns,is⟩:=v
    show k ⟨kd,⟨n1,n2⟩,tx,ns,is⟩ 0 0=_
    have ui:¬(((t::r).getD 0 ⟨0, [],⟨0,0⟩,0⟩).kind≠5):=fun h=>h hk
    simp only
    rw[if_neg ui]
   ·have e3:(t.kind != 5)=true:=by simpa using hk
    show (bif (t.kind != 5)then _ else _)=_
    rw[e3,cond_true]
    show cw (decide ((0:Int)<((t::r).length:Int))) (k ⟨0,⟨0,0⟩, [], [], []⟩ 40 t.at_)=_
    rw[ay ET]
    have ui:(((t::r).getD 0 ⟨0, [],⟨0,0⟩,0⟩).kind≠5):=hk
    simp only
    rw[if_pos ui]
    rfl
def stW (x:qz):Int×ag×fT:=stT x.2.2
theorem N0 {ts:List Token} {x:qz} {l:List qz} (h:ts.map stT=(x::l).map stW):∃t r,ts=t::r∧stT t=stW x∧r.map stT=l.map stW:=by
 cases ts with
 | nil=>cases h
 | cons t r =>
  simp only[List.map_cons,List.cons.injEq]at h
  exact ⟨t,r,rfl,h.1,h.2⟩
theorem st_app {ts:List Token} {a b:List qz} (h:ts.map stT=(a++b).map stW):∃u v,ts=u++v∧u.map stT=a.map stW∧v.map stT=b.map stW:=by
 rw[List.map_append]at h
 obtain ⟨u,v,e,h1,h2⟩:=List.map_eq_append_iff.1 h
 exact ⟨u,v,e,h1,h2⟩
theorem aaq {ts:List Token} {x:qz} (h:ts.map stT = [x].map stW):∃t,ts = [t]∧stT t=stW x:=by
 obtain ⟨t,r,e,h1,h2⟩:=N0 h
 cases r with
 | nil=>exact ⟨t,e,h1⟩
 | cons u r=>cases h2
theorem CT {t:Token} {x:qz} (h:stT t=stW x):t.kind=x.2.2.kind∧t.text=x.2.2.text∧t.num=x.2.2.num:=by
 unfold stW stT at h
 simp only[Prod.mk.injEq]at h
 exact h
theorem val_name {n:Nat} {d:Int} (hd:d≤16) {t:Token} {rest:List Token} {x:ag} (hx:x=rS∨x=lv∨x=xa) (hk:t.kind=4) (ht:t.text=x) :
  yZ (n+1) d (t::rest) = .ok (⟨mn .str (.int .i64) x aao,⟨0,0⟩, [], [], []⟩,rest):=by
 have h1:tU t=true:=by simp[tU,hk]
 have h2:EB t.text=true:=by
  rw[ht]
  rcases hx with rfl|rfl|rfl <;> rfl
 simp only[yZ]
 rw[if_neg (by rw[h1]; simp),if_neg (by omega),if_neg (by rw[hk]; simp),if_pos ⟨hk,h2⟩,ht]
theorem valS_sign {n:Nat} {d:Int} {ts:List Token} {p:Json×List Token} (h:yZ n d ts = .ok p):kh [93] ts=none∧kh [125] ts=none:=by
 cases n with
 | zero=>cases h
 | succ n =>
  cases ts with
  | nil=>cases h
  | cons t r =>
   simp only[yZ]at h
   by_cases hs:tU t=false
   ·rw[if_pos hs]at h; cases h
   ·have jA:∀x:ag,x = [93]∨x = [125]→¬(t.kind=1∧t.text=x):=fun x hx ⟨h1,h2⟩=>by
     apply hs
     rcases hx with rfl|rfl <;> simp[tU,Io,h1,h2]
    simp only[kh]
    rw[if_neg (jA _ (.inl rfl)),if_neg (jA _ (.inr rfl))]
    exact ⟨rfl,rfl⟩
mutual
theorem TO:∀(v:Json) (d:Int) (n:Nat) (ts rest:List Token),dZ v d=true→17 - d<n→ts.map stT=(tT v).map stW→yZ n d (ts++rest) = .ok (v,rest)
 | ⟨k,nm,t,ns,is⟩,d,0,ts,rest,h,hn,hw=>by
  have:d≤16:=by
   cases fx.1 h <;> assumption
  omega
 | ⟨k,nm,t,ns,is⟩,d,n+1,ts,rest,h,hn,hw=>by
  have hL:=listS_wL is
  have hO:=listS_wO ns is
  cases fx.1 h with
  | name _ _ hd hk =>
   have Up:∀x:ag,(x=rS∨x=lv∨x=xa)→ts.map stT = [(([],x,⟨4,x,⟨0,0⟩,0⟩):qz)].map stW→yZ (n+1) d (ts++rest) = .ok (⟨mn .str (.int .i64) x aao,⟨0,0⟩, [], [], []⟩,rest):=fun x hx hw=>by
    obtain ⟨u,rfl,hu⟩:=aaq hw
    obtain ⟨h1,h2,_⟩:=CT hu
    exact val_name hd hx h1 h2
   rcases hk with rfl|rfl|rfl
   ·exact Up rS (.inl rfl) hw
   ·exact Up lv (.inr (.inl rfl)) hw
   ·exact Up xa (.inr (.inr rfl)) hw
  | num _ _ hd hnm =>
   obtain ⟨u,rfl,hu⟩:=aaq (x:=([],AL nm,⟨3,AL nm,nm,0⟩)) hw
   obtain ⟨h1,h2,h3⟩:=CT hu
   simp only at h1 h2 h3
   have hs:tU u=true:=by simp[tU,h1]
   show yZ (n+1) d (u::rest)=_
   simp only[yZ]
   rw[if_neg (by rw[hs]; simp),if_neg (by omega),if_neg (by rw[h1]; simp),if_neg (by rw[h1]; simp),if_pos h1,h3]
  | text _ _ hd ht =>
   obtain ⟨u,rfl,hu⟩:=aaq (x:=txW t) hw
   obtain ⟨h1,h2,h3⟩:=CT hu
   simp only[txW]at h1 h2 h3
   have hs:tU u=true:=by simp[tU,h1]
   show yZ (n+1) d (u::rest)=_
   simp only[yZ]
   rw[if_neg (by rw[hs]; simp),if_neg (by omega),if_neg (by rw[h1]; simp),if_neg (by rw[h1]; simp),if_neg (by rw[h1]; simp),h2]
  | arr _ _ hd hi =>
   obtain ⟨u,TN,rfl,hu,hw2⟩:=N0 (x:=sg 91) (l:=rA is true ++ [sg 93]) hw
   obtain ⟨tl,tc,rfl,hl,Sj⟩:=st_app hw2
   obtain ⟨c,rfl,hc⟩:=aaq Sj
   obtain ⟨h1,h2,_⟩:=CT hu
   obtain ⟨c1,c2,_⟩:=CT hc
   simp only[sg]at h1 h2 c1 c2
   have IZ:Io u.text=true:=by rw[h2]; rfl
   have hs:tU u=true:=by simp[tU,h1,IZ]
   have ho7:(u.text==([123]:ag))=false:=by rw[h2]; rfl
   show yZ (n+1) d (u::(tl ++ [c]++rest))=_
   simp only[yZ]
   rw[if_neg (by rw[hs]; simp),if_neg (by omega),if_pos ⟨h1,IZ⟩,ho7]
   simp only[Bool.false_eq_true,if_false]
   cases is with
   | nil =>
    obtain rfl:tl = []:=by simpa [rA]using hl
    show (match kh [93] (c::rest)with|some r'=>_|none=>_)=_
    have:kh [93] (c::rest)=some rest:=by
     show (if c.kind=1∧c.text = [93]then some rest else none)=some rest
     rw[if_pos ⟨c1,c2⟩]
    rw[this]
   | cons x l =>
    obtain ⟨e1,e2⟩:=hL d n (tl ++ [c]++rest).length.succ [] [] tl c rest (by simp) hi (by omega) (by simp; omega) hl c1 c2
    rw[e1,e2]
    rfl
  | obj _ _ _ hd hlen hu7 hi =>
   obtain ⟨u,TN,rfl,hu,hw2⟩:=N0 (x:=sg 123) (l:=np ns is true ++ [sg 125]) hw
   obtain ⟨tl,tc,rfl,hl,Sj⟩:=st_app hw2
   obtain ⟨c,rfl,hc⟩:=aaq Sj
   obtain ⟨h1,h2,_⟩:=CT hu
   obtain ⟨c1,c2,_⟩:=CT hc
   simp only[sg]at h1 h2 c1 c2
   have IZ:Io u.text=true:=by rw[h2]; rfl
   have hs:tU u=true:=by simp[tU,h1,IZ]
   have ho7:(u.text==([123]:ag))=true:=by rw[h2]; rfl
   show yZ (n+1) d (u::(tl ++ [c]++rest))=_
   simp only[yZ]
   rw[if_neg (by rw[hs]; simp),if_neg (by omega),if_pos ⟨h1,IZ⟩,ho7]
   simp only[if_true]
   cases is with
   | nil =>
    obtain rfl:ns = []:=List.eq_nil_of_length_eq_zero hlen
    obtain rfl:tl = []:=by simpa [np]using hl
    show (match kh [125] (c::rest)with|some r'=>_|none=>_)=_
    have:kh [125] (c::rest)=some rest:=by
     show (if c.kind=1∧c.text = [125]then some rest else none)=some rest
     rw[if_pos ⟨c1,c2⟩]
    rw[this]
   | cons x l =>
    obtain ⟨e1,e2⟩:=hO d n (tl ++ [c]++rest).length.succ [] [] [] tl c rest (by simp) hlen hi hu7 (fun n=>rfl) (by omega) (by simp; omega) hl c1 c2
    rw[e1,e2]
    rfl
theorem listS_wL:∀(is:List Json) (d:Int) (n m:Nat) (ns0:List ag) (is0:List Json) (tl:List Token) (c:Token) (rest:List Token),is ≠ []→eQ is (d+1)=true→17 - (d+1)<n→tl.length<m →
  tl.map stT=(rA is true).map stW→c.kind=1→c.text = [93]→kh [93] (tl ++ [c]++rest)=none∧zY (yZ n (d+1)) [93] false m ns0 is0 (tl ++ [c]++rest) = .ok ((ns0,is0++is),rest)
 | [],_,_,_,_,_,_,_,_,h,_,_,_,_,_,_=>(h rfl).elim
 | x::l,d,n,0,ns0,is0,tl,c,rest,_,hr,hn,hm,hw,c1,c2=>by omega
 | x::l,d,n,m+1,ns0,is0,tl,c,rest,_,hr,hn,hm,hw,c1,c2=>by
  obtain ⟨tv,tr,rfl,hv,ht⟩:=st_app (a:=tT x) (b:=rA l false) hw
  simp only[eQ,Bool.and_eq_true]at hr
  have hx:=TO x (d+1) n tv (tr ++ [c]++rest) hr.1 hn hv
  have hL:=listS_wL l
  rw[show tv++tr ++ [c]++rest=tv++(tr ++ [c]++rest) by simp]
  refine ⟨(valS_sign hx).1,?_⟩
  have hp:xU (yZ n (d+1)) false ns0 is0 (tv++(tr ++ [c]++rest)) = .ok ((ns0,is0 ++ [x]),tr ++ [c]++rest):=by
   simp only[xU,hx]
  simp only[zY,hp]
  cases l with
  | nil =>
   obtain rfl:tr = []:=by simpa [rA]using ht
   have:kh [93] ([] ++ [c]++rest)=some rest:=by
    show (if c.kind=1∧c.text = [93]then some rest else none)=some rest
    rw[if_pos ⟨c1,c2⟩]
   rw[this]
  | cons y l' =>
   obtain ⟨u,tr',rfl,hu,ht'⟩:=N0 (x:=sg 44) (l:=rA (y::l') true) ht
   obtain ⟨u1,u2,_⟩:=CT hu
   simp only[sg]at u1 u2
   have s1:kh [93] (u::tr' ++ [c]++rest)=none:=by
    show (if u.kind=1∧u.text = [93]then some (tr' ++ [c]++rest)else none)=none
    rw[if_neg (by rw[u2]; rintro ⟨_,h⟩; cases h)]
   have s2:kh [44] (u::tr' ++ [c]++rest)=some (tr' ++ [c]++rest):=by
    show (if u.kind=1∧u.text = [44]then some (tr' ++ [c]++rest)else none)=_
    rw[if_pos ⟨u1,u2⟩]
   rw[s1,s2]
   obtain ⟨_,e2⟩:=hL d n m ns0 (is0 ++ [x]) tr' c rest (by simp) hr.2 hn (by simp at hm; omega) ht' c1 c2
   simp only
   rw[e2]
   simp
theorem listS_wO:∀(ns:List ag) (is:List Json) (d:Int) (n m:Nat) (ns0:List ag) (is0:List Json) (seen:List ag) (tl:List Token) (c:Token) (rest:List Token),is ≠ []→ns.length=is.length→eQ is (d+1)=true→tu seen ns=true→(∀n,ns0.contains n=seen.contains n) →
  17 - (d+1)<n→tl.length<m →
  tl.map stT=(np ns is true).map stW→c.kind=1→c.text = [125]→kh [125] (tl ++ [c]++rest)=none∧zY (yZ n (d+1)) [125] true m ns0 is0 (tl ++ [c]++rest) = .ok ((ns0++ns,is0++is),rest)
 | _, [],_,_,_,_,_,_,_,_,_,h,_,_,_,_,_,_,_,_,_=>(h rfl).elim
 | [],x::l,d,n,m,ns0,is0,seen,tl,c,rest,_,hlen,hr,hu,hsn,hn,hm,hw,c1,c2=>by cases hlen
 | nm::ns,x::l,d,n,0,ns0,is0,seen,tl,c,rest,_,hlen,hr,hu,hsn,hn,hm,hw,c1,c2=>by omega
 | nm::ns,x::l,d,n,m+1,ns0,is0,seen,tl,c,rest,_,hlen,hr,hu,hsn,hn,hm,hw,c1,c2=>by
  obtain ⟨tn,tl1,rfl,hn1,hw1⟩:=N0 (x:=txW nm) (l:=sg 58::(tT x++np ns l false)) hw
  obtain ⟨tk,tl2,rfl,hk1,hw2⟩:=N0 hw1
  obtain ⟨tv,tr,rfl,hv,ht⟩:=st_app hw2
  obtain ⟨n1,n2,_⟩:=CT hn1
  obtain ⟨k1,k2,_⟩:=CT hk1
  simp only[txW]at n1 n2
  simp only[sg]at k1 k2
  simp only[eQ,Bool.and_eq_true]at hr
  simp only[tu,Bool.and_eq_true,Bool.not_eq_true']at hu
  have hx:=TO x (d+1) n tv (tr ++ [c]++rest) hr.1 hn hv
  have hO:=listS_wO ns l
  rw[show tn::tk::(tv++tr) ++ [c]++rest=tn::tk::(tv++(tr ++ [c]++rest)) by simp]
  refine ⟨?_,?_⟩
  ·show (if tn.kind=1∧tn.text = [125]then some _ else none)=none
   rw[if_neg (by rw[n1]; rintro ⟨h,_⟩; cases h)]
  have hnm:JW ns0 (tn::tk::(tv++(tr ++ [c]++rest))) = .ok (nm,tv++(tr ++ [c]++rest)):=by
   simp only[JW]
   rw[if_neg (by rw[n1]; simp),if_neg (by rw[n2,hsn,hu.1.1]; simp)]
   have:kh [58] (tk::(tv++(tr ++ [c]++rest)))=some (tv++(tr ++ [c]++rest)):=by
    show (if tk.kind=1∧tk.text = [58]then some (tv++(tr ++ [c]++rest))else none)=_
    rw[if_pos ⟨k1,k2⟩]
   rw[this,n2]
  have hp:xU (yZ n (d+1)) true ns0 is0 (tn::tk::(tv++(tr ++ [c]++rest))) = .ok ((ns0 ++ [nm],is0 ++ [x]),tr ++ [c]++rest):=by
   simp only[xU,hnm,hx]
  simp only[zY,hp]
  cases l with
  | nil =>
   obtain rfl:ns = []:=List.eq_nil_of_length_eq_zero (by simpa using hlen)
   obtain rfl:tr = []:=by simpa [np]using ht
   have:kh [125] ([] ++ [c]++rest)=some rest:=by
    show (if c.kind=1∧c.text = [125]then some rest else none)=some rest
    rw[if_pos ⟨c1,c2⟩]
   rw[this]
  | cons y l' =>
   obtain ⟨u,tr',rfl,hu2,ht'⟩:=N0 (x:=sg 44) (l:=np ns (y::l') true) ht
   obtain ⟨u1,u2,_⟩:=CT hu2
   simp only[sg]at u1 u2
   have s1:kh [125] (u::tr' ++ [c]++rest)=none:=by
    show (if u.kind=1∧u.text = [125]then some (tr' ++ [c]++rest)else none)=none
    rw[if_neg (by rw[u2]; rintro ⟨_,h⟩; cases h)]
   have s2:kh [44] (u::tr' ++ [c]++rest)=some (tr' ++ [c]++rest):=by
    show (if u.kind=1∧u.text = [44]then some (tr' ++ [c]++rest)else none)=_
    rw[if_pos ⟨u1,u2⟩]
   rw[s1,s2]
   obtain ⟨_,e2⟩:=hO d n m (ns0 ++ [nm]) (is0 ++ [x]) (nm::seen) tr' c rest (by simp) (by simpa using hlen) hr.2 hu.2 (fun z=>by
    rw[List.contains_append,hsn,List.contains_cons,List.contains_cons,List.contains_nil,Bool.or_false,Bool.or_comm]) hn (by simp at hm; omega) ht' c1 c2
   simp only
   rw[e2]
   simp
end
theorem val_tail {v:Json} (h:dZ v 1=true) (ts:List Token) (rest:List Token) (hw:ts.map stT=(tT v).map stW):yZ 40 1 (ts++rest) = .ok (v,rest):=TO v 1 40 ts rest h (by omega) hw
theorem QO {v:Json} (h:dZ v 1=true) (hl:(cE v).length≤20000):pF (cE v)=(v,0,0):=by
 have hlay:=RA v []
 rw[List.append_nil]at hlay
 have tg:=Vr v 1 h [] (.inl rfl)
 have hlen:=aai (tT v) []
 have hs:=scanS_words (tT v) [] (by simp) tg (by rw[hlay]at hlen; simp at hlen ⊢; omega)
 rw[hlay]at hs
 have hv:=val_tail h (tokW 0 (tT v)) [⟨5, [],⟨0,0⟩,((QM (tT v)+0:Nat):Int)⟩] (tokW_st _ _)
 unfold pF
 rw[hs]
 simp only[ne_eq,not_true_eq_false,if_false,List.length_nil]
 rw[hv]
 rfl
def tight (l:List qz):Prop:=∀x∈l,x.1 = []
mutual
theorem tightJ:∀v:Json,tight (tT v)
 | ⟨k,n,t,ns,is⟩=>by
  have hL:=tightL is
  have hO:=tightO ns is
  intro x hx
  simp only[tT]at hx
  split at hx
  ·simp at hx; rw[hx]
  split at hx
  ·simp at hx; rw[hx]
  split at hx
  ·simp at hx; rw[hx]
  split at hx
  ·simp at hx; rw[hx]
  split at hx
  ·simp[txW]at hx; rw[hx]
  split at hx
  ·simp only[List.mem_cons,List.mem_append,List.not_mem_nil,or_false]at hx
   rcases hx with rfl|hx|rfl
   ·rfl
   ·exact hO true x hx
   ·rfl
  ·simp only[List.mem_cons,List.mem_append,List.not_mem_nil,or_false]at hx
   rcases hx with rfl|hx|rfl
   ·rfl
   ·exact hL true x hx
   ·rfl
theorem tightL:∀(l:List Json) (first:Bool),tight (rA l first)
 | [],_=>by intro x hx; simp[rA]at hx
 | y::l,first=>by
  have h1:=tightJ y
  have h2:=tightL l false
  intro x hx
  simp only[rA,List.mem_append]at hx
  rcases hx with hx|hx|hx
  ·cases first
   ·simp at hx; rw[hx]; rfl
   ·simp at hx
  ·exact h1 x hx
  ·exact h2 x hx
theorem tightO:∀(ns:List ag) (l:List Json) (first:Bool),tight (np ns l first)
 | _, [],_=>by intro x hx; simp[np]at hx
 | ns,y::l,first=>by
  have h1:=tightJ y
  have h2:=tightO ns.tail l false
  intro x hx
  simp only[np,List.mem_append,List.mem_cons]at hx
  rcases hx with hx|rfl|rfl|hx|hx
  ·cases first
   ·simp at hx; rw[hx]; rfl
   ·simp at hx
  ·rfl
  ·rfl
  ·exact h1 x hx
  ·exact h2 x hx
end
theorem print_ne (v:Json) (h:dZ v 1=true):cE v ≠ []:=by
 intro e
 have h1:=RA v []
 rw[List.append_nil,e]at h1
 have tg:=Vr v 1 h [] (.inl rfl)
 have hv:=val_tail h (tokW 0 (tT v)) [] (tokW_st _ _)
 cases hw:tT v with
 | nil=>rw[hw]at hv; cases hv
 | cons x l =>
  rw[hw]at h1 tg
  obtain ⟨_,⟨c,u,hc,_⟩,_⟩:=tg
  simp[tS,hc]at h1
theorem wq {R:Type} (t s:ag) (hv:fE t=true) (ht:t.length≤10000000000) (hl:(s++NY t).length≤100000000000) (k:List Int→Option R):aL t (zs s) k=k (zs (s++NY t)):=by
 obtain ⟨rs,hr,hc,rfl,_,hq⟩|⟨h,_⟩:=quote_any (R:=R) t ht
 ·have e:aL (fp rs) (zs s) k=eG (fp rs) (fun y3 y4=>ae y3 (zs s) (fun y5 y6=>k y6)):=rfl
  rw[Yw hr]at hl ⊢
  rw[List.length_append]at hl
  rw[e,hq]
  exact ws (qt rs) s (by omega) (by unfold Vl; omega) _
 ·rw[hv]at h; cases h
def FD (v:Json) (i:Nat):ag:=if v.kind=7 then iu (v.names.drop i) (v.items.drop i) (i==0)else k7 (v.items.drop i) (i==0)
theorem aar {R:Type} (f:dk R) (z:ag) (v:Json) (hl:v.items.length≤1099511627776) (h7:v.kind=7→v.names.length=v.items.length∧∀t∈v.names,fE t=true∧t.length≤10000000000)
  (hf:∀x∈v.items,∀(s:ag) (k:List Int→Option R),(s++cE x).length≤100000000000→f x (zs s) k=k (zs (s++cE x))) (e0:ag→List Int→Option R):∀(F i:Nat) (s:ag),i≤v.items.length→v.items.length - i<F→(s++FD v i).length≤100000000000 →
  aT f F z v.items (v.items.length:Int) (i:Int) (zs s) v e0=e0 z (zs (s++FD v i)):=by
 intro F
 induction F with
 | zero=>intro i s _ h; omega
 | succ F ih =>
  intro i s hi hF hb
  have eL:aT f (F+1) z v.items (v.items.length:Int) (i:Int) (zs s) v e0=iZ ad f aL (fun jf jj jr ur Eg FT=>aT f F jf jj jr ur Eg FT e0) z v.items (v.items.length:Int) (i:Int) (zs s) v e0:=rfl
  rw[eL]
  unfold iZ
  simp only[Json.eta]
  by_cases h:i<v.items.length
  rotate_left
  ·have h1:decide ((i:Int)<(v.items.length:Int))=false:=by simp; omega
   rw[h1,cond_false]
   have hd:v.items.drop i = []:=List.drop_eq_nil_of_le (by omega)
   have:FD v i = []:=by
    unfold FD
    rw[hd]
    split
    ·cases v.names.drop i <;> rfl
    ·rfl
   rw[this,List.append_nil]
  have h1:decide ((i:Int)<(v.items.length:Int))=true:=by simp; omega
  have h2:(decide ((0:Int)≤(i:Int))&&true)=true:=by simp
  have hw:IntKind.i64.wrap ((i:Int)+1)=((i+1:Nat):Int):=by rw[cL (by omega) (by omega)]; omega
  have hg:v.items.getD (i:Int).toNat (Ty.bR .json)=v.items[i]:=getD_at h _
  have hr:FD v i=(if i=0 then []else [44])++((if v.kind=7 then NY (v.names.getD i []) ++ [58]else [])++(cE v.items[i]++FD v (i+1))):=by
   unfold FD
   rw[List.drop_eq_getElem_cons h]
   by_cases h7':v.kind=7
   ·rw[if_pos h7',if_pos h7',if_pos h7']
    have hn:=(h7 h7').1
    have hni:i<v.names.length:=by omega
    rw[List.drop_eq_getElem_cons hni]
    simp only[iu,List.headD_cons,List.tail_cons]
    have:v.names.getD i []=v.names[i]:=getD_at hni _
    rw[this]
    by_cases h0:i=0
    ·subst h0; simp
    ·have e1:(i==0)=false:=by simpa using h0
     have e2:(i+1==0)=false:=rfl
     rw[e1,e2]
     simp[h0]
   ·rw[if_neg h7',if_neg h7',if_neg h7']
    simp only[k7]
    by_cases h0:i=0
    ·subst h0; simp
    ·have e1:(i==0)=false:=by simpa using h0
     have e2:(i+1==0)=false:=rfl
     rw[e1,e2]
     simp[h0]
  rw[hr]at hb ⊢
  rw[h1,cond_true,ay h2,hg,hw]
  -- from the name on
  have key:∀s':ag,(s'++((if v.kind=7 then NY (v.names.getD i []) ++ [58]else [])++(cE v.items[i]++FD v (i+1)))).length≤100000000000 →
    (bif (v.kind==7)then (cw (decide ((0:Int)≤(i:Int))&&decide ((i:Int)<(v.names.length:Int))) (aL (v.names.getD (i:Int).toNat (Ty.bR .str)) (zs s') (fun I1=>ad 58 I1 (fun FJ=>f v.items[i] FJ (fun Pd=>aT f F z v.items (v.items.length:Int) ((i+1:Nat):Int) Pd v e0)))))else (f v.items[i] (zs s') (fun W4=>aT f F z v.items (v.items.length:Int) ((i+1:Nat):Int) W4 v e0))) =
    e0 z (zs (s'++((if v.kind=7 then NY (v.names.getD i []) ++ [58]else [])++(cE v.items[i]++FD v (i+1))))):=by
   intro s' ph
   by_cases h7':v.kind=7
   ·rw[if_pos h7']at ph ⊢
    have hk:(v.kind==7)=true:=by simpa using h7'
    have hn:=(h7 h7').1
    have hni:i<v.names.length:=by omega
    have hgn:v.names.getD (i:Int).toNat (Ty.bR .str)=v.names.getD i []:=rfl
    have hgi:v.names.getD i []=v.names[i]:=getD_at hni _
    obtain ⟨hv1,hv2⟩:=(h7 h7').2 v.names[i] (List.getElem_mem hni)
    rw[hk,cond_true,ay (by simp; omega),hgn]
    rw[hgi]at ph ⊢
    have e58:((58:UInt8).toNat:Int)=58:=rfl
    simp only[List.length_append,List.length_cons,List.length_nil]at ph
    rw[wq _ _ hv1 hv2 (by rw[List.length_append]; omega),←e58,wb _ _ (by unfold Vl; rw[List.length_append]; omega),hf _ (List.getElem_mem h) _ _ (by simp only[List.length_append,List.length_cons,List.length_nil]; omega),
     ih (i+1) _ (by omega) (by omega) (by simp only[List.length_append,List.length_cons,List.length_nil]; omega)]
    simp only[List.append_assoc]
   ·rw[if_neg h7']at ph ⊢
    have hk:(v.kind==7)=false:=by simpa using h7'
    rw[List.nil_append]at ph ⊢
    simp only[List.length_append]at ph
    rw[hk,cond_false,hf _ (List.getElem_mem h) _ _ (by rw[List.length_append]; omega),ih (i+1) _ (by omega) (by omega) (by simp only[List.length_append]; omega)]
    simp only[List.append_assoc]
  by_cases h0:i=0
  ·subst h0
   rw[if_pos rfl,List.nil_append]at hb ⊢
   exact key s hb
  ·rw[if_neg h0]at hb ⊢
   have e3:decide ((i:Int)>0)=true:=by simp; omega
   have e44:((44:UInt8).toNat:Int)=44:=rfl
   have VA:=hb
   simp only[List.length_append,List.length_cons,List.length_nil]at VA
   rw[e3,cond_true,←e44,wb _ _ (by unfold Vl; omega)]
   have:=key (s ++ [44]) (by simp only[List.length_append,List.length_cons,List.length_nil]; omega)
   rw[List.append_assoc]at this
   exact this
theorem N1:∀(ns:List ag) (seen:List ag),tu seen ns=true→∀t∈ns,fE t=true
 | [],_,_,t,h=>by cases h
 | n::ns,seen,h,t,ht=>by
  simp only[tu,Bool.and_eq_true]at h
  rcases List.mem_cons.1 ht with rfl|ht
  ·exact h.1.2
  ·exact N1 ns _ h.2 t ht
theorem write_N {R:Type}:∀(n:Nat) (v:Json) (d:Int),dZ v d=true→O6 v=true→v.depth<n→∀(s:ag) (k:List Int→Option R),(s++cE v).length≤100000000000→dm n v (zs s) k=k (zs (s++cE v)):=by
 intro n
 induction n with
 | zero=>intro v d _ _ h; omega
 | succ n ih =>
  intro v d hr hl hn s k hb
  obtain ⟨TY,Yv,hil,htx,hnl⟩:=xb.1 hl
  have e0:dm (n+1) v (zs s) k=Ch bT ad ae aL (aT (dm n)) v (zs s) k:=rfl
  rw[e0]
  have L9:∀(z:ag) (e:ag→List Int→Option R) (F:Nat) (s':ag),(v.kind=7→v.names.length=v.items.length∧∀t∈v.names,fE t=true∧t.length≤10000000000)→eQ v.items (d+1)=true→v.items.length<F→(s'++FD v 0).length≤100000000000 →
    aT (dm n) F z v.items (v.items.length:Int) 0 (zs s') v e=e z (zs (s'++FD v 0)):=fun z e F s' h7 hi hF ph =>
   aar (dm n) z v Yv h7 (fun x hx s k hb=>ih x (d+1) (TM hi hx) (Vt hil hx) (by have:=Xn hx; omega) s k hb) e F 0 s' (by omega) (by omega) ph
  cases fx.1 hr with
  | name kd _ hd hk =>
   rcases hk with rfl|rfl|rfl
   ·show ae rS (zs s) (fun y3 y4=>k y4)=k (zs (s++rS))
    exact ws rS s (by decide) (by unfold Vl; rw[List.length_append]at hb; omega) _
   ·show ae lv (zs s) (fun y3 y4=>k y4)=k (zs (s++lv))
    exact ws lv s (by decide) (by unfold Vl; rw[List.length_append]at hb; omega) _
   ·show ae xa (zs s) (fun y3 y4=>k y4)=k (zs (s++xa))
    exact ws xa s (by decide) (by unfold Vl; rw[List.length_append]at hb; omega) _
  | num nm _ hd hnm =>
   have VA:(s++AL nm).length≤100000000000:=hb
   rw[List.length_append]at VA
   show bT ⟨nm.ao,nm.exp⟩ (fun y9=>ae y9 (zs s) (fun od ug=>k ug))=k (zs (s++AL nm))
   rw[print_any]
   exact ws (AL nm) s (by omega) (by unfold Vl; omega) _
  | text t _ hd ht=>exact wq t s ht htx hb k
  | arr is _ hd hi =>
   have VA:(s++(91::(k7 is true ++ [93]))).length≤100000000000:=hb
   simp only[List.length_append,List.length_cons,List.length_nil]at VA
   have e91:((91:UInt8).toNat:Int)=91:=rfl
   have e93:((93:UInt8).toNat:Int)=93:=rfl
   show ad ((91:UInt8).toNat:Int) (zs s) (fun Gm=>aT (dm n) _ [91,93] is (is.length:Int) 0 Gm ⟨6,⟨0,0⟩, [], [],is⟩ (fun OO XL=>cw (decide ((1:Int)<(OO.length:Int))) (ad ((OO.getD 1 0).toNat:Int) XL (fun HY=>k HY))))=k (zs (s++(91::(k7 is true ++ [93]))))
   rw[wb _ _ (by unfold Vl; omega)]
   simp only at L9
   have hz:FD ⟨6,⟨0,0⟩, [], [],is⟩ 0=k7 is true:=rfl
   rw[hz]at L9
   rw[L9 _ _ _ _ (fun h=>by cases h) hi]
   rotate_left
   ·simp only[List.length_cons,List.length_nil]; omega
   ·simp only[List.length_append,List.length_cons,List.length_nil]; omega
   show ad ((93:UInt8).toNat:Int) (zs ((s ++ [91])++k7 is true)) (fun HY=>k HY)=_
   rw[wb _ _ (by unfold Vl; simp only[List.length_append,List.length_cons,List.length_nil]; omega)]
   simp only[List.append_assoc,List.cons_append,List.nil_append]
  | obj ns is _ hd hlen hu hi =>
   have VA:(s++(123::(iu ns is true ++ [125]))).length≤100000000000:=hb
   simp only[List.length_append,List.length_cons,List.length_nil]at VA
   show ad ((123:UInt8).toNat:Int) (zs s) (fun Gm=>aT (dm n) _ [123,125] is (is.length:Int) 0 Gm ⟨7,⟨0,0⟩, [],ns,is⟩ (fun OO XL=>cw (decide ((1:Int)<(OO.length:Int))) (ad ((OO.getD 1 0).toNat:Int) XL (fun HY=>k HY))))=k (zs (s++(123::(iu ns is true ++ [125]))))
   rw[wb _ _ (by unfold Vl; omega)]
   simp only at L9
   have hz:FD ⟨7,⟨0,0⟩, [],ns,is⟩ 0=iu ns is true:=rfl
   rw[hz]at L9
   rw[L9 _ _ _ _ (fun _=>⟨hlen,fun t ht=>⟨N1 ns [] hu t ht,hnl t ht⟩⟩) hi]
   rotate_left
   ·simp only[List.length_cons,List.length_nil]; omega
   ·simp only[List.length_append,List.length_cons,List.length_nil]; omega
   show ad ((125:UInt8).toNat:Int) (zs ((s ++ [123])++iu ns is true)) (fun HY=>k HY)=_
   rw[wb _ _ (by unfold Vl; simp only[List.length_append,List.length_cons,List.length_nil]; omega)]
   simp only[List.append_assoc,List.cons_append,List.nil_append]
theorem aas {R:Type}:∀(F:Nat) (a:ag) (b:List Json) (c d:Int) (e:List Int) (f:Json) (g:ag→List Int→Option R),bI F a b c d e f g=aT cp F a b c d e f g:=by
 intro F
 induction F with
 | zero=>intros; rfl
 | succ F ih =>
  intro a b c d e f g
  have h1:bI (F+1) a b c d e f g=iZ ad cp aL (fun jf jj jr ur Eg FT=>bI F jf jj jr ur Eg FT g) a b c d e f g:=rfl
  have h2:aT cp (F+1) a b c d e f g=iZ ad cp aL (fun jf jj jr ur Eg FT=>aT cp F jf jj jr ur Eg FT g) a b c d e f g:=rfl
  rw[h1,h2]
  simp only[ih]
theorem aat {R:Type} (v:Json) (hr:dZ v 1=true) (hl:O6 v=true) (hb:(cE v).length≤100000000000) (k:ag→Option R):dM v k=k (cE v):=by
 have e0:dM v k=Hm nc gX v k:=rfl
 rw[e0]
 unfold Hm
 simp only[Json.eta]
 rw[right_json v hl,hr,Bool.not_true,cond_false]
 have e1:gX v (fun y3=>k (wm y3))=Cp bT aj ad ai dL bI v (fun y3=>k (wm y3)):=rfl
 rw[e1]
 obtain ⟨TY,Yv,hil,htx,hnl⟩:=xb.1 hl
 have L9:∀(z:ag) (e:ag→List Int→Option R) (F:Nat) (s':ag),(v.kind=7→v.names.length=v.items.length∧∀t∈v.names,fE t=true∧t.length≤10000000000)→eQ v.items (1+1)=true→v.items.length<F→(s'++FD v 0).length≤100000000000 →
   aT cp F z v.items (v.items.length:Int) 0 (zs s') v e=e z (zs (s'++FD v 0)):=fun z e F s' h7 hi hF ph =>
  aar cp z v Yv h7 (fun x hx s k hb=>write_N (x.depth+2) x (1+1) (TM hi hx) (Vt hil hx) (by omega) s k hb) e F 0 s' (by omega) (by omega) ph
 cases fx.1 hr with
 | name kd _ hd hk =>
  rcases hk with rfl|rfl|rfl
  ·show ai rS (fun y3 y4=>k (wm y4))=k rS
   rw[wsn rS (by decide),tR]
  ·show ai lv (fun y3 y4=>k (wm y4))=k lv
   rw[wsn lv (by decide),tR]
  ·show ai xa (fun y3 y4=>k (wm y4))=k xa
   rw[wsn xa (by decide),tR]
 | num nm _ hd hnm =>
  have VA:(AL nm).length≤100000000000:=hb
  show bT ⟨nm.ao,nm.exp⟩ (fun y9=>ai y9 (fun od ug=>k (wm ug)))=k (AL nm)
  rw[print_any]
  show ai (AL nm) (fun od ug=>k (wm ug))=k (AL nm)
  rw[wsn _ VA,tR]
 | text t _ hd ht =>
  have VA:(NY t).length≤100000000000:=hb
  show eG t (fun y2 y3=>ai y2 (fun y4 y5=>k (wm y5)))=k (NY t)
  obtain ⟨rs,hrs,hc,rfl,_,hq⟩|⟨h,_⟩:=quote_any (R:=R) t htx
  ·rw[hq,Yw hrs]
   rw[Yw hrs]at VA
   show ai (qt rs) (fun y4 y5=>k (wm y5))=k (qt rs)
   rw[wsn _ VA,tR]
  ·rw[ht]at h; cases h
 | arr is _ hd hi =>
   have VA:(91::(k7 is true ++ [93]):ag).length≤100000000000:=hb
   simp only[List.length_append,List.length_cons,List.length_nil]at VA
   show bI _ [91,93] is (is.length:Int) 0 (zs ([] ++ [91])) ⟨6,⟨0,0⟩, [], [],is⟩ (fun W4 OO=>cw (decide ((1:Int)<(W4.length:Int))) (ad ((W4.getD 1 0).toNat:Int) OO (fun XL=>k (wm XL))))=k (91::(k7 is true ++ [93]))
   simp only at L9
   have hz:FD ⟨6,⟨0,0⟩, [], [],is⟩ 0=k7 is true:=rfl
   rw[hz]at L9
   rw[aas,L9 _ _ _ _ (fun h=>by cases h) hi]
   rotate_left
   ·simp only[List.length_cons,List.length_nil]; omega
   ·simp only[List.length_append,List.length_cons,List.length_nil]; omega
   show ad ((93:UInt8).toNat:Int) (zs (([] ++ [91])++k7 is true)) (fun HY=>k (wm HY))=_
   rw[wb _ _ (by unfold Vl; simp only[List.length_append,List.length_cons,List.length_nil]; omega),tR]
   simp only[List.append_assoc,List.cons_append,List.nil_append]
 | obj ns is _ hd hlen hu hi =>
   have VA:(123::(iu ns is true ++ [125]):ag).length≤100000000000:=hb
   simp only[List.length_append,List.length_cons,List.length_nil]at VA
   show bI _ [123,125] is (is.length:Int) 0 (zs ([] ++ [123])) ⟨7,⟨0,0⟩, [],ns,is⟩ (fun W4 OO=>cw (decide ((1:Int)<(W4.length:Int))) (ad ((W4.getD 1 0).toNat:Int) OO (fun XL=>k (wm XL))))=k (123::(iu ns is true ++ [125]))
   simp only at L9
   have hz:FD ⟨7,⟨0,0⟩, [],ns,is⟩ 0=iu ns is true:=rfl
   rw[hz]at L9
   rw[aas,L9 _ _ _ _ (fun _=>⟨hlen,fun t ht=>⟨N1 ns [] hu t ht,hnl t ht⟩⟩) hi]
   rotate_left
   ·simp only[List.length_cons,List.length_nil]; omega
   ·simp only[List.length_append,List.length_cons,List.length_nil]; omega
   show ad ((125:UInt8).toNat:Int) (zs (([] ++ [123])++iu ns is true)) (fun HY=>k (wm HY))=_
   rw[wb _ _ (by unfold Vl; simp only[List.length_append,List.length_cons,List.length_nil]; omega),tR]
   simp only[List.append_assoc,List.cons_append,List.nil_append]
end Go.Proofs.YtidfokedcnhahaaGreatDoor
namespace Go.aq
open Go.RowKit Go.Proofs.YtidfokedcnhahaaGreatDoor Go.ChangeShapes Go.WideShapes
mutual
inductive Wt:Nat→V→Prop where
 | int {n:Nat} {k:IntKind} {z:Int} (h1:1≤n) (h:k.has z):Wt n (.int k z)
 | bool {n:Nat} (h1:1≤n) (b:Bool):Wt n (.bool b)
 | str {n:Nat} {s:ag} (h:s.length+1≤n):Wt n (.str s)
 | sl {n m:Nat} {T:Ty} {l:List T.den} (h:m+1≤n) (he:aau m (l.map T.cells)):Wt n (.sl T l .no)
inductive WtL:Nat→List V→Prop where
 | nil:WtL 0 []
 | cons {a b:Nat} {v:V} {vs:List V} (h:Wt a v) (t:WtL b vs):WtL (a+b) (v::vs)
inductive aau:Nat→List (List V)→Prop where
 | nil:aau 0 []
 | cons {a b:Nat} {v:List V} {vs:List (List V)} (h:WtL a v) (t:aau b vs):aau (a+b) (v::vs)
end
section
variable {H:Type} {enc:TypeId×Value→H} {P:Program} {tt:dd} {w:World} {spare:Nat→Bool} {held:Bool}
def ReadsW (w:World) (N:Nat) (ls:List fj) (cs:List Value):Prop:=∃vs n,Jr ls vs∧cC w [] RR vs cs∧WtL n vs∧n≤N
theorem ReadsW.nil {N:Nat}:ReadsW w N [] []:=⟨[],0, .nil, .nil, .nil,Nat.zero_le _⟩
end
end Go.aq
set_option maxRecDepth 100000
namespace Go.Proofs.YtidfokedcnhahaaGreatDoor
open Go Go.aq Go.Lib
mutual
def Raw.tot:Raw→Nat
 | ⟨_,_,_,_,is⟩=>Raw.totL is+1
def Raw.totL:List Raw→Nat
 | []=>0
 | x::l=>Raw.tot x+Raw.totL l
end
mutual
def Raw.ok:Raw→Prop
 | ⟨k,m,e,t,is⟩=>(yx k∧yx m∧yx e∧∀c∈t,yx c)∧(t.length≤1048576∧is.length≤1048576)∧Raw.okL is
def Raw.okL:List Raw→Prop
 | []=>True
 | x::l=>Raw.ok x∧Raw.okL l
end
theorem aav {T:Ty}:∀(l:List T.den) (m:Nat),aau m (l.map T.cells)→(∀(x:T.den) n,WtL n (T.cells x)→1≤n)→l.length≤m
 | [],_,_,_=>Nat.zero_le _
 | x::l,_, .cons h t,hh=>by
  have h1:=hh x _ h
  have h2:=aav l _ t hh
  simp only[List.length_cons]
  omega
theorem wt_pos {n:Nat} {v:V} (h:Wt n v):1≤n:=by
 cases h <;> omega
theorem wt_ints:∀(l:List (Ty.den (.int .i64))) (m:Nat),aau m (l.map (Ty.cells (.int .i64)))→∀c∈(l:List Int),yx c
 | [],_,_,c,hc=>by cases hc
 | x::l,_, .cons h t,c,hc=>by
  rcases List.mem_cons.1 hc with rfl|hc
  ·have h':WtL _ [V.int .i64 c]:=h
   cases h' with
   | cons a b=>cases a with|int _ hk=>exact nV.1 hk
  ·exact wt_ints l _ t c hc
mutual
theorem wt_raw:∀(x:Raw) (n:Nat),n≤1048576→WtL n (Ty.cells .raw x)→Raw.tot x≤n∧Raw.ok x
 | ⟨k,m,e,t,is⟩,n,hn,h=>by
  have hL:=wt_rawL is
  have h':WtL n [.int .i64 k, .int .i64 m, .int .i64 e, .sl (.int .i64) t .no, .sl .raw is .no]:=h
  cases h' with
  | cons a1 h'=>cases h' with
   | cons a2 h'=>cases h' with
    | cons a3 h'=>cases h' with
     | cons a4 h'=>cases h' with
      | cons a5 h' =>
       cases h'
       cases a1 with|int p1 k1 =>
       cases a2 with|int p2 k2 =>
       cases a3 with|int p3 k3 =>
       cases a4 with|sl p4 w4 =>
       cases a5 with|sl p5 w5 =>
       have hl4:=aav (T := .int .i64) t _ w4 (fun x n h=>by
        have h':WtL n [V.int .i64 x]:=h
        cases h' with|cons a b=>have:=wt_pos a; omega)
       have hl5:=aav (T := .raw) is _ w5 (fun x n h=>by
        have h':WtL n (.int .i64 x.kind::_):=h
        cases h' with|cons a b=>have:=wt_pos a; omega)
       obtain ⟨g1,g2⟩:=hL _ (by omega) w5
       refine ⟨by simp only[Raw.tot]; omega,⟨nV.1 k1,nV.1 k2,nV.1 k3,wt_ints t _ w4⟩,⟨Nat.le_trans hl4 (by omega),Nat.le_trans hl5 (by omega)⟩,g2⟩
theorem wt_rawL:∀(l:List Raw) (n:Nat),n≤1048576→aau n (l.map (Ty.cells .raw))→Raw.totL l≤n∧Raw.okL l
 | [],_,_,_=>⟨Nat.zero_le _,trivial⟩
 | x::l,_,hn, .cons h t=>by
  obtain ⟨a1,a2⟩:=wt_raw x _ (by omega) h
  obtain ⟨b1,b2⟩:=wt_rawL l _ (by omega) t
  exact ⟨by simp only[Raw.totL]; omega,a2,b2⟩
end
theorem uniq_end:∀(ns seen:List ag) (n:ag),tu seen (ns ++ [n])=(tu seen ns&&((!(seen.contains n||ns.contains n))&&fE n))
 | [],seen,n=>by simp[tu]
 | m::ns,seen,n=>by
  simp only[List.cons_append,tu,uniq_end ns (m::seen) n,List.contains_cons]
  cases seen.contains m <;> cases fE m <;> cases tu (m::seen) ns <;> cases n==m <;> cases seen.contains n <;> rfl
theorem RB (t:ag):(NY t).length≤6*t.length+2:=by
 unfold NY
 have:∀l:ag,(l.flatMap qb).length≤6*l.length:=by
  intro l
  induction l with
  | nil=>simp
  | cons b l ih =>
   have:=qb_len b
   simp only[List.flatMap_cons,List.length_append,List.length_cons]
   omega
 have:=this t
 simp only[List.length_cons,List.length_append,List.length_nil]
 omega
structure FitV (R:Type) (v:Json) (d:Int) (n:Nat):Prop where
 right:dZ v d=true
 len:O6 v=true
 size:(cE v).length+5000≤10000*n
theorem aaw:∀(l:List Json) (x:Json) (b:Bool),(k7 (l ++ [x]) b).length≤(k7 l b).length+1+(cE x).length
 | [],x,b=>by cases b <;> simp[k7] <;> omega
 | y::l,x,b=>by
  have:=aaw l x false
  simp only[List.cons_append,k7,List.length_append]
  omega
theorem aax:∀(ns:List ag) (l:List Json) (n:ag) (x:Json) (b:Bool),ns.length=l.length→(iu (ns ++ [n]) (l ++ [x]) b).length≤(iu ns l b).length+2+(NY n).length+(cE x).length
 | [], [],n,x,b,_=>by cases b <;> simp[iu] <;> omega
 | m::ns,y::l,n,x,b,h=>by
  have:=aax ns l n x false (by simpa using h)
  simp only[List.cons_append,iu,List.headD_cons,List.tail_cons,List.length_append,List.length_cons]
  omega
 | [],_::_,_,_,_,h=>by cases h
 | _::_, [],_,_,_,h=>by cases h
theorem TP:∀(l:List Json) (x:Json) (d:Int),eQ (l ++ [x]) d=(eQ l d&&dZ x d)
 | [],x,d=>by simp[eQ]
 | y::l,x,d=>by simp only[List.cons_append,eQ,TP l x d,Bool.and_assoc]
structure Held (q:Int) (d:Int) (ns:List ag) (is:List Json) (n:Nat):Prop where
 right:eQ is (d+1)=true
 len:Vs is=true
 count:is.length≤12
 names:(q=7∧ns.length=is.length∧tu [] ns=true∧(∀t∈ns,t.length≤1000)∧(iu ns is true).length≤10000*n)∨(q=6∧ns = []∧(k7 is true).length≤10000*n)
theorem prtA_len {d:fT} (h:Fm d):(AL d).length≤60:=by
 have e:AL d=X2 d:=by unfold AL; rw[JV.2 h]; rfl
 rw[e]
 exact (prt_chars h).2.2
structure Lone (x:qz):Prop where
 head:∃c u,x.2.1=c::u∧th c=false
 met:∀r,SO r→tokS (x.2.1++r)=some (x.2.2,r)
 quo:x.2.2.kind=2→fE x.2.2.text=true∧x.2.1=NY x.2.2.text
 own:x.2.2.kind≠2→x.2.2.text=x.2.1
theorem RC {x:qz} (h:∀r,SO r→okW [x] r) (h2:x.2.2.kind=2→fE x.2.2.text=true∧x.2.1=NY x.2.2.text) (h3:x.2.2.kind≠2→x.2.2.text=x.2.1):Lone x:=by
 obtain ⟨_,g2,_⟩:=h [] (.inl rfl)
 exact ⟨g2,fun r hr=>(h r hr).2.2.1,h2,h3⟩
theorem N2 {c:UInt8} (hc:TL c=true):Lone (sg c):=RC (fun r _=>FC hc r) (fun h=>by cases h) (fun _=>rfl)
theorem lone_tx {t:ag} (ht:fE t=true):Lone (txW t):=RC (fun r _=>aam ht r) (fun _=>⟨ht,rfl⟩) (fun h=>(h rfl).elim)
mutual
theorem loneJ:∀(v:Json) (d:Int),dZ v d=true→∀x∈tT v,Lone x
 | ⟨k,n,t,ns,is⟩,d,h,x,hx=>by
  have hL:=loneL is
  have hO:=loneO ns is
  cases fx.1 h with
  | name _ _ hd hk =>
   rcases hk with rfl|rfl|rfl
   ·obtain rfl:=List.mem_singleton.1 hx
    exact RC (fun r hr=>FB (Hz (.inr (.inr rfl))) hr) (fun h=>by cases h) (fun _=>rfl)
   ·obtain rfl:=List.mem_singleton.1 hx
    exact RC (fun r hr=>FB (Hz (.inr (.inl rfl))) hr) (fun h=>by cases h) (fun _=>rfl)
   ·obtain rfl:=List.mem_singleton.1 hx
    exact RC (fun r hr=>FB (Hz (.inl rfl)) hr) (fun h=>by cases h) (fun _=>rfl)
  | num _ _ hd hn =>
   have e:AL n=X2 n:=by unfold AL; rw[JV.2 hn]; rfl
   have hx':x∈([([],AL n,⟨3,AL n,n,0⟩)]:List qz):=hx
   obtain rfl:=List.mem_singleton.1 hx'
   refine RC (fun r hr => ?_) (fun h=>by cases h) (fun _=>rfl)
   rw[e]
   exact FB (word_num hn) hr
  | text _ _ hd ht =>
   have hx':x∈([txW t]:List qz):=hx
   obtain rfl:=List.mem_singleton.1 hx'
   exact lone_tx ht
  | arr _ _ hd hi =>
   have hx':x∈([sg 91]++(rA is true ++ [sg 93]):List qz):=hx
   rw[List.mem_append,List.mem_append,List.mem_singleton,List.mem_singleton]at hx'
   rcases hx' with rfl|hx|rfl
   ·exact N2 (by decide)
   ·exact hL true (d+1) hi x hx
   ·exact N2 (by decide)
  | obj _ _ _ hd hl hu hi =>
   have hx':x∈([sg 123]++(np ns is true ++ [sg 125]):List qz):=hx
   rw[List.mem_append,List.mem_append,List.mem_singleton,List.mem_singleton]at hx'
   rcases hx' with rfl|hx|rfl
   ·exact N2 (by decide)
   ·exact hO true (d+1) hi hl (fun t ht=>N1 ns [] hu t ht) x hx
   ·exact N2 (by decide)
theorem loneL:∀(l:List Json) (first:Bool) (d:Int),eQ l d=true→∀x∈rA l first,Lone x
 | [],_,_,_,x,hx=>by simp[rA]at hx
 | y::l,first,d,h,x,hx=>by
  simp only[eQ,Bool.and_eq_true]at h
  have h1:=loneJ y d h.1
  have h2:=loneL l false d h.2
  simp only[rA,List.mem_append]at hx
  rcases hx with hx|hx|hx
  ·cases first
   ·simp at hx; rw[hx]; exact N2 (by decide)
   ·simp at hx
  ·exact h1 x hx
  ·exact h2 x hx
theorem loneO:∀(ns:List ag) (l:List Json) (first:Bool) (d:Int),eQ l d=true→ns.length=l.length→(∀t∈ns,fE t=true)→∀x∈np ns l first,Lone x
 | _, [],_,_,_,_,_,x,hx=>by simp[np]at hx
 | [],y::l,_,_,_,hl,_,_,_=>by cases hl
 | n::ns,y::l,first,d,h,hl,hv,x,hx=>by
  simp only[eQ,Bool.and_eq_true]at h
  have h1:=loneJ y d h.1
  have h2:=loneO ns l false d h.2 (by simpa using hl) (fun t ht=>hv t (by simp[ht]))
  simp only[np,List.headD_cons,List.tail_cons,List.mem_append,List.mem_cons]at hx
  rcases hx with hx|rfl|rfl|hx|hx
  ·cases first
   ·simp at hx; rw[hx]; exact N2 (by decide)
   ·simp at hx
  ·exact lone_tx (hv n (by simp))
  ·exact N2 (by decide)
  ·exact h1 x hx
  ·exact h2 x hx
end
theorem qb_pos (b:UInt8):1≤(qb b).length:=by unfold qb; (repeat' split) <;> simp
theorem qtS_ge (t:ag):t.length≤(NY t).length:=by
 have:∀l:ag,l.length≤(l.flatMap qb).length:=by
  intro l
  induction l with
  | nil=>simp
  | cons b l ih =>
   have:=qb_pos b
   simp only[List.flatMap_cons,List.length_append,List.length_cons]
   omega
 have:=this t
 unfold NY
 simp only[List.length_cons,List.length_append]
 omega
def FE (t:Token):Prop:=(t.kind=3→Fm t.num)∧(t.kind=2→fE t.text=true)∧(t.kind=4→EB t.text=true)
theorem aay {x:ag} (h:EB x=true):∃k:Int,(k=1∨k=2∨k=3)∧mn .str (.int .i64) x aao=k:=by
 unfold EB at h
 rw[Bool.or_eq_true,Bool.or_eq_true,beq_iff_eq,beq_iff_eq,beq_iff_eq]at h
 rcases h with rfl|rfl|rfl
 ·exact ⟨1, .inl rfl,rfl⟩
 ·exact ⟨2, .inr (.inl rfl),rfl⟩
 ·exact ⟨3, .inr (.inr rfl),rfl⟩
theorem Ma {x:ag} {ts r:List Token} (h:∀t∈ts,FE t) (hs:kh x ts=some r):∀t∈r,FE t:=by
 cases ts with
 | nil=>cases hs
 | cons t ts =>
  simp only[kh]at hs
  split at hs
  ·cases hs; exact fun u hu=>h u (by simp[hu])
  ·cases hs
theorem nameS_ok {ns:List ag} {ts:List Token} {p:ag×List Token} (h:∀t∈ts,FE t) (hs:JW ns ts = .ok p):fE p.1=true∧ns.contains p.1=false∧∀t∈p.2,FE t:=by
 cases ts with
 | nil=>cases hs
 | cons t ts =>
  simp only[JW]at hs
  split at hs
  ·cases hs
  ·rename_i hk
   split at hs
   ·cases hs
   ·rename_i hc
    split at hs
    ·rename_i r hr
     cases hs
     exact ⟨(h t (by simp)).2.1 (by simpa using hk),by simpa using hc,Ma (fun u hu=>h u (by simp[hu])) hr⟩
    ·cases hs
def Sound (f:List Token→Except X4 (Json×List Token)) (d:Int):Prop:=∀ts p,(∀t∈ts,FE t)→f ts = .ok p→dZ p.1 d=true∧∀t∈p.2,FE t
def Inv (obj:Bool) (d:Int) (ns:List ag) (is:List Json):Prop:=eQ is d=true∧(obj=true→ns.length=is.length∧tu [] ns=true)∧(obj=false→ns = [])
theorem partS_ok {f:List Token→Except X4 (Json×List Token)} {d:Int} (hf:Sound f d) {obj:Bool} {ns:List ag} {is:List Json} {ts:List Token} {p:(List ag×List Json)×List Token} (h:∀t∈ts,FE t) (hi:Inv obj d ns is) (hs:xU f obj ns is ts = .ok p) :
  Inv obj d p.1.1 p.1.2∧∀t∈p.2,FE t:=by
 obtain ⟨i1,i2,i3⟩:=hi
 cases obj with
 | true =>
  simp only[xU]at hs
  split at hs
  ·cases hs
  ·rename_i nm ts1 hn
   obtain ⟨g1,g2,g3⟩:=nameS_ok h hn
   split at hs
   ·cases hs
   ·rename_i v TN hv
    obtain ⟨k1,k2⟩:=hf _ _ g3 hv
    cases hs
    obtain ⟨j1,j2⟩:=i2 rfl
    refine ⟨⟨by rw[TP,i1,k1]; rfl,fun _=>⟨by simp[j1],?_⟩,fun h=>by cases h⟩,k2⟩
    simp only at g1 g2
    rw[uniq_end,j2,g2,g1]
    rfl
 | false =>
  simp only[xU]at hs
  split at hs
  ·cases hs
  ·rename_i v TN hv
   obtain ⟨k1,k2⟩:=hf _ _ h hv
   cases hs
   exact ⟨⟨by rw[TP,i1,k1]; rfl,(fun h=>by cases h),i3⟩,k2⟩
theorem aaz {f:List Token→Except X4 (Json×List Token)} {d:Int} (hf:Sound f d) {cl:ag} {obj:Bool}:∀(m:Nat) (ns:List ag) (is:List Json) (ts:List Token) (p:(List ag×List Json)×List Token),
  (∀t∈ts,FE t)→Inv obj d ns is→zY f cl obj m ns is ts = .ok p→Inv obj d p.1.1 p.1.2∧∀t∈p.2,FE t
 | 0,_,_,_,_,_,_,h=>by cases h
 | m+1,ns,is,ts,p,h,hi,hs=>by
  simp only[zY]at hs
  split at hs
  ·cases hs
  ·rename_i q TN hq
   obtain ⟨g1,g2⟩:=partS_ok hf h hi hq
   split at hs
   ·rename_i r hr
    cases hs
    exact ⟨g1,Ma g2 hr⟩
   ·split at hs
    ·rename_i r hr
     exact aaz hf m _ _ _ _ (Ma g2 hr) g1 hs
    ·cases hs
theorem Vu:∀(n:Nat) (d:Int),Sound (yZ n d) d
 | 0,_,_,_,_,h=>by cases h
 | _+1,_, [],_,_,h=>by cases h
 | n+1,d,t::r,p,ht,h=>by
  have h0:=ht t (by simp)
  have hr0:∀u∈r,FE u:=fun u hu=>ht u (by simp[hu])
  simp only[yZ]at h
  split at h
  ·cases h
  rename_i hst
  split at h
  ·cases h
  rename_i hd
  have hd16:d≤16:=by omega
  split at h
  ·cases IZ:t.text==([123]:ag)with
   | true =>
    rw[IZ]at h
    simp only[if_true]at h
    split at h
    ·rename_i r' hr
     cases h
     exact ⟨fx.2 (.obj [] [] d hd16 rfl rfl rfl),Ma hr0 hr⟩
    ·split at h
     ·cases h
     ·rename_i q r' hq
      cases h
      obtain ⟨⟨g1,g2,_⟩,g4⟩:=aaz (Vu n (d+1)) _ _ _ _ _ hr0 ⟨rfl,fun _=>⟨rfl,rfl⟩,fun _=>rfl⟩ hq
      obtain ⟨g5,g6⟩:=g2 rfl
      exact ⟨fx.2 (.obj _ _ d hd16 g5 g6 g1),g4⟩
   | false =>
    rw[IZ]at h
    simp only[Bool.false_eq_true,if_false]at h
    split at h
    ·rename_i r' hr
     cases h
     exact ⟨fx.2 (.arr [] d hd16 rfl),Ma hr0 hr⟩
    ·split at h
     ·cases h
     ·rename_i q r' hq
      cases h
      obtain ⟨⟨g1,_,g3⟩,g4⟩:=aaz (Vu n (d+1)) _ _ _ _ _ hr0 ⟨rfl,(fun h=>by cases h),fun _=>rfl⟩ hq
      have:=g3 rfl
      simp only at this ⊢
      rw[this]
      exact ⟨fx.2 (.arr _ d hd16 g1),g4⟩
  rename_i hop
  split at h
  ·rename_i hnm
   cases h
   obtain ⟨k,hk,e⟩:=aay hnm.2
   simp only[e]
   exact ⟨fx.2 (.name k d hd16 hk),hr0⟩
  rename_i hnm
  split at h
  ·rename_i hk3
   cases h
   exact ⟨fx.2 (.num _ d hd16 (h0.1 hk3)),hr0⟩
  ·rename_i hk3
   cases h
   have Rj:t.kind=2:=by
    have hst':tU t=true:=by simpa using hst
    simp only[tU,Bool.or_eq_true,Bool.and_eq_true,beq_iff_eq]at hst'
    rcases hst' with h|h|h|⟨h,h'⟩
    ·exact h
    ·exact (hk3 h).elim
    ·exact (hnm ⟨h,h0.2.2 h⟩).elim
    ·exact (hop ⟨h,h'⟩).elim
   exact ⟨fx.2 (.text _ d hd16 (h0.2.1 Rj)),hr0⟩
theorem finD_fm (neg:Bool) (all:ag) (x:Int) (h:∀c∈all,nI c) (ok:(finD neg all x).2=true):Fm (finD neg all x).1:=by
 unfold finD at ok ⊢
 by_cases h0:cM (bx all [48]) [48] = []
 ·rw[if_pos h0]
  exact Fm.mk0
 rw[if_neg h0]at ok ⊢
 obtain ⟨f1,f2,f3⟩:=Xm all h h0
 have hm:Int.tmod (uK (cM (bx all [48]) [48]) 0:Int) 10≠0:=by rw[Int.tmod_eq_emod_of_nonneg (by omega)]; omega
 cases neg with
 | true =>
  rw[if_pos rfl]at ok ⊢
  obtain ⟨e,g⟩:=mkD_fm (tmod_neg hm) ok
  rw[e]
  exact g
 | false =>
  rw[if_neg (by simp)]at ok ⊢
  obtain ⟨e,g⟩:=mkD_fm hm ok
  rw[e]
  exact g
theorem tailD_fm (neg:Bool) (all:ag) (x:Int) (X:ag) (h:∀c∈all,nI c) (ok:(tailD neg all x X).2=true):Fm (tailD neg all x X).1:=by
 unfold tailD at ok ⊢
 split
 ·rename_i h1
  rw[if_pos h1]at ok
  split
  ·rename_i h2
   rw[if_pos h2]at ok
   exact finD_fm _ _ _ h ok
  ·exact Fm.mk0
 ·rename_i h1
  rw[if_neg h1]at ok
  split
  ·exact Fm.mk0
  ·rename_i h2
   rw[if_neg h2]at ok
   split
   ·rename_i h3
    rw[if_pos h3]at ok
    exact finD_fm _ _ _ h ok
   ·exact Fm.mk0
theorem parseS_fm (s:ag) (ok:(CR s).2=true):Fm (CR s).1:=by
 unfold CR at ok ⊢
 simp only at ok ⊢
 split
 ·exact Fm.mk0
 rename_i h1
 rw[if_neg h1]at ok
 split
 ·exact Fm.mk0
 rename_i h2
 rw[if_neg h2]at ok
 split
 ·exact Fm.mk0
 rename_i h3
 rw[if_neg h3]at ok
 split
 ·rename_i h4
  rw[if_pos h4]at ok
  exact tailD_fm _ _ _ _ (Im _) ok
 ·rename_i h4
  rw[if_neg h4]at ok
  split
  ·exact Fm.mk0
  ·rename_i h5
   rw[if_neg h5]at ok
   exact tailD_fm _ _ _ _ (fun c hc=>(List.mem_append.1 hc).elim (Im _ c) (Im _ c)) ok
theorem uq_len:∀(n:Nat) (s o o' r:ag),uq n s o=some (o',r)→o'.length+4*r.length≤o.length+4*s.length
 | 0,_,_,_,_,h=>by cases h
 | n+1,s,o,o',r,h=>by
  simp only[uq]at h
  split at h
  ·simp only[Option.some.injEq,Prod.mk.injEq]at h
   obtain ⟨rfl,rfl⟩:=h
   rw[List.length_drop]
   omega
  ·split at h
   ·cases h
   ·rename_i c r1 hs
    have h1:=uq_len n r1 (o++enc c) o' r h
    obtain ⟨hv,hl⟩:=aac hs
    have h2:=(JI hv).2
    simp only[List.length_append]at h1
    omega
theorem tokS_ok {s r:ag} {t:Token} (h:tokS s=some (t,r)):FE t∧t.text.length≤4*s.length:=by
 cases s with
 | nil=>cases h
 | cons c u =>
  simp only[tokS]at h
  split at h
  ·split at h
   ·rename_i hp
    simp only[Option.some.injEq,Prod.mk.injEq]at h
    rw[←h.1]
    refine ⟨⟨fun _=>parseS_fm _ hp,(fun h=>by cases h),(fun h=>by cases h)⟩,?_⟩
    have:=(List.takeWhile_prefix (l:=c::u) Fz).length_le
    simp only
    omega
   ·cases h
  ·split at h
   ·split at h
    ·rename_i o q hq
     simp only[Option.some.injEq,Prod.mk.injEq]at h
     rw[←h.1]
     obtain ⟨_,_,rs,h3,h4⟩:=uqS_sfx hq
     refine ⟨⟨(fun h=>by cases h),fun _=>Hx.2 ⟨rs,h3,h4⟩,(fun h=>by cases h)⟩,?_⟩
     unfold uqS at hq
     split at hq
     ·have:=uq_len _ _ _ _ _ hq
      rw[List.length_drop]at this
      simp only[List.length_nil,List.length_cons]at this ⊢
      omega
     ·cases hq
    ·cases h
   ·split at h
    ·simp only[Option.some.injEq,Prod.mk.injEq]at h
     rw[←h.1]
     exact ⟨⟨(fun h=>by cases h),(fun h=>by cases h),(fun h=>by cases h)⟩,by simp; omega⟩
    ·split at h
     ·rename_i hw
      simp only[Option.some.injEq,Prod.mk.injEq]at h
      rw[←h.1]
      refine ⟨⟨(fun h=>by cases h),(fun h=>by cases h),fun _ => ?_⟩,?_⟩
      ·rcases hw with hw|hw|hw <;> simp only[hw] <;> rfl
      ·have:=(List.takeWhile_prefix (l:=c::u) EA).length_le
       simp only
       omega
     ·cases h
def fineT (t:Token):Prop:=FE t∧t.text.length≤80000
theorem aaA:∀(n p:Nat) (s:ag) (out:List Token),s.length≤20000→(∀t∈out,fineT t)→∀t∈(xT n p s out).1,fineT t
 | 0,_,_,_,_,_=>by intro t ht; cases ht
 | n+1,p,s,out,hs,ho=>by
  simp only[xT]
  split
  ·intro t ht
   rcases List.mem_append.1 ht with ht|ht
   ·exact ho t ht
   ·obtain rfl:=List.mem_singleton.1 ht
    exact ⟨⟨(fun h=>by cases h),(fun h=>by cases h),(fun h=>by cases h)⟩,by simp⟩
  ·have hd:=BJ th s
   split
   ·intro t ht; cases ht
   ·rename_i t r hr
    have h3:=(tokS_sfx hr).2
    obtain ⟨g1,g2⟩:=tokS_ok hr
    refine aaA n _ r _ (by omega) fun x hx => ?_
    rcases List.mem_append.1 hx with hx|hx
    ·exact ho x hx
    ·obtain rfl:=List.mem_singleton.1 hx
     exact ⟨g1,by show t.text.length≤80000; omega⟩
theorem scanS_fine (s:ag):∀t∈(rT s).1,fineT t:=by
 unfold rT
 split
 ·intro t ht; cases ht
 ·exact aaA _ _ _ _ (by omega) (by intro t ht; cases ht)
def tokN (t:Token):Nat:=6*t.text.length+70
def tokL:List Token→Nat
 | []=>0
 | t::l=>tokN t+tokL l
theorem tokL_le:∀(l:List Token),(∀t∈l,fineT t)→tokL l≤l.length*480070
 | [],_=>Nat.le_refl _
 | t::l,h=>by
  have h1:=tokL_le l fun x hx=>h x (by simp[hx])
  have h2:=(h t (by simp)).2
  simp only[tokL,tokN,List.length_cons]
  omega
theorem Ip {x:ag} {ts r:List Token} (hs:kh x ts=some r):tokL r+70≤tokL ts:=by
 cases ts with
 | nil=>cases hs
 | cons t ts =>
  simp only[kh]at hs
  split at hs
  ·cases hs; simp only[tokL,tokN]; omega
  ·cases hs
theorem nameS_size {ns:List ag} {ts:List Token} {p:ag×List Token} (hs:JW ns ts = .ok p):(NY p.1).length+tokL p.2+130≤tokL ts:=by
 cases ts with
 | nil=>cases hs
 | cons t ts =>
  simp only[JW]at hs
  split at hs
  ·cases hs
  ·split at hs
   ·cases hs
   ·split at hs
    ·rename_i r hr
     cases hs
     have h1:=Ip hr
     have h2:=RB t.text
     simp only[tokL,tokN]
     omega
    ·cases hs
def Sized (f:List Token→Except X4 (Json×List Token)):Prop:=∀ts p,(∀t∈ts,FE t)→f ts = .ok p→(cE p.1).length+tokL p.2≤tokL ts
def Xo (obj:Bool) (ns:List ag) (is:List Json):Nat:=if obj then (iu ns is true).length else (k7 is true).length
theorem partS_size {f:List Token→Except X4 (Json×List Token)} {d:Int} (hs0:Sound f d) (hf:Sized f) {obj:Bool} {ns:List ag} {is:List Json} {ts:List Token} {p:(List ag×List Json)×List Token} (h:∀t∈ts,FE t) (hi:Inv obj d ns is) (hs:xU f obj ns is ts = .ok p) :
  Xo obj p.1.1 p.1.2+tokL p.2≤Xo obj ns is+1+tokL ts:=by
 obtain ⟨i1,i2,i3⟩:=hi
 cases obj with
 | true =>
  simp only[xU]at hs
  split at hs
  ·cases hs
  ·rename_i nm ts1 hn
   obtain ⟨_,_,g3⟩:=nameS_ok h hn
   have g4:=nameS_size hn
   split at hs
   ·cases hs
   ·rename_i v TN hv
    have k1:=hf _ _ g3 hv
    cases hs
    have:=aax ns is nm v true (i2 rfl).1
    simp only[Xo,if_true]at g4 k1 ⊢
    omega
 | false =>
  simp only[xU]at hs
  split at hs
  ·cases hs
  ·rename_i v TN hv
   have k1:=hf _ _ h hv
   cases hs
   have:=aaw is v true
   simp only[Xo,Bool.false_eq_true,if_false]at k1 ⊢
   omega
theorem TQ {f:List Token→Except X4 (Json×List Token)} {d:Int} (hs0:Sound f d) (hf:Sized f) {cl:ag} {obj:Bool}:∀(m:Nat) (ns:List ag) (is:List Json) (ts:List Token) (p:(List ag×List Json)×List Token),
  (∀t∈ts,FE t)→Inv obj d ns is→zY f cl obj m ns is ts = .ok p→Xo obj p.1.1 p.1.2+tokL p.2+60≤Xo obj ns is+1+tokL ts
 | 0,_,_,_,_,_,_,h=>by cases h
 | m+1,ns,is,ts,p,h,hi,hs=>by
  simp only[zY]at hs
  split at hs
  ·cases hs
  ·rename_i q TN hq
   obtain ⟨g1,g2⟩:=partS_ok hs0 h hi hq
   have g3:=partS_size hs0 hf h hi hq
   split at hs
   ·rename_i r hr
    cases hs
    have g4:=Ip hr
    simp only at g3 g4 ⊢
    omega
   ·split at hs
    ·rename_i r hr
     have g4:=Ip hr
     have g5:=TQ hs0 hf m _ _ _ _ (Ma g2 hr) g1 hs
     simp only at g3 g4 g5 ⊢
     omega
    ·cases hs
theorem printJ_name {k:Int} (hk:k=1∨k=2∨k=3):(cE ⟨k,⟨0,0⟩, [], [], []⟩).length≤60:=by
 rcases hk with rfl|rfl|rfl <;> decide
theorem Wx:∀(n:Nat) (d:Int),Sized (yZ n d)
 | 0,_,_,_,_,h=>by cases h
 | _+1,_, [],_,_,h=>by cases h
 | n+1,d,t::r,p,ht,h=>by
  have h0:=ht t (by simp)
  have hr0:∀u∈r,FE u:=fun u hu=>ht u (by simp[hu])
  have et:tokL (t::r)=tokN t+tokL r:=rfl
  have en:tokN t=6*t.text.length+70:=rfl
  simp only[yZ]at h
  split at h
  ·cases h
  split at h
  ·cases h
  split at h
  ·cases IZ:t.text==([123]:ag)with
   | true =>
    rw[IZ]at h
    simp only[if_true]at h
    split at h
    ·rename_i r' hr
     cases h
     have:=Ip hr
     show 2+tokL r'≤_
     omega
    ·split at h
     ·cases h
     ·rename_i q r' hq
      cases h
      have g:=TQ (Vu n (d+1)) (Wx n (d+1)) _ _ _ _ _ hr0 ⟨rfl,fun _=>⟨rfl,rfl⟩,fun _=>rfl⟩ hq
      have e:cE ⟨7,⟨0,0⟩, [],q.1,q.2⟩=123::(iu q.1 q.2 true ++ [125]):=by simp only[cE]; rfl
      simp only[Xo,if_true,iu,List.length_nil]at g
      show (cE ⟨7,⟨0,0⟩, [],q.1,q.2⟩).length+tokL r'≤_
      rw[e]
      simp only[List.length_cons,List.length_append,List.length_nil]
      omega
   | false =>
    rw[IZ]at h
    simp only[Bool.false_eq_true,if_false]at h
    split at h
    ·rename_i r' hr
     cases h
     have:=Ip hr
     show 2+tokL r'≤_
     omega
    ·split at h
     ·cases h
     ·rename_i q r' hq
      cases h
      have g:=TQ (Vu n (d+1)) (Wx n (d+1)) _ _ _ _ _ hr0 ⟨rfl,(fun h=>by cases h),fun _=>rfl⟩ hq
      have e:cE ⟨6,⟨0,0⟩, [],q.1,q.2⟩=91::(k7 q.2 true ++ [93]):=by simp only[cE]; rfl
      simp only[Xo,Bool.false_eq_true,if_false,k7,List.length_nil]at g
      show (cE ⟨6,⟨0,0⟩, [],q.1,q.2⟩).length+tokL r'≤_
      rw[e]
      simp only[List.length_cons,List.length_append,List.length_nil]
      omega
  rename_i hop
  split at h
  ·rename_i hnm
   cases h
   obtain ⟨k,hk,e⟩:=aay hnm.2
   have:=printJ_name hk
   simp only[e]
   omega
  rename_i hnm
  split at h
  ·rename_i hk3
   cases h
   have:=prtA_len (h0.1 hk3)
   have e:cE ⟨4,t.num, [], [], []⟩=AL t.num:=by simp only[cE]; rfl
   simp only[e]
   omega
  ·cases h
   have:=RB t.text
   have e:cE ⟨5,⟨0,0⟩,t.text, [], []⟩=NY t.text:=by simp only[cE]; rfl
   simp only[e]
   omega
mutual
theorem HB:∀(v:Json) (d:Int),dZ v d=true→(cE v).length≤10000000000→O6 v=true∧1≤(cE v).length
 | ⟨k,n,t,ns,is⟩,d,h,hl=>by
  have hL:=aaB is true
  have hO:=aaC ns is true
  cases fx.1 h with
  | name _ _ hd hk=>rcases hk with rfl|rfl|rfl <;> exact ⟨rfl,by decide⟩
  | num _ _ hd hn =>
   refine ⟨rfl,?_⟩
   have:=print_ne ⟨4,n, [], [], []⟩ (by rw[fx]; exact .num n 1 (by omega) hn)
   cases hp:cE ⟨4,n, [], [], []⟩with
   | nil=>exact (this hp).elim
   | cons _ _=>simp
  | text _ _ hd ht =>
   have e:cE ⟨5,⟨0,0⟩,t, [], []⟩=NY t:=by simp only[cE]; rfl
   have:=qtS_ge t
   rw[e]at hl ⊢
   exact ⟨xb.2 ⟨by simp,by simp,rfl,by simp only; omega,by simp⟩,by simp[NY]⟩
  | arr _ _ hd hi =>
   have e:cE ⟨6,⟨0,0⟩, [], [],is⟩=91::(k7 is true ++ [93]):=by simp only[cE]; rfl
   rw[e]at hl ⊢
   simp only[List.length_cons,List.length_append,List.length_nil]at hl
   obtain ⟨g1,g2⟩:=hL (d+1) hi (by omega)
   exact ⟨xb.2 ⟨by simp,by simp only; omega,g1,by simp,by simp⟩,by simp⟩
  | obj _ _ _ hd hlen hu hi =>
   have e:cE ⟨7,⟨0,0⟩, [],ns,is⟩=123::(iu ns is true ++ [125]):=by simp only[cE]; rfl
   rw[e]at hl ⊢
   simp only[List.length_cons,List.length_append,List.length_nil]at hl
   obtain ⟨g1,g2,g3⟩:=hO (d+1) hi hlen (by omega)
   exact ⟨xb.2 ⟨by simp only; omega,by simp only; omega,g1,by simp,g3⟩,by simp⟩
theorem aaB:∀(l:List Json) (first:Bool) (d:Int),eQ l d=true→(k7 l first).length≤10000000000→Vs l=true∧l.length≤(k7 l first).length
 | [],_,_,_,_=>⟨rfl,by simp⟩
 | x::l,first,d,h,hl=>by
  simp only[eQ,Bool.and_eq_true]at h
  have h1:=HB x d h.1
  have h2:=aaB l false d h.2
  simp only[k7,List.length_append]at hl ⊢
  obtain ⟨a1,a2⟩:=h1 (by omega)
  obtain ⟨b1,b2⟩:=h2 (by omega)
  refine ⟨by simp only[Vs,a1,b1]; rfl,?_⟩
  simp only[List.length_cons]
  omega
theorem aaC:∀(ns:List ag) (l:List Json) (first:Bool) (d:Int),eQ l d=true→ns.length=l.length→(iu ns l first).length≤10000000000→Vs l=true∧l.length≤(iu ns l first).length∧∀n∈ns,n.length≤10000000000
 | ns, [],_,_,_,hlen,_=>by
  obtain rfl:ns = []:=List.eq_nil_of_length_eq_zero hlen
  exact ⟨rfl,by simp,by simp⟩
 | [],x::l,_,_,_,hlen,_=>by cases hlen
 | n::ns,x::l,first,d,h,hlen,hl=>by
  simp only[eQ,Bool.and_eq_true]at h
  have h1:=HB x d h.1
  have h2:=aaC ns l false d h.2 (by simpa using hlen)
  simp only[iu,List.length_append,List.headD_cons,List.tail_cons,List.length_cons]at hl ⊢
  obtain ⟨a1,a2⟩:=h1 (by omega)
  obtain ⟨b1,b2,b3⟩:=h2 (by omega)
  have h3:=qtS_ge n
  refine ⟨by simp only[Vs,a1,b1]; rfl,by omega,fun m hm => ?_⟩
  rcases List.mem_cons.1 hm with rfl|hm
  ·omega
  ·exact b3 m hm
end
theorem parseJ_ok (s:ag) (h:(pF s).2.1=0):dZ (pF s).1 1=true∧O6 (pF s).1=true∧(cE (pF s).1).length≤10000000000:=by
 unfold pF at h ⊢
 by_cases h0:(rT s).2.1=0
 rotate_left
 ·rw[if_pos h0]at h
  exact (h0 h).elim
 rw[if_neg (by simpa using h0)]at h ⊢
 have hf:=scanS_fine s
 have hlen:=scanS_len s
 cases hq:yZ 40 1 (rT s).1 with
 | error b =>
  rw[hq]at h
  simp only at h
  have hb:b.1≠0:=by
   have hv:=value_ok (R:=Unit) 20002 (by omega) 40 1 (by omega) (by omega) (by omega) (rT s).1 (scanS_end s h0) hlen
   rw[hq]at hv
   exact hv.1.2
  exact (hb h).elim
 | ok p =>
  rw[hq]at h
  obtain ⟨v,r⟩:=p
  simp only at h ⊢
  split
  ·rename_i hk
   rw[if_pos hk]at h
   cases h
  ·obtain ⟨g1,_⟩:=Vu 40 1 _ _ (fun t ht=>(hf t ht).1) hq
   have g2:=Wx 40 1 _ _ (fun t ht=>(hf t ht).1) hq
   have g3:=tokL_le _ hf
   simp only at g1 g2 ⊢
   have g4:(cE v).length≤10000000000:=by
    have:(rT s).1.length*480070≤20002*480070:=Nat.mul_le_mul_right _ hlen
    omega
   exact ⟨g1,(HB v 1 g1 g4).1,g4⟩
abbrev nil4:Json:=⟨0,⟨0,0⟩, [], [], []⟩
def RokV {R:Type} (j8:bh R) (d:Int) (T:List Token) (p:Nat) (q:Json×List Token):Prop :=
 Dj q.2∧∃p':Nat,T.drop p'=q.2∧∀k:Json→List Token→Int→Int→Option R,j8 d T (p:Int) 0 k=k q.1 T (p':Int) 0
def RbadV {R:Type} (j8:bh R) (d:Int) (T:List Token) (p:Nat) (b:X4):Prop :=
 (Dj b.2∧b.1≠0)∧∃(v:Json) (p':Nat),T.drop p'=b.2∧∀k:Json→List Token→Int→Int→Option R,j8 d T (p:Int) 0 k=k v T (p':Int) b.1
def HvalR {R:Type} (j8:bh R) (f:List Token→Except X4 (Json×List Token)) (d:Int) (T:List Token):Prop :=
 (∀(p c:Int),c≠0→∀k:Json→List Token→Int→Int→Option R,j8 d T p c k=k nil4 T p c) ∧
 ∀p:Nat,Dj (T.drop p)→Both (RokV j8 d T p) (RbadV j8 d T p) (f (T.drop p))
section
variable {R:Type} (j8:bh R) (f:List Token→Except X4 (Json×List Token)) (hfl:∀ts p,f ts = .ok p→p.2.length<ts.length) (d:Int) (hd:0≤d∧d≤16) (T:List Token) (hT:T.length≤100000000)
 (hv:HvalR j8 f (d+1) T) (c1 c2 c3:Int) (c4:ag) (c5 c6 c7:Int) (c8:ag)
include hfl hd hT hv
end
mutual
def i64J:Json→Prop
 | ⟨k,n,t,ns,is⟩=>yx n.ao∧yx n.exp∧i64L is
def i64L:List Json→Prop
 | []=>True
 | x::l=>i64J x∧i64L l
end
theorem wt_strs:∀(l:List (Ty.den .str)) (m:Nat),aau m (l.map (Ty.cells .str))→l.length≤m∧∀t∈(l:List ag),t.length≤m
 | [],_,_=>⟨Nat.zero_le _,fun t h=>by cases h⟩
 | x::l,_, .cons h t=>by
  obtain ⟨h1,h2⟩:=wt_strs l _ t
  have h':WtL _ [V.str x]:=h
  cases h' with
  | cons a b =>
   cases a with
   | str hx =>
    have hx':List.length (x:ag)+1≤_:=hx
    refine ⟨by simp only[List.length_cons]; omega,fun u hu => ?_⟩
    rcases List.mem_cons.1 hu with hu|hu
    ·have:List.length u=List.length (x:ag):=congrArg List.length hu
     omega
    ·have:=h2 u hu; omega
def sumS:List ag→Nat
 | []=>0
 | t::l=>t.length+1+sumS l
theorem wt_sum:∀(l:List (Ty.den .str)) (m:Nat),aau m (l.map (Ty.cells .str))→sumS l≤m
 | [],_,_=>Nat.zero_le _
 | x::l,_, .cons h t=>by
  have h1:=wt_sum l _ t
  have h':WtL _ [V.str x]:=h
  cases h' with
  | cons a b =>
   cases a with
   | str hx =>
    have hx':List.length (x:ag)+1≤_:=hx
    show List.length (x:ag)+1+sumS l≤_
    omega
theorem prtA_any (d:fT):(AL d).length≤60:=by
 cases h:fmB d with
 | true=>exact prtA_len (JV.1 h)
 | false=>unfold AL; rw[h]; simp
mutual
theorem wt_json:∀(v:Json) (n:Nat),n≤1048576→WtL n (Ty.cells .json v)→O6 v=true∧i64J v∧(cE v).length+50≤100*n
 | ⟨k,⟨m,e⟩,t,ns,is⟩,n,hn,h=>by
  have hL:=wt_jsonL is
  have hO:=wt_jsonO is ns
  have h':WtL n [.int .i64 k, .int .i64 m, .int .i64 e, .str t, .sl .str ns .no, .sl .json is .no]:=h
  cases h' with
  | cons a1 h'=>cases h' with
   | cons a2 h'=>cases h' with
    | cons a3 h'=>cases h' with
     | cons a4 h'=>cases h' with
      | cons a5 h'=>cases h' with
       | cons a6 h' =>
        cases h'
        cases a1 with|int p1 k1 =>
        cases a2 with|int p2 k2 =>
        cases a3 with|int p3 k3 =>
        cases a4 with|str p4 =>
        cases a5 with|sl p5 w5 =>
        cases a6 with|sl p6 w6 =>
        obtain ⟨s1,s2⟩:=wt_strs ns _ w5
        have s3:=wt_sum ns _ w5
        have s1':List.length (α:=ag) ns≤_:=s1
        have s2':∀t∈ns,List.length t≤_:=s2
        obtain ⟨l1,l2,l3,l4⟩:=hL _ (by omega) w6
        have l5:=hO true _ (by omega) w6
        have l4':=l4 true
        refine ⟨xb.2 ⟨by simp only; omega,by simp only; omega,l1,by simp only; omega,fun u hu=>by have:=s2' u hu; omega⟩,⟨nV.1 k2,nV.1 k3,l2⟩,?_⟩
        have hq:=RB t
        have hp:=prtA_any ⟨m,e⟩
        have n1:rS.length=4:=rfl
        have n2:lv.length=5:=rfl
        have n3:xa.length=4:=rfl
        simp only[cE]
        split
        ·omega
        split
        ·omega
        split
        ·omega
        split
        ·omega
        split
        ·omega
        split
        ·simp only[List.length_cons,List.length_append,List.length_nil]; omega
        ·simp only[List.length_cons,List.length_append,List.length_nil]; omega
theorem wt_jsonL:∀(l:List Json) (n:Nat),n≤1048576→aau n (l.map (Ty.cells .json))→Vs l=true∧i64L l∧l.length≤n∧∀b:Bool,(k7 l b).length≤100*n
 | [],n,_,_=>⟨rfl,trivial,Nat.zero_le _,fun _=>by simp[k7]⟩
 | x::l,_,hn, .cons h t=>by
  obtain ⟨a1,a2,a3⟩:=wt_json x _ (by omega) h
  obtain ⟨b1,b2,b3,b4⟩:=wt_jsonL l _ (by omega) t
  refine ⟨by simp only[Vs,a1,b1]; rfl,⟨a2,b2⟩,by simp only[List.length_cons]; omega,fun b => ?_⟩
  have b5:=b4 false
  simp only[k7,List.length_append]
  have:(if b=true then ([]:ag)else [44]).length≤1:=by cases b <;> simp
  omega
theorem wt_jsonO:∀(l:List Json) (ns:List ag) (b:Bool) (n:Nat),n≤1048576→aau n (l.map (Ty.cells .json))→(iu ns l b).length≤100*n+6*sumS ns
 | [],ns,_,n,_,_=>by simp[iu]
 | x::l,ns,b,_,hn, .cons h t=>by
  obtain ⟨a1,a2,a3⟩:=wt_json x _ (by omega) h
  have b5:=wt_jsonO l ns.tail false _ (by omega) t
  simp only[iu,List.length_append,List.length_cons]
  have:(if b=true then ([]:ag)else [44]).length≤1:=by cases b <;> simp
  cases ns with
  | nil =>
   have hq:=RB []
   simp only[List.headD_nil,List.tail_nil,sumS,List.length_nil]at b5 hq ⊢
   omega
  | cons u ns =>
   have hq:=RB u
   simp only[List.headD_cons,List.tail_cons,sumS]at b5 ⊢
   omega
end
mutual
theorem right_i64:∀(v:Json) (d:Int),dZ v d=true→i64J v
 | ⟨k,⟨m,e⟩,t,ns,is⟩,d,h=>by
  have hL:=aaD is
  have z:yx 0:=by unfold yx; omega
  cases fx.1 h with
  | name _ _ hd hk=>exact ⟨z,z,trivial⟩
  | num _ _ hd hn =>
   have:=hn.bounds
   simp only at this
   exact ⟨by show yx m; unfold yx; omega,by show yx e; unfold yx; omega,trivial⟩
  | text _ _ hd ht=>exact ⟨z,z,trivial⟩
  | arr _ _ hd hi=>exact ⟨z,z,hL _ hi⟩
  | obj _ _ _ hd hl hu hi=>exact ⟨z,z,hL _ hi⟩
theorem aaD:∀(l:List Json) (d:Int),eQ l d=true→i64L l
 | [],_,_=>trivial
 | x::l,d,h=>by
  simp only[eQ,Bool.and_eq_true]at h
  exact ⟨right_i64 x d h.1,aaD l d h.2⟩
end
def stripN:Nat→Int→Int→fT
 | 0,n,e=>⟨n,e⟩
 | f+1,n,e=>if Int.tmod n 10=0 then stripN f (Int.tdiv n 10) (e+1)else ⟨n,e⟩
def dI (n:Int):fT:=if n=0 then ⟨0,0⟩else stripN 20 n 0
theorem Xp:∀(f:Nat) (n e:Int),n≠0→n.natAbs<10 ^ f→∃(u:Int) (j:Nat),Int.tmod u 10≠0∧n=u*10 ^ j∧stripN f n e=⟨u,e+j⟩
 | 0,n,e,h0,h=>by omega
 | f+1,n,e,h0,h=>by
  simp only[stripN]
  by_cases hm:Int.tmod n 10=0
  ·rw[if_pos hm]
   obtain ⟨c,rfl⟩:=Int.dvd_of_tmod_eq_zero hm
   have hc:Int.tdiv (10*c) 10=c:=Int.mul_tdiv_cancel_left c (by decide)
   rw[hc]
   have hp:10 ^ (f+1)=10*10 ^ f:=by rw[Nat.pow_succ,Nat.mul_comm]
   obtain ⟨u,j,h1,h2,h3⟩:=Xp f c (e+1) (by rintro rfl; exact h0 rfl) (by rw[hp]at h; omega)
   refine ⟨u,j+1,h1,by rw[h2,Int.pow_succ,Int.mul_comm,Int.mul_assoc],?_⟩
   rw[h3]
   congr 1
   omega
  ·rw[if_neg hm]
   exact ⟨n,0,hm,by simp,by simp⟩
def jH (n:Int):Bool:=decide (0≤n)&&decide (n≤1000000000)
theorem HC {n:Int}:jH n=true↔0≤n∧n≤1000000000:=by unfold jH; rw[Bool.and_eq_true,decide_eq_true_eq,decide_eq_true_eq]
theorem aaE {n:Int} (h:jH n=true):(n=0∧dI n=⟨0,0⟩)∨∃(u:Int) (j:Nat),Int.tmod u 10≠0∧n=u*10 ^ j∧dI n=⟨u,j⟩∧j≤9∧1≤u∧u≤1000000000:=by
 obtain ⟨h1,h2⟩:=HC.1 h
 by_cases h0:n=0
 ·exact .inl ⟨h0,by unfold dI; rw[if_pos h0]⟩
 ·have e20:(10:Nat) ^ 20=100000000000000000000:=rfl
  obtain ⟨u,j,g1,g2,g3⟩:=Xp 20 n 0 h0 (by omega)
  have hu:1≤u:=by
   have hp:(0:Int)<10 ^ j:=Int.pow_pos (by decide)
   rcases Int.lt_or_le 0 u with h|h
   ·omega
   ·have:u*10 ^ j≤0:=Int.mul_nonpos_of_nonpos_of_nonneg h (by omega)
    omega
  have hj:j≤9:=by
   rcases Nat.lt_or_ge 9 j with h|h
   ·exfalso
    have hp:(10:Int) ^ 10≤10 ^ j:=by
     have:=Nat.pow_le_pow_right (n:=10) (by decide) (show 10≤j by omega)
     exact_mod_cast this
    have e10:(10:Int) ^ 10=10000000000:=by decide
    have hm:1*(10:Int) ^ j≤u*10 ^ j:=Int.mul_le_mul_of_nonneg_right hu (by omega)
    omega
   ·exact h
  have hle:u≤n:=by
   have hp:(1:Int)≤10 ^ j:=Rv j
   have:u*1≤u*10 ^ j:=Int.mul_le_mul_of_nonneg_left hp (by omega)
   omega
  refine .inr ⟨u,j,g1,g2,?_,hj,hu,by omega⟩
  unfold dI
  rw[if_neg h0,g3]
  congr 1
  omega
theorem dI_fm {n:Int} (h:jH n=true):Fm (dI n):=by
 rcases aaE h with ⟨_,e⟩|⟨u,j,g1,_,e,g4,g5,g6⟩
 ·rw[e]; exact Fm.mk0
 ·rw[e]; exact .inr ⟨g1,by show -1000000000000000≤u; omega,by show u≤1000000000000000; omega,by show -9≤(j:Int); omega,by show (j:Int)≤9; omega⟩
theorem shiftN_eq:∀(j:Nat) (u:Int),0≤u→u*10 ^ j≤1000000000→Pu.Nj j u=some (u*10 ^ j)
 | 0,u,_,_=>by simp[Pu.Nj]
 | j+1,u,h0,h=>by
  have e:u*10 ^ (j+1)=(u*10)*10 ^ j:=by rw[Int.pow_succ,Int.mul_assoc,Int.mul_comm 10]
  have hp:(1:Int)≤10 ^ j:=Rv j
  have hle:u*10≤u*10 ^ (j+1):=by
   rw[e]
   have:u*10*1≤u*10*10 ^ j:=Int.mul_le_mul_of_nonneg_left hp (by omega)
   omega
  simp only[Pu.Nj]
  rw[if_pos (by omega),shiftN_eq j (u*10) (by omega) (by rw[←e]; exact h),e]
theorem decInt_dI {n:Int} (h:jH n=true):Pu.tw (dI n)=some n:=by
 obtain ⟨h1,h2⟩:=HC.1 h
 rcases aaE h with ⟨rfl,e⟩|⟨u,j,g1,g2,e,g4,g5,g6⟩
 ·rw[e]; rfl
 ·rw[e]
  unfold Pu.tw
  have hr:Pu.Tu ⟨u,j⟩=true:=by
   unfold Pu.Tu
   rw[if_neg (by show ¬u=0; omega)]
   simp only[Bool.and_eq_true,decide_eq_true_eq]
   refine ⟨⟨g1,by omega,by omega⟩,by omega,by omega⟩
  rw[if_pos ⟨hr,by show (0:Int)≤(j:Int); omega⟩]
  show Pu.Nj ((j:Int)).toNat u=some n
  rw[Int.toNat_natCast,shiftN_eq j u (by omega) (by omega),←g2]
def AM (n:Int):Json:=⟨4,dI n, [], [], []⟩
def strV (s:ag):Json:=⟨5,⟨0,0⟩,s, [], []⟩
def yesV (b:Bool):Json:=⟨if b then 3 else 2,⟨0,0⟩, [], [], []⟩
def uL (ns:List ag) (is:List Json):Json:=⟨7,⟨0,0⟩, [],ns,is⟩
theorem Iq {n:Int} (h:jH n=true):Pu.U2 (AM n)=some n:=by
 unfold Pu.U2 AM
 rw[if_pos rfl]
 exact decInt_dI h
theorem flagF_yes (b:Bool):Pu.Xd (yesV b)=some b:=by cases b <;> rfl
theorem lX {n:Int} (h:jH n=true) {d:Int} (hd:d≤16):dZ (AM n) d=true:=fx.2 (.num _ d hd (dI_fm h))
theorem right_str {s:ag} (h:fE s=true) {d:Int} (hd:d≤16):dZ (strV s) d=true:=fx.2 (.text _ d hd h)
theorem RD (b:Bool) {d:Int} (hd:d≤16):dZ (yesV b) d=true:=by cases b <;> exact fx.2 (.name _ d hd (by simp))
theorem right_obj {ns:List ag} {is:List Json} {d:Int} (hl:ns.length=is.length) (hu:tu [] ns=true) (h:eQ is (d+1)=true) (hd:d≤16):dZ (uL ns is) d=true:=fx.2 (.obj _ _ d hd hl hu h)
theorem tV {n:Int} (h:jH n=true):(cE (AM n)).length≤40:=by
 have e:cE (AM n)=AL (dI n):=by unfold AM; simp only[cE]; rfl
 have e2:AL (dI n)=X2 (dI n):=by unfold AL; rw[JV.2 (dI_fm h)]; rfl
 rw[e,e2]
 exact prt_len _ (dI_fm h)
theorem Yz (b:Bool):(cE (yesV b)).length≤5:=by cases b <;> decide
theorem len_str (s:ag):(cE (strV s)).length≤6*s.length+2:=by
 have e:cE (strV s)=NY s:=by unfold strV; simp only[cE]; rfl
 rw[e]
 exact RB s
theorem len_obj (ns:List ag) (l:List Json):(cE (uL ns l)).length=(iu ns l true).length+2:=by
 have e:cE (uL ns l)=123::(iu ns l true ++ [125]):=by unfold uL; simp only[cE]; rfl
 rw[e]; simp
end Go.Proofs.YtidfokedcnhahaaGreatDoor
set_option maxRecDepth 100000
namespace Go.Proofs.YtidfokedcnhahaaGreatDoor
open Go Go.aq
def CU (h:Nat) (c:UInt8):Nat:=((h ^^^ c.toNat)*16777619) % 4294967296
theorem EC (h:Nat) (c:UInt8):CU h c<4294967296:=by
 unfold CU
 exact Nat.mod_lt _ (by decide)
def R7 (s:ag) (h:Nat):Nat:=s.foldl CU h
def Wy (s:ag):Nat:=R7 s 2166136261
theorem Mb (c:UInt8) (s:ag) (h:Nat):R7 (c::s) h=R7 s (CU h c):=by
 unfold R7
 rw[List.foldl_cons]
theorem fnv_app (a b:ag) (h:Nat):R7 (a++b) h=R7 b (R7 a h):=by
 unfold R7
 rw[List.foldl_append]
theorem fnv_lt (s:ag):∀(h:Nat),h<4294967296→R7 s h<4294967296:=by
 induction s with
 | nil=>intro h hh; unfold R7; rw[List.foldl_nil]; exact hh
 | cons c s ih=>intro h _; rw[Mb]; exact ih _ (EC h c)
theorem mul_inv (x:Nat) (hx:x<4294967296):(x*16777619 % 4294967296)*899433627 % 4294967296=x:=by omega
theorem mul_inj {a b:Nat} (ha:a<4294967296) (hb:b<4294967296) (h:a*16777619 % 4294967296=b*16777619 % 4294967296):a=b:=by
 have h1:=mul_inv a ha
 have h2:=mul_inv b hb
 rw[h]at h1
 exact h1.symm.trans h2
theorem aaF {h:Nat} (hh:h<4294967296) (c:UInt8):h ^^^ c.toNat<4294967296:=by
 have:=UInt8.toNat_lt c
 exact Nat.xor_lt_two_pow (n:=32) hh (by omega)
theorem xor_inj_l {a b c:Nat} (h:a ^^^ c=b ^^^ c):a=b:=by
 have:=congrArg (· ^^^ c) h
 simpa [Nat.xor_assoc]using this
theorem xor_inj_r {a b c:Nat} (h:c ^^^ a=c ^^^ b):a=b:=by
 rw[Nat.xor_comm c a,Nat.xor_comm c b]at h
 exact xor_inj_l h
theorem step_inj_l {a b:Nat} (ha:a<4294967296) (hb:b<4294967296) (c:UInt8) (h:CU a c=CU b c):a=b:=by
 unfold CU at h
 exact xor_inj_l (mul_inj (aaF ha c) (aaF hb c) h)
theorem step_inj_r {a:Nat} (ha:a<4294967296) (c d:UInt8) (h:CU a c=CU a d):c=d:=by
 unfold CU at h
 exact UInt8.toNat_inj.1 (xor_inj_r (mul_inj (aaF ha c) (aaF ha d) h))
theorem fnv_inj (s:ag):∀(a b:Nat),a<4294967296→b<4294967296→R7 s a=R7 s b→a=b:=by
 induction s with
 | nil=>intro a b _ _ h; unfold R7 at h; rw[List.foldl_nil,List.foldl_nil]at h; exact h
 | cons c s ih =>
  intro a b ha hb h
  rw[Mb,Mb]at h
  exact step_inj_l ha hb c (ih _ _ (EC a c) (EC b c) h)
theorem fnv_one (a b:ag) (x y:UInt8) (h:Wy (a++x::b)=Wy (a++y::b)):x=y:=by
 unfold Wy at h
 rw[fnv_app,fnv_app,Mb,Mb]at h
 have ha:=fnv_lt a 2166136261 (by decide)
 exact step_inj_r ha x y (fnv_inj b _ _ (EC _ x) (EC _ y) h)
def hxS:ag := [48,49,50,51,52,53,54,55,56,57,97,98,99,100,101,102]
def hxB (n:Nat):UInt8:=hxS.getD (n % 16) 0
def R8 (h:Nat):ag := [hxB (h / 268435456),hxB (h / 16777216),hxB (h / 1048576),hxB (h / 65536),hxB (h / 4096),hxB (h / 256),hxB (h / 16),hxB h]
theorem hxB_inj:∀a b:Fin 16,hxS.getD a.val 0=hxS.getD b.val 0→a=b:=by decide +kernel
theorem QP {a b:Nat} (h:hxB a=hxB b):a % 16=b % 16:=by
 have:=hxB_inj ⟨a % 16,Nat.mod_lt _ (by decide)⟩ ⟨b % 16,Nat.mod_lt _ (by decide)⟩ h
 exact congrArg Fin.val this
theorem hxB_ne (a:Nat):hxB a≠35:=by
 have all:∀n:Fin 16,hxS.getD n.val 0≠35:=by decide +kernel
 exact all ⟨a % 16,Nat.mod_lt _ (by decide)⟩
theorem hex8_inj {a b:Nat} (ha:a<4294967296) (hb:b<4294967296) (h:R8 a=R8 b):a=b:=by
 unfold R8 at h
 simp only[List.cons.injEq,and_true]at h
 obtain ⟨h1,h2,h3,h4,h5,h6,h7,h8⟩:=h
 have:=QP h1; have:=QP h2; have:=QP h3; have:=QP h4; have:=QP h5; have:=QP h6; have:=QP h7; have:=QP h8
 omega
theorem hex8_ne (h:Nat):∀x∈R8 h,x≠35:=by
 intro x hx
 unfold R8 at hx
 simp only[List.mem_cons,List.not_mem_nil,or_false]at hx
 rcases hx with rfl|rfl|rfl|rfl|rfl|rfl|rfl|rfl <;> exact hxB_ne _
def ew (s:ag):ag:=s++35::R8 (Wy s)
theorem lY (s:ag):(ew s).length=s.length+9:=by simp[ew,R8]
def DY (s:ag):Option ag:=if 9≤s.length∧ew (s.take (s.length - 9))=s then some (s.take (s.length - 9))else none
theorem RE (s:ag):DY (ew s)=some s:=by
 have hl:=lY s
 have ht:(ew s).take ((ew s).length - 9)=s:=by rw[hl,Nat.add_sub_cancel]; unfold ew; simp
 unfold DY
 rw[ht,if_pos ⟨by omega,rfl⟩]
theorem RF {s t:ag} (h:DY s=some t):s=ew t:=by
 unfold DY at h
 split at h
 ·rename_i hc
  cases h
  exact hc.2.symm
 ·cases h
theorem open_altered (t:ag) (k:Nat) (c:UInt8) (hk:k<(ew t).length) (hc:(ew t)[k]≠c):DY ((ew t).set k c)=none:=by
 cases ho:DY ((ew t).set k c)with
 | none=>rfl
 | some u =>
  exfalso
  have e:=RF ho
  have hl:u.length=t.length:=by
   have:=congrArg List.length e
   rw[List.length_set,lY,lY]at this
   omega
  have Yi:∀j,j≠k→(ew u)[j]? = (ew t)[j]? :=fun j hj=>by
   rw[←e,List.getElem?_set]
   rw[if_neg (fun h=>hj h.symm)]
  have hkk:(ew u)[k]? = some c:=by
   rw[←e,List.getElem?_set]
   simp[hk]
  have hu:∀j,j<t.length→(ew u)[j]? = u[j]? :=fun j hj=>by unfold ew; rw[List.getElem?_append_left (by omega)]
  have ht:∀j,j<t.length→(ew t)[j]? = t[j]? :=fun j hj=>by unfold ew; rw[List.getElem?_append_left (by omega)]
  have hu2:∀j,(ew u)[t.length+j]? = (35::R8 (Wy u))[j]? :=fun j=>by unfold ew; rw[List.getElem?_append_right (by omega)]; congr 1; omega
  have ht2:∀j,(ew t)[t.length+j]? = (35::R8 (Wy t))[j]? :=fun j=>by unfold ew; rw[List.getElem?_append_right (by omega)]; congr 1; omega
  rcases Nat.lt_or_ge k t.length with je|hge
  ·-- a byte of the text itself
   have hd:R8 (Wy u)=R8 (Wy t):=by
    apply List.ext_getElem?
    intro j
    have h1:=hu2 (j+1)
    have h2:=ht2 (j+1)
    rw[List.getElem?_cons_succ]at h1 h2
    rw[←h1,←h2]
    exact Yi _ (by omega)
   have hf:=hex8_inj (fnv_lt _ _ (by decide)) (fnv_lt _ _ (by decide)) hd
   have VO:u=t.set k c:=by
    apply List.ext_getElem?
    intro j
    by_cases hj:j<t.length
    ·rw[←hu j hj]
     by_cases hjk:j=k
     ·subst hjk
      rw[hkk,List.getElem?_set]
      simp[je]
     ·rw[Yi j hjk,ht j hj,List.getElem?_set,if_neg (fun h=>hjk h.symm)]
    ·rw[List.getElem?_eq_none (by omega),List.getElem?_eq_none (by rw[List.length_set]; omega)]
   have e1:t=t.take k++t[k]::t.drop (k+1):=by rw[←List.drop_eq_getElem_cons je,List.take_append_drop]
   have e2:t.set k c=t.take k++c::t.drop (k+1):=by rw[List.set_eq_take_append_cons_drop,if_pos je]
   rw[VO,e2]at hf
   have:=fnv_one (t.take k) (t.drop (k+1)) c t[k] (by rw[←e1]; exact hf)
   apply hc
   have h3:=ht k je
   rw[List.getElem?_eq_getElem hk,List.getElem?_eq_getElem je]at h3
   rw[Option.some.inj h3,this]
  ·-- behind it: the text is the same, and so all is
   have VO:u=t:=by
    apply List.ext_getElem?
    intro j
    by_cases hj:j<t.length
    ·rw[←hu j hj,Yi j (by omega),ht j hj]
    ·rw[List.getElem?_eq_none (by omega),List.getElem?_eq_none (by omega)]
   rw[VO]at hkk
   rw[List.getElem?_eq_getElem hk]at hkk
   exact hc (Option.some.inj hkk)
theorem open_longer (t:ag) (c:UInt8):DY (ew t ++ [c])=none:=by
 cases ho:DY (ew t ++ [c])with
 | none=>rfl
 | some u =>
  exfalso
  have e:=RF ho
  have hl:u.length=t.length+1:=by
   have:=congrArg List.length e
   rw[List.length_append,lY,lY,List.length_singleton]at this
   omega
  have h1:(ew u)[t.length+1]? = some 35:=by unfold ew; rw[List.getElem?_append_right (by omega),hl]; simp
  have h2:(ew t ++ [c])[t.length+1]? = (R8 (Wy t))[0]? :=by
   rw[List.getElem?_append_left (by rw[lY]; omega)]
   unfold ew
   rw[List.getElem?_append_right (by omega)]
   simp
  rw[e,h1]at h2
  exact hxB_ne _ (by simpa [R8]using h2.symm)
end Go.Proofs.YtidfokedcnhahaaGreatDoor
set_option maxRecDepth 100000
namespace Go.Proofs.YtidfokedcnhahaaGreatDoor
open Go Go.aq Go.Lib
def R9:ag := [97,98,99,100,101,102,103,104,105,106,107,108,109,110,111,112,113,114,115,116,117,118,119,120,121,122,65,66,67,68,69,70,71,72,73,74,75,76,77,78,79,80,81,82,83,84,85,86,87,88,89,90,48,49,50,51,52,53,54,55,56,57,95,46,58,45]
def CV (s:ag):Bool:=s.all (R9.contains ·)&&(!s.isEmpty&&decide (s.length≤16))
def EU:ag := [104,101,97,100,101,114,73,100]
def EV:ag := [115,101,114,105,97,108,78,117,109,98,101,114]
def KQ:ag := [111,114,100,101,114,73,100]
def EW:ag := [111,114,100,101,114,85,112,100,97,116,101,73,100]
def dQ (v:Json) (s:ag):Option Int:=(Pu.at7 v s).bind Pu.U2
def Ir (v:Json) (s:ag):Option ag:=(Pu.at7 v s).bind Pu.textF
def pG (v:Json) (s:ag):Option Bool:=(Pu.at7 v s).bind Pu.Xd
def stopOk (x:Stop):Prop:=jH x.node=true∧jH x.seq=true
def wayOk (x:aq.Way):Prop:=jH x.TZ=true∧jH x.seq=true
structure OkO (o:Order):Prop where
 name:CV o.bc=true
 header:jH o.header=true
 order:jH o.order=true
 update:jH o.update=true
 nodes:∀x∈o.nodes,stopOk x
 Ji:∀x∈o.Ji,wayOk x
 many:1≤o.nodes.length∧o.nodes.length≤64∧o.Ji.length+1=o.nodes.length
theorem N3 {s:ag} (h:CV s=true):fE s=true∧s.length≤16:=by
 unfold CV at h
 simp only[Bool.and_eq_true,decide_eq_true_eq]at h
 refine ⟨?_,h.2.2⟩
 refine Hx.2 ⟨s.map (·.toNat),fun c hc => ?_,?_⟩
 ·obtain ⟨b,hb,rfl⟩:=List.mem_map.1 hc
  have:=List.all_eq_true.1 h.1 b hb
  have all:∀n:Fin 256,R9.contains (UInt8.ofNat n.val)=true→n.val<128:=by decide +kernel
  have h128:b.toNat<128:=by simpa using all ⟨b.toNat,UInt8.toNat_lt b⟩ (by simpa using this)
  exact .inl (by omega)
 ·have pP:=List.all_eq_true.1 h.1
  clear h
  induction s with
  | nil=>rfl
  | cons b s ih =>
   have hb:=pP b (by simp)
   have all:∀n:Fin 256,R9.contains (UInt8.ofNat n.val)=true→enc n.val = [UInt8.ofNat n.val]:=by decide +kernel
   have VA:=all ⟨b.toNat,UInt8.toNat_lt b⟩ (by simpa using hb)
   simp only[List.map_cons,fp,List.flatMap_cons]
   have:=ih fun x hx=>pP x (by simp[hx])
   unfold fp at this
   rw[←this]
   have hb3:enc b.toNat = [b]:=by simpa using VA
   rw[hb3]
   rfl
theorem Wz {l:List Json} {d:Int} (h:∀x∈l,dZ x d=true):eQ l d=true:=by
 induction l with
 | nil=>rfl
 | cons x l ih =>
  simp only[eQ]
  rw[h x (by simp),ih fun y hy=>h y (by simp[hy])]
  rfl
theorem right_kind {v:Json} {d:Int} (h:dZ v d=true):yx v.kind:=by
 cases fx.1 h <;> first|(unfold yx; simp only; omega)|(unfold yx; decide)
mutual
theorem right_jok:∀(v:Json) (d:Int),dZ v d=true→O6 v=true→Pu.Hk v
 | ⟨k,⟨m,e⟩,t,ns,is⟩,d,h,hl=>by
  have hL:=N4 is
  obtain ⟨l1,l2,l3,l4,l5⟩:=xb.1 hl
  have hk:=right_kind h
  have hi:=right_i64 _ _ h
  have hI:∀y∈is,Pu.Hk y:=by
   cases fx.1 h with
   | name _ _ hd hk=>simp
   | num _ _ hd hn=>simp
   | text _ _ hd ht=>simp
   | arr _ _ hd hi=>exact hL _ hi l3
   | obj _ _ _ hd hl hu hi=>exact hL _ hi l3
  exact Pu.jok_mk hk hi.1 hi.2.1 (by simp only at l4; omega) l1 (fun s hs=>by have:=l5 s hs; omega) l2 hI
theorem N4:∀(l:List Json) (d:Int),eQ l d=true→Vs l=true→∀y∈l,Pu.Hk y
 | [],_,_,_=>by simp
 | x::l,d,h,hl=>by
  simp only[eQ,Vs,Bool.and_eq_true]at h hl
  intro y hy
  rcases List.mem_cons.1 hy with e|hy
  ·rw[e]
   exact right_jok x d h.1 hl.1
  ·exact N4 l d h.2 hl.2 y hy
end
theorem parse_jok {s:ag} (h:(pF s).2.1=0):Pu.Hk (pF s).1:=by
 obtain ⟨h1,h2,_⟩:=parseJ_ok s h
 exact right_jok _ 1 h1 h2
theorem dec_num {n:Int} (h:jH n=true):(∀ {R:Type} (k:fT→Bool→Option R),bk n 0 k=k (dI n) true)∧∀ {R:Type} (k:fT→Bool→Option R),tL n 0 k=k (dI n) true:=by
 obtain ⟨h1,h2⟩:=HC.1 h
 rcases aaE h with ⟨rfl,e⟩|⟨u,j,g1,g2,e,g4,g5,g6⟩
 ·rw[e]
  exact ⟨fun k=>Wn 0 k,fun k=>refMake_zero 0 k⟩
 ·rw[e]
  have hI:yx (u*10 ^ j):=by rw[←g2]; unfold yx; omega
  have hm:Xj u (0+(j:Int))=(⟨u,(j:Int)⟩,true):=by
   unfold Xj
   rw[if_pos ⟨by omega,by omega,by omega,by omega⟩,Int.zero_add]
  constructor
  ·intro R k
   have:=make_ok u j 0 g1 hI (by omega) (by omega) k
   rw[hm,←g2]at this
   exact this
  ·intro R k
   have:=refMake_ok u j 0 g1 hI (by unfold yx; omega) k
   rw[hm,←g2]at this
   exact this
theorem QQ {R:Type} {n:Int} (h:jH n=true) (k:Json→Option R):bf n k=k (AM n):=by
 unfold bf PC
 rw[(dec_num h).1]
 rfl
def SP:ag := [98,111,111,116]
def SQ:ag := [108,105,118,101]
def SR:ag := [108,97,115,116,78,111,100,101,73,100]
def tSeq:ag := [108,97,115,116,78,111,100,101,83,101,113,117,101,110,99,101,73,100]
def zZ:ag := [100,114,105,118,105,110,103]
def uX:ag := [97,99,99,101,112,116,101,100]
abbrev bO:=aq.State
def jS (s:bO):Bool :=
 CV s.bc&&((jH s.header&&(jH s.dc&&(jH s.order&&(jH s.update&&(jH s.node&&(jH s.seq&&jH s.accepted))))))&&(decide (Int.tmod s.seq 2=0)&&(s.live || !s.bz)))
def lx:List ag := [EU,SP,EV,KQ,EW,SQ,SR,tSeq,zZ,uX]
def ly (s:bO):List Json := [AM s.header,AM s.dc,strV s.bc,AM s.order,AM s.update,yesV s.live,AM s.node,AM s.seq,yesV s.bz,AM s.accepted]
def eH (s:bO):Json:=uL lx (ly s)
def stateT (v:Json):Option bO :=
 match dQ v EU,dQ v SP,Ir v EV,dQ v KQ,dQ v EW,pG v SQ,dQ v SR,dQ v tSeq,pG v zZ,dQ v uX with
 | some a,some b,some c,some d,some e,some f,some g,some h,some i,some j=>some ⟨a,b,c,d,e,f,g,h,i,j⟩
 | _,_,_,_,_,_,_,_,_,_=>none
def takeA (s:ag):Except Int bO :=
 match DY s with
 | none => .error 60
 | some t =>
  if (pF t).2.1≠0 then .error (pF t).2.1 else
  match stateT (pF t).1 with
  | some o=>if jS o then .ok o else .error 90
  | none => .error 90
structure OkA (s:bO):Prop where
 name:CV s.bc=true
 header:jH s.header=true
 dc:jH s.dc=true
 order:jH s.order=true
 update:jH s.update=true
 node:jH s.node=true
 seq:jH s.seq=true
 accepted:jH s.accepted=true
theorem Bj {s:bO} (h:jS s=true):OkA s:=by
 simp only[jS,Bool.and_eq_true]at h
 obtain ⟨h1,⟨h2,h3,h4,h5,h6,h7,h8⟩,_⟩:=h
 exact ⟨h1,h2,h3,h4,h5,h6,h7,h8⟩
theorem aaG {s:bO} (h:OkA s):stateT (eH s)=some s:=by
 have e1:dQ (eH s) EU=some s.header:=by show Pu.U2 (AM s.header)=_; exact Iq h.header
 have e2:dQ (eH s) SP=some s.dc:=by show Pu.U2 (AM s.dc)=_; exact Iq h.dc
 have e3:Ir (eH s) EV=some s.bc:=rfl
 have e4:dQ (eH s) KQ=some s.order:=by show Pu.U2 (AM s.order)=_; exact Iq h.order
 have e5:dQ (eH s) EW=some s.update:=by show Pu.U2 (AM s.update)=_; exact Iq h.update
 have e6:pG (eH s) SQ=some s.live:=by show Pu.Xd (yesV s.live)=_; exact flagF_yes _
 have e7:dQ (eH s) SR=some s.node:=by show Pu.U2 (AM s.node)=_; exact Iq h.node
 have e8:dQ (eH s) tSeq=some s.seq:=by show Pu.U2 (AM s.seq)=_; exact Iq h.seq
 have e9:pG (eH s) zZ=some s.bz:=by show Pu.Xd (yesV s.bz)=_; exact flagF_yes _
 have e10:dQ (eH s) uX=some s.accepted:=by show Pu.U2 (AM s.accepted)=_; exact Iq h.accepted
 unfold stateT
 rw[e1,e2,e3,e4,e5,e6,e7,e8,e9,e10]
theorem FF {s:bO} (h:OkA s):dZ (eH s) 1=true:=by
 obtain ⟨hv,_⟩:=N3 h.name
 refine right_obj rfl (by decide +kernel) ?_ (by omega)
 simp only[ly,eQ,Bool.and_true]
 rw[lX h.header (by omega),lX h.dc (by omega),right_str hv (by omega),lX h.order (by omega),lX h.update (by omega),RD s.live (by omega),lX h.node (by omega),lX h.seq (by omega),RD s.bz (by omega),lX h.accepted (by omega)]
 rfl
theorem HD {s:bO} (h:OkA s):(cE (eH s)).length≤20000:=by
 obtain ⟨_,hv⟩:=N3 h.name
 have h1:=tV h.header
 have h2:=tV h.dc
 have h3:=tV h.order
 have h4:=tV h.update
 have h5:=tV h.node
 have h6:=tV h.seq
 have h7:=tV h.accepted
 have h8:=len_str s.bc
 have h9:=Yz s.live
 have h10:=Yz s.bz
 have q:(NY EU).length≤30∧(NY SP).length≤30∧(NY EV).length≤30∧(NY KQ).length≤30∧(NY EW).length≤30∧(NY SQ).length≤30∧(NY SR).length≤30∧(NY tSeq).length≤30∧(NY zZ).length≤30∧(NY uX).length≤30:=by decide +kernel
 obtain ⟨q1,q2,q3,q4,q5,q6,q7,q8,q9,q10⟩:=q
 unfold eH lx ly
 rw[len_obj]
 simp only[iu,List.headD_cons,List.tail_cons,List.length_append,List.length_cons,List.length_nil,if_true,Bool.false_eq_true,if_false]
 omega
theorem WA {s:bO} (h:jS s=true):takeA (ew (cE (eH s))) = .ok s:=by
 have hk:=Bj h
 unfold takeA
 rw[RE]
 simp only
 rw[QO (FF hk) (HD hk)]
 simp only[ne_eq,not_true_eq_false,if_false]
 rw[aaG hk]
 simp only
 rw[if_pos h]
theorem takenA_right {t:ag} {s:bO} (h:takeA t = .ok s):jS s=true:=by
 unfold takeA at h
 split at h
 ·cases h
 ·split at h
  ·cases h
  ·split at h
   ·split at h
    ·rename_i hr
     cases h
     exact hr
    ·cases h
   ·cases h
theorem layA_inj {a b:bO} (ha:jS a=true) (hb:jS b=true) (h:ew (cE (eH a))=ew (cE (eH b))):a=b:=by
 have h1:=WA ha
 have h2:=WA hb
 rw[h,h2]at h1
 cases h1
 rfl
def lA (a b:bO):Bool:=decide (a.dc>b.dc)||(decide (a.dc=b.dc)&&decide (a.header>b.header))
def l8 (c n:Int):Int:=Int.tmod (if c<0 then -(c+1)else c) n
theorem Iu (c n:Int):0≤l8 c n:=by
 unfold l8
 apply Int.tmod_nonneg
 split <;> omega
theorem Iv (c:Int) {n:Int} (h:0<n):l8 c n<n:=by
 unfold l8
 exact Int.tmod_lt_of_pos _ h
theorem pickI_num (c:Int):jH (l8 c 1000000001)=true:=HC.2 ⟨Iu c _,by have:=Iv c (n:=1000000001) (by decide); omega⟩
def fitL:ag := [97,98,99,120,121,122,65,66,67,88,89,90,48,49,56,57,95,46,58,45]
def fitB (b:UInt8):UInt8:=fitL.getD (b.toNat % 20) 0
def X5 (s:ag):ag:=110::(s.take 15).map fitB
theorem fitB_ok (b:UInt8):R9.contains (fitB b)=true:=by
 have all:∀n:Fin 20,R9.contains (fitL.getD n.val 0)=true:=by decide +kernel
 exact all ⟨b.toNat % 20,Nat.mod_lt _ (by decide)⟩
theorem YA (s:ag):CV (X5 s)=true:=by
 unfold CV X5
 simp only[List.isEmpty_cons,Bool.not_false,Bool.true_and,Bool.and_eq_true,decide_eq_true_eq,List.length_cons,List.length_map,List.length_take]
 refine ⟨List.all_eq_true.2 fun x hx => ?_,by omega⟩
 rcases List.mem_cons.1 hx with rfl|hx
 ·decide +kernel
 ·obtain ⟨y,_,rfl⟩:=List.mem_map.1 hx
  exact fitB_ok y
def WB (s:bO):bO:=⟨l8 s.header 1000000001,l8 s.dc 1000000001,X5 s.bc,l8 s.order 1000000001,l8 s.update 1000000001,s.live||s.bz,l8 s.node 1000000001,2*l8 s.seq 500000001,s.bz,l8 s.accepted 1000000001⟩
theorem even_mod (x:Int):Int.tmod (2*x) 2=0:=Int.tmod_eq_zero_of_dvd ⟨x,rfl⟩
theorem odd_mod (x:Int) (h:0≤x):Int.tmod (2*x+1) 2=1:=by
 rw[Int.tmod_eq_emod_of_nonneg (by omega)]
 omega
theorem ED (s:bO):jS (WB s)=true:=by
 have h1:=Iu s.seq 500000001
 have h2:=Iv s.seq (n:=500000001) (by decide)
 have h3:jH (2*l8 s.seq 500000001)=true:=HC.2 ⟨by omega,by omega⟩
 unfold jS WB
 simp only[YA,pickI_num,h3,even_mod,decide_true,Bool.and_self,Bool.true_and]
 cases s.live <;> cases s.bz <;> rfl
theorem rightA_bad (s:bO):jS { s with bz:=true,live:=false }=false:=by
 unfold jS
 simp
theorem rightA_odd (s:bO) (x:Int) (h:0≤x):jS { s with seq:=2*x+1 }=false:=by
 unfold jS
 simp only[odd_mod x h]
 simp
theorem pick_rawI {R:Type} (c n:Int) (hc:yx c) (h0:0<n) (k:Int→Option R) :
  (bif (decide (c<(0:Int)))then (cw (!decide (n=0)) (k (Int.tmod (IntKind.i64.wrap (0 - (IntKind.i64.wrap (c+1)))) n)))else (cw (!decide (n=0)) (k (Int.tmod c n))))=k (l8 c n):=by
 obtain ⟨h1,h2⟩:=hc
 have hz:(!decide (n=0))=true:=by simp; omega
 unfold l8
 by_cases h:c<0
 ·have hd:decide (c<(0:Int))=true:=by simpa using h
  rw[hd,cond_true,ay hz,cL (n:=c+1) (by omega) (by omega),cL (by omega) (by omega),if_pos h,Int.zero_sub]
 ·have hd:decide (c<(0:Int))=false:=by simpa using h
  rw[hd,cond_false,ay hz,if_neg h]
theorem trim_none:∀s:ag,bx s R9 = []↔s.all (R9.contains ·)=true
 | []=>by simp[bx]
 | b::s=>by
  have ih:=trim_none s
  unfold bx at ih ⊢
  rw[List.dropWhile_cons,List.all_cons]
  by_cases h:R9.contains b=true
  ·rw[if_pos h,h,Bool.true_and]
   exact ih
  ·rw[if_neg h,Bool.eq_false_iff.2 h,Bool.false_and]
   simp
theorem trim_name (s:ag):((bx s R9==([]:ag))&&(!(s==([]:ag))&&decide ((s.length:Int)≤16)))=CV s:=by
 have e1:(bx s R9==([]:ag))=s.all (R9.contains ·):=by
  rw[Bool.eq_iff_iff,←trim_none]
  exact beq_iff_eq
 have e2:(s==([]:ag))=s.isEmpty:=by cases s <;> rfl
 have e3:decide ((s.length:Int)≤16)=decide (s.length≤16):=decide_eq_decide.2 (by omega)
 unfold CV
 rw[e1,e2,e3]
def CW (s:ag) (j:Nat):ag:=110::((s.take j).map fitB++s.drop j)
theorem fitSt_get (s:ag) (j:Nat) (h:j<s.length) (d:UInt8):(CW s j).getD (j+1) d=s[j]:=by
 have e:((s.take j).map fitB).length=j:=by rw[List.length_map,List.length_take]; omega
 unfold CW
 rw[List.getD_cons_succ,List.getD_eq_getElem?_getD,List.getElem?_append_right (by omega),e,Nat.sub_self,List.getElem?_drop,Nat.add_zero,List.getElem?_eq_getElem h]
 rfl
theorem fitSt_set (s:ag) (j:Nat) (h:j<s.length):(CW s j).set (j+1) (fitB s[j])=CW s (j+1):=by
 have e:((s.take j).map fitB).length=j:=by rw[List.length_map,List.length_take]; omega
 unfold CW
 rw[List.set_cons_succ,List.set_append_right _ _ (by omega),e,Nat.sub_self,List.drop_eq_getElem_cons h,List.set_cons_zero,List.take_succ_eq_append_getElem h,List.map_append,List.map_singleton,List.append_assoc]
 rfl
theorem RG (s:ag) (j:Nat):(CW s j).length=s.length+1:=by
 unfold CW
 simp only[List.length_cons,List.length_append,List.length_map,List.length_take,List.length_drop]
 omega
theorem fitSt_end (s:ag):CW (s.take 15) (s.take 15).length=X5 s:=by
 unfold CW X5
 rw[List.take_length,List.drop_length,List.append_nil]
end Go.Proofs.YtidfokedcnhahaaGreatDoor
end
