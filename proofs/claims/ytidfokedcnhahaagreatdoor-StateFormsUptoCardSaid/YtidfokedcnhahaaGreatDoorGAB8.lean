/-
  GA, part 8 of 10.
-/
import Derived.Test.YtidfokedcnhahaaGreatDoorGAB7
set_option linter.unusedSimpArgs false
set_option linter.unnecessarySimpa false
set_option linter.unusedVariables false
set_option linter.unusedSectionVars false
noncomputable section
set_option maxRecDepth 100000
namespace Go.Proofs.YtidfokedcnhahaaGreatDoor
open Go Go.aq Go.Lib
theorem dec_all (u:Nat):∀b∈decDigits u,48≤b.toNat∧b.toNat≤57:=by
 induction u using Nat.strongRecOn with
 | _ u ih =>
  intro b hb
  by_cases h:u<10
  ·rw[decDigits,dif_pos h]at hb
   simp only[List.mem_cons,List.not_mem_nil,or_false]at hb
   subst hb
   rw[gV _ (by omega)]; omega
  ·rw[decDigits,dif_neg h]at hb
   rcases List.mem_append.1 hb with hb|hb
   ·exact ih (u / 10) (by omega) b hb
   ·simp only[List.mem_cons,List.not_mem_nil,or_false]at hb
    subst hb
    rw[gV _ (by omega)]; omega
theorem Rs (u:Nat) (hu:0<u):∃b t,decDigits u=b::t∧b.toNat≠48:=by
 induction u using Nat.strongRecOn with
 | _ u ih =>
  by_cases h:u<10
  ·exact ⟨_, [],by rw[decDigits,dif_pos h],by rw[gV _ (by omega)]; omega⟩
  ·obtain ⟨b,t,e,hb⟩:=ih (u / 10) (by omega) (by omega)
   exact ⟨b,t ++ [UInt8.ofNat (48+u % 10)],by rw[decDigits,dif_neg h,e]; rfl,hb⟩
theorem dec_last (u:Nat):∃l,decDigits u=l ++ [UInt8.ofNat (48+u % 10)]:=by
 by_cases h:u<10
 ·exact ⟨[],by rw[decDigits,dif_pos h,Nat.mod_eq_of_lt h]; rfl⟩
 ·exact ⟨decDigits (u / 10),by rw[decDigits,dif_neg h]⟩
theorem tmod_abs {m:Int} (h:Int.tmod m 10≠0):m.natAbs % 10≠0:=by
 intro h2
 apply h
 have e:m=(m / 10)*10:=by omega
 rw[e]
 exact Int.mul_tmod_left _ _
theorem Xc (a b:ag) (j:Nat):(a++b).getD (a.length+j) 0=b.getD j 0:=by
 show ((a++b)[a.length+j]?).getD 0=(b[j]?).getD 0
 rw[List.getElem?_append_right (by omega),Nat.add_sub_cancel_left]
def okAt (z:ag) (j:Nat):Prop:=((z.getD j 0).toNat=46∧j≠0∧j+1≠z.length)∨(48≤(z.getD j 0).toNat∧(z.getD j 0).toNat≤57)
def dots (z:ag):Nat:=(z.filter fun b=>decide (b.toNat=46)).length
theorem dots_app (a b:ag):dots (a++b)=dots a+dots b:=by unfold dots; rw[List.filter_append,List.length_append]
theorem QE {z:ag} (h:∀b∈z,48≤b.toNat∧b.toNat≤57):dots z=0:=by
 unfold dots
 rw[List.length_eq_zero_iff,List.filter_eq_nil_iff]
 intro b hb
 have:=h b hb
 simp
 omega
theorem QF {z:ag} {j:Nat} (h:j<z.length):z.getD j 0∈z:=by
 have:z.getD j 0=z[j]:=by simp[List.getD,h]
 rw[this]
 exact List.getElem_mem h
theorem body_ok (d:fT) (hd:Fm d):∃z:ag,z=body (decDigits d.ao.natAbs) d.exp∧1≤z.length∧z.length≤30∧(∀j,j<z.length→okAt z j)∧48≤(z.getD 0 0).toNat ∧
  ((dots z=0∧((z.getD 0 0).toNat≠48∨z.length=1))∨(dots z=1∧(z.getD (z.length - 1) 0).toNat≠48∧2≤z.length∧((z.getD 0 0).toNat≠48∨(z.getD 1 0).toNat=46))):=by
 have b:=hd.bounds
 refine ⟨_,rfl,?_⟩
 have pO:=dec_all d.ao.natAbs
 have hlen:(decDigits d.ao.natAbs).length≤16:=by rw[decDigits_length]; exact Vd (by omega)
 have SX:1≤(decDigits d.ao.natAbs).length:=by rw[decDigits_length]; exact nDigits_pos _
 by_cases he:0≤d.exp
 ·have hb:body (decDigits d.ao.natAbs) d.exp=decDigits d.ao.natAbs++gk d.exp.toNat:=by unfold body; rw[if_pos he]
  rw[hb]
  have hdig:∀x∈decDigits d.ao.natAbs++gk d.exp.toNat,48≤x.toNat∧x.toNat≤57:=by
   intro x hx
   rcases List.mem_append.1 hx with hx|hx
   ·exact pO x hx
   ·have:=List.eq_of_mem_replicate hx
    subst this; decide
  have hl:(decDigits d.ao.natAbs++gk d.exp.toNat).length=(decDigits d.ao.natAbs).length+d.exp.toNat:=by rw[List.length_append,oz]
  refine ⟨by omega,by omega,fun j hj => .inr (hdig _ (QF hj)),(hdig _ (QF (by omega))).1, .inl ⟨QE hdig,?_⟩⟩
  by_cases h0:d.ao=0
  ·right
   have:=hd.zero h0
   subst this
   show (decDigits 0++gk 0).length=1
   rw[decDigits_one (by omega)]
   rfl
  ·left
   obtain ⟨x,t,e,hx⟩:=Rs d.ao.natAbs (by omega)
   rw[e]
   exact hx
 ·have h0:d.ao≠0:=by
   intro h
   have:=hd.zero h
   rw[this]at he
   exact he (Int.le_refl _)
  obtain ⟨l,hlast⟩:=dec_last d.ao.natAbs
  have hmod:=tmod_abs (hd.nz h0)
  obtain ⟨x0,t0,Z3,hx0⟩:=Rs d.ao.natAbs (by omega)
  generalize hL:decDigits d.ao.natAbs=L at *
  have hb:body L d.exp=(gk (max 0 (1 - d.exp - (L.length:Int))).toNat++L).take (((gk (max 0 (1 - d.exp - (L.length:Int))).toNat++L).length:Int)+d.exp).toNat ++ [46]++(gk (max 0 (1 - d.exp - (L.length:Int))).toNat++L).drop (((gk (max 0 (1 - d.exp - (L.length:Int))).toNat++L).length:Int)+d.exp).toNat:=by
   unfold body; rw[if_neg he]
  rw[hb]
  have tl:(gk (max 0 (1 - d.exp - (L.length:Int))).toNat++L).length=(max 0 (1 - d.exp - (L.length:Int))).toNat+L.length:=by rw[List.length_append,oz]
  have tdig:∀x∈gk (max 0 (1 - d.exp - (L.length:Int))).toNat++L,48≤x.toNat∧x.toNat≤57:=by
   intro x hx
   rcases List.mem_append.1 hx with hx|hx
   ·have:=List.eq_of_mem_replicate hx
    subst this; decide
   ·exact pO x hx
  have tlast:∃l',gk (max 0 (1 - d.exp - (L.length:Int))).toNat++L=l' ++ [UInt8.ofNat (48+d.ao.natAbs % 10)]:=⟨gk (max 0 (1 - d.exp - (L.length:Int))).toNat++l,by rw[hlast,List.append_assoc]⟩
  have tfirst:(gk (max 0 (1 - d.exp - (L.length:Int))).toNat++L).getD 0 0=(if (max 0 (1 - d.exp - (L.length:Int))).toNat=0 then x0 else 48):=by
   rw[Z3]
   cases hz:(max 0 (1 - d.exp - ((x0::t0).length:Int))).toNat with
   | zero=>rfl
   | succ q=>rfl
  generalize hz:(max 0 (1 - d.exp - (L.length:Int))).toNat=z at *
  generalize ht:gk z++L=t at *
  have X9:((t.length:Int)+d.exp).toNat=t.length - d.exp.natAbs:=by omega
  rw[X9]
  have h1:d.exp.natAbs+1≤t.length:=by omega
  have la:(t.take (t.length - d.exp.natAbs)).length=t.length - d.exp.natAbs:=by rw[List.length_take]; omega
  have lb:(t.drop (t.length - d.exp.natAbs)).length=d.exp.natAbs:=by rw[List.length_drop]; omega
  generalize hA:t.take (t.length - d.exp.natAbs)=A at *
  generalize hB:t.drop (t.length - d.exp.natAbs)=B at *
  have hAB:A++B=t:=by rw[←hA,←hB,List.take_append_drop]
  have lz:(A ++ [46]++B).length=A.length+1+B.length:=by simp only[List.length_append,List.length_cons,List.length_nil]
  have dA:∀x∈A,48≤x.toNat∧x.toNat≤57:=fun x hx=>tdig x (by rw[←hAB]; exact List.mem_append_left _ hx)
  have dB:∀x∈B,48≤x.toNat∧x.toNat≤57:=fun x hx=>tdig x (by rw[←hAB]; exact List.mem_append_right _ hx)
  have gA:∀j,j<A.length→(A ++ [46]++B).getD j 0=A.getD j 0:=fun j hj=>by
   rw[List.append_assoc]; exact P1 hj
  have gM:(A ++ [46]++B).getD A.length 0=46:=by rw[List.append_assoc]; exact W3
  have gB:∀j,j<B.length→(A ++ [46]++B).getD (A.length+1+j) 0=B.getD j 0:=fun j hj=>by
   have e:A.length+1+j=(A ++ [46]).length+j:=by simp
   rw[e]
   exact Xc _ _ _
  have he1:1≤d.exp.natAbs:=by omega
  refine ⟨by omega,by omega,fun j hj => ?_,?_, .inr ⟨?_,?_,by omega,?_⟩⟩
  ·rcases Nat.lt_trichotomy j A.length with h|h|h
   ·right; rw[gA j h]; exact dA _ (QF h)
   ·left; subst h; rw[gM]; exact ⟨rfl,by omega,by omega⟩
   ·right
    obtain ⟨q,rfl⟩:∃q,j=A.length+1+q:=⟨j - A.length - 1,by omega⟩
    rw[gB q (by omega)]; exact dB _ (QF (by omega))
  ·rw[gA 0 (by omega)]; exact (dA _ (QF (by omega))).1
  ·rw[dots_app,dots_app,QE dA,QE dB]; rfl
  ·have e:(A ++ [46]++B).length - 1=A.length+1+(B.length - 1):=by omega
   rw[e,gB _ (by omega)]
   obtain ⟨l',hl'⟩:=tlast
   have hBl:B.getD (B.length - 1) 0=UInt8.ofNat (48+d.ao.natAbs % 10):=by
    have e2:t.getD (t.length - 1) 0=UInt8.ofNat (48+d.ao.natAbs % 10):=by
     rw[hl']
     have:(l' ++ [UInt8.ofNat (48+d.ao.natAbs % 10)]).length - 1=l'.length:=by simp
     rw[this]
     exact W3
    have e3:t.getD (t.length - 1) 0=B.getD (B.length - 1) 0:=by
     rw[←hAB]
     have:(A++B).length - 1=A.length+(B.length - 1):=by rw[List.length_append]; omega
     rw[this]
     exact Xc _ _ _
    rw[←e3,e2]
   rw[hBl,gV _ (by omega)]
   omega
  ·have hA0:A.getD 0 0=t.getD 0 0:=by rw[←hAB]; exact (P1 (by omega)).symm
   rw[gA 0 (by omega),hA0,tfirst]
   by_cases hzz:z=0
   ·left; rw[if_pos hzz]; exact hx0
   ·right
    have:A.length=1:=by omega
    have e:(A ++ [46]++B).getD 1 0=46:=by rw[←this]; exact gM
    rw[e]; rfl
theorem Yl (c:UInt8):∀l:ag,Go.Lib.indexByte l c<0↔l.contains c=false
 | []=>by simp[Go.Lib.indexByte]
 | x::l=>by
  have ih:=Yl c l
  have hg:=Go.Lib.indexByte_ge l c
  unfold Go.Lib.indexByte
  rw[List.contains_cons]
  by_cases h:x=c
  ·subst h; simp
  ·have h2:(c==x)=false:=by rw[beq_eq_false_iff_ne]; exact fun e=>h e.symm
   rw[h2,Bool.false_or,←ih]
   split
   ·rename_i h3; exact (h (beq_iff_eq.1 h3)).elim
   ·split
    ·rename_i h4
     have:=beq_iff_eq.1 h4
     omega
    ·rename_i h4
     have:¬Go.Lib.indexByte l c = -1:=fun e=>h4 (beq_iff_eq.2 e)
     omega
def sZ (L3 s:ag):Nat×ag:=match s with | []=>(0, [])|b::t=>if L3.contains b then (b.toNat,t)else (0,b::t)
theorem Hh {R:Type} (L3 s:ag) (hs:s.length≤4000000000) (k:Int→ag→Option R):aU L3 s k=k ((sZ L3 s).1:Int) (sZ L3 s).2:=by
 have e:aU L3 s k=kE L3 s k:=rfl
 rw[e]
 unfold kE
 cases s with
 | nil=>rfl
 | cons b t =>
  simp only[List.length_cons]at hs
  have jE:((b::t:ag)==([]:ag))=false:=rfl
  have hg:((b::t:ag).getD 0 0)=b:=rfl
  have hd:((b::t:ag).drop 1).take (((b::t:ag).length:Int).toNat - 1)=t:=by
   rw[Int.toNat_natCast,List.drop_succ_cons,List.drop_zero,List.length_cons,Nat.add_sub_cancel,List.take_length]
  have hi:EC L3 ((b.toNat:Nat):Int)=Go.Lib.indexByte L3 b:=by
   unfold EC
   rw[Int.toNat_natCast]
   simp
  have hl:(b::t:ag).length=t.length+1:=rfl
  rw[jE,cond_false,hg,hd,hi,hl,ay (aQ (by omega))]
  unfold sZ
  cases hc:L3.contains b with
  | false =>
   rw[aQ ((Yl b L3).2 hc),cond_true]
   simp only[hc,Bool.false_eq_true,if_false]
   rfl
  | true =>
   have:¬Go.Lib.indexByte L3 b<0:=fun h=>by rw[(Yl b L3).1 h]at hc; cases hc
   rw[cu this,cond_false,ay (aQ (by omega)),ay (by rw[aQ (show (0:Int)≤((t.length+1:Nat):Int) by omega),aQ (by omega)]; rfl),ay (aQ (by omega))]
   simp only[hc,if_true]
def digS:ag := [48,49,50,51,52,53,54,55,56,57]
def nH (b:UInt8):Prop:=48≤b.toNat∧b.toNat≤57
theorem digS_all:∀n:Fin 256,digS.contains (UInt8.ofNat n.val)=decide (48≤n.val∧n.val≤57):=by decide +kernel
theorem digS_ok (b:UInt8):digS.contains b=decide (48≤b.toNat∧b.toNat≤57):=by
 have:=digS_all ⟨b.toNat,UInt8.toNat_lt b⟩
 simpa using this
theorem Rt (p:UInt8→Bool):∀(a r:ag),(∀x∈a,p x=true)→(a++r).dropWhile p=r.dropWhile p
 | [],r,_=>rfl
 | x::a,r,h=>by
  rw[List.cons_append,List.dropWhile_cons,h x (by simp),if_pos rfl]
  exact Rt p a r fun y hy=>h y (by simp[hy])
theorem TB (p:UInt8→Bool) (r:ag) (h:∀b t,r=b::t→p b=false):r.dropWhile p=r:=by
 cases r with
 | nil=>rfl
 | cons b t=>rw[List.dropWhile_cons,h b t rfl]; rfl
theorem Wl {R:Type} (a r:ag) (ha:∀x∈a,nH x) (hr:∀b t,r=b::t→¬nH b) (hl:(a++r).length≤4000000000) (k:ag→ag→Option R):aR (a++r) k=k a r:=by
 have e:aR (a++r) k=jz (a++r) k:=rfl
 rw[e]
 unfold jz
 have ht:bx (a++r) ([48,49,50,51,52,53,54,55,56,57]:ag)=r:=by
  unfold bx
  have h1:=Rt (fun x=>digS.contains x) a r (fun x hx=>by rw[digS_ok]; exact aQ (ha x hx))
  have h2:=TB (fun x=>digS.contains x) r (fun b t hb=>by rw[digS_ok]; exact cu (hr b t hb))
  exact h1.trans h2
 rw[ht]
 have hlen:(a++r).length=a.length+r.length:=List.length_append
 have hw:IntKind.i64.wrap (((a++r).length:Int) - (r.length:Int))=(a.length:Int):=by rw[hlen,cK (by omega) (by omega)]; omega
 rw[hw,ay (by rfl),ay (by rw[aQ (by omega),aQ (by omega)]; rfl),ay (aQ (by omega)),List.drop_zero,Int.toNat_natCast,Nat.sub_zero,List.take_left]
theorem parse_ok {R:Type} (neg:Bool) (I F X:ag) (pt:Bool) (ev:Int) (hI:∀x∈I,nH x) (hI0:I ≠ []) (hI1:1<I.length→(I.getD 0 0).toNat≠48) (hF:∀x∈F,nH x) (hF0:pt=true→F ≠ []) (hF1:pt=false→F = [])
  (hX:(X = []∧ev=0)∨∃b Y,X=b::Y∧(b=101∨b=69)∧∀f:Int→Bool→ag→Option R,bA Y f=f ev true []) (hev : -1000000≤ev∧ev≤1000000)
  (hlen:((if neg then [45]else [])++(I++((if pt then 46::F else [])++X))).length≤400)
  (hsh:(cL (bx (I++F) [48]) [48]).length≤18) (k:fT→Bool→Option R) :
  er ((if neg then [45]else [])++(I++((if pt then 46::F else [])++X))) k =
   bk (if neg then IntKind.i64.wrap (0 - eG (48::cL (bx (I++F) [48]) [48]))else eG (48::cL (bx (I++F) [48]) [48])) (-(F.length:Int)+ev+(((bx (I++F) [48]).length:Int) - ((cL (bx (I++F) [48]) [48]).length:Int))) k:=by
 generalize hS:(if neg then [45]else [])++(I++((if pt then 46::F else [])++X))=s at *
 have e:er s k=pJ bk aU aR bA s k:=rfl
 rw[e]
 unfold pJ
 -- the pieces
 obtain ⟨i0,It,hIe⟩:∃b t,I=b::t:=by cases I with|nil=>exact (hI0 rfl).elim|cons b t=>exact ⟨b,t,rfl⟩
 have hi0:=hI i0 (by rw[hIe]; simp)
 have hXh:∀b t,X=b::t→¬nH b∧b.toNat≠46:=by
  intro b t hb
  rcases hX with ⟨rfl,_⟩|⟨c,Y,rfl,hc,_⟩
  ·cases hb
  ·cases hb
   rcases hc with rfl|rfl <;> exact ⟨by unfold nH; decide,by decide⟩
 have hs1:sZ [45] s=(if neg then 45 else 0,I++((if pt then 46::F else [])++X)):=by
  rw[←hS]
  cases neg with
  | true=>rfl
  | false =>
   rw[hIe]
   have:([45]:ag).contains i0=false:=by
    have:i0≠45:=by rintro rfl; exact absurd hi0.1 (by decide)
    simp[this]
   simp only[Bool.false_eq_true,if_false,List.nil_append,List.cons_append,sZ,this]
 have hsl:s.length≤400:=hlen
 have Mo:s.length=(if neg then 1 else 0)+(I.length+((if pt then F.length+1 else 0)+X.length)):=by
  rw[←hS]
  cases neg <;> cases pt <;> simp <;> omega
 have hFl:F.length≤400:=by
  cases pt with
  | true=>simp at Mo; omega
  | false=>rw[hF1 rfl]; simp
 have hIl:I.length≤400:=by omega
 have hXl:X.length≤400:=by omega
 rw[Hh _ _ (by omega),hs1]
 simp only
 have hPh:∀b t,(if pt then 46::F else [])++X=b::t→¬nH b:=by
  intro b t hb
  cases pt with
  | true=>simp at hb; rw[←hb.1]; unfold nH; decide
  | false=>exact (hXh b t (by simpa using hb)).1
 have hl2:(I++((if pt then 46::F else [])++X)).length≤4000000000:=by
  have:(I++((if pt then 46::F else [])++X)).length=I.length+((if pt then F.length+1 else 0)+X.length):=by cases pt <;> simp <;> omega
  omega
 rw[Wl I _ hI hPh hl2]
 have jE:(I==([]:ag))=false:=by rw[beq_eq_false_iff_ne]; exact hI0
 rw[cu (show ¬(s.length:Int)>400 by omega),cond_false,jE,cond_false]
 have q48:(((I.getD 0 0).toNat:Int)==48)=decide ((I.getD 0 0).toNat=48):=eqI _ 48
 -- the rest, behind the first test
 have drop1:∀x:Option R,(bif (decide ((I.length:Int)>1))then (cx (decide ((0:Int)<I.length)) (bif (((I.getD 0 0).toNat:Int)==48)then (k ⟨0,0⟩ false)else x))else x)=x:=by
  intro x
  by_cases h:1<I.length
  ·rw[aQ (show (I.length:Int)>1 by omega),cond_true,ay (aQ (by omega)),q48,cu (hI1 h),cond_false]
  ·rw[cu (show ¬(I.length:Int)>1 by omega),cond_false]
 rw[drop1]
 generalize hA:I++F=all at *
 have pO:all.length≤800:=by rw[←hA,List.length_append]; omega
 have htl:(bx all [48]).length≤all.length:=BF _ _
 have lone:([48]:ag).length=1:=rfl
 have hc:(([48]:ag)++(cL (bx all ([48]:ag)) ([48]:ag)))=48::cL (bx all [48]) [48]:=rfl
 have hbe:((([]:ag)==([]:ag)))=true:=rfl
 have hs2:decide ((48::cL (bx all [48]) [48]:ag).length≤281474976710656)=true:=aQ (by simp only[List.length_cons]; omega)
 have w0:IntKind.i64.wrap (((bx all [48]).length:Int) - ((cL (bx all [48]) [48]).length:Int))=((bx all [48]).length:Int) - ((cL (bx all [48]) [48]).length:Int):=cK (by omega) (by omega)
 have q1:decide (1+(cL (bx all [48]) [48]).length≤9223372036854775807)=true:=aQ (by omega)
 have q2:decide (((cL (bx all [48]) [48]).length:Int)>18)=false:=cu (by omega)
 have q3:(wB ([48]:ag)&&decide (([48]:ag).length<4294967281))=true:=rfl
 have qn:(((if neg then 45 else 0:Nat):Int) != 0)=neg:=by cases neg <;> rfl
 have sX:sZ [101,69] X=match X with | []=>(0, [])|b::Y=>(b.toNat,Y):=by
  rcases hX with ⟨rfl,_⟩|⟨b,Y,rfl,hb,_⟩
  ·rfl
  ·rcases hb with rfl|rfl <;> rfl
 cases pt with
 | false =>
  have hFe:=hF1 rfl
  subst hFe
  rw[List.append_nil]at hA
  subst hA
  have s46:sZ [46] X=(0,X):=by
   rcases hX with ⟨rfl,_⟩|⟨b,Y,rfl,hb,_⟩
   ·rfl
   ·rcases hb with rfl|rfl <;> rfl
  simp only[Bool.false_eq_true,if_false,List.nil_append]
  rw[Hh _ _ (by omega),s46]
  have z0:(((0:Nat):Int) != 0)=false:=rfl
  simp only[z0,cond_false]
  rw[Hh _ _ (by omega),sX]
  rcases hX with ⟨rfl,rfl⟩|⟨b,Y,rfl,hb,hE⟩
  ·simp only[z0,cond_false,q3,ay rfl,hbe,Bool.not_true,q2,q1,hc,hs2,Bool.cond_self,w0,qn]
   rw[cK (n:=0+(((bx I [48]).length:Int) - ((cL (bx I [48]) [48]).length:Int))) (by omega) (by omega)]
   have e0 : -((([]:ag).length:Nat):Int)+0=0:=rfl
   rw[e0]
   cases neg <;> rfl
  ·have zb:((b.toNat:Int) != 0)=true:=by rcases hb with rfl|rfl <;> rfl
   simp only[zb,cond_true,hE,Bool.not_true,cond_false,q3,ay rfl,hbe,q2,q1,hc,hs2,Bool.cond_self,w0,qn]
   rw[cK (n:=0+ev) (by omega) (by omega),cK (n:=0+ev+(((bx I [48]).length:Int) - ((cL (bx I [48]) [48]).length:Int))) (by omega) (by omega)]
   have e0 : -((([]:ag).length:Nat):Int)+ev=0+ev:=rfl
   rw[e0]
   cases neg <;> rfl
 | true =>
  have hFe:=hF0 rfl
  simp only[if_true,List.cons_append,List.nil_append]
  have s46:sZ [46] (46::(F++X))=(46,F++X):=rfl
  have lFX:(F++X).length=F.length+X.length:=List.length_append
  rw[Hh _ _ (by simp only[List.length_cons]; omega),s46]
  have z46:(((46:Nat):Int) != 0)=true:=rfl
  have z0:(((0:Nat):Int) != 0)=false:=rfl
  simp only[z46,cond_true]
  rw[Wl F X hF (fun b t hb=>(hXh b t hb).1) (by omega)]
  have hFn:(F==([]:ag))=false:=by rw[beq_eq_false_iff_ne]; exact hFe
  rw[hFn,cond_false,ay (aQ (by omega)),hA,cK (n:=0 - (F.length:Int)) (by omega) (by omega)]
  rw[Hh _ _ (by omega),sX]
  rcases hX with ⟨rfl,rfl⟩|⟨b,Y,rfl,hb,hE⟩
  ·simp only[z0,cond_false,q3,ay rfl,hbe,Bool.not_true,q2,q1,hc,hs2,Bool.cond_self,w0,qn]
   rw[cK (n:=0 - (F.length:Int)+(((bx all [48]).length:Int) - ((cL (bx all [48]) [48]).length:Int))) (by omega) (by omega)]
   have e0 : -(F.length:Int)+0=0 - (F.length:Int):=by omega
   rw[e0]
   cases neg <;> rfl
  ·have zb:((b.toNat:Int) != 0)=true:=by rcases hb with rfl|rfl <;> rfl
   simp only[zb,cond_true,hE,Bool.not_true,cond_false,q3,ay rfl,hbe,q2,q1,hc,hs2,Bool.cond_self,w0,qn]
   rw[cK (n:=0 - (F.length:Int)+ev) (by omega) (by omega),cK (n:=0 - (F.length:Int)+ev+(((bx all [48]).length:Int) - ((cL (bx all [48]) [48]).length:Int))) (by omega) (by omega)]
   have e0 : -(F.length:Int)+ev=0 - (F.length:Int)+ev:=by omega
   rw[e0]
   cases neg <;> rfl
theorem uint_app:∀(l r:ag) (acc v:Nat),parseUint10 acc l = .ok v→parseUint10 acc (l++r)=parseUint10 v r
 | [],r,acc,v,h=>by
  simp only[parseUint10]at h
  injection h with h
  subst h
  rfl
 | c::l,r,acc,v,h=>by
  simp only[parseUint10,List.cons_append]at h ⊢
  split at h
  ·rename_i h1
   rw[if_pos h1]
   split at h
   ·cases h
   ·rename_i h2
    rw[if_neg h2]
    split at h
    ·cases h
    ·rename_i h3
     rw[if_neg h3]
     exact uint_app l r _ v h
  ·cases h
theorem uint_dec (u:Nat) (hu:u<1000000000000000000):parseUint10 0 (decDigits u) = .ok u:=by
 induction u using Nat.strongRecOn with
 | _ u ih =>
  by_cases h:u<10
  ·rw[decDigits,dif_pos h]
   simp only[parseUint10,gV (48+u) (by omega)]
   rw[if_pos (by omega),if_neg (by omega),if_neg (by omega)]
   congr 1
   omega
  ·rw[decDigits,dif_neg h,uint_app _ _ _ _ (ih (u / 10) (by omega) (by omega))]
   simp only[parseUint10,gV (48+u % 10) (by omega)]
   rw[if_pos (by omega),if_neg (by omega),if_neg (by omega)]
   congr 1
   omega
theorem atoi_dec (u:Nat) (hu:u<1000000000000000000):eG (48::decDigits u)=(u:Int):=by
 have h1:parseMag (48::decDigits u) = .ok u:=by
  unfold parseMag
  rw[if_neg (by simp)]
  have:=uint_dec u hu
  simp only[parseUint10]
  exact this
 have h2:atoiAll (48::decDigits u) = .ok (u:Int):=by
  unfold atoiAll
  simp only
  have e:(if (48:UInt8).toNat=43∨(48:UInt8).toNat=45 then decDigits u else 48::decDigits u)=48::decDigits u:=if_neg (by decide)
  rw[e,h1]
  simp only
  rw[if_neg (by omega),if_neg (fun h=>absurd h.1 (by decide)),if_neg (by decide)]
 unfold eG
 rw[h2]
theorem trimL_z (n:Nat) (r:ag) (hr:∀b t,r=b::t→b≠48):bx (gk n++r) [48]=r:=by
 unfold bx
 rw[Rt _ _ _ (fun x hx=>by have:=List.eq_of_mem_replicate hx; subst this; rfl)]
 exact TB _ _ fun b t hb=>by simp[hr b t hb]
theorem trimR_z (l:ag) (n:Nat) (b:UInt8) (hb:b≠48):cL (l ++ [b]++gk n) [48]=l ++ [b]:=by
 unfold cL
 rw[List.reverse_append,List.reverse_append]
 have e:(gk n).reverse=gk n:=List.reverse_replicate
 rw[e,Rt _ _ _ (fun x hx=>by have:=List.eq_of_mem_replicate hx; subst this; rfl)]
 have:List.dropWhile (fun x=>([48]:ag).contains x) (([b]:ag).reverse++l.reverse) = [b]++l.reverse:=TB _ _ fun c t hc=>by
  have:b=c:=by
   have:=congrArg List.head? hc
   simpa using this
  subst this
  simp[hb]
 rw[this,List.reverse_append,List.reverse_reverse]
 rfl
theorem trims {u:Nat} (hu:u % 10≠0) (a b:Nat):bx (gk a++(decDigits u++gk b)) [48]=decDigits u++gk b∧cL (decDigits u++gk b) [48]=decDigits u:=by
 obtain ⟨x,t,e,hx⟩:=Rs u (by omega)
 obtain ⟨l,hl⟩:=dec_last u
 constructor
 ·apply trimL_z
  intro c t' hc
  rw[e]at hc
  have:x=c:=by
   have:=congrArg List.head? hc
   simpa using this
  subst this
  rintro rfl
  exact hx rfl
 ·rw[hl]
  apply trimR_z
  intro h
  have:=congrArg UInt8.toNat h
  rw[gV _ (by omega)]at this
  have e48:(48:UInt8).toNat=48:=rfl
  omega
theorem Wm (d:fT) (hd:Fm d) (h0:d.ao≠0):∃(I F:ag) (pt:Bool) (a b:Nat),XT d=(if decide (d.ao<0)then [45]else [])++(I++(if pt then 46::F else [])) ∧
  I++F=gk a++(decDigits d.ao.natAbs++gk b)∧I ≠ []∧(1<I.length→(I.getD 0 0).toNat≠48)∧(pt=true→F ≠ [])∧(pt=false→F = [])∧(F.length:Int)=(b:Int) - d.exp∧I.length+F.length≤40∧(∀x∈I,nH x)∧(∀x∈F,nH x):=by
 have bd:=hd.bounds
 have pO:=dec_all d.ao.natAbs
 have hlen:(decDigits d.ao.natAbs).length≤16:=by rw[decDigits_length]; exact Vd (by omega)
 have SX:1≤(decDigits d.ao.natAbs).length:=by rw[decDigits_length]; exact nDigits_pos _
 obtain ⟨x0,t0,Z3,hx0⟩:=Rs d.ao.natAbs (by omega)
 have hsg:(if d.ao<0 then ([45]:ag)else [])=if decide (d.ao<0)then [45]else []:=by by_cases h:d.ao<0 <;> simp[h]
 unfold XT
 rw[hsg]
 generalize decDigits d.ao.natAbs=L at *
 by_cases he:0≤d.exp
 ·refine ⟨L++gk d.exp.toNat, [],false,0,d.exp.toNat,?_,by simp[gk],?_,fun _ => ?_,by simp,by simp,by simp; omega,?_,?_,by simp⟩
  ·unfold body; rw[if_pos he]; simp
  ·rw[Z3]; simp
  ·rw[Z3]; exact hx0
  ·rw[List.length_append,oz,List.length_nil]; omega
  ·intro x hx
   rcases List.mem_append.1 hx with hx|hx
   ·exact pO x hx
   ·have:=List.eq_of_mem_replicate hx
    subst this; unfold nH; decide
 ·have hz:∃z:Nat,(max 0 (1 - d.exp - (L.length:Int))).toNat=z:=⟨_,rfl⟩
  obtain ⟨z,hz⟩:=hz
  have tl:(gk z++L).length=z+L.length:=by rw[List.length_append,oz]
  have X9:(((gk z++L).length:Int)+d.exp).toNat=(gk z++L).length - d.exp.natAbs:=by omega
  have h1:d.exp.natAbs+1≤(gk z++L).length:=by omega
  have tdig:∀x∈gk z++L,nH x:=by
   intro x hx
   rcases List.mem_append.1 hx with hx|hx
   ·have:=List.eq_of_mem_replicate hx
    subst this; unfold nH; decide
   ·exact pO x hx
  have tfirst:z=0→((gk z++L).getD 0 0).toNat≠48:=by
   rintro rfl
   rw[Z3]
   exact hx0
  refine ⟨(gk z++L).take ((gk z++L).length - d.exp.natAbs),(gk z++L).drop ((gk z++L).length - d.exp.natAbs),true,z,0,?_,?_,?_,?_,fun _ => ?_,(fun h=>by cases h),?_,?_,?_,?_⟩
  ·unfold body
   rw[if_neg he]
   simp only[hz,X9,if_true]
   simp
  ·rw[List.take_append_drop]; simp[gk]
  ·intro e
   have:=congrArg List.length e
   rw[List.length_take,List.length_nil]at this
   omega
  ·intro hI
   rw[List.length_take]at hI
   have e:((gk z++L).take ((gk z++L).length - d.exp.natAbs)).getD 0 0=(gk z++L).getD 0 0:=by
    have:=(P1 (s:=(gk z++L).take ((gk z++L).length - d.exp.natAbs)) (t:=(gk z++L).drop ((gk z++L).length - d.exp.natAbs)) (i:=0) (by rw[List.length_take]; omega)).symm
    rw[List.take_append_drop]at this
    exact this
   rw[e]
   exact tfirst (by omega)
  ·intro e
   have:=congrArg List.length e
   rw[List.length_drop,List.length_nil]at this
   omega
  ·rw[List.length_drop]; omega
  ·rw[List.length_take,List.length_drop]; omega
  ·intro x hx; exact tdig x (List.mem_of_mem_take hx)
  ·intro x hx; exact tdig x (List.mem_of_mem_drop hx)
theorem parse_zero {R:Type} (k:fT→Bool→Option R):er [48] k=k ⟨0,0⟩ true:=by kernel_rfl
theorem Z4:XT ⟨0,0⟩ = [48]:=by
 show []++body (decDigits 0) 0 = [48]
 rw[decDigits_one (by omega)]
 rfl
theorem parse_prt {R:Type} {d:fT} (hd:Fm d) (h0:d.ao≠0) (X:ag) (ev:Int) (hX:(X = []∧ev=0)∨∃b Y,X=b::Y∧(b=101∨b=69)∧∀f:Int→Bool→ag→Option R,bA Y f=f ev true [])
  (hev : -1000000≤ev∧ev≤1000000) (hXl:X.length≤100) (k:fT→Bool→Option R):er (XT d++X) k=bk d.ao (d.exp+ev) k:=by
 have bd:=hd.bounds
 obtain ⟨I,F,pt,a,b,e1,e2,i0,i1,f0,f1,fl,il,iD,fD⟩:=Wm d hd h0
 obtain ⟨t1,t2⟩:=trims (u:=d.ao.natAbs) (tmod_abs (hd.nz h0)) a b
 have hlen:(decDigits d.ao.natAbs).length≤16:=by rw[decDigits_length]; exact Vd (by omega)
 have key:=parse_ok (R:=R) (decide (d.ao<0)) I F X pt ev iD i0 i1 fD f0 f1 hX hev (by
  cases hd2:decide (d.ao<0) <;> cases pt <;> simp <;> omega) (by rw[e2,t1,t2]; omega) k
 have e3:XT d++X=(if decide (d.ao<0)then [45]else [])++(I++((if pt then 46::F else [])++X)):=by rw[e1]; simp only[List.append_assoc]
 rw[e3,key,e2,t1,t2,atoi_dec _ (by omega)]
 have e4:(if decide (d.ao<0)=true then IntKind.i64.wrap (0 - (d.ao.natAbs:Int))else (d.ao.natAbs:Int))=d.ao:=by
  by_cases h:d.ao<0
  ·rw[if_pos (by rw[aQ h]),cK (by omega) (by omega)]; omega
  ·rw[if_neg (by rw[cu h]; simp)]; omega
 have e5 : -(F.length:Int)+ev+(((decDigits d.ao.natAbs++gk b).length:Int) - ((decDigits d.ao.natAbs).length:Int))=d.exp+ev:=by
  rw[List.length_append,oz]
  omega
 rw[e4,e5]
theorem make_same {R:Type} {d:fT} (hd:Fm d) (h0:d.ao≠0) (k:fT→Bool→Option R):bk d.ao d.exp k=k d true:=by
 have bd:=hd.bounds
 obtain ⟨r,hr,hm⟩:=make_any (R:=R) d.ao d.exp (by unfold yo; omega) (by omega) (by omega)
 have e5:d.ao=d.ao*10 ^ 0:=by simp
 rw[e5]at hr
 rw[hm,made_same hd h0 (j:=0) (x:=d.exp) (by omega) hr]
theorem prt_len (d:fT) (hd:Fm d):(XT d).length≤40:=by
 obtain ⟨z,hz,z1,z2,_⟩:=body_ok d hd
 unfold XT
 rw[←hz,List.length_append]
 split <;> simp <;> omega
abbrev isD (b:UInt8):Bool:=digS.contains b
theorem isD_ok (b:UInt8):isD b=decide (48≤b.toNat∧b.toNat≤57):=digS_ok b
abbrev takeD (s:ag):ag:=s.takeWhile isD
abbrev QG (s:ag):ag:=s.dropWhile isD
theorem Ih (s:ag):∀x∈takeD s,nH x:=fun x hx=>by
 have h:=List.all_takeWhile (l:=s) (p:=isD)
 have:=List.all_eq_true.1 h x hx
 rw[isD_ok]at this
 exact of_decide_eq_true (p:=48≤x.toNat∧x.toNat≤57) this
theorem drop_dig (s:ag):∀b t,QG s=b::t→¬nH b:=fun b t h hb=>by
 have h2:isD b=false:=by
  have:=List.head?_dropWhile_not isD s
  have e:s.dropWhile isD=b::t:=h
  rw[e]at this
  simpa using this
 rw[isD_ok,aQ (p:=48≤b.toNat∧b.toNat≤57) hb]at h2
 cases h2
theorem take_le (s:ag):(takeD s).length≤s.length:=by
 have:=congrArg List.length (List.takeWhile_append_dropWhile (p:=isD) (l:=s))
 rw[List.length_append]at this
 unfold takeD
 omega
theorem dropD_le (s:ag):(QG s).length≤s.length:=BF _ _
theorem TC {R:Type} (s:ag) (hl:s.length≤4000000000) (k:ag→ag→Option R):aR s k=k (takeD s) (QG s):=by
 have e:takeD s++QG s=s:=List.takeWhile_append_dropWhile
 have h:=Wl (R:=R) (takeD s) (QG s) (Ih s) (drop_dig s) (by rw[e]; exact hl) k
 rw[e]at h
 exact h
theorem Vj (g s:ag):(sZ g s).2.length≤s.length:=by
 unfold sZ
 cases s with
 | nil=>simp
 | cons b t=>simp only; split <;> simp
def uH:ag→Nat→Nat
 | [],v=>v
 | b::s,v=>uH s (10*v+(b.toNat - 48))
theorem valD_app:∀(a b:ag) (v:Nat),uH (a++b) v=uH b (uH a v)
 | [],_,_=>rfl
 | x::a,b,v=>valD_app a b _
theorem valD_ge:∀(s:ag) (v:Nat),v*10 ^ s.length≤uH s v
 | [],v=>by simp[uH]
 | b::s,v=>by
  have:=valD_ge s (10*v+(b.toNat - 48))
  have h2:10*v*10 ^ s.length≤(10*v+(b.toNat - 48))*10 ^ s.length:=Nat.mul_le_mul_right _ (by omega)
  have e:v*10 ^ (b::s).length=10*v*10 ^ s.length:=by rw[List.length_cons,Nat.pow_succ,Nat.mul_comm 10,Nat.mul_assoc,Nat.mul_comm 10]
  simp only[uH]
  omega
theorem valD_self (s:ag) (v:Nat):v≤uH s v:=Nat.le_trans (Nat.le_mul_of_pos_right _ (Nat.pos_of_ne_zero (by simp))) (valD_ge s v)
theorem valD_lt:∀(s:ag) (v:Nat),(∀x∈s,nH x)→uH s v<(v+1)*10 ^ s.length
 | [],v,_=>by simp[uH]
 | b::s,v,h=>by
  have hb:=h b (by simp)
  unfold nH at hb
  have:=valD_lt s (10*v+(b.toNat - 48)) fun x hx=>h x (by simp[hx])
  have h2:(10*v+(b.toNat - 48)+1)*10 ^ s.length≤((v+1)*10)*10 ^ s.length:=Nat.mul_le_mul_right _ (by omega)
  have e:(v+1)*10 ^ (b::s).length=((v+1)*10)*10 ^ s.length:=by rw[List.length_cons,Nat.pow_succ,Nat.mul_assoc,Nat.mul_comm 10]
  simp only[uH]
  omega
theorem uint_dig:∀(D:ag) (acc:Nat),(∀x∈D,nH x) →
  (uH D acc<18446744073709551616→parseUint10 acc D = .ok (uH D acc))∧(acc<18446744073709551616→18446744073709551616≤uH D acc→parseUint10 acc D = .range)
 | [],acc,_=>⟨fun _=>rfl,fun h1 h2=>by simp only[uH]at h2; omega⟩
 | b::D,acc,h=>by
  have hb:=h b (by simp)
  unfold nH at hb
  obtain ⟨i1,i2⟩:=uint_dig D (10*acc+(b.toNat - 48)) fun x hx=>h x (by simp[hx])
  have hs:=valD_self D (10*acc+(b.toNat - 48))
  have e:acc*10+(b.toNat - 48)=10*acc+(b.toNat - 48):=by omega
  simp only[uH,parseUint10]
  rw[if_pos hb,e]
  refine ⟨fun h1 => ?_,fun h1 h2 => ?_⟩
  ·rw[if_neg (by omega),if_neg (by omega)]
   exact i1 h1
  ·by_cases g1:1844674407370955162≤acc
   ·rw[if_pos g1]
   ·rw[if_neg g1]
    by_cases g2:18446744073709551616≤10*acc+(b.toNat - 48)
    ·rw[if_pos g2]
    ·rw[if_neg g2]
     exact i2 (by omega) h2
theorem atoi_dig (D:ag) (hD:∀x∈D,nH x) (h0:D ≠ []) :
  (uH D 0<9223372036854775808→atoiAll D = .ok (uH D 0:Int))∧(9223372036854775808≤uH D 0→atoiAll D = .range):=by
 obtain ⟨i1,i2⟩:=uint_dig D 0 hD
 cases D with
 | nil=>exact (h0 rfl).elim
 | cons b D =>
  have hb:=hD b (by simp)
  unfold nH at hb
  have e:(if b.toNat=43∨b.toNat=45 then D else b::D)=b::D:=if_neg (by omega)
  have m:parseMag (b::D)=parseUint10 0 (b::D):=by unfold parseMag; rw[if_neg (by simp)]
  unfold atoiAll
  simp only
  rw[e,m]
  refine ⟨fun h => ?_,fun h => ?_⟩
  ·rw[i1 (by omega)]
   simp only
   rw[if_neg (by omega),if_neg (fun h2=>absurd h2.1 (by omega)),if_neg (by omega)]
  ·by_cases h2:uH (b::D) 0<18446744073709551616
   ·rw[i1 h2]
    simp only
    rw[if_pos ⟨by omega,h⟩]
   ·rw[i2 (by omega) (by omega)]
def Z5 (X:ag):Int×Bool×ag :=
 let q:=sZ [43,45] X
 let v:Int:=min (uH (takeD q.2) 0:Int) 1000000
 (if q.1=45 then -v else v, !(takeD q.2 == []),QG q.2)
theorem exp_any {R:Type} (X:ag) (hl:X.length≤4000000000) (k:Int→Bool→ag→Option R):bA X k=k (Z5 X).1 (Z5 X).2.1 (Z5 X).2.2:=by
 have e:bA X k=iR aU aR X k:=rfl
 rw[e]
 unfold iR
 have h1:=Vj [43,45] X
 rw[Hh _ _ hl]
 unfold Z5
 simp only
 generalize sZ [43,45] X=q at *
 rw[TC _ (by omega)]
 have h2:=take_le q.2
 have hD:=Ih q.2
 generalize takeD q.2=D at *
 generalize QG q.2=r at *
 have q45:((q.1:Int)==45)=decide (q.1=45):=eqI _ 45
 rw[ay (aQ (by omega)),q45]
 by_cases h0:D = []
 ·subst h0
  have a1:wC []=false:=rfl
  have a2:eG []=0:=rfl
  rw[a1,a2]
  simp only[cond_false,uH]
  by_cases hq:q.1=45
  ·rw[aQ hq,if_pos hq]; rfl
  ·rw[cu hq,if_neg hq]; rfl
 ·have jE:(D==([]:ag))=false:=by rw[beq_eq_false_iff_ne]; exact h0
  obtain ⟨i1,i2⟩:=atoi_dig D hD h0
  rw[jE]
  simp only[Bool.not_false,cond_true]
  by_cases hv:uH D 0<9223372036854775808
  ·have a1:wC D=true:=by unfold wC; rw[i1 hv]
   have a2:eG D=(uH D 0:Int):=by unfold eG; rw[i1 hv]
   rw[a1,a2,cond_true]
   by_cases hb:(uH D 0:Int)>1000000
   ·rw[aQ hb,cond_true,Int.min_eq_right (by omega)]
    by_cases hq:q.1=45
    ·rw[aQ hq,if_pos hq]; rfl
    ·rw[cu hq,if_neg hq]; rfl
   ·rw[cu hb,cond_false,Int.min_eq_left (by omega),cK (by omega) (by omega)]
    by_cases hq:q.1=45
    ·rw[aQ hq,if_pos hq,cond_true]; congr 1; omega
    ·rw[cu hq,if_neg hq,cond_false]
  ·have a1:wC D=false:=by unfold wC; rw[i2 (by omega)]
   rw[a1,cond_false,Int.min_eq_right (by omega)]
   by_cases hq:q.1=45
   ·rw[aQ hq,if_pos hq]; rfl
   ·rw[cu hq,if_neg hq]; rfl
theorem trimL_head (a:ag):∀b t,bx a [48]=b::t→b≠48:=fun b t h hb=>by
 have h2:=List.head?_dropWhile_not (([48]:ag).contains ·) a
 have e:a.dropWhile (([48]:ag).contains ·)=b::t:=h
 rw[e]at h2
 subst hb
 exact absurd (show (([48]:ag).contains 48)=false from h2) (by decide)
theorem trimL_sub (a:ag):∀x∈bx a [48],x∈a:=fun x hx=>(List.dropWhile_sublist _).subset hx
theorem trimR_cases (a:ag):cL a [48] = []∨∃l b,cL a [48]=l ++ [b]∧b≠48:=by
 unfold cL
 have h2:=List.head?_dropWhile_not (([48]:ag).contains ·) a.reverse
 cases h:a.reverse.dropWhile (([48]:ag).contains ·)with
 | nil=>exact .inl rfl
 | cons b t =>
  rw[h]at h2
  refine .inr ⟨t.reverse,b,by simp,fun hb => ?_⟩
  subst hb
  exact absurd (show (([48]:ag).contains 48)=false from h2) (by decide)
theorem trimR_pre (a:ag):∃n,a=cL a [48]++gk n:=by
 have h:=List.takeWhile_append_dropWhile (p:=(([48]:ag).contains ·)) (l:=a.reverse)
 have h2:=congrArg List.reverse h
 rw[List.reverse_append,List.reverse_reverse]at h2
 refine ⟨(a.reverse.takeWhile (([48]:ag).contains ·)).length,?_⟩
 have hz:(a.reverse.takeWhile (([48]:ag).contains ·)).reverse=gk (a.reverse.takeWhile (([48]:ag).contains ·)).length:=by
  unfold gk
  rw[List.eq_replicate_iff]
  refine ⟨List.length_reverse,fun x hx => ?_⟩
  have h3:=List.all_takeWhile (l:=a.reverse) (p:=(([48]:ag).contains ·))
  have:=List.all_eq_true.1 h3 x (List.mem_reverse.1 hx)
  simpa using this
 rw[←hz]
 exact h2.symm
def finD (neg:Bool) (all:ag) (x:Int):fT×Bool :=
 if cL (bx all [48]) [48] = []then (⟨0,0⟩,true)
 else Xa (if neg then -(uH (cL (bx all [48]) [48]) 0:Int)else (uH (cL (bx all [48]) [48]) 0:Int)) (x+(((bx all [48]).length:Int) - ((cL (bx all [48]) [48]).length:Int)))
theorem make_min {R:Type} (m x:Int) (k:fT→Bool→Option R):bk m x k=bk m (min x 1000000) k:=by
 have e:∀x,bk m x k=kn az bL m x k:=fun _=>rfl
 rw[e,e]
 unfold kn
 have:min (min x 1000000) 1000000=min x 1000000:=by omega
 rw[this]
theorem mkD_min (u x:Int):Xa u (min x 1000000)=Xa u x:=by
 unfold Xa
 by_cases h:x≤1000000
 ·rw[Int.min_eq_left h]
 ·rw[if_neg (by omega),if_neg (by omega)]
theorem make_unit {R:Type} (u x:Int) (hu:Int.tmod u 10≠0) (hb:yo u) (hx : -9223372036854775808≤x) (k:fT→Bool→Option R):bk u x k=k (Xa u x).1 (Xa u x).2:=by
 rw[make_min,←mkD_min u x]
 have:=make_ok (R:=R) u 0 (min x 1000000) hu (by simpa using hb) (by omega) (by omega) k
 simpa using this
theorem Xd (all:ag) (h:∀x∈all,nH x) (h0:cL (bx all [48]) [48] ≠ []) :
  (∀x∈cL (bx all [48]) [48],nH x)∧uH (cL (bx all [48]) [48]) 0 % 10≠0∧10 ^ ((cL (bx all [48]) [48]).length - 1)≤uH (cL (bx all [48]) [48]) 0:=by
 obtain ⟨n,hn⟩:=trimR_pre (bx all [48])
 have hd:∀x∈cL (bx all [48]) [48],nH x:=fun x hx=>h x (trimL_sub _ _ (by rw[hn]; simp[hx]))
 refine ⟨hd,?_,?_⟩
 ·rcases trimR_cases (bx all [48])with e|⟨l,b,e,hb⟩
  ·exact (h0 e).elim
  ·have hbd:=hd b (by rw[e]; simp)
   rw[e,valD_app]
   simp only[uH]
   unfold nH at hbd
   have:b.toNat≠48:=fun h=>hb (UInt8.toNat_inj.1 h)
   omega
 ·cases e:cL (bx all [48]) [48]with
  | nil=>exact (h0 e).elim
  | cons b t =>
   have hb:b≠48:=trimL_head all b (t++gk n) (by rw[hn,e]; rfl)
   have hbd:=hd b (by rw[e]; simp)
   unfold nH at hbd
   have h48:b.toNat≠48:=fun h=>hb (UInt8.toNat_inj.1 h)
   have:=valD_ge t (10*0+(b.toNat - 48))
   have h2:1*10 ^ t.length≤(10*0+(b.toNat - 48))*10 ^ t.length:=Nat.mul_le_mul_right _ (by omega)
   simp only[uH,List.length_cons,Nat.add_sub_cancel]
   omega
theorem mkD_far {u:Int} (x:Int) (h:1000000000000000<u.natAbs):Xa u x=(⟨0,0⟩,false):=by
 unfold Xa
 rw[if_neg (by omega)]
theorem fin_ok {R:Type} (y2:Int) (xT:ag) (z19:Int) (z20:ag) (h:∀x∈xT,nH x) (hl:xT.length≤1000) (hx : -2000000≤z19∧z19≤2000000) (k0:fT→Bool→Option R) :
  (cx (wB ([48]:ag)&&decide (([48]:ag).length<4294967281)) (cx (wB ([48]:ag)&&decide (([48]:ag).length<4294967281)) (bif (!(z20==([]:ag)))then (k0 (⟨0,0⟩:fT) false)else (bif (decide (((cL (bx xT ([48]:ag)) ([48]:ag)).length:Int)>(18:Int)))then (k0 (⟨0,0⟩:fT) false)else (cx (decide (1+(cL (bx xT ([48]:ag)) ([48]:ag)).length≤9223372036854775807)) (cx (decide ((([48]:ag)++(cL (bx xT ([48]:ag)) ([48]:ag))).length≤281474976710656)) (bif wC (([48]:ag)++(cL (bx xT ([48]:ag)) ([48]:ag)))then (bif (y2 != 0)then (bk (IntKind.i64.wrap (0 - (eG (([48]:ag)++(cL (bx xT ([48]:ag)) ([48]:ag)))))) (IntKind.i64.wrap (z19+(IntKind.i64.wrap (((bx xT ([48]:ag)).length:Int) - ((cL (bx xT ([48]:ag)) ([48]:ag)).length:Int))))) (fun AU IX=>k0 AU IX))else (bk (eG (([48]:ag)++(cL (bx xT ([48]:ag)) ([48]:ag)))) (IntKind.i64.wrap (z19+(IntKind.i64.wrap (((bx xT ([48]:ag)).length:Int) - ((cL (bx xT ([48]:ag)) ([48]:ag)).length:Int))))) (fun FB O7=>k0 FB O7)))else (bif (y2 != 0)then (bk (IntKind.i64.wrap (0 - (eG (([48]:ag)++(cL (bx xT ([48]:ag)) ([48]:ag)))))) (IntKind.i64.wrap (z19+(IntKind.i64.wrap (((bx xT ([48]:ag)).length:Int) - ((cL (bx xT ([48]:ag)) ([48]:ag)).length:Int))))) (fun AU IX=>k0 AU IX))else (bk (eG (([48]:ag)++(cL (bx xT ([48]:ag)) ([48]:ag)))) (IntKind.i64.wrap (z19+(IntKind.i64.wrap (((bx xT ([48]:ag)).length:Int) - ((cL (bx xT ([48]:ag)) ([48]:ag)).length:Int))))) (fun FB O7=>k0 FB O7)))))))))) =
  if z20 = []then k0 (finD (y2 != 0) xT z19).1 (finD (y2 != 0) xT z19).2 else k0 ⟨0,0⟩ false:=by
 have q3:(wB ([48]:ag)&&decide (([48]:ag).length<4294967281))=true:=rfl
 have htl:(bx xT [48]).length≤xT.length:=BF _ _
 obtain ⟨n,hn⟩:=trimR_pre (bx xT [48])
 have htr:(bx xT [48]).length=(cL (bx xT [48]) [48]).length+n:=by have:=congrArg List.length hn; rw[List.length_append,oz]at this; exact this
 rw[q3,ay rfl,ay rfl]
 by_cases hz:z20 = []
 ·subst hz
  have hbe:((([]:ag)==([]:ag)))=true:=rfl
  rw[hbe,if_pos rfl]
  simp only[Bool.not_true,cond_false]
  have w0:IntKind.i64.wrap (((bx xT [48]).length:Int) - ((cL (bx xT [48]) [48]).length:Int))=((bx xT [48]).length:Int) - ((cL (bx xT [48]) [48]).length:Int):=cK (by omega) (by omega)
  have w1:IntKind.i64.wrap (z19+(((bx xT [48]).length:Int) - ((cL (bx xT [48]) [48]).length:Int)))=z19+(((bx xT [48]).length:Int) - ((cL (bx xT [48]) [48]).length:Int)):=cK (by omega) (by omega)
  rw[w0,w1,ay (aQ (by omega)),ay (aQ (by simp only[List.length_append,List.length_cons,List.length_nil]; omega)),Bool.cond_self]
  unfold finD
  have hc:(([48]:ag)++(cL (bx xT ([48]:ag)) ([48]:ag)))=48::cL (bx xT [48]) [48]:=rfl
  rw[hc]
  by_cases h0:cL (bx xT [48]) [48] = []
  ·rw[h0,if_pos rfl]
   have a0:eG (48::([]:ag))=0:=by decide +kernel
   have a1:decide (((([]:ag)).length:Int)>18)=false:=rfl
   have a2:IntKind.i64.wrap (0 - 0)=0:=by decide
   rw[a0,a1,cond_false,a2,Wf,Bool.cond_self]
  ·rw[if_neg h0]
   obtain ⟨f1,f2,f3⟩:=Xd xT h h0
   have hX : -3000000≤z19+(((bx xT [48]).length:Int) - ((cL (bx xT [48]) [48]).length:Int)):=by omega
   generalize cL (bx xT [48]) [48]=sh at *
   generalize (z19+(((bx xT [48]).length:Int) - (sh.length:Int)))=X at *
   have SX:1≤sh.length:=by cases sh with|nil=>exact (h0 rfl).elim|cons _ _=>simp
   by_cases h18:sh.length≤18
   ·rw[cu (show ¬(sh.length:Int)>18 by omega),cond_false]
    have jD:=valD_lt sh 0 f1
    have hp:(10:Nat) ^ sh.length≤10 ^ 18:=Nat.pow_le_pow_right (by omega) h18
    have e18:(10:Nat) ^ 18=1000000000000000000:=rfl
    have v48:uH (48::sh) 0=uH sh 0:=rfl
    have ha:eG (48::sh)=(uH sh 0:Int):=by
     obtain ⟨i1,_⟩:=atoi_dig (48::sh) (fun x hx=>by rcases List.mem_cons.1 hx with rfl|hx; (unfold nH; decide); exact f1 x hx) (by simp)
     unfold eG
     rw[i1 (by rw[v48]; omega),v48]
    rw[ha]
    have hm:Int.tmod (uH sh 0:Int) 10≠0:=by rw[Int.tmod_eq_emod_of_nonneg (by omega)]; omega
    cases hy:(y2 != 0)with
    | true =>
     rw[cond_true,if_pos rfl,cK (by omega) (by omega)]
     have e0:(0 - (uH sh 0:Int)) = -(uH sh 0:Int):=by omega
     rw[e0]
     exact make_unit _ _ (tmod_neg hm) (by unfold yo; omega) (by omega) _
    | false =>
     rw[cond_false,if_neg (by simp)]
     exact make_unit _ _ hm (by unfold yo; omega) (by omega) _
   ·rw[aQ (show (sh.length:Int)>18 by omega),cond_true]
    have hp:(10:Nat) ^ 18≤10 ^ (sh.length - 1):=Nat.pow_le_pow_right (by omega) (by omega)
    have e18:(10:Nat) ^ 18=1000000000000000000:=rfl
    rw[mkD_far _ (by split <;> omega)]
 ·have hbe:(z20==([]:ag))=false:=by rw[beq_eq_false_iff_ne]; exact hz
  rw[hbe,if_neg hz]
  rfl
def noD:fT×Bool:=(⟨0,0⟩,false)
def tailD (neg:Bool) (all:ag) (x:Int) (X:ag):fT×Bool :=
 if (sZ [101,69] X).1=0 then (if (sZ [101,69] X).2 = []then finD neg all x else noD)
 else if (Z5 (sZ [101,69] X).2).2.1=false then noD
 else if (Z5 (sZ [101,69] X).2).2.2 = []then finD neg all (x+(Z5 (sZ [101,69] X).2).1)else noD
def CN (s:ag):fT×Bool :=
 let q:=sZ [45] s
 let I:=takeD q.2
 let r:=QG q.2
 if 400<s.length then noD else if I = []then noD else if 1<I.length∧(I.getD 0 0).toNat=48 then noD
 else if (sZ [46] r).1=0 then tailD (q.1 != 0) I 0 (sZ [46] r).2
 else if takeD (sZ [46] r).2 = []then noD
 else tailD (q.1 != 0) (I++takeD (sZ [46] r).2) (-((takeD (sZ [46] r).2).length:Int)) (QG (sZ [46] r).2)
theorem expP_lim (X:ag) : -1000000≤(Z5 X).1∧(Z5 X).1≤1000000:=by
 unfold Z5
 simp only
 split <;> omega
theorem neN (n:Nat):(((n:Nat):Int) != 0)=(n != 0):=by
 cases n with
 | zero=>rfl
 | succ n=>rw[bne_iff_ne.2 (by omega),bne_iff_ne.2 (by omega)]
theorem tailD_ok {R:Type} (q:Nat) (all:ag) (x:Int) (X:ag) (ha:∀c∈all,nH c) (hl:all.length≤900) (h1 : -1000≤x) (h2:x≤0) (hX:X.length≤1000) (k:fT→Bool→Option R) :
  aU ([101,69]:ag) X (fun Gd Ed=>bif (Gd != 0)then (bA Ed (fun An KV J4=>bif (!KV)then (k (⟨0,0⟩:fT) false)else (cx (wB ([48]:ag)&&decide (([48]:ag).length<4294967281)) (cx (wB ([48]:ag)&&decide (([48]:ag).length<4294967281)) (bif (!(J4==([]:ag)))then (k (⟨0,0⟩:fT) false)else (bif (decide (((cL (bx all ([48]:ag)) ([48]:ag)).length:Int)>(18:Int)))then (k (⟨0,0⟩:fT) false)else (cx (decide (1+(cL (bx all ([48]:ag)) ([48]:ag)).length≤9223372036854775807)) (cx (decide ((([48]:ag)++(cL (bx all ([48]:ag)) ([48]:ag))).length≤281474976710656)) (bif wC (([48]:ag)++(cL (bx all ([48]:ag)) ([48]:ag)))then (bif ((q:Int) != 0)then (bk (IntKind.i64.wrap (0 - (eG (([48]:ag)++(cL (bx all ([48]:ag)) ([48]:ag)))))) (IntKind.i64.wrap ((IntKind.i64.wrap (x+An))+(IntKind.i64.wrap (((bx all ([48]:ag)).length:Int) - ((cL (bx all ([48]:ag)) ([48]:ag)).length:Int))))) (fun AU IX=>k AU IX))else (bk (eG (([48]:ag)++(cL (bx all ([48]:ag)) ([48]:ag)))) (IntKind.i64.wrap ((IntKind.i64.wrap (x+An))+(IntKind.i64.wrap (((bx all ([48]:ag)).length:Int) - ((cL (bx all ([48]:ag)) ([48]:ag)).length:Int))))) (fun FB O7=>k FB O7)))else (bif ((q:Int) != 0)then (bk (IntKind.i64.wrap (0 - (eG (([48]:ag)++(cL (bx all ([48]:ag)) ([48]:ag)))))) (IntKind.i64.wrap ((IntKind.i64.wrap (x+An))+(IntKind.i64.wrap (((bx all ([48]:ag)).length:Int) - ((cL (bx all ([48]:ag)) ([48]:ag)).length:Int))))) (fun AU IX=>k AU IX))else (bk (eG (([48]:ag)++(cL (bx all ([48]:ag)) ([48]:ag)))) (IntKind.i64.wrap ((IntKind.i64.wrap (x+An))+(IntKind.i64.wrap (((bx all ([48]:ag)).length:Int) - ((cL (bx all ([48]:ag)) ([48]:ag)).length:Int))))) (fun FB O7=>k FB O7))))))))))))else (cx (wB ([48]:ag)&&decide (([48]:ag).length<4294967281)) (cx (wB ([48]:ag)&&decide (([48]:ag).length<4294967281)) (bif (!(Ed==([]:ag)))then (k (⟨0,0⟩:fT) false)else (bif (decide (((cL (bx all ([48]:ag)) ([48]:ag)).length:Int)>(18:Int)))then (k (⟨0,0⟩:fT) false)else (cx (decide (1+(cL (bx all ([48]:ag)) ([48]:ag)).length≤9223372036854775807)) (cx (decide ((([48]:ag)++(cL (bx all ([48]:ag)) ([48]:ag))).length≤281474976710656)) (bif wC (([48]:ag)++(cL (bx all ([48]:ag)) ([48]:ag)))then (bif ((q:Int) != 0)then (bk (IntKind.i64.wrap (0 - (eG (([48]:ag)++(cL (bx all ([48]:ag)) ([48]:ag)))))) (IntKind.i64.wrap (x+(IntKind.i64.wrap (((bx all ([48]:ag)).length:Int) - ((cL (bx all ([48]:ag)) ([48]:ag)).length:Int))))) (fun AU IX=>k AU IX))else (bk (eG (([48]:ag)++(cL (bx all ([48]:ag)) ([48]:ag)))) (IntKind.i64.wrap (x+(IntKind.i64.wrap (((bx all ([48]:ag)).length:Int) - ((cL (bx all ([48]:ag)) ([48]:ag)).length:Int))))) (fun FB O7=>k FB O7)))else (bif ((q:Int) != 0)then (bk (IntKind.i64.wrap (0 - (eG (([48]:ag)++(cL (bx all ([48]:ag)) ([48]:ag)))))) (IntKind.i64.wrap (x+(IntKind.i64.wrap (((bx all ([48]:ag)).length:Int) - ((cL (bx all ([48]:ag)) ([48]:ag)).length:Int))))) (fun AU IX=>k AU IX))else (bk (eG (([48]:ag)++(cL (bx all ([48]:ag)) ([48]:ag)))) (IntKind.i64.wrap (x+(IntKind.i64.wrap (((bx all ([48]:ag)).length:Int) - ((cL (bx all ([48]:ag)) ([48]:ag)).length:Int))))) (fun FB O7=>k FB O7)))))))))))=k (tailD (q != 0) all x X).1 (tailD (q != 0) all x X).2:=by
 rw[Hh _ _ (by omega)]
 unfold tailD
 have l5:=Vj [101,69] X
 generalize sZ [101,69] X=g at *
 rw[neN]
 by_cases hg:g.1=0
 ·rw[if_pos hg,hg]
  simp only[bne_self_eq_false,cond_false]
  rw[fin_ok _ _ _ _ ha (by omega) (by omega),neN]
  split <;> rfl
 ·rw[if_neg hg,bne_iff_ne.2 hg,cond_true,exp_any _ (by omega)]
  have hlim:=expP_lim g.2
  generalize Z5 g.2=z at *
  rw[cK (n:=x+z.1) (by omega) (by omega)]
  cases hz:z.2.1 with
  | false=>rfl
  | true =>
   rw[Bool.not_true,cond_false,fin_ok _ _ _ _ ha (by omega) (by omega),neN,if_neg (show ¬(true=false) by simp)]
   split <;> rfl
theorem parse_any {R:Type} (s:ag) (hs:s.length≤4000000000) (k:fT→Bool→Option R):er s k=k (CN s).1 (CN s).2:=by
 have e:er s k=pJ bk aU aR bA s k:=rfl
 rw[e]
 unfold pJ
 have l1:=Vj [45] s
 rw[Hh _ _ hs]
 unfold CN
 simp only
 generalize sZ [45] s=q at *
 rw[TC _ (by omega)]
 have l2:=take_le q.2
 have l3:=dropD_le q.2
 have dI:=Ih q.2
 generalize takeD q.2=I at *
 generalize QG q.2=r at *
 by_cases h400:400<s.length
 ·rw[aQ (show (s.length:Int)>400 by omega),cond_true,if_pos h400]
  rfl
 rw[cu (show ¬(s.length:Int)>400 by omega),cond_false,if_neg h400]
 by_cases hI:I = []
 ·subst hI
  rw[if_pos rfl]
  rfl
 have jE:(I==([]:ag))=false:=by rw[beq_eq_false_iff_ne]; exact hI
 rw[jE,cond_false,if_neg hI]
 have SX:1≤I.length:=by cases I with|nil=>exact (hI rfl).elim|cons _ _=>simp
 have q48:(((I.getD 0 0).toNat:Int)==48)=decide ((I.getD 0 0).toNat=48):=eqI _ 48
 rw[ay (aQ (show (0:Int)<I.length by omega)),q48]
 by_cases h48:1<I.length∧(I.getD 0 0).toNat=48
 ·rw[if_pos h48,aQ (show (I.length:Int)>1 by omega),aQ h48.2]
  rfl
 rw[if_neg h48]
 have cut:∀x:Option R,(bif decide ((I.length:Int)>1)then (bif decide ((I.getD 0 0).toNat=48)then k ⟨0,0⟩ false else x)else x)=x:=fun x=>by
  by_cases h1:1<I.length
  ·rw[aQ (show (I.length:Int)>1 by omega),cu (fun h=>h48 ⟨h1,h⟩)]; rfl
  ·rw[cu (show ¬(I.length:Int)>1 by omega)]; rfl
 rw[cut]
 rw[Hh _ _ (by omega)]
 have l4:=Vj [46] r
 generalize sZ [46] r=p at *
 rw[neN]
 by_cases hp:p.1=0
 ·rw[if_pos hp,hp]
  simp only[bne_self_eq_false,cond_false]
  exact tailD_ok q.1 I 0 p.2 dI (by omega) (by omega) (by omega) (by omega) k
 ·rw[if_neg hp,bne_iff_ne.2 hp,cond_true,TC _ (by omega)]
  have l5:=take_le p.2
  have l6:=dropD_le p.2
  have dF:=Ih p.2
  generalize takeD p.2=F at *
  generalize QG p.2=Y at *
  by_cases hF:F = []
  ·subst hF
   rw[if_pos rfl]
   rfl
  have jE:(F==([]:ag))=false:=by rw[beq_eq_false_iff_ne]; exact hF
  rw[jE,cond_false,if_neg hF,ay (aQ (by omega)),cK (n:=0 - (F.length:Int)) (by omega) (by omega)]
  have e0:(0:Int) - (F.length:Int) = -(F.length:Int):=by omega
  rw[e0]
  exact tailD_ok q.1 (I++F) (-(F.length:Int)) Y (fun c hc=>(List.mem_append.1 hc).elim (dI c) (dF c)) (by rw[List.length_append]; omega) (by omega) (by omega) (by omega) k
theorem longP_sfx {s r:ag} {c:Nat} (h:Vg s=some (c,r)):r <:+ s:=by
 unfold Vg at h
 split at h
 ·cases h
 ·rename_i v r1 hu
  obtain ⟨_,_,hr⟩:=Ig hu
  have s1:r1 <:+ s:=by rw[hr]; exact List.drop_suffix _ _
  split at h
  ·cases h; exact s1
  ·split at h
   ·cases h
   ·split at h
    ·split at h
     ·cases h
     ·rename_i w r2 hu2
      obtain ⟨_,_,hr2⟩:=Ig hu2
      split at h
      ·simp only[Option.some.injEq,Prod.mk.injEq]at h
       obtain ⟨_,rfl⟩:=h
       rw[hr2]
       exact ((List.drop_suffix _ _).trans (List.drop_suffix _ _)).trans s1
      ·cases h
    ·cases h
theorem escP_sfx {s r:ag} {c:Nat} (h:escP s=some (c,r)):r <:+ s:=by
 cases s with
 | nil=>cases h
 | cons b t =>
  have st:t <:+ b::t:=List.suffix_cons b t
  simp only[escP]at h
  split at h
  ·cases h; exact st
  split at h
  ·cases h; exact st
  split at h
  ·cases h; exact st
  split at h
  ·cases h; exact st
  split at h
  ·cases h; exact st
  split at h
  ·cases h; exact st
  split at h
  ·exact (longP_sfx h).trans st
  ·cases h
theorem plainP_sfx {s r:ag} {c:Nat} (h:NR s=some (c,r)):r <:+ s:=by
 unfold NR at h
 split at h
 ·cases h
 split at h
 ·cases h
 split at h
 ·cases h
 simp only[Option.some.injEq,Prod.mk.injEq]at h
 rw[←h.2]
 exact List.drop_suffix _ _
theorem stepU_sfx {s r:ag} {c:Nat} (h:Vi s=some (c,r)):r <:+ s:=by
 unfold Vi at h
 split at h
 ·exact (escP_sfx h).trans (List.drop_suffix _ _)
 ·exact plainP_sfx h
theorem uq_sfx:∀(n:Nat) (s o o' r:ag),uq n s o=some (o',r)→r <:+ s∧r.length<s.length∧∃rs:List Nat,(∀c∈rs,vr c)∧o'=o++fo rs
 | 0,_,_,_,_,h=>by cases h
 | n+1,s,o,o',r,h=>by
  simp only[uq]at h
  split at h
  ·rename_i SI
   simp only[Option.some.injEq,Prod.mk.injEq]at h
   obtain ⟨rfl,rfl⟩:=h
   refine ⟨List.drop_suffix _ _,?_, [],by simp,by simp[fo]⟩
   cases s with
   | nil=>cases SI
   | cons b t=>simp
  ·split at h
   ·cases h
   ·rename_i c r1 hs
    obtain ⟨h1,h2,rs,h3,h4⟩:=uq_sfx n r1 (o++enc c) o' r h
    obtain ⟨hv,hl⟩:=Z1 hs
    refine ⟨h1.trans (stepU_sfx hs),by omega,c::rs,fun x hx => ?_,?_⟩
    ·rcases List.mem_cons.1 hx with rfl|hx
     ·exact hv
     ·exact h3 x hx
    ·rw[h4]; simp[fo]
theorem uqS_sfx {s o r:ag} (h:uqS s=some (o,r)):r <:+ s∧r.length+1<s.length∧∃rs:List Nat,(∀c∈rs,vr c)∧o=fo rs:=by
 unfold uqS at h
 split at h
 ·rename_i SI
  obtain ⟨h1,h2,rs,h3,h4⟩:=uq_sfx _ _ _ _ _ h
  refine ⟨h1.trans (List.drop_suffix _ _),?_,rs,h3,by simpa using h4⟩
  rw[List.length_drop]at h2
  omega
 ·cases h
theorem sfx_drop {s r:ag} (h:r <:+ s):r=s.drop (s.length - r.length):=by
 obtain ⟨t,rfl⟩:=h
 rw[List.length_append,Nat.add_sub_cancel,List.drop_left]
def numS:ag := [48,49,50,51,52,53,54,55,56,57,43,45,46,101,69]
def letS:ag := [97,98,99,100,101,102,103,104,105,106,107,108,109,110,111,112,113,114,115,116,117,118,119,120,121,122]
def blaS:ag := [32,9,10,13]
def sigS:ag := [123,125,91,93,44,58]
def Fq (b:UInt8):Bool:=numS.contains b
def Et (b:UInt8):Bool:=letS.contains b
def td (b:UInt8):Bool:=blaS.contains b
def TE (b:UInt8):Bool:=sigS.contains b
def wZ:ag := [116,114,117,101]
def lv:ag := [102,97,108,115,101]
def rS:ag := [110,117,108,108]
def tokS (s:ag):Option (Token×ag) :=
 match s with
 | []=>none
 | c::t =>
  if c.toNat=45∨(48≤c.toNat∧c.toNat≤57)then
   (if (CN (s.takeWhile Fq)).2 then some (⟨3,s.takeWhile Fq,(CN (s.takeWhile Fq)).1,0⟩,s.dropWhile Fq)else none)
  else if c.toNat=34 then (match uqS s with|some (o,r)=>some (⟨2,o,⟨0,0⟩,0⟩,r)|none=>none)
  else if TE c then some (⟨1, [c],⟨0,0⟩,0⟩,t)
  else if s.takeWhile Et=wZ∨s.takeWhile Et=lv∨s.takeWhile Et=rS then some (⟨4,s.takeWhile Et,⟨0,0⟩,0⟩,s.dropWhile Et)
  else none
theorem tw_nil {p:UInt8→Bool} {c:UInt8} {t:ag} (h:p c=true):((c::t).dropWhile p).length<(c::t:ag).length:=by
 rw[List.dropWhile_cons,if_pos h]
 have:=BF p t
 simp only[List.length_cons]
 omega
theorem tokS_sfx {s r:ag} {t:Token} (h:tokS s=some (t,r)):r <:+ s∧r.length<s.length:=by
 cases s with
 | nil=>cases h
 | cons c u =>
  simp only[tokS]at h
  split at h
  ·rename_i hc
   split at h
   ·simp only[Option.some.injEq,Prod.mk.injEq]at h
    rw[←h.2]
    refine ⟨List.dropWhile_suffix _,tw_nil ?_⟩
    have all:∀n:Fin 256,(n.val=45∨(48≤n.val∧n.val≤57))→Fq (UInt8.ofNat n.val)=true:=by decide +kernel
    have:=all ⟨c.toNat,UInt8.toNat_lt c⟩ hc
    simpa using this
   ·cases h
  ·split at h
   ·split at h
    ·rename_i o q hq
     simp only[Option.some.injEq,Prod.mk.injEq]at h
     obtain ⟨_,rfl⟩:=h
     obtain ⟨h1,h2,_⟩:=uqS_sfx hq
     exact ⟨h1,by omega⟩
    ·cases h
   ·split at h
    ·simp only[Option.some.injEq,Prod.mk.injEq]at h
     rw[←h.2]
     exact ⟨List.suffix_cons _ _,by simp⟩
    ·split at h
     ·rename_i hw
      simp only[Option.some.injEq,Prod.mk.injEq]at h
      rw[←h.2]
      refine ⟨List.dropWhile_suffix _,tw_nil ?_⟩
      cases hl:Et c with
      | true=>rfl
      | false =>
       have e:(c::u).takeWhile Et = []:=by rw[List.takeWhile_cons,hl]; rfl
       rw[e]at hw
       rcases hw with hw|hw|hw <;> cases hw
     ·cases h
def putT (t:Token) (n:Int):Token:=⟨t.kind,t.text,t.num,n⟩
def xM:Nat→Nat→ag→List Token→List Token×Int×Int
 | 0,_,_,_=>([],0,0)
 | n+1,p,s,out =>
  if s.dropWhile td = []then (out ++ [⟨5, [],⟨0,0⟩,((p+(s.takeWhile td).length:Nat):Int)⟩],0,0)
  else match tokS (s.dropWhile td)with
   | none=>([],30,((p+(s.takeWhile td).length:Nat):Int))
   | some (t,r)=>xM n (p+(s.length - r.length)) r (out ++ [putT t ((p+(s.takeWhile td).length:Nat):Int)])
def rT (s:ag):List Token×Int×Int:=if 20000<s.length then ([],30,0)else xM (s.length+1) 0 s []
theorem Z6:∀(n m p:Nat) (s:ag) (out:List Token),s.length<n→s.length<m→xM n p s out=xM m p s out
 | 0,_,_,_,_,h,_=>by omega
 | _,0,_,_,_,_,h=>by omega
 | n+1,m+1,p,s,out,h1,h2=>by
  simp only[xM]
  split
  ·rfl
  ·split
   ·rfl
   ·rename_i t r hr
    have h3:=(tokS_sfx hr).2
    have h4:=BF td s
    exact Z6 n m _ r _ (by omega) (by omega)
abbrev qy:=ag×ag×Token
def tR:List qy→ag→ag
 | [],z=>z
 | x::l,z=>x.1++(x.2.1++tR l z)
def okW:List qy→ag→Prop
 | [],_=>True
 | x::l,z=>(∀b∈x.1,td b=true)∧(∃c u,x.2.1=c::u∧td c=false)∧tokS (x.2.1++tR l z)=some (x.2.2,tR l z)∧okW l z
def tokW:Nat→List qy→List Token
 | _, [] => []
 | p,x::l=>putT x.2.2 ((p+x.1.length:Nat):Int)::tokW (p+x.1.length+x.2.1.length) l
def QH:List qy→Nat
 | []=>0
 | x::l=>x.1.length+x.2.1.length+QH l
theorem Z7:∀(l:List qy) (z:ag),(tR l z).length=QH l+z.length
 | [],z=>by simp[tR,QH]
 | x::l,z=>by simp only[tR,QH,List.length_append,Z7 l z]; omega
theorem tw_gap:∀(g r:ag),(∀b∈g,td b=true)→(∃c u,r=c::u∧td c=false)∨r = []→(g++r).takeWhile td=g∧(g++r).dropWhile td=r
 | [],r,_,h=>by
  rcases h with ⟨c,u,rfl,hc⟩|rfl
  ·exact ⟨by rw[List.nil_append,List.takeWhile_cons,hc]; rfl,by rw[List.nil_append,List.dropWhile_cons,hc]; rfl⟩
  ·exact ⟨rfl,rfl⟩
 | b::g,r,hg,h=>by
  have hb:=hg b (by simp)
  obtain ⟨h1,h2⟩:=tw_gap g r (fun x hx=>hg x (by simp[hx])) h
  refine ⟨?_,?_⟩
  ·rw[List.cons_append,List.takeWhile_cons,hb,if_pos rfl,h1]
  ·rw[List.cons_append,List.dropWhile_cons,hb,if_pos rfl,h2]
theorem Z8:∀(l:List qy) (z:ag) (n p:Nat) (out:List Token),okW l z→l.length<n→xM n p (tR l z) out=xM (n - l.length) (p+QH l) z (out++tokW p l)
 | [],z,n,p,out,_,_=>by simp[tR,QH,tokW]
 | x::l,z,n,p,out,h,hn=>by
  obtain ⟨h1,⟨c,u,h2,h3⟩,h4,h5⟩:=h
  obtain ⟨n,rfl⟩:∃m,n=m+1:=⟨n - 1,by omega⟩
  simp only[List.length_cons]at hn
  obtain ⟨t1,t2⟩:=tw_gap x.1 (x.2.1++tR l z) h1 (.inl ⟨c,u++tR l z,by rw[h2]; rfl,h3⟩)
  have hlay:tR (x::l) z=x.1++(x.2.1++tR l z):=rfl
  have jE:¬(x.2.1++tR l z = []):=by rw[h2]; simp
  have hw:0<x.2.1.length:=by rw[h2]; simp
  simp only[xM]
  rw[hlay,t1,t2,if_neg jE,h4]
  simp only
  have e1:(x.1++(x.2.1++tR l z)).length - (tR l z).length=x.1.length+x.2.1.length:=by simp only[List.length_append]; omega
  rw[e1,Z8 l z n _ _ h5 (by omega)]
  have e2:n+1 - (x::l).length=n - l.length:=by simp
  have e3:p+(x.1.length+x.2.1.length)+QH l=p+QH (x::l):=by simp only[QH]; omega
  have e4:p+(x.1.length+x.2.1.length)=p+x.1.length+x.2.1.length:=by omega
  rw[e2,e3]
  simp only[tokW,List.append_assoc,List.singleton_append]
  rw[e4]
theorem scan_end {g:ag} (hg:∀b∈g,td b=true) (n p:Nat) (out:List Token):xM (n+1) p g out=(out ++ [⟨5, [],⟨0,0⟩,((p+g.length:Nat):Int)⟩],0,0):=by
 obtain ⟨t1,t2⟩:=tw_gap g [] hg (.inr rfl)
 rw[List.append_nil]at t1 t2
 simp only[xM]
 rw[t1,t2,if_pos rfl]
theorem scanS_words (l:List qy) (g:ag) (hg:∀b∈g,td b=true) (h:okW l g) (hl:QH l+g.length≤20000):rT (tR l g)=(tokW 0 l ++ [⟨5, [],⟨0,0⟩,((QH l+g.length:Nat):Int)⟩],0,0):=by
 unfold rT
 have hlen:=Z7 l g
 rw[if_neg (by omega)]
 have hcount:l.length≤QH l:=by
  clear hl hlen
  induction l with
  | nil=>simp[QH]
  | cons x l ih =>
   obtain ⟨_,⟨c,u,h2,_⟩,_,h5⟩:=h
   have:=ih h5
   have hw:0<x.2.1.length:=by rw[h2]; simp
   simp only[QH,List.length_cons]
   omega
 rw[Z8 l g _ 0 [] h (by omega),hlen]
 obtain ⟨m,hm⟩:∃m,QH l+g.length+1 - l.length=m+1:=⟨QH l+g.length - l.length,by omega⟩
 rw[hm,scan_end hg]
 simp
def SJ (r:ag):Prop:=r = []∨∃b u,r=b::u∧Fq b=false∧Et b=false
def Word (w:ag) (t:Token):Prop:=(∃c u,w=c::u∧td c=false)∧∀r,SJ r→tokS (w++r)=some (t,r)
theorem tw_stop {p:UInt8→Bool}:∀(w r:ag),(∀b∈w,p b=true)→(r = []∨∃b u,r=b::u∧p b=false)→(w++r).takeWhile p=w∧(w++r).dropWhile p=r
 | [],r,_,h=>by
  rcases h with rfl|⟨b,u,rfl,hb⟩
  ·exact ⟨rfl,rfl⟩
  ·exact ⟨by rw[List.nil_append,List.takeWhile_cons,hb]; rfl,by rw[List.nil_append,List.dropWhile_cons,hb]; rfl⟩
 | b::w,r,hw,h=>by
  have hb:=hw b (by simp)
  obtain ⟨h1,h2⟩:=tw_stop w r (fun x hx=>hw x (by simp[hx])) h
  exact ⟨by rw[List.cons_append,List.takeWhile_cons,hb,if_pos rfl,h1],by rw[List.cons_append,List.dropWhile_cons,hb,if_pos rfl,h2]⟩
theorem stop_num {r:ag} (h:SJ r):r = []∨∃b u,r=b::u∧Fq b=false:=h.imp id fun ⟨b,u,e,h1,_⟩=>⟨b,u,e,h1⟩
theorem stop_let {r:ag} (h:SJ r):r = []∨∃b u,r=b::u∧Et b=false:=h.imp id fun ⟨b,u,e,_,h1⟩=>⟨b,u,e,h1⟩
theorem word_sign (c:UInt8) (h:TE c=true):Word [c] ⟨1, [c],⟨0,0⟩,0⟩:=by
 have all:∀n:Fin 256,TE (UInt8.ofNat n.val)=true→td (UInt8.ofNat n.val)=false∧¬(n.val=45∨(48≤n.val∧n.val≤57))∧¬n.val=34:=by decide +kernel
 obtain ⟨h1,h2,h3⟩:=all ⟨c.toNat,UInt8.toNat_lt c⟩ (by simpa using h)
 refine ⟨⟨c, [],rfl,by simpa using h1⟩,fun r _ => ?_⟩
 show tokS (c::r)=_
 simp only[tokS]
 rw[if_neg h2,if_neg h3,if_pos h]
theorem Hr {w:ag} (h:w=wZ∨w=lv∨w=rS):Word w ⟨4,w,⟨0,0⟩,0⟩:=by
 have hl:∀b∈w,Et b=true:=by rcases h with rfl|rfl|rfl <;> decide
 have hc:∃c u,w=c::u∧td c=false∧¬(c.toNat=45∨(48≤c.toNat∧c.toNat≤57))∧¬c.toNat=34∧TE c=false:=by
  rcases h with rfl|rfl|rfl <;> exact ⟨_,_,rfl,by decide,by decide,by decide,by decide⟩
 obtain ⟨c,u,rfl,h1,h2,h3,h4⟩:=hc
 refine ⟨⟨c,u,rfl,h1⟩,fun r hr => ?_⟩
 obtain ⟨t1,t2⟩:=tw_stop (c::u) r hl (stop_let hr)
 show tokS (c::(u++r))=_
 have e:(c::(u++r):ag)=(c::u)++r:=rfl
 simp only[tokS]
 rw[if_neg h2,if_neg h3,h4,if_neg (by simp),e,t1,t2,if_pos h]
theorem word_text {rs:List Nat} (hr:∀c∈rs,vr c):Word (qt rs) ⟨2,fo rs,⟨0,0⟩,0⟩:=by
 have e:qt rs=34::(Vh rs ++ [34]):=by unfold qt; simp
 refine ⟨⟨34,_,e,by decide⟩,fun r _ => ?_⟩
 have hu:=uqS_qt rs hr r
 have e2:qt rs++r=34::(Vh rs ++ [34]++r):=by rw[e]; rfl
 rw[e2]at hu ⊢
 simp only[tokS]
 rw[if_neg (by decide),if_pos (by decide),hu]
theorem parseS_prt {d:fT} (hd:Fm d):CN (XT d)=(d,true):=by
 have key:∀k:fT→Bool→Option (fT×Bool),er (XT d) k=k d true:=fun k=>by
  by_cases h0:d.ao=0
  ·rw[hd.zero h0,Z4,parse_zero]
  ·have:=parse_prt hd h0 [] 0 (.inl ⟨rfl,rfl⟩) (by omega) (by simp) k
   rw[List.append_nil,Int.add_zero,make_same hd h0]at this
   exact this
 have hl:(XT d).length≤4000000000:=by
  by_cases h0:d.ao=0
  ·rw[hd.zero h0,Z4]; simp
  ·obtain ⟨I,F,pt,a,b,e1,e2,i0,i1,f0,f1,fl,il,iD,fD⟩:=Wm d hd h0
   rw[e1]
   cases hdn:decide (d.ao<0) <;> cases pt <;> simp <;> omega
 have h1:=parse_any (XT d) hl (fun a b=>some (a,b))
 rw[key]at h1
 simp only[Option.some.injEq]at h1
 rw[h1]
theorem prt_chars {d:fT} (hd:Fm d):(∀b∈XT d,Fq b=true)∧(∃c u,XT d=c::u∧(c.toNat=45∨(48≤c.toNat∧c.toNat≤57)))∧(XT d).length≤60:=by
 have dig:∀b:UInt8,nH b→Fq b=true:=fun b hb=>by
  have all:∀n:Fin 256,(48≤n.val∧n.val≤57)→Fq (UInt8.ofNat n.val)=true:=by decide +kernel
  have:=all ⟨b.toNat,UInt8.toNat_lt b⟩ hb
  simpa using this
 by_cases h0:d.ao=0
 ·rw[hd.zero h0,Z4]
  exact ⟨by decide,⟨48, [],rfl,by decide⟩,by simp⟩
 ·obtain ⟨I,F,pt,a,b,e1,e2,i0,i1,f0,f1,fl,il,iD,fD⟩:=Wm d hd h0
  rw[e1]
  refine ⟨fun x hx => ?_,?_,?_⟩
  ·rcases List.mem_append.1 hx with hx|hx
   ·split at hx
    ·simp at hx; subst hx; decide
    ·simp at hx
   ·rcases List.mem_append.1 hx with hx|hx
    ·exact dig x (iD x hx)
    ·split at hx
     ·rcases List.mem_cons.1 hx with rfl|hx
      ·decide
      ·exact dig x (fD x hx)
     ·simp at hx
  ·cases I with
   | nil=>exact (i0 rfl).elim
   | cons c I =>
    cases decide (d.ao<0)with
    | true=>exact ⟨45,_,rfl,by decide⟩
    | false=>exact ⟨c,_,rfl, .inr (iD c (by simp))⟩
  ·cases hdn:decide (d.ao<0) <;> cases pt <;> simp <;> omega
theorem word_num {d:fT} (hd:Fm d):Word (XT d) ⟨3,XT d,d,0⟩:=by
 obtain ⟨h1,⟨c,u,h2,h3⟩,_⟩:=prt_chars hd
 have hp:=parseS_prt hd
 have hb:td c=false:=by
  have all:∀n:Fin 256,(n.val=45∨(48≤n.val∧n.val≤57))→td (UInt8.ofNat n.val)=false:=by decide +kernel
  have:=all ⟨c.toNat,UInt8.toNat_lt c⟩ h3
  simpa using this
 refine ⟨⟨c,u,h2,hb⟩,fun r hr => ?_⟩
 obtain ⟨t1,t2⟩:=tw_stop (XT d) r h1 (stop_num hr)
 have e:XT d++r=c::(u++r):=by rw[h2]; rfl
 rw[e]at t1 t2 ⊢
 simp only[tokS]
 rw[if_pos h3,t1,t2,hp]
 rfl
def sg (c:UInt8):qy:=([], [c],⟨1, [c],⟨0,0⟩,0⟩)
theorem Fs:∀(a b:List qy) (z:ag),tR (a++b) z=tR a (tR b z)
 | [],_,_=>rfl
 | x::a,b,z=>by simp only[List.cons_append,tR,Fs a b z]
theorem CO:∀(a b:List qy) (z:ag),okW (a++b) z↔okW a (tR b z)∧okW b z
 | [],b,z=>by simp[okW]
 | x::a,b,z=>by simp only[List.cons_append,okW,CO a b z,Fs,and_assoc]
theorem Ft {w:ag} {t:Token} (h:Word w t) {z:ag} (hz:SJ z):okW [([],w,t)] z:=⟨by simp,h.1,h.2 z hz,trivial⟩
theorem Fu {c:UInt8} (h:TE c=true) (z:ag):okW [sg c] z:=by
 refine ⟨by simp[sg],(word_sign c h).1,?_,trivial⟩
 have all:∀n:Fin 256,TE (UInt8.ofNat n.val)=true→¬(n.val=45∨(48≤n.val∧n.val≤57))∧¬n.val=34:=by decide +kernel
 obtain ⟨h2,h3⟩:=all ⟨c.toNat,UInt8.toNat_lt c⟩ (by simpa using h)
 show tokS (c::z)=some (⟨1, [c],⟨0,0⟩,0⟩,z)
 simp only[tokS]
 rw[if_neg h2,if_neg h3,if_pos h]
theorem Ru {c:UInt8} (h:TE c=true) (z:ag):SJ (c::z):=by
 have all:∀n:Fin 256,TE (UInt8.ofNat n.val)=true→Fq (UInt8.ofNat n.val)=false∧Et (UInt8.ofNat n.val)=false:=by decide +kernel
 obtain ⟨h2,h3⟩:=all ⟨c.toNat,UInt8.toNat_lt c⟩ (by simpa using h)
 exact .inr ⟨c,z,rfl,by simpa using h2,by simpa using h3⟩
theorem refMake_end {R:Type} (u x:Int) (k:fT→Bool→Option R) :
  (bif (decide (u>(1000000000000000:Int)))then (k (⟨0,0⟩:fT) false)else (bif (decide (u<(-1000000000000000:Int)))then (k (⟨0,0⟩:fT) false)else (bif (decide (x>(9:Int)))then (k (⟨0,0⟩:fT) false)else (bif (decide (x<(-9:Int)))then (k (⟨0,0⟩:fT) false)else (k (⟨u,x⟩:fT) true)))))=k (Xa u x).1 (Xa u x).2:=by
 unfold Xa
 by_cases h1:u>1000000000000000
 ·rw[aQ h1,if_neg (by omega)]; rfl
 ·rw[cu h1,cond_false]
  by_cases h2:u < -1000000000000000
  ·rw[aQ h2,if_neg (by omega)]; rfl
  ·rw[cu h2,cond_false]
   by_cases h3:x>9
   ·rw[aQ h3,if_neg (by omega)]; rfl
   ·rw[cu h3,cond_false]
    by_cases h4:x < -9
    ·rw[aQ h4,if_neg (by omega)]; rfl
    ·rw[cu h4,cond_false,if_pos (by omega)]
theorem refMake_loop {R:Type} (k:fT→Bool→Option R):∀(j n:Nat) (u x:Int) (d:fT),j<n→Int.tmod u 10≠0→yo (u*10 ^ j)→yo x →
  cE n (u*10 ^ j) x d (fun y6 y7 y8=>bif (decide (y6>(1000000000000000:Int)))then (k (⟨0,0⟩:fT) false)else (bif (decide (y6<(-1000000000000000:Int)))then (k (⟨0,0⟩:fT) false)else (bif (decide (y7>(9:Int)))then (k (⟨0,0⟩:fT) false)else (bif (decide (y7<(-9:Int)))then (k (⟨0,0⟩:fT) false)else (k (⟨y6,y7⟩:fT) true))))) (fun y9 oc uf za=>k za uf)=k (Xa u (x+j)).1 (Xa u (x+j)).2:=by
 intro j
 induction j with
 | zero =>
  intro n u x d hn hu hb hx
  obtain ⟨m,rfl⟩:∃m,n=m+1:=⟨n - 1,by omega⟩
  rw[cE]
  unfold jU
  have e1:u*10 ^ 0=u:=by simp
  have e2:(Int.tmod u 10==0)=false:=by rw[beq_eq_false_iff_ne]; exact hu
  have e3:x+((0:Nat):Int)=x:=by omega
  rw[e1,e2,cond_false,e3]
  exact refMake_end u x k
 | succ j ih =>
  intro n u x d hn hu hb hx
  obtain ⟨m,rfl⟩:∃m,n=m+1:=⟨n - 1,by omega⟩
  rw[cE]
  unfold jU
  have ep:u*10 ^ (j+1)=u*10 ^ j*10:=by rw[Int.pow_succ,Int.mul_assoc]
  unfold yo at hb hx
  rw[ep]at hb ⊢
  have e1:(Int.tmod (u*10 ^ j*10) 10==0)=true:=by rw[Int.mul_tmod_left]; rfl
  have e2:Int.tdiv (u*10 ^ j*10) 10=u*10 ^ j:=Int.mul_tdiv_cancel _ (by omega)
  rw[e1,cond_true,e2,cK (n:=u*10 ^ j) (by omega) (by omega)]
  by_cases hx2:x>1099511627776
  ·rw[aQ hx2,cond_true]
   unfold Xa
   rw[if_neg (by omega)]
  ·rw[cu hx2,cond_false,cK (n:=x+1) (by omega) (by omega)]
   refine (ih m u (x+1) d (by omega) hu (by unfold yo; omega) (by unfold yo; omega)).trans ?_
   have:x+1+(j:Int)=x+((j+1:Nat):Int):=by omega
   rw[this]
theorem refMake_ok {R:Type} (u:Int) (j:Nat) (x:Int) (hu:Int.tmod u 10≠0) (hb:yo (u*10 ^ j)) (hx:yo x) (k:fT→Bool→Option R):tK (u*10 ^ j) x k=k (Xa u (x+j)).1 (Xa u (x+j)).2:=by
 have e:tK (u*10 ^ j) x k=tJ cE (u*10 ^ j) x k:=rfl
 rw[e]
 unfold tJ
 have hu0:u≠0:=by rintro rfl; exact hu rfl
 have ha:=Tw u j
 have h64:=ZW hu0 hb
 have h0:(u*10 ^ j==0)=false:=by rw[beq_eq_false_iff_ne]; omega
 rw[h0,cond_false]
 exact refMake_loop k j _ u x _ (by omega) hu hb hx
theorem refMake_zero {R:Type} (x:Int) (k:fT→Bool→Option R):tK 0 x k=k ⟨0,0⟩ true:=by
 have e:tK 0 x k=tJ cE 0 x k:=rfl
 rw[e]
 rfl
section
variable {R:Type} (k:fT→Bool→Option R) (s:ag) (hs:s.length≤4000000000) (sg:Int) (hsg:sg=1∨sg = -1) (all:ag) (x:Int) (ha:∀c∈all,nH c) (h0:all ≠ []) (hl:all.length≤900) (hx : -1000≤x∧x≤0)
include hs hsg ha h0 hl hx
end
def fmB (d:fT):Bool:=(d.ao==0&&d.exp==0)||(Int.tmod d.ao 10 != 0&&(decide (-1000000000000000≤d.ao)&&decide (d.ao≤1000000000000000)&&(decide (-9≤d.exp)&&decide (d.exp≤9))))
theorem JS {d:fT}:fmB d=true↔Fm d:=by
 unfold fmB Fm
 simp[and_assoc]
theorem right_any {R:Type} (d:fT) (k:Bool→Option R):bS d k=k (fmB d):=by
 have e:bS d k=jy az d k:=rfl
 rw[e]
 unfold jy fmB
 by_cases h0:d.ao=0
 ·rw[h0]
  have t0:((0:Int)==0)=true:=rfl
  have t1:(Int.tmod 0 10 != 0)=false:=rfl
  rw[t0,t1,cond_true,Bool.true_and,Bool.false_and,Bool.or_false]
 ·have e0:(d.ao==0)=false:=by rw[beq_eq_false_iff_ne]; exact h0
  rw[e0,cond_false,Bool.false_and,Bool.false_or]
  cases ht:(Int.tmod d.ao 10 != 0)with
  | false=>rfl
  | true =>
   rw[cond_true,Bool.true_and,LF]
   cases (decide (-1000000000000000≤d.ao)&&decide (d.ao≤1000000000000000))with
   | false=>rfl
   | true=>rw[cond_true,LF,Bool.true_and]
theorem print_bad {R:Type} {d:fT} (hd:fmB d=false) (k:ag→Option R):bT d k=k []:=by
 have e:bT d k=pI bS aj ae ai d k:=rfl
 rw[e]
 unfold pI
 rw[right_any,hd]
 rfl
def AH (d:fT):ag:=if fmB d then XT d else []
theorem print_any {R:Type} (d:fT) (k:ag→Option R):bT d k=k (AH d):=by
 unfold AH
 cases h:fmB d with
 | true=>rw[print_ok (JS.1 h)]; rfl
 | false=>rw[print_bad h]; rfl
def tp:List ag→List ag→Bool
 | _, []=>true
 | seen,n::l => !seen.contains n&&fE n&&tp (n::seen) l
mutual
def dZ:Json→Int→Bool
 | ⟨k,n,t,ns,is⟩,d=>decide (d≤16)&&(decide (1≤k)&&decide (k≤7))&&(k==4||(n.ao==0&&n.exp==0))&&(k==5||t.isEmpty)&&(k==7||ns.isEmpty)&&(k==6||k==7||is.isEmpty) &&
   (if k=4 then fmB n else if k=5 then fE t else if k=7 then decide (ns.length=is.length)&&tp [] ns&&eP is (d+1)else eP is (d+1))
def eP:List Json→Int→Bool
 | [],_=>true
 | x::l,d=>dZ x d&&eP l d
end
theorem TF {d:Int}:∀ {l:List Json} {x:Json},eP l d=true→x∈l→dZ x d=true
 | y::l,x,h,hx=>by
  simp only[eP,Bool.and_eq_true]at h
  rcases List.mem_cons.1 hx with rfl|hx
  ·exact h.1
  ·exact TF h.2 hx
inductive Wn:Json→Int→Prop where
 | name (k:Int) (d:Int) (hd:d≤16) (hk:k=1∨k=2∨k=3):Wn ⟨k,⟨0,0⟩, [], [], []⟩ d
 | num (n:fT) (d:Int) (hd:d≤16) (hn:Fm n):Wn ⟨4,n, [], [], []⟩ d
 | text (t:ag) (d:Int) (hd:d≤16) (ht:fE t=true):Wn ⟨5,⟨0,0⟩,t, [], []⟩ d
 | arr (is:List Json) (d:Int) (hd:d≤16) (hi:eP is (d+1)=true):Wn ⟨6,⟨0,0⟩, [], [],is⟩ d
 | obj (ns:List ag) (is:List Json) (d:Int) (hd:d≤16) (hl:ns.length=is.length) (hu:tp [] ns=true) (hi:eP is (d+1)=true):Wn ⟨7,⟨0,0⟩, [],ns,is⟩ d
theorem fx {v:Json} {d:Int}:dZ v d=true↔Wn v d:=by
 obtain ⟨k,⟨m,e⟩,t,ns,is⟩:=v
 constructor
 ·intro h
  simp only[dZ,Bool.and_eq_true,Bool.or_eq_true,decide_eq_true_eq,beq_iff_eq,List.isEmpty_iff]at h
  obtain ⟨⟨⟨⟨⟨⟨hd,hk1,Re⟩,hn⟩,ht⟩,TR⟩,Ym⟩,hx⟩:=h
  have hk:k=1∨k=2∨k=3∨k=4∨k=5∨k=6∨k=7:=by omega
  rcases hk with rfl|rfl|rfl|rfl|rfl|rfl|rfl
  ·simp at hn ht TR Ym
   obtain ⟨rfl,rfl⟩:=hn
   subst ht TR Ym
   exact .name 1 d hd (by omega)
  ·simp at hn ht TR Ym
   obtain ⟨rfl,rfl⟩:=hn
   subst ht TR Ym
   exact .name 2 d hd (by omega)
  ·simp at hn ht TR Ym
   obtain ⟨rfl,rfl⟩:=hn
   subst ht TR Ym
   exact .name 3 d hd (by omega)
  ·simp at ht TR Ym hx
   subst ht TR Ym
   exact .num _ d hd (JS.1 hx)
  ·simp at hn TR Ym hx
   obtain ⟨rfl,rfl⟩:=hn
   subst TR Ym
   exact .text t d hd hx
  ·simp at hn ht TR hx
   obtain ⟨rfl,rfl⟩:=hn
   subst ht TR
   exact .arr is d hd hx
  ·simp at hn ht hx
   obtain ⟨rfl,rfl⟩:=hn
   subst ht
   exact .obj ns is d hd hx.1.1 hx.1.2 hx.2
 ·intro h
  cases h with
  | name _ _ hd hk=>rcases hk with rfl|rfl|rfl <;> simp[dZ,eP,hd]
  | num _ _ hd hn=>simp[dZ,hd,JS.2 hn]
  | text _ _ hd ht=>simp[dZ,hd,ht]
  | arr _ _ hd hi=>simp[dZ,hd,hi]
  | obj _ _ _ hd hl hu hi=>simp[dZ,hd,hl,hu,hi]
def NS (t:ag):ag:=34::(t.flatMap qb ++ [34])
theorem Yn {rs:List Nat} (hr:∀c∈rs,vr c):NS (fo rs)=qt rs:=by unfold NS qt; rw[qb_encL rs hr]
mutual
def cD:Json→ag
 | ⟨k,n,t,ns,is⟩=>if k=1 then rS else if k=2 then lv else if k=3 then wZ else if k=4 then AH n else if k=5 then NS t else if k=7 then 123::(ir ns is true ++ [125])else 91::(kZ is true ++ [93])
def kZ:List Json→Bool→ag
 | [],_ => []
 | x::l,first=>(if first then []else [44])++(cD x++kZ l false)
def ir:List ag→List Json→Bool→ag
 | _, [],_ => []
 | ns,x::l,first=>(if first then []else [44])++(NS (ns.headD [])++(58::(cD x++ir ns.tail l false)))
end
def txW (t:ag):qy:=([],NS t,⟨2,t,⟨0,0⟩,0⟩)
mutual
def tS:Json→List qy
 | ⟨k,n,t,ns,is⟩=>if k=1 then [([],rS,⟨4,rS,⟨0,0⟩,0⟩)]else if k=2 then [([],lv,⟨4,lv,⟨0,0⟩,0⟩)]else if k=3 then [([],wZ,⟨4,wZ,⟨0,0⟩,0⟩)]
   else if k=4 then [([],AH n,⟨3,AH n,n,0⟩)]else if k=5 then [txW t]else if k=7 then sg 123::(nn ns is true ++ [sg 125])else sg 91::(rh is true ++ [sg 93])
def rh:List Json→Bool→List qy
 | [],_ => []
 | x::l,first=>(if first then []else [sg 44])++(tS x++rh l false)
def nn:List ag→List Json→Bool→List qy
 | _, [],_ => []
 | ns,x::l,first=>(if first then []else [sg 44])++(txW (ns.headD [])::sg 58::(tS x++nn ns.tail l false))
end
mutual
theorem Rv:∀(v:Json) (z:ag),tR (tS v) z=cD v++z
 | ⟨k,n,t,ns,is⟩,z=>by
  have hL:=Z9 is true
  have hO:=aac ns is true
  simp only[tS,cD]
  split
  ·simp[tR]
  split
  ·simp[tR]
  split
  ·simp[tR]
  split
  ·simp[tR]
  split
  ·simp[tR,txW]
  split
  ·simp only[tR,sg,Fs,hO]; simp[tR,sg]
  ·simp only[tR,sg,Fs,hL]; simp[tR,sg]
theorem Z9:∀(l:List Json) (first:Bool) (z:ag),tR (rh l first) z=kZ l first++z
 | [],_,z=>rfl
 | x::l,first,z=>by
  have h1:=Rv x
  have h2:=Z9 l false
  simp only[rh,kZ]
  rw[Fs,Fs,h1,h2]
  cases first <;> simp[tR,sg]
theorem aac:∀(ns:List ag) (l:List Json) (first:Bool) (z:ag),tR (nn ns l first) z=ir ns l first++z
 | ns, [],_,z=>by simp[nn,ir,tR]
 | ns,x::l,first,z=>by
  have h1:=Rv x
  have h2:=aac ns.tail l false
  simp only[nn,ir]
  rw[Fs]
  simp only[tR,txW,sg,Fs,h1,h2]
  cases first <;> simp[tR,sg]
end
theorem aad {t:ag} (ht:fE t=true) (z:ag):okW [txW t] z:=by
 obtain ⟨rs,hr,rfl⟩:=Hp.1 ht
 have e:=Yn hr
 have hw:=word_text hr
 refine ⟨by simp[txW],by simp only[txW,e]; exact hw.1,?_,trivial⟩
 show tokS (NS (fo rs)++z)=some (⟨2,fo rs,⟨0,0⟩,0⟩,z)
 have e2:qt rs=34::(Vh rs ++ [34]):=by unfold qt; simp
 have hu:=uqS_qt rs hr z
 have e3:qt rs++z=34::(Vh rs ++ [34]++z):=by rw[e2]; rfl
 rw[e,e3]
 rw[e3]at hu
 simp only[tokS]
 rw[if_neg (by decide),if_pos (by decide),hu]
mutual
theorem Vk:∀(v:Json) (d:Int),dZ v d=true→∀z,SJ z→okW (tS v) z
 | ⟨k,n,t,ns,is⟩,d,h,z,hz=>by
  have hL:=words_okL is
  have hO:=words_okO ns is
  cases fx.1 h with
  | name _ _ hd hk =>
   rcases hk with rfl|rfl|rfl
   ·exact Ft (Hr (.inr (.inr rfl))) hz
   ·exact Ft (Hr (.inr (.inl rfl))) hz
   ·exact Ft (Hr (.inl rfl)) hz
  | num _ _ hd hn =>
   have e:AH n=XT n:=by unfold AH; rw[JS.2 hn]; rfl
   show okW [([],AH n,⟨3,AH n,n,0⟩)] z
   rw[e]
   exact Ft (word_num hn) hz
  | text _ _ hd ht=>exact aad ht z
  | arr _ _ hd hi =>
   show okW ([sg 91]++(rh is true ++ [sg 93])) z
   rw[CO,CO]
   exact ⟨Fu (by decide) _,hL true (d+1) hi _ (Ru (by decide) _),Fu (by decide) _⟩
  | obj _ _ _ hd hl hu hi =>
   show okW ([sg 123]++(nn ns is true ++ [sg 125])) z
   rw[CO,CO]
   exact ⟨Fu (by decide) _,hO true (d+1) hi hl [] hu _ (Ru (by decide) _),Fu (by decide) _⟩
theorem words_okL:∀(l:List Json) (first:Bool) (d:Int),eP l d=true→∀z,SJ z→okW (rh l first) z
 | [],_,_,_,_,_=>trivial
 | x::l,first,d,h,z,hz=>by
  simp only[eP,Bool.and_eq_true]at h
  have h1:=Vk x d h.1
  have h2:=words_okL l false d h.2 z hz
  simp only[rh]
  rw[CO,CO]
  refine ⟨?_,h1 _ ?_,h2⟩
  ·cases first
   ·exact Fu (by decide) _
   ·trivial
  ·cases l with
   | nil=>exact hz
   | cons y l =>
    simp only[rh]
    exact Ru (c:=44) (by decide) _
theorem words_okO:∀(ns:List ag) (l:List Json) (first:Bool) (d:Int),eP l d=true→ns.length=l.length→∀seen,tp seen ns=true→∀z,SJ z→okW (nn ns l first) z
 | ns, [],_,_,_,_,_,_,_,_=>by simp[nn,okW]
 | [],_::_,_,_,_,hl,_,_,_,_=>by simp at hl
 | n::ns,x::l,first,d,h,hl,seen,hu,z,hz=>by
  simp only[eP,Bool.and_eq_true]at h
  simp only[tp,Bool.and_eq_true]at hu
  have h1:=Vk x d h.1
  have h2:=words_okO ns l false d h.2 (by simpa using hl) _ hu.2 z hz
  simp only[nn,List.headD_cons,List.tail_cons]
  show okW ((if first=true then []else [sg 44])++([txW n]++([sg 58]++(tS x++nn ns l false)))) z
  rw[CO,CO,CO,CO]
  refine ⟨?_,aad hu.1.2 _,Fu (by decide) _,h1 _ ?_,h2⟩
  ·cases first
   ·exact Fu (by decide) _
   ·trivial
  ·cases l with
   | nil=>simp only[nn,tR]; exact hz
   | cons y l =>
    simp only[nn]
    exact Ru (c:=44) (by decide) _
end
mutual
def O0:Json→Bool
 | ⟨_,_,t,ns,is⟩=>decide (ns.length≤1099511627776)&&decide (is.length≤1099511627776)&&Vl is&&(decide (t.length≤10000000000)&&ns.all fun n=>decide (n.length≤10000000000))
def Vl:List Json→Bool
 | []=>true
 | x::l=>O0 x&&Vl l
end
theorem Vm:∀ {l:List Json} {x:Json},Vl l=true→x∈l→O0 x=true
 | y::l,x,h,hx=>by
  simp only[Vl,Bool.and_eq_true]at h
  rcases List.mem_cons.1 hx with rfl|hx
  ·exact h.1
  ·exact Vm h.2 hx
theorem w3 {v:Json}:O0 v=true↔v.names.length≤1099511627776∧v.items.length≤1099511627776∧Vl v.items=true∧v.text.length≤10000000000∧∀n∈v.names,n.length≤10000000000:=by
 obtain ⟨k,n,t,ns,is⟩:=v
 simp[O0,and_assoc]
theorem L4 (a b:ag):Df .str a b=(a==b):=rfl
def seenM (m:List (ag×Bool)) (n:ag):Bool:=mm .str .bool n m
theorem seen_put (m:List (ag×Bool)) (a b:ag):seenM (By .str .bool a true m) b=((b==a)||seenM m b):=by
 induction m with
 | nil =>
  show (bif Df .str b a then true else false)=_
  rw[L4]
  cases b==a <;> rfl
 | cons e m ih =>
  unfold seenM at ih ⊢
  show mm .str .bool b (bif Df .str a e.1 then (a,true)::m else e::By .str .bool a true m)=((b==a)||(bif Df .str b e.1 then e.2 else mm .str .bool b m))
  rw[L4,L4]
  by_cases h1:a=e.1
  ·have h1':(a==e.1)=true:=by simpa using h1
   rw[h1',cond_true]
   show (bif Df .str b a then true else mm .str .bool b m)=_
   rw[L4,←h1]
   cases b==a <;> rfl
  ·have h1':(a==e.1)=false:=by simpa using h1
   rw[h1',cond_false]
   show (bif Df .str b e.1 then e.2 else mm .str .bool b (By .str .bool a true m))=_
   rw[L4,ih]
   by_cases h2:b=a
   ·have h3:(b==e.1)=false:=by rw[h2]; exact h1'
    rw[h3]
    rfl
   ·have h3:(b==a)=false:=by simpa using h2
    rw[h3]
    rfl
theorem unique_loop {R:Type} (ns:List ag) (hl:ns.length≤1099511627776) (k:Bool→Option R):∀(F i:Nat) (m:List (ag×Bool)) (seen:List ag),i≤ns.length→ns.length - i<F→(∀n,seenM m n=seen.contains n) →
  cW F ns (ns.length:Int) (i:Int) m (k true) k=k (tp seen (ns.drop i)):=by
 intro F
 induction F with
 | zero=>intro i m seen _ h; omega
 | succ F ih =>
  intro i m seen hi hF hm
  show vR bU (fun x0 x1 x2 x3=>cW F x0 x1 x2 x3 (k true) k) ns (ns.length:Int) (i:Int) m (k true) k=_
  unfold vR
  by_cases h:i<ns.length
  ·have h1:decide ((i:Int)<(ns.length:Int))=true:=by simp; omega
   have h2:(decide ((0:Int)≤(i:Int))&&true)=true:=by simp
   have hw:IntKind.i64.wrap ((i:Int)+1)=((i+1:Nat):Int):=by rw[cK (by omega) (by omega)]; omega
   have hg:ns.getD (i:Int).toNat (Ty.bR .str)=ns[i]:=getD_at h _
   have hsn:mm .str .bool ns[i] m=seen.contains ns[i]:=hm ns[i]
   rw[h1,cond_true,ay h2,hg,hsn,hw,whole_eq,List.drop_eq_getElem_cons h]
   simp only[tp]
   cases seen.contains ns[i]with
   | true=>rfl
   | false =>
    cases fE ns[i]with
    | false=>rfl
    | true =>
     simp only[cond_false,Bool.not_true,Bool.not_false,Bool.true_and]
     refine ih (i+1) _ (ns[i]::seen) (by omega) (by omega) fun n => ?_
     rw[seen_put,hm]
     simp only[List.contains_cons]
  ·have h1:decide ((i:Int)<(ns.length:Int))=false:=by simp; omega
   rw[h1,cond_false,List.drop_eq_nil_of_le (by omega)]
   rfl
theorem unique_any {R:Type} (ns:List ag) (hl:ns.length≤1099511627776) (k:Bool→Option R):lj ns k=k (tp [] ns):=by
 have:=unique_loop ns hl k (List.length ns+Int.natAbs (ns.length:Int)+Int.natAbs 0+List.length ([]:List (ag×Bool))+64) 0 [] [] (by omega) (by omega) fun n=>rfl
 rw[List.drop_zero]at this
 exact this
theorem rightL_loop {R:Type} (f:cQ R) (is:List Json) (hl:is.length≤1099511627776) (d:Int) (hd:0≤d∧d≤16) (hf:∀x∈is,∀k:Bool→Option R,f x (d+1) k=k (dZ x (d+1))) (k:Bool→Int→Option R):∀(F i:Nat),i≤is.length→is.length - i<F →
  aP f F is (is.length:Int) (i:Int) d (fun y=>k (decide ((-1:Int)≥0)) y) (fun x y=>k (decide (x≥0)) y)=k (!eP (is.drop i) (d+1)) d:=by
 intro F
 induction F with
 | zero=>intro i _ h; omega
 | succ F ih =>
  intro i hi hF
  show gn (cR f) (fun x0 x1 x2 x3=>aP f F x0 x1 x2 x3 _ _) is (is.length:Int) (i:Int) d _ _=_
  unfold gn
  by_cases h:i<is.length
  ·have h1:decide ((i:Int)<(is.length:Int))=true:=by simp; omega
   have h2:(decide ((0:Int)≤(i:Int))&&true)=true:=by simp
   have hw:IntKind.i64.wrap ((i:Int)+1)=((i+1:Nat):Int):=by rw[cK (by omega) (by omega)]; omega
   have hwd:IntKind.i64.wrap (d+1)=d+1:=cK (by omega) (by omega)
   have hg:is.getD (i:Int).toNat (Ty.bR .json)=is[i]:=getD_at h _
   have hj:(decide ((i:Int)≥0))=true:=by simp
   have he:∀(x:Json) (q:Bool→Int→Option R),cR f x d q=f x (IntKind.i64.wrap (d+1)) fun y=>q (!y) d:=fun x q=>by
    show rV f x d q=_
    unfold rV
    simp only[Json.eta]
   rw[h1,cond_true,ay h2,hg,Json.eta,he,hwd,hf _ (List.getElem_mem h),List.drop_eq_getElem_cons h]
   simp only[eP]
   cases dZ is[i] (d+1)with
   | false=>simp only[Bool.not_false,cond_true,Bool.false_and,hj]
   | true =>
    simp only[Bool.not_true,cond_false,Bool.true_and]
    rw[hw]
    exact ih (i+1) (by omega) (by omega)
  ·have h1:decide ((i:Int)<(is.length:Int))=false:=by simp; omega
   rw[h1,cond_false,List.drop_eq_nil_of_le (by omega)]
   rfl
theorem containsFunc {R:Type} (f:cQ R) (is:List Json) (hl:is.length≤1099511627776) (d:Int) (hd:0≤d∧d≤16) (hf:∀x∈is,∀k:Bool→Option R,f x (d+1) k=k (dZ x (d+1))) (k:Bool→Int→Option R) :
  aO f is d k=k (!eP is (d+1)) d:=by
 have:=rightL_loop f is hl d hd hf k (List.length is+Int.natAbs (is.length:Int)+Int.natAbs 0+Int.natAbs d+64) 0 (by omega) (by omega)
 rw[List.drop_zero]at this
 exact this
theorem jdepthL_mem {l:List Json} {y:Json} (h:y∈l):y.depth≤Json.HG l:=by
 induction l with
 | nil=>cases h
 | cons a l ih =>
  simp only[Json.HG]
  rcases List.mem_cons.1 h with rfl|h
  ·exact Nat.le_max_left _ _
  ·exact Nat.le_trans (ih h) (Nat.le_max_right _ _)
theorem jdepth_eq (x:Json):x.depth=Json.HG x.items+1:=by cases x; simp[Json.depth]
theorem Xe {x y:Json} (h:y∈x.items):y.depth<x.depth:=by rw[jdepth_eq x]; exact Nat.lt_succ_of_le (jdepthL_mem h)
theorem bare_eq {R:Type} (k n1 n2:Int) (t:ag) (ns:List ag) (is:List Json) (q:Json→Option R):sd ⟨k,⟨n1,n2⟩,t,ns,is⟩ q =
  q ⟨k,if k=4 then ⟨0,0⟩else ⟨n1,n2⟩,if k=5 then []else t,if k=7 then []else ns,if k=6∨k=7 then []else is⟩:=by
 show Jz _ q=_
 unfold Jz
 simp only
 by_cases h4:k=4
 ·subst h4; rfl
 by_cases h5:k=5
 ·subst h5; rfl
 by_cases h7:k=7
 ·subst h7; rfl
 by_cases h6:k=6
 ·subst h6; rfl
 have e4:(k==4)=false:=by simpa using h4
 have e5:(k==5)=false:=by simpa using h5
 have e6:(k==6)=false:=by simpa using h6
 have e7:(k==7)=false:=by simpa using h7
 rw[e4,e5,e6,e7]
 simp[h4,h5,h6,h7]
theorem chain {R:Type} (k:Bool→Option R) {a b c:Bool} {x:Option R} {r:Bool} (hx:a=true→b=true→c=false→x=k r) (hr:(a=true∧b=true∧c=false)∨r=false) :
  (bif !a then k false else (bif !b then k false else (bif c then k false else x)))=k r:=by
 cases a with
 | false =>
  rcases hr with ⟨h,_⟩|rfl
  ·cases h
  ·rfl
 | true =>
  cases b with
  | false =>
   rcases hr with ⟨_,h,_⟩|rfl
   ·cases h
   ·rfl
  | true =>
   cases c with
   | true =>
    rcases hr with ⟨_,_,h⟩|rfl
    ·cases h
    ·rfl
   | false=>exact hx rfl rfl rfl
theorem right_N {R:Type}:∀(n:Nat) (v:Json) (d:Int),O0 v=true→v.depth<n→0≤d→d≤17→∀k:Bool→Option R,eZ n v d k=k (dZ v d):=by
 intro n
 induction n with
 | zero=>intro v d _ h; omega
 | succ n ih =>
  intro v d hv hn hd0 hd1 k
  obtain ⟨TR,Ym,hil,_⟩:=w3.1 hv
  have he:eZ (n+1) v d k=GS bU bS sd lj (aO (eZ n)) v d k:=rfl
  rw[he]
  have hcf:d≤16→∀q:Bool→Int→Option R,aO (eZ n) v.items d q=q (!eP v.items (d+1)) d:=fun h16 q =>
   containsFunc _ _ Ym d ⟨hd0,h16⟩ (fun x hx k=>ih x (d+1) (Vm hil hx) (by have:=Xe hx; omega) (by omega) (by omega) k) q
  obtain ⟨kd,⟨n1,n2⟩,t,ns,is⟩:=v
  unfold GS
  simp only at TR Ym hcf ⊢
  rw[bare_eq]
  simp only
  by_cases h16:d≤16
  rotate_left
  ·have e1:decide (d>16)=true:=by simp; omega
   rw[e1,cond_true]
   simp[dZ,h16]
  have e1:decide (d>16)=false:=by simp; omega
  rw[e1,cond_false]
  by_cases hk1:kd<1
  ·have e2:decide (kd<1)=true:=by simpa using hk1
   have:¬1≤kd:=by omega
   rw[e2,cond_true]
   simp[dZ,this]
  have e2:decide (kd<1)=false:=by simpa using hk1
  rw[e2,cond_false]
  by_cases hk7:kd>7
  ·have e3:decide (kd>7)=true:=by simpa using hk7
   have:¬kd≤7:=by omega
   rw[e3,cond_true]
   simp[dZ,this]
  have e3:decide (kd>7)=false:=by simpa using hk7
  rw[e3,cond_false]
  have hk:kd=1∨kd=2∨kd=3∨kd=4∨kd=5∨kd=6∨kd=7:=by omega
  have hsum:∀a b:Nat,a≤1099511627776→b≤1099511627776→decide (IntKind.i64.wrap ((a:Int)+(b:Int))>0) = !(a==0&&b==0):=by
   intro a b ha hb
   rw[cK (by omega) (by omega)]
   rw[Bool.eq_iff_iff,decide_eq_true_eq]
   simp only[Bool.not_eq_true',Bool.and_eq_false_iff,beq_eq_false_iff_ne]
   omega
  have hie:∀l:List ag,(l.length==0)=l.isEmpty:=fun l=>by cases l <;> rfl
  have hje:∀l:List Json,(l.length==0)=l.isEmpty:=fun l=>by cases l <;> rfl
  have hte:∀l:ag,(l==([]:ag))=l.isEmpty:=fun l=>by cases l <;> rfl
  have DW:∀d:Int,eP [] d=true:=fun _=>rfl
  have hnum:∀a b:Int,((a==0)&&((b==0)&&true))=(a==0&&b==0):=fun a b=>by cases a==0 <;> cases b==0 <;> rfl
  have hcf0:∀q:Bool→Int→Option R,is.isEmpty=true→aO (eZ n) is d q=q false d:=fun q h=>by
   rw[hcf h16]
   obtain rfl:is = []:=List.isEmpty_iff.1 h
   rfl
  have hbool:∀a b c:Bool,(a=true∧b=true∧(!c)=false)∨((a&&b)&&c)=false:=by decide
  have hb4:∀b c q:Bool,(true=true∧b=true∧(!c)=false)∨((b&&c)&&q)=false:=by decide
  have hb5:∀a c q:Bool,(a=true∧true=true∧(!c)=false)∨((a&&c)&&q)=false:=by decide
  have hb6:∀a b c q:Bool,(a=true∧b=true∧(!c)=false)∨(((a&&b)&&c)&&q)=false:=by decide
  have hb7:∀a b q:Bool,(a=true∧b=true∧false=false)∨((a&&b)&&q)=false:=by decide
  rcases hk with rfl|rfl|rfl|rfl|rfl|rfl|rfl
  ·have hr:dZ ⟨1,⟨n1,n2⟩,t,ns,is⟩ d=(((n1==0&&n2==0)&&t.isEmpty)&&(ns.isEmpty&&is.isEmpty)):=by
    cases is <;> simp[dZ,eP,h16]
   simp only[Int.reduceEq,if_false,or_self,hnum]
   rw[hsum _ _ TR Ym,hie,hje,hte,hr]
   refine chain k (fun h1 h2 h3 => ?_) (hbool _ _ _)
   have h4:ns.isEmpty=true∧is.isEmpty=true:=by simpa using h3
   rw[h1,h2,h4.1,h4.2]
   show aO (eZ n) is d (fun FM Gd=>k (!FM))=k true
   exact hcf0 _ h4.2
  ·have hr:dZ ⟨2,⟨n1,n2⟩,t,ns,is⟩ d=(((n1==0&&n2==0)&&t.isEmpty)&&(ns.isEmpty&&is.isEmpty)):=by
    cases is <;> simp[dZ,eP,h16]
   simp only[Int.reduceEq,if_false,or_self,hnum]
   rw[hsum _ _ TR Ym,hie,hje,hte,hr]
   refine chain k (fun h1 h2 h3 => ?_) (hbool _ _ _)
   have h4:ns.isEmpty=true∧is.isEmpty=true:=by simpa using h3
   rw[h1,h2,h4.1,h4.2]
   show aO (eZ n) is d (fun FM Gd=>k (!FM))=k true
   exact hcf0 _ h4.2
  ·have hr:dZ ⟨3,⟨n1,n2⟩,t,ns,is⟩ d=(((n1==0&&n2==0)&&t.isEmpty)&&(ns.isEmpty&&is.isEmpty)):=by
    cases is <;> simp[dZ,eP,h16]
   simp only[Int.reduceEq,if_false,or_self,hnum]
   rw[hsum _ _ TR Ym,hie,hje,hte,hr]
   refine chain k (fun h1 h2 h3 => ?_) (hbool _ _ _)
   have h4:ns.isEmpty=true∧is.isEmpty=true:=by simpa using h3
   rw[h1,h2,h4.1,h4.2]
   show aO (eZ n) is d (fun FM Gd=>k (!FM))=k true
   exact hcf0 _ h4.2
  ·have hr:dZ ⟨4,⟨n1,n2⟩,t,ns,is⟩ d=((t.isEmpty&&(ns.isEmpty&&is.isEmpty))&&fmB ⟨n1,n2⟩):=by
    simp[dZ,h16,Bool.and_assoc]
   simp only[Int.reduceEq,if_false,if_true,or_self]
   rw[hsum _ _ TR Ym,hie,hje,hte,hr]
   refine chain k (a:=true) (b:=t.isEmpty) (c := !(ns.isEmpty&&is.isEmpty)) (fun h1 h2 h3 => ?_) (hb4 _ _ _)
   have h4:ns.isEmpty=true∧is.isEmpty=true:=by simpa using h3
   rw[h2,h4.1,h4.2]
   exact right_any _ _
  ·have hr:dZ ⟨5,⟨n1,n2⟩,t,ns,is⟩ d=(((n1==0&&n2==0)&&(ns.isEmpty&&is.isEmpty))&&fE t):=by
    simp[dZ,h16,Bool.and_assoc]
   simp only[Int.reduceEq,if_false,if_true,or_self,hnum]
   rw[hsum _ _ TR Ym,hie,hje,hr]
   refine chain k (a:=(n1==0&&n2==0)) (b:=true) (c := !(ns.isEmpty&&is.isEmpty)) (fun h1 h2 h3 => ?_) (hb5 _ _ _)
   have h4:ns.isEmpty=true∧is.isEmpty=true:=by simpa using h3
   rw[h1,h4.1,h4.2]
   exact whole_eq _ _
  ·have hr:dZ ⟨6,⟨n1,n2⟩,t,ns,is⟩ d=((((n1==0&&n2==0)&&t.isEmpty)&&ns.isEmpty)&&eP is (d+1)):=by
    simp[dZ,h16,Bool.and_assoc]
   simp only[Int.reduceEq,if_false,if_true,true_or,hnum]
   have hs2:=hsum ns.length 0 TR (by omega)
   have hq:((0:Nat)==0)=true:=rfl
   rw[hq,Bool.and_true,hie]at hs2
   rw[List.length_nil,hs2,hte,hr]
   refine chain k (a:=(n1==0&&n2==0)) (b:=t.isEmpty) (c := !ns.isEmpty) (fun h1 h2 h3 => ?_) (hb6 _ _ _ _)
   have h4:ns.isEmpty=true:=by simpa using h3
   rw[h1,h2,h4]
   show aO (eZ n) is d (fun FM Gd=>k (!FM))=k (eP is (d+1))
   rw[hcf h16,Bool.not_not]
  ·have hr:dZ ⟨7,⟨n1,n2⟩,t,ns,is⟩ d=(((n1==0&&n2==0)&&t.isEmpty)&&(decide (ns.length=is.length)&&tp [] ns&&eP is (d+1))):=by
    simp[dZ,h16,Bool.and_assoc]
   simp only[Int.reduceEq,if_false,if_true,or_true,hnum]
   have hs2:=hsum 0 0 (by omega) (by omega)
   rw[List.length_nil,List.length_nil,hs2,hte,hr]
   refine chain k (a:=(n1==0&&n2==0)) (b:=t.isEmpty) (c:=false) (fun h1 h2 h3 => ?_) (hb7 _ _ _)
   rw[h1,h2]
   show (bif ((ns.length:Int) != (is.length:Int))then k false else lj ns (fun y7=>bif !y7 then k false else aO (eZ n) is d (fun uf za=>k (!uf))))=_
   by_cases hl:ns.length=is.length
   ·have e9:((ns.length:Int) != (is.length:Int))=false:=by rw[hl]; simp
    rw[e9,cond_false,unique_any ns TR,hcf h16,Bool.not_not]
    cases tp [] ns <;> simp[hl]
   ·have e9:((ns.length:Int) != (is.length:Int))=true:=by simp; omega
    rw[e9,cond_true]
    simp[hl]
theorem right_json {R:Type} (v:Json) (hv:O0 v=true) (k:Bool→Option R):na v k=k (dZ v 1):=by
 have e:na v k=GU oI v k:=rfl
 rw[e]
 unfold GU
 simp only[Json.eta]
 exact right_N (v.depth+2) v 1 hv (by omega) (by omega) (by omega) k
theorem L5 (p:UInt8→Bool) (s:ag):(s.takeWhile p).length+(s.dropWhile p).length=s.length:=by
 have:=congrArg List.length (List.takeWhile_append_dropWhile (p:=p) (l:=s))
 rwa [List.length_append]at this
theorem take_tw (p:UInt8→Bool) (s:ag):s.take (s.takeWhile p).length=s.takeWhile p:=by
 have:=List.take_left (l₁:=s.takeWhile p) (l₂:=s.dropWhile p)
 rwa [List.takeWhile_append_dropWhile]at this
theorem drop_tw (p:UInt8→Bool) (s:ag):s.drop (s.takeWhile p).length=s.dropWhile p:=by
 have:=List.drop_left (l₁:=s.takeWhile p) (l₂:=s.dropWhile p)
 rwa [List.takeWhile_append_dropWhile]at this
theorem aae {R:Type} (s cs:ag) (hs:s.length≤4000000000) (h1:wB cs=true) (h2:cs.length<4294967281) (k:ag→Option R):cO s cs k=k (s.takeWhile (cs.contains ·)):=by
 have e:cO s cs k=EG s cs k:=rfl
 rw[e]
 unfold EG
 have hl:=L5 (cs.contains ·) s
 have ht:(bx s cs).length=(s.dropWhile (cs.contains ·)).length:=rfl
 have hw:IntKind.i64.wrap ((s.length:Int) - ((bx s cs).length:Int))=((s.takeWhile (cs.contains ·)).length:Int):=by rw[ht,cK (by omega) (by omega)]; omega
 rw[hw,h1,ay (by rw[aQ h2]; rfl),ay (by rw[aQ (by omega),aQ (by omega)]; rfl),ay (aQ (by omega)),List.drop_zero,Nat.sub_zero,Int.toNat_natCast,take_tw]
theorem sign_has (c:UInt8):decide (EC sigS (c.toNat:Int)≥0)=TE c:=by
 have hi:EC sigS (c.toNat:Int)=Go.Lib.indexByte sigS c:=by
  unfold EC
  rw[Int.toNat_natCast]
  simp
 have h:=Yl c sigS
 rw[hi]
 unfold TE
 cases hc:sigS.contains c with
 | true =>
  apply aQ
  have:¬Go.Lib.indexByte sigS c<0:=fun g=>by rw[h.1 g]at hc; cases hc
  omega
 | false =>
  apply cu
  have:=h.2 hc
  omega
theorem next_ok {R:Type} (s:ag) (hs:s.length≤4000000000) (h0:s ≠ []) (k:Token→Int→Option R) :
  hJ s k=match tokS s with|some (t,r)=>k t ((s.length - r.length:Nat):Int)|none=>k ⟨0, [],⟨0,0⟩,0⟩ 0:=by
 have e:hJ s k=GZ fW er cO s k:=rfl
 rw[e]
 unfold GZ
 cases s with
 | nil=>exact (h0 rfl).elim
 | cons c u =>
  have hlen:(c::u:ag).length=u.length+1:=rfl
  have hg:(c::u:ag).getD 0 0=c:=rfl
  simp only[List.length_cons]at hs
  rw[hg,ay (aQ (by rw[hlen]; omega))]
  simp only
  have q45:((c.toNat:Int)==45)=decide (c.toNat=45):=eqI _ 45
  have q34:((c.toNat:Int)==34)=decide (c.toNat=34):=eqI _ 34
  have l48:decide ((c.toNat:Int)≥48)=decide (48≤c.toNat):=by
   by_cases h:48≤c.toNat
   ·rw[aQ h,aQ (by omega)]
   ·rw[cu h,cu (by omega)]
  have l57:decide ((c.toNat:Int)≤57)=decide (c.toNat≤57):=by
   by_cases h:c.toNat≤57
   ·rw[aQ h,aQ (by omega)]
   ·rw[cu h,cu (by omega)]
  have hsg:decide (EC ([123,125,91,93,44,58]:ag) (c.toNat:Int)≥0)=TE c:=sign_has c
  have jD:∀p:UInt8→Bool,((c::u).takeWhile p).length≤(c::u).length:=fun p=>by have:=L5 p (c::u); omega
  have num:∀k:Token→Int→Option R,cO (c::u) ([48,49,50,51,52,53,54,55,56,57,43,45,46,101,69]:ag) (fun y6=>er y6 (fun y7 y8=>bif (!y8)then (k (⟨0,([]:ag),⟨0,0⟩,0⟩:Token) 0)else (k (⟨3,y6,⟨y7.ao,y7.exp⟩,0⟩:Token) (y6.length:Int)))) =
    (if (CN ((c::u).takeWhile Fq)).2 then k ⟨3,(c::u).takeWhile Fq,(CN ((c::u).takeWhile Fq)).1,0⟩ (((c::u).length - ((c::u).dropWhile Fq).length:Nat):Int)else k ⟨0, [],⟨0,0⟩,0⟩ 0):=fun k=>by
   rw[aae _ _ (by rw[hlen]; omega) rfl (by decide)]
   have e:(c::u).takeWhile (fun x=>List.contains [48,49,50,51,52,53,54,55,56,57,43,45,46,101,69] x)=(c::u).takeWhile Fq:=rfl
   have hl:=jD Fq
   have hd:=L5 Fq (c::u)
   rw[e,parse_any _ (by omega)]
   have el:(c::u).length - ((c::u).dropWhile Fq).length=((c::u).takeWhile Fq).length:=by omega
   rw[el]
   cases (CN ((c::u).takeWhile Fq)).2 <;> rfl
  have txt:∀k:Token→Int→Option R,fW (c::u) (fun Ed An KV=>bif (!KV)then (k (⟨0,([]:ag),⟨0,0⟩,0⟩:Token) 0)else (k (⟨2,Ed,⟨0,0⟩,0⟩:Token) An)) =
    match uqS (c::u)with|some (o,r)=>k ⟨2,o,⟨0,0⟩,0⟩ (((c::u).length - r.length:Nat):Int)|none=>k ⟨0, [],⟨0,0⟩,0⟩ 0:=fun k=>by
   rw[unquote_ok _ (by rw[hlen]; omega)]
   cases hu:uqS (c::u)with
   | none=>rfl
   | some p =>
    obtain ⟨o,r⟩:=p
    obtain ⟨_,hr,_⟩:=uqS_sfx hu
    simp only[Bool.not_true,cond_false]
    rw[cK (by omega) (by omega)]
    congr 1
    omega
  have nam:∀k:Token→Int→Option R,cO (c::u) ([97,98,99,100,101,102,103,104,105,106,107,108,109,110,111,112,113,114,115,116,117,118,119,120,121,122]:ag) (fun C2=>bif (C2==([116,114,117,101]:ag))then (k (⟨4,C2,⟨0,0⟩,0⟩:Token) (C2.length:Int))else (bif (C2==([102,97,108,115,101]:ag))then (k (⟨4,C2,⟨0,0⟩,0⟩:Token) (C2.length:Int))else (bif (!(C2==([110,117,108,108]:ag)))then (k (⟨0,([]:ag),⟨0,0⟩,0⟩:Token) 0)else (k (⟨4,C2,⟨0,0⟩,0⟩:Token) (C2.length:Int))))) =
    (if (c::u).takeWhile Et=wZ∨(c::u).takeWhile Et=lv∨(c::u).takeWhile Et=rS then k ⟨4,(c::u).takeWhile Et,⟨0,0⟩,0⟩ (((c::u).length - ((c::u).dropWhile Et).length:Nat):Int)else k ⟨0, [],⟨0,0⟩,0⟩ 0):=fun k=>by
   rw[aae _ _ (by rw[hlen]; omega) rfl (by decide)]
   have e:(c::u).takeWhile (fun x=>List.contains [97,98,99,100,101,102,103,104,105,106,107,108,109,110,111,112,113,114,115,116,117,118,119,120,121,122] x)=(c::u).takeWhile Et:=rfl
   have hd:=L5 Et (c::u)
   have el:(c::u).length - ((c::u).dropWhile Et).length=((c::u).takeWhile Et).length:=by omega
   rw[e,el]
   generalize (c::u).takeWhile Et=w
   have eq:∀a:ag,(w==a)=decide (w=a):=fun a=>by
    by_cases h:w=a
    ·rw[aQ h]; exact beq_iff_eq.2 h
    ·rw[cu h]; exact beq_eq_false_iff_ne.2 h
   rw[eq,eq,eq]
   by_cases h1:w=wZ
   ·rw[aQ (show w = [116,114,117,101]from h1),if_pos (.inl h1)]; rfl
   ·by_cases h2:w=lv
    ·rw[cu (show ¬w = [116,114,117,101]from h1),aQ (show w = [102,97,108,115,101]from h2),if_pos (.inr (.inl h2))]; rfl
    ·by_cases h3:w=rS
     ·rw[cu (show ¬w = [116,114,117,101]from h1),cu (show ¬w = [102,97,108,115,101]from h2),aQ (show w = [110,117,108,108]from h3),if_pos (.inr (.inr h3))]; rfl
     ·rw[cu (show ¬w = [116,114,117,101]from h1),cu (show ¬w = [102,97,108,115,101]from h2),cu (show ¬w = [110,117,108,108]from h3),if_neg (by rintro (h|h|h); exact h1 h; exact h2 h; exact h3 h)]; rfl
  have sgn1:∀k:Token→Int→Option R,cx (decide ((1:Int)≤((c::u:ag).length:Int))) (k (⟨1,(((c::u:ag).drop 0).take (1 - 0)),⟨0,0⟩,0⟩:Token) 1)=k ⟨1, [c],⟨0,0⟩,0⟩ (((c::u).length - u.length:Nat):Int):=fun k=>by
   have e1:(c::u).length - u.length=1:=by rw[hlen]; omega
   rw[ay (aQ (by rw[hlen]; omega)),e1]
   rfl
  simp only[tokS]
  rw[q45,q34,l48,l57,hsg]
  by_cases h45:c.toNat=45
  ·rw[aQ h45,cond_true,if_pos (.inl h45)]
   refine (num k).trans ?_
   split <;> rfl
  ·rw[cu h45,cond_false]
   have rest:¬(48≤c.toNat∧c.toNat≤57)→(bif decide (c.toNat=34)then fW (c::u) (fun Ed An KV=>bif (!KV)then (k (⟨0,([]:ag),⟨0,0⟩,0⟩:Token) 0)else (k (⟨2,Ed,⟨0,0⟩,0⟩:Token) An))else (bif TE c then cx (decide ((1:Int)≤((c::u:ag).length:Int))) (k (⟨1,(((c::u:ag).drop 0).take (1 - 0)),⟨0,0⟩,0⟩:Token) 1)else cO (c::u) ([97,98,99,100,101,102,103,104,105,106,107,108,109,110,111,112,113,114,115,116,117,118,119,120,121,122]:ag) (fun C2=>bif (C2==([116,114,117,101]:ag))then (k (⟨4,C2,⟨0,0⟩,0⟩:Token) (C2.length:Int))else (bif (C2==([102,97,108,115,101]:ag))then (k (⟨4,C2,⟨0,0⟩,0⟩:Token) (C2.length:Int))else (bif (!(C2==([110,117,108,108]:ag)))then (k (⟨0,([]:ag),⟨0,0⟩,0⟩:Token) 0)else (k (⟨4,C2,⟨0,0⟩,0⟩:Token) (C2.length:Int))))))) =
     match (if c.toNat=45∨(48≤c.toNat∧c.toNat≤57)then (if (CN ((c::u).takeWhile Fq)).2 then some (⟨3,(c::u).takeWhile Fq,(CN ((c::u).takeWhile Fq)).1,0⟩,(c::u).dropWhile Fq)else none)else if c.toNat=34 then (match uqS (c::u)with|some (o,r)=>some (⟨2,o,⟨0,0⟩,0⟩,r)|none=>none)else if TE c then some ((⟨1, [c],⟨0,0⟩,0⟩:Token),u)else if (c::u).takeWhile Et=wZ∨(c::u).takeWhile Et=lv∨(c::u).takeWhile Et=rS then some (⟨4,(c::u).takeWhile Et,⟨0,0⟩,0⟩,(c::u).dropWhile Et)else none)with
     | some (t,r)=>k t (((c::u).length - r.length:Nat):Int)|none=>k ⟨0, [],⟨0,0⟩,0⟩ 0:=by
    intro hd
    rw[if_neg (by rintro (h|h); exact h45 h; exact hd h)]
    by_cases SI:c.toNat=34
    ·rw[aQ SI,cond_true,if_pos SI,txt]
     cases uqS (c::u)with
     | none=>rfl
     | some p=>rfl
    ·rw[cu SI,cond_false,if_neg SI]
     cases hs':TE c with
     | true=>rw[cond_true,sgn1,if_pos rfl]
     | false =>
      rw[cond_false,nam,if_neg (show ¬(false=true) by simp)]
      split <;> rfl
   by_cases h48:48≤c.toNat
   ·rw[aQ h48,cond_true]
    by_cases h57:c.toNat≤57
    ·rw[aQ h57,cond_true,if_pos (.inr ⟨h48,h57⟩)]
     refine (num k).trans ?_
     split <;> rfl
    ·rw[cu h57,cond_false]
     exact rest (fun h=>h57 h.2)
   ·rw[cu h48,cond_false]
    exact rest (fun h=>h48 h.1)
theorem scan_loop {R:Type} (s:ag) (hs:s.length≤20000) (e0:List Token→Int→Int→Option R) (e1:Int→Int→Option R) (hz:∀a b,e0 [] a b=e1 a b):∀(n p:Nat) (out:List Token),s.length - p<n→p≤s.length→out.length≤p →
  cZ n s out (p:Int) e0 e1=e0 (xM n p (s.drop p) out).1 (xM n p (s.drop p) out).2.1 (xM n p (s.drop p) out).2.2:=by
 intro n
 induction n with
 | zero=>intro p out h; omega
 | succ n ih =>
  intro p out h1 h2 h3
  rw[cZ]
  unfold Eg
  have hsub:∀q:Nat,(s.drop q).take ((s.length:Int).toNat - q)=s.drop q:=fun q=>List.take_of_length_le (by rw[List.length_drop,Int.toNat_natCast]; exact Nat.le_refl _)
  have hl:=L5 td (s.drop p)
  rw[List.length_drop]at hl
  have hdl:(s.drop p).length=s.length - p:=List.length_drop
  rw[ay (by rw[aQ (by omega),aQ (by omega)]; rfl),ay (by rw[aQ (by omega),aQ (by omega)]; rfl),Int.toNat_natCast p,hsub,aae _ _ (by omega) rfl (by decide)]
  have eb:(s.drop p).takeWhile (fun x=>List.contains [32,9,10,13] x)=(s.drop p).takeWhile td:=rfl
  rw[eb]
  have hdd:s.drop (p+((s.drop p).takeWhile td).length)=(s.drop p).dropWhile td:=by rw[←drop_tw td (s.drop p),List.drop_drop]
  have hw:IntKind.i64.wrap ((p:Int)+(((s.drop p).takeWhile td).length:Int))=((p+((s.drop p).takeWhile td).length:Nat):Int):=by rw[cK (by omega) (by omega)]; omega
  rw[hw]
  simp only[xM]
  generalize hq:p+((s.drop p).takeWhile td).length=q at *
  by_cases hend:(s.drop p).dropWhile td = []
  ·have hqe:q=s.length:=by rw[hend]at hl; simp at hl; omega
   have e1':(((q:Nat):Int)==(s.length:Int))=true:=by rw[hqe]; simp
   rw[e1',cond_true,ay (aQ (by omega)),if_pos hend]
  ·have SX:0<((s.drop p).dropWhile td).length:=List.length_pos_iff.2 hend
   have e1':(((q:Nat):Int)==(s.length:Int))=false:=by rw[beq_eq_false_iff_ne]; omega
   rw[e1',cond_false,ay (by rw[aQ (by omega),aQ (by omega)]; rfl),ay (by rw[aQ (by omega),aQ (by omega)]; rfl),Int.toNat_natCast q,hsub,hdd,next_ok _ (by omega) hend,if_neg hend]
   cases ht:tokS ((s.drop p).dropWhile td)with
   | none =>
    have e0':((0:Int)==0)=true:=rfl
    simp only
    rw[e0',cond_true,hz]
   | some x =>
    obtain ⟨t,r⟩:=x
    obtain ⟨f1,f2⟩:=tokS_sfx ht
    have hn:((((s.drop p).dropWhile td).length - r.length:Nat):Int)≠0:=by omega
    simp only
    rw[beq_eq_false_iff_ne.2 hn,cond_false,ay (aQ (by omega))]
    have hq2:IntKind.i64.wrap (((q:Nat):Int)+((((s.drop p).dropWhile td).length - r.length:Nat):Int))=((p+((s.drop p).length - r.length):Nat):Int):=by rw[cK (by omega) (by omega)]; omega
    rw[hq2]
    have hr:s.drop (p+((s.drop p).length - r.length))=r:=by
     have:=sfx_drop (f1.trans (List.dropWhile_suffix td))
     rw[←List.drop_drop,←this]
    have key:=ih (p+((s.drop p).length - r.length)) (out ++ [putT t ((q:Nat):Int)]) (by omega) (by omega) (by simp; omega)
    rw[hr]at key
    exact key
theorem scan_ok {R:Type} (s:ag) (k:List Token→Int→Int→Option R):ni s k=k (rT s).1 (rT s).2.1 (rT s).2.2:=by
 have e:ni s k=G0 cZ s k:=rfl
 rw[e]
 unfold G0 rT
 by_cases h:20000<s.length
 ·rw[aQ (show (s.length:Int)>20000 by omega),cond_true,if_pos h]
 ·rw[cu (show ¬(s.length:Int)>20000 by omega),cond_false,if_neg h]
  have key:=scan_loop (R:=R) s (by omega) (fun y8 y9 oc=>k y8 y9 oc) (fun uf za=>k [] uf za) (fun _ _=>rfl) (List.length s+List.length ([]:List Token)+Int.natAbs 0+64) 0 [] (by omega) (by omega) (by simp)
  rw[List.drop_zero,Z6 _ (s.length+1) 0 s [] (by omega) (by omega)]at key
  exact key
abbrev XV:=Int×List Token
def kf (x:ag):List Token→Option (List Token)
 | t::r=>if t.kind=1∧t.text=x then some r else none
 | []=>none
def JT (ns:List ag):List Token→Except XV (ag×List Token)
 | t::r =>
  if t.kind≠2 then .error (40,t::r)else if ns.contains t.text then .error (42,t::r)else
   match kf [58] r with
   | some r' => .ok (t.text,r')
   | none => .error (40,r)
 | [] => .error (0, [])
def xN (f:List Token→Except XV (Json×List Token)) (obj:Bool) (ns:List ag) (is:List Json) (ts:List Token):Except XV ((List ag×List Json)×List Token) :=
 match obj with
 | true =>
  (match JT ns ts with
   | .error b => .error b
   | .ok (nm,ts1)=>(match f ts1 with | .error b => .error b | .ok (v,TG) => .ok ((ns ++ [nm],is ++ [v]),TG)))
 | false=>(match f ts with | .error b => .error b | .ok (v,TG) => .ok ((ns,is ++ [v]),TG))
def zQ (f:List Token→Except XV (Json×List Token)) (cl:ag) (obj:Bool):Nat→List ag→List Json→List Token→Except XV ((List ag×List Json)×List Token)
 | 0,_,_,ts => .error (0,ts)
 | m+1,ns,is,ts =>
  match xN f obj ns is ts with
  | .error b => .error b
  | .ok (p,TG) =>
   match kf cl TG with
   | some r => .ok (p,r)
   | none =>
    match kf [44] TG with
    | some r=>zQ f cl obj m p.1 p.2 r
    | none => .error (40,TG)
def Eu (t:ag):Bool:=t==rS||(t==lv||t==wZ)
def aaf:List (ag×Int) := [(rS,1),(lv,2),(wZ,3)]
def Ii (t:ag):Bool:=t == [91]||t == [123]
def tT (t:Token):Bool:=t.kind==2||(t.kind==3||(t.kind==4||(t.kind==1&&Ii t.text)))
def yR:Nat→Int→List Token→Except XV (Json×List Token)
 | 0,_,ts => .error (0,ts)
 | _+1,_, [] => .error (0, [])
 | n+1,d,t::r =>
  if tT t=false then .error (40,t::r)else
  if d>16 then .error (41,t::r)else
  if t.kind=1∧Ii t.text=true then
   let obj:=t.text == [123]
   let k:Int:=if obj then 7 else 6
   let cl:ag:=if obj then [125]else [93]
   match kf cl r with
   | some r' => .ok (⟨k,⟨0,0⟩, [], [], []⟩,r')
   | none =>
    match zQ (yR n (d+1)) cl obj (r.length+1) [] [] r with
    | .error b => .error b
    | .ok (p,r') => .ok (⟨k,⟨0,0⟩, [],p.1,p.2⟩,r')
  else if t.kind=4∧Eu t.text=true then .ok (⟨mm .str (.int .i64) t.text aaf,⟨0,0⟩, [], [], []⟩,r)
  else if t.kind=3 then .ok (⟨4,t.num, [], [], []⟩,r)
  else .ok (⟨5,⟨0,0⟩,t.text, [], []⟩,r)
theorem Hs {x:ag} {ts r:List Token} (h:kf x ts=some r):r.length<ts.length:=by
 cases ts with
 | nil=>cases h
 | cons t ts =>
  simp only[kf]at h
  split at h
  ·cases h; simp
  ·cases h
theorem nameS_len {ns:List ag} {ts:List Token} {p:ag×List Token} (h:JT ns ts = .ok p):p.2.length<ts.length:=by
 cases ts with
 | nil=>cases h
 | cons t ts =>
  simp only[JT]at h
  split at h
  ·cases h
  ·split at h
   ·cases h
   ·split at h
    ·rename_i r hr
     have:=Hs hr
     cases h
     simp; omega
    ·cases h
theorem Wo {f:List Token→Except XV (Json×List Token)} (hf:∀ts p,f ts = .ok p→p.2.length<ts.length) {obj:Bool} {ns:List ag} {is:List Json} {ts:List Token} {p:(List ag×List Json)×List Token} (h:xN f obj ns is ts = .ok p) :
  p.2.length<ts.length:=by
 cases obj with
 | true =>
  simp only[xN]at h
  split at h
  ·cases h
  ·rename_i nm ts1 hn
   have h1:=nameS_len hn
   split at h
   ·cases h
   ·rename_i v TG hv
    have h2:=hf _ _ hv
    cases h
    simp only at h1 h2 ⊢
    omega
 | false =>
  simp only[xN]at h
  split at h
  ·cases h
  ·rename_i v TG hv
   have h2:=hf _ _ hv
   cases h
   exact h2
theorem listS_len {f:List Token→Except XV (Json×List Token)} (hf:∀ts p,f ts = .ok p→p.2.length<ts.length) {cl:ag} {obj:Bool}:∀(m:Nat) (ns:List ag) (is:List Json) (ts:List Token) (p:(List ag×List Json)×List Token),
  zQ f cl obj m ns is ts = .ok p→p.2.length<ts.length
 | 0,_,_,_,_,h=>by cases h
 | m+1,ns,is,ts,p,h=>by
  simp only[zQ]at h
  split at h
  ·cases h
  ·rename_i q TG hq
   have h1:=Wo hf hq
   split at h
   ·rename_i r hr
    have h2:=Hs hr
    cases h
    simp only at h1 h2 ⊢
    omega
   ·split at h
    ·rename_i r hr
     have h2:=Hs hr
     have h3:=listS_len hf m _ _ _ _ h
     simp only at h1 h2 h3 ⊢
     omega
    ·cases h
theorem valS_len:∀(n:Nat) (d:Int) (ts:List Token) (p:Json×List Token),yR n d ts = .ok p→p.2.length<ts.length
 | 0,_,_,_,h=>by cases h
 | _+1,_, [],_,h=>by cases h
 | n+1,d,t::r,p,h=>by
  simp only[yR]at h
  split at h
  ·cases h
  split at h
  ·cases h
  split at h
  ·split at h
   ·rename_i r' hr
    have:=Hs hr
    cases h
    simp; omega
   ·split at h
    ·cases h
    ·rename_i q r' hq
     have:=listS_len (fun ts p=>valS_len n (d+1) ts p) _ _ _ _ _ hq
     cases h
     simp only[List.length_cons]at this ⊢
     omega
  split at h
  ·cases h; simp
  split at h
  ·cases h; simp
  ·cases h; simp
theorem aag {f:List Token→Except XV (Json×List Token)} (hf:∀ts p,f ts = .ok p→p.2.length<ts.length) {cl:ag} {obj:Bool}:∀(m m':Nat) (ns:List ag) (is:List Json) (ts:List Token),ts.length<m→ts.length<m' →
  zQ f cl obj m ns is ts=zQ f cl obj m' ns is ts
 | 0,_,_,_,_,h,_=>by omega
 | _+1,0,_,_,_,_,h=>by omega
 | m+1,m'+1,ns,is,ts,h,h'=>by
  simp only[zQ]
  cases hq:xN f obj ns is ts with
  | error b=>rfl
  | ok q =>
   obtain ⟨p,TG⟩:=q
   have h1:=Wo hf hq
   simp only
   cases kf cl TG with
   | some r=>rfl
   | none =>
    simp only
    cases hr:kf [44] TG with
    | none=>rfl
    | some r =>
     have h2:=Hs hr
     simp only at h1 h2 ⊢
     exact aag hf m m' _ _ _ (by omega) (by omega)
def Both {α:Type} (P:α→Prop) (Q:XV→Prop):Except XV α→Prop
 | .ok p=>P p
 | .error b=>Q b
def De (ts:List Token):Prop:=∃e,ts.getLast? = some e∧e.kind=5
theorem De.ne {ts:List Token} (h:De ts):ts ≠ []:=by
 rintro rfl
 obtain ⟨e,h,_⟩:=h
 cases h
theorem De.tail {t:Token} {r:List Token} (h:De (t::r)) (ht:t.kind≠5):De r:=by
 obtain ⟨e,h1,h2⟩:=h
 cases r with
 | nil =>
  simp at h1
  subst h1
  exact (ht h2).elim
 | cons u r=>exact ⟨e,by simpa [List.getLast?_cons_cons]using h1,h2⟩
theorem L6 {x:ag} {ts r:List Token} (he:De ts) (h:kf x ts=some r):De r:=by
 cases ts with
 | nil=>cases h
 | cons t ts =>
  simp only[kf]at h
  split at h
  ·rename_i hc
   cases h
   exact he.tail (by rw[hc.1]; decide)
  ·cases h
theorem nameS_end {ns:List ag} {ts:List Token} (he:De ts):Both (fun p:ag×List Token=>De p.2) (fun b=>De b.2∧b.1≠0) (JT ns ts):=by
 cases ts with
 | nil=>exact (he.ne rfl).elim
 | cons t ts =>
  simp only[JT]
  by_cases hk:t.kind=2
  ·rw[if_neg (by simp[hk])]
   have h1:=he.tail (by rw[hk]; decide)
   by_cases hc:ns.contains t.text=true
   ·rw[if_pos hc]
    exact ⟨he,by show (_:Int)≠0; simp⟩
   ·rw[if_neg hc]
    cases hr:kf [58] ts with
    | some r=>exact L6 h1 hr
    | none=>exact ⟨h1,by show (_:Int)≠0; simp⟩
  ·rw[if_pos hk]
   exact ⟨he,by show (_:Int)≠0; simp⟩
theorem EM {t:Token} {r:List Token}:decide ((0:Int)<((t::r).length:Int))=true:=by rw[decide_eq_true_eq,List.length_cons]; omega
theorem Yo {t:Token} {r:List Token}:decide ((1:Int)≤((t::r).length:Int))=true:=by rw[decide_eq_true_eq,List.length_cons]; omega
theorem QI {R:Type} (x:ag) {ts:List Token} (hn:ts ≠ []) (k:Bool→List Token→Int→Option R):ax x ts 0 k=match kf x ts with|some r=>k true r 0|none=>k false ts 0:=by
 cases ts with
 | nil=>exact (hn rfl).elim
 | cons t r =>
  have e0:ax x (t::r) 0 k=cx (decide ((0:Int)<((t::r).length:Int))) (bif (t.kind != 1)then (k false (t::r) 0)else (bif (!(t.text==x))then (k false (t::r) 0)else (cx (decide ((1:Int)≤((t::r).length:Int))) (k true r 0)))):=rfl
  rw[e0,ay EM]
  simp only[kf]
  by_cases h1:t.kind=1
  ·by_cases h2:t.text=x
   ·rw[if_pos ⟨h1,h2⟩]
    have e1:(t.kind != 1)=false:=by simp[h1]
    have e2:(!(t.text==x))=false:=by simp[h2]
    rw[e1,e2,ay Yo]
    rfl
   ·rw[if_neg (fun h=>h2 h.2)]
    have e1:(t.kind != 1)=false:=by simp[h1]
    have e2:(!(t.text==x))=true:=by simp[h2]
    rw[e1,e2]
    rfl
  ·rw[if_neg (fun h=>h1 h.1)]
   have e1:(t.kind != 1)=true:=by simp[h1]
   rw[e1]
   rfl
theorem Tn {R:Type} (ns:List ag) (x:ag) (hl:ns.length≤1099511627776) (k:Bool→Option R):∀(F i:Nat),i≤ns.length→ns.length - i<F →
  aS F ns x (ns.length:Int) (i:Int) (k (decide ((-1:Int)≥0))) (fun y=>k (decide (y≥0)))=k ((ns.drop i).contains x):=by
 intro F
 induction F with
 | zero=>intro i _ h; omega
 | succ F ih =>
  intro i hi hF
  show eX (fun x0 x1 x2 x3=>aS F x0 x1 x2 x3 _ _) ns x (ns.length:Int) (i:Int) _ _=_
  unfold eX
  by_cases h:i<ns.length
  ·have h1:decide ((i:Int)<(ns.length:Int))=true:=by simp; omega
   have h2:(decide ((0:Int)≤(i:Int))&&true)=true:=by simp
   have hw:IntKind.i64.wrap ((i:Int)+1)=((i+1:Nat):Int):=by rw[cK (by omega) (by omega)]; omega
   have hg:ns.getD (i:Int).toNat (Ty.bR .str)=ns[i]:=getD_at h _
   have hj:(decide ((i:Int)≥0))=true:=by simp
   rw[h1,cond_true,ay h2,hg,List.drop_eq_getElem_cons h,List.contains_cons]
   cases hq:x==ns[i]with
   | true =>
    rw[cond_true,Bool.true_or]
    show k (decide ((i:Int)≥0))=k true
    rw[hj]
   | false =>
    rw[cond_false,Bool.false_or,hw]
    exact ih (i+1) (by omega) (by omega)
  ·have h1:decide ((i:Int)<(ns.length:Int))=false:=by simp; omega
   rw[h1,cond_false,List.drop_eq_nil_of_le (by omega)]
   rfl
theorem NT {R:Type} (ns:List ag) (x:ag) (hl:ns.length≤1099511627776) (k:Bool→Option R):aB ns x k=k (ns.contains x):=by
 have:=Tn ns x hl k (List.length ns+List.length x+Int.natAbs (ns.length:Int)+Int.natAbs 0+64) 0 (by omega) (by omega)
 rw[List.drop_zero]at this
 exact this
theorem name_ok {R:Type} (ns:List ag) (hl:ns.length≤1099511627776) {ts:List Token} (he:De ts):Both (fun p:ag×List Token=>∀k:ag→List Token→Int→Option R,da ns ts 0 k=k p.1 p.2 0)
  (fun b=>∃nm,∀k:ag→List Token→Int→Option R,da ns ts 0 k=k nm b.2 b.1) (JT ns ts):=by
 cases ts with
 | nil=>exact (he.ne rfl).elim
 | cons t r =>
  have e0:∀k:ag→List Token→Int→Option R,da ns (t::r) 0 k=cx (decide ((0:Int)<((t::r).length:Int))) (bif (t.kind != 2)then (k t.text (t::r) 40)else (aB ns t.text (fun y6=>bif y6 then (k t.text (t::r) 42)else (cx (decide ((1:Int)≤((t::r).length:Int))) (ax [58] r 0 (fun y9 oc uf=>bif (!y9)then (au 40 oc uf (fun za FM=>k t.text za FM))else (k t.text oc uf))))))):=fun k=>rfl
  simp only[JT]
  by_cases hk:t.kind=2
  ·have e1:(t.kind != 2)=false:=by simp[hk]
   have hr:=he.tail (by rw[hk]; decide)
   rw[if_neg (by simp[hk])]
   cases hc:ns.contains t.text with
   | true =>
    rw[if_pos rfl]
    refine ⟨t.text,fun k => ?_⟩
    rw[e0,ay EM,e1,cond_false,NT ns _ hl,hc]
    rfl
   | false =>
    rw[if_neg (by simp)]
    have hs:=fun k:Bool→List Token→Int→Option R=>QI [58] hr.ne k
    cases hq:kf [58] r with
    | some r' =>
     rw[hq]at hs
     intro k
     rw[e0,ay EM,e1,cond_false,NT ns _ hl,hc,cond_false,ay Yo]
     exact hs _
    | none =>
     rw[hq]at hs
     refine ⟨t.text,fun k => ?_⟩
     rw[e0,ay EM,e1,cond_false,NT ns _ hl,hc,cond_false,ay Yo]
     exact hs _
  ·have e1:(t.kind != 2)=true:=by simp[hk]
   rw[if_pos hk]
   refine ⟨t.text,fun k => ?_⟩
   rw[e0,ay EM,e1]
   rfl
def Hval {R:Type} (j0:aD R) (f:List Token→Except XV (Json×List Token)) (d:Int) (B:Nat):Prop :=
 ∀ts,De ts→ts.length≤B→Both (fun p:Json×List Token=>De p.2∧∀k:Json→List Token→Int→Option R,j0 d ts 0 k=k p.1 p.2 0)
  (fun b=>(De b.2∧b.1≠0)∧∃v,∀k:Json→List Token→Int→Option R,j0 d ts 0 k=k v b.2 b.1) (f ts)
theorem Yp {α:Type} (l:List α) (a b:α):(l ++ [a]).set ((l.length:Int)).toNat b=l ++ [b]:=by
 rw[Int.toNat_natCast,List.set_append_right _ _ (Nat.le_refl _),Nat.sub_self]
 rfl
abbrev PartG (R:Type):=Bool→Int→Int→Int→ag→List ag→Nat→Int→List Json→List Token→Int→Option R
theorem parts_ok {R:Type} (j0:aD R) (f:List Token→Except XV (Json×List Token)) (d:Int) (hd:0≤d∧d≤16) (B:Nat) (hv:Hval j0 f (d+1) B) (obj:Bool) (kd a b:Int) (tx:ag) (ns:List ag) (is:List Json) (ts:List Token)
  (he:De ts) (hB:ts.length≤B) (TR:ns.length≤1000000000) (Ym:is.length≤1000000000) :
  Both (fun p:(List ag×List Json)×List Token=>De p.2∧∀G:PartG R,bn j0 obj kd a b tx ns is.length d is ts 0 (fun a1 a2 a3 a4 a5 a6 a7 a8 t e i=>G a1 a2 a3 a4 a5 a6 a7 a8 i t e) G (fun a1 a2 a3 a4 a5 a6 a7 a8 t e i=>G a1 a2 a3 a4 a5 a6 a7 a8 i t e) G=G obj kd a b tx p.1.1 p.1.2.length d p.1.2 p.2 0)
   (fun q=>(De q.2∧q.1≠0)∧∃ns' n' is',∀G:PartG R,bn j0 obj kd a b tx ns is.length d is ts 0 (fun a1 a2 a3 a4 a5 a6 a7 a8 t e i=>G a1 a2 a3 a4 a5 a6 a7 a8 i t e) G (fun a1 a2 a3 a4 a5 a6 a7 a8 t e i=>G a1 a2 a3 a4 a5 a6 a7 a8 i t e) G=G obj kd a b tx ns' n' d is' q.2 q.1)
   (xN f obj ns is ts):=by
 have e0:∀k0 k1 k2 k3,bn j0 obj kd a b tx ns is.length d is ts 0 k0 k1 k2 k3=eD da j0 obj kd a b tx ns is.length d is ts 0 k0 k1 k2 k3:=fun _ _ _ _=>rfl
 have c1:decide ((ns.length+1)*16≤140737488355328)=true:=by rw[decide_eq_true_eq]; omega
 have c2:decide ((is.length+1)*88≤140737488355328)=true:=by rw[decide_eq_true_eq]; omega
 have hw:IntKind.i64.wrap (d+1)=d+1:=cK (by omega) (by omega)
 have jE:∀c:Int,c≠0→(c==0)=false:=fun c hc=>by simpa using hc
 cases obj with
 | true =>
  have hn:=name_ok (R:=R) ns (by omega) he
  have hnE:=nameS_end (ns:=ns) he
  have hnL:=fun p=>nameS_len (ns:=ns) (ts:=ts) (p:=p)
  simp only[xN]
  cases hq:JT ns ts with
  | error q =>
   rw[hq]at hn hnE
   obtain ⟨nm,hn⟩:=hn
   refine ⟨hnE,ns ++ [nm],is.length,is,fun G => ?_⟩
   rw[e0]
   unfold eD
   rw[cond_true,hn,ay c1,jE _ hnE.2]
   rfl
  | ok q =>
   obtain ⟨nm,ts1⟩:=q
   rw[hq]at hn hnE hnL
   have hl1:=hnL _ rfl
   have h2:=hv ts1 hnE (by simp only at hl1; omega)
   simp only
   cases hf:f ts1 with
   | error q =>
    rw[hf]at h2
    obtain ⟨h2,v,h3⟩:=h2
    refine ⟨h2,ns ++ [nm],is.length+1,is ++ [v],fun G => ?_⟩
    rw[e0]
    unfold eD
    rw[cond_true,hn,ay c1]
    show (j0 (IntKind.i64.wrap (d+1)) ts1 0 _)=_
    rw[hw,h3,ay c2,ay (by simp; omega),ay (by simp),Yp,Json.eta]
   | ok q =>
    obtain ⟨v,TG⟩:=q
    rw[hf]at h2
    obtain ⟨h2,h3⟩:=h2
    refine ⟨h2,fun G => ?_⟩
    rw[e0]
    unfold eD
    rw[cond_true,hn,ay c1]
    show (j0 (IntKind.i64.wrap (d+1)) ts1 0 _)=_
    rw[hw,h3,ay c2,ay (by simp; omega),ay (by simp),Yp,Json.eta]
    simp only[List.length_append,List.length_cons,List.length_nil]
 | false =>
  have h2:=hv ts he hB
  simp only[xN]
  cases hf:f ts with
  | error q =>
   rw[hf]at h2
   obtain ⟨h2,v,h3⟩:=h2
   refine ⟨h2,ns,is.length+1,is ++ [v],fun G => ?_⟩
   rw[e0]
   unfold eD
   show (j0 (IntKind.i64.wrap (d+1)) ts 0 _)=_
   rw[hw,h3,ay c2,ay (by simp; omega),ay (by simp),Yp,Json.eta]
  | ok q =>
   obtain ⟨v,TG⟩:=q
   rw[hf]at h2
   obtain ⟨h2,h3⟩:=h2
   refine ⟨h2,fun G => ?_⟩
   rw[e0]
   unfold eD
   show (j0 (IntKind.i64.wrap (d+1)) ts 0 _)=_
   rw[hw,h3,ay c2,ay (by simp; omega),ay (by simp),Yp,Json.eta]
   simp only[List.length_append,List.length_cons,List.length_nil]
theorem partS_out {f:List Token→Except XV (Json×List Token)} {obj:Bool} {ns:List ag} {is:List Json} {ts:List Token} {p:(List ag×List Json)×List Token} (h:xN f obj ns is ts = .ok p) :
  p.1.1.length≤ns.length+1∧p.1.2.length=is.length+1:=by
 cases obj with
 | true =>
  simp only[xN]at h
  split at h
  ·cases h
  ·split at h
   ·cases h
   ·cases h; simp
 | false =>
  simp only[xN]at h
  split at h
  ·cases h
  ·cases h; simp
theorem loop_ok {R:Type} (j0:aD R) (f:List Token→Except XV (Json×List Token)) (hfl:∀ts p,f ts = .ok p→p.2.length<ts.length) (d:Int) (hd:0≤d∧d≤16) (B:Nat) (hBB:B≤100000000) (hv:Hval j0 f (d+1) B) (obj:Bool) (kd a b:Int) (tx cl:ag) :
  ∀(F:Nat) (ns:List ag) (is:List Json) (ts:List Token),ts.length<F→De ts→ts.length≤B→ns.length+ts.length≤1000000000→is.length+ts.length≤1000000000 →
  Both (fun p:(List ag×List Json)×List Token=>De p.2∧∀e0,aJ j0 F cl ts 0 obj kd a b tx ns is.length d is e0=e0 p.2 0 obj kd a b tx p.1.1 p.1.2.length d p.1.2)
   (fun q=>(De q.2∧q.1≠0)∧∃ns' n' is',∀e0,aJ j0 F cl ts 0 obj kd a b tx ns is.length d is e0=e0 q.2 q.1 obj kd a b tx ns' n' d is')
   (zQ f cl obj F ns is ts):=by
 intro F
 induction F with
 | zero=>intro ns is ts h; omega
 | succ F ih =>
  intro ns is ts hF he hB TR Ym
  have e1:∀e0,aJ j0 (F+1) cl ts 0 obj kd a b tx ns is.length d is e0=nT au (bn j0) ax (fun jb jf jl uk Ea FJ RN RO RP RQ xU J5=>aJ j0 F jb jf jl uk Ea FJ RN RO RP RQ xU J5 e0) cl ts 0 obj kd a b tx ns is.length d is e0:=fun e0=>rfl
  let G:(List Token→Int→Bool→Int→Int→Int→ag→List ag→Nat→Int→List Json→Option R)→PartG R:=fun e0 y36 y37 y38 Zv y40 y41 y42 y43 y44 y45 y46 =>
   bif (y46 != 0)then (e0 y45 y46 y36 y37 y38 Zv y40 y41 y42 y43 y44)else (ax cl y45 y46 (fun y80 y81 y82=>bif y80 then (e0 y81 y82 y36 y37 y38 Zv y40 y41 y42 y43 y44)else (ax [44] y81 y82 (fun y86 y87 y88=>bif (!y86)then (au 40 y87 y88 (fun y89 y90=>e0 y89 y90 y36 y37 y38 Zv y40 y41 y42 y43 y44))else (aJ j0 F cl y87 y88 y36 y37 y38 Zv y40 y41 y42 y43 y44 e0)))))
  have e2:∀e0,aJ j0 (F+1) cl ts 0 obj kd a b tx ns is.length d is e0=bn j0 obj kd a b tx ns is.length d is ts 0 (fun a1 a2 a3 a4 a5 a6 a7 a8 t e i=>G e0 a1 a2 a3 a4 a5 a6 a7 a8 i t e) (G e0) (fun a1 a2 a3 a4 a5 a6 a7 a8 t e i=>G e0 a1 a2 a3 a4 a5 a6 a7 a8 i t e) (G e0):=fun e0=>rfl
  have hp:=parts_ok j0 f d hd B hv obj kd a b tx ns is ts he hB (by omega) (by omega)
  simp only[zQ]
  cases hq:xN f obj ns is ts with
  | error q =>
   rw[hq]at hp
   obtain ⟨h1,ns',n',is',h2⟩:=hp
   refine ⟨h1,ns',n',is',fun e0 => ?_⟩
   rw[e2,h2]
   show (bif (q.1 != 0)then _ else _)=_
   have:(q.1 != 0)=true:=by simpa using h1.2
   rw[this,cond_true]
  | ok q =>
   obtain ⟨⟨ns1,is1⟩,TG⟩:=q
   rw[hq]at hp
   obtain ⟨h1,h2⟩:=hp
   have hlen:=Wo hfl hq
   have hout:=partS_out hq
   simp only at h1 h2 hlen hout ⊢
   have s1:=fun k:Bool→List Token→Int→Option R=>QI cl h1.ne k
   cases hs:kf cl TG with
   | some r =>
    rw[hs]at s1
    refine ⟨L6 h1 hs,fun e0 => ?_⟩
    rw[e2,h2]
    show ax cl TG 0 _=_
    rw[s1]
    rfl
   | none =>
    rw[hs]at s1
    have s2:=fun k:Bool→List Token→Int→Option R=>QI [44] h1.ne k
    simp only
    cases hs2:kf [44] TG with
    | none =>
     rw[hs2]at s2
     refine ⟨⟨h1,by show (_:Int)≠0; simp⟩,ns1,is1.length,is1,fun e0 => ?_⟩
     rw[e2,h2]
     show ax cl TG 0 _=_
     rw[s1]
     show ax [44] TG 0 _=_
     rw[s2]
     rfl
    | some r =>
     rw[hs2]at s2
     have hl3:=Hs hs2
     have hih:=ih ns1 is1 r (by omega) (L6 h1 hs2) (by omega) (by omega) (by omega)
     have e3:∀e0,aJ j0 (F+1) cl ts 0 obj kd a b tx ns is.length d is e0=aJ j0 F cl r 0 obj kd a b tx ns1 is1.length d is1 e0:=fun e0=>by
      rw[e2,h2]
      show ax cl TG 0 _=_
      rw[s1]
      show ax [44] TG 0 _=_
      rw[s2]
      rfl
     simp only[e3]
     exact hih
theorem list_ok {R:Type} (j0:aD R) (f:List Token→Except XV (Json×List Token)) (hfl:∀ts p,f ts = .ok p→p.2.length<ts.length) (d:Int) (hd:0≤d∧d≤16) (B:Nat) (hBB:B≤100000000) (hv:Hval j0 f (d+1) B) (obj:Bool) (kd a b:Int) (tx cl:ag)
  (r:List Token) (he:De r) (hB:r.length≤B) (hs:kf cl r=none) :
  Both (fun p:(List ag×List Json)×List Token=>De p.2∧∀K0 (K:Json→List Token→Int→Option R),cn j0 cl r 0 obj kd a b tx d K0 (fun FM Gd Ed An KV J4 Pt Lg C2 Yi Si=>K ⟨An,⟨KV,J4⟩,Pt,Lg,Si⟩ FM Gd)=K ⟨kd,⟨a,b⟩,tx,p.1.1,p.1.2⟩ p.2 0)
   (fun q=>(De q.2∧q.1≠0)∧∃v,∀K0 (K:Json→List Token→Int→Option R),cn j0 cl r 0 obj kd a b tx d K0 (fun FM Gd Ed An KV J4 Pt Lg C2 Yi Si=>K ⟨An,⟨KV,J4⟩,Pt,Lg,Si⟩ FM Gd)=K v q.2 q.1) (zQ f cl obj (r.length+1) [] [] r):=by
 have e1:∀K0 K1,cn j0 cl r 0 obj kd a b tx d K0 K1=ax cl r 0 (fun oc uf za=>bif oc then (K0 uf za obj kd a b tx d)else (aJ j0 (List.length cl+List.length uf+Int.natAbs za+Int.natAbs kd+Int.natAbs a+Int.natAbs b+List.length tx+List.length ([]:List ag)+Int.natAbs d+List.length ([]:List Json)+64) cl uf za obj kd a b tx ([]:List ag) 0 d ([]:List Json) K1)):=fun K0 K1=>rfl
 have s1:=fun k:Bool→List Token→Int→Option R=>QI cl he.ne k
 rw[hs]at s1
 have hl:=loop_ok j0 f hfl d hd B hBB hv obj kd a b tx cl (List.length cl+List.length r+Int.natAbs 0+Int.natAbs kd+Int.natAbs a+Int.natAbs b+List.length tx+List.length ([]:List ag)+Int.natAbs d+List.length ([]:List Json)+64) [] [] r (by omega) he hB (by simp; omega) (by simp; omega)
 have e2:∀K0 K1,cn j0 cl r 0 obj kd a b tx d K0 K1=aJ j0 (List.length cl+List.length r+Int.natAbs 0+Int.natAbs kd+Int.natAbs a+Int.natAbs b+List.length tx+List.length ([]:List ag)+Int.natAbs d+List.length ([]:List Json)+64) cl r 0 obj kd a b tx ([]:List ag) ([]:List Json).length d ([]:List Json) K1:=fun K0 K1=>by
  rw[e1,s1]
  rfl
 rw[aag hfl _ (r.length+1) [] [] r (by omega) (by omega)]at hl
 cases hq:zQ f cl obj (r.length+1) [] [] r with
 | error q =>
  rw[hq]at hl
  obtain ⟨h1,ns',n',is',h2⟩:=hl
  exact ⟨h1,⟨kd,⟨a,b⟩,tx,ns',is'⟩,fun K0 K=>by rw[e2,h2]⟩
 | ok p =>
  rw[hq]at hl
  obtain ⟨h1,h2⟩:=hl
  exact ⟨h1,fun K0 K=>by rw[e2,h2]⟩
theorem list_none {R:Type} (j0:aD R) (obj:Bool) (kd a b d:Int) (tx cl:ag) (r r':List Token) (hn:r ≠ []) (hs:kf cl r=some r') (K0 K1) :
  cn (R:=R) j0 cl r 0 obj kd a b tx d K0 K1=K0 r' 0 obj kd a b tx d:=by
 have e1:cn j0 cl r 0 obj kd a b tx d K0 K1=ax cl r 0 (fun oc uf za=>bif oc then (K0 uf za obj kd a b tx d)else (aJ j0 (List.length cl+List.length uf+Int.natAbs za+Int.natAbs kd+Int.natAbs a+Int.natAbs b+List.length tx+List.length ([]:List ag)+Int.natAbs d+List.length ([]:List Json)+64) cl uf za obj kd a b tx ([]:List ag) 0 d ([]:List Json) K1)):=rfl
 rw[e1,QI cl hn,hs]
 rfl
theorem parts_t {R:Type} (j0:aD R) (d:Int) (r:List Token) (q:Json→List Token→Int→Option R):cU j0 true d r 0 q =
  cn j0 [125] r 0 true 7 0 0 [] d (fun y5 y6 y7 y8 y9 oc uf za=>q ⟨y8,⟨y9,oc⟩,uf, [], []⟩ y5 y6) (fun FM Gd Ed An KV J4 Pt Lg C2 Yi Si=>q ⟨An,⟨KV,J4⟩,Pt,Lg,Si⟩ FM Gd):=rfl
theorem parts_f {R:Type} (j0:aD R) (d:Int) (r:List Token) (q:Json→List Token→Int→Option R):cU j0 false d r 0 q =
  cn j0 [93] r 0 false 6 0 0 [] d (fun y5 y6 y7 y8 y9 oc uf za=>q ⟨y8,⟨y9,oc⟩,uf, [], []⟩ y5 y6) (fun FM Gd Ed An KV J4 Pt Lg C2 Yi Si=>q ⟨An,⟨KV,J4⟩,Pt,Lg,Si⟩ FM Gd):=rfl
section
variable {R:Type} (j0:aD R) (d:Int) (t:Token) (r:List Token) (k:Json→List Token→Int→Option R)
def J18:Option R:=bif (t.kind==3)then k ⟨4,⟨t.num.ao,t.num.exp⟩, [], [], []⟩ r 0 else k ⟨5,⟨0,0⟩,t.text, [], []⟩ r 0
def J16 (z:Bool):Option R:=bif z then (bif (t.kind==4)then k ⟨mm .str (.int .i64) t.text aaf,⟨0,0⟩, [], [], []⟩ r 0 else J18 t r k)else J18 t r k
def J17 (z:Bool):Option R:=bif z then (bif (t.kind==1)then cU j0 (t.text == [123]) d r 0 (fun za FM Gd=>k ⟨za.kind,⟨za.num.ao,za.num.exp⟩,za.text,za.names,za.items⟩ FM Gd)else J18 t r k)
 else (bif (t.text==rS)then J16 t r k (t.text==rS)else (bif (t.text==lv)then J16 t r k (t.text==lv)else J16 t r k (t.text==wZ)))
def J19:Option R:=cx (decide ((1:Int)≤((t::r).length:Int))) (bif (t.text == [91])then J17 j0 d t r k (t.text == [91])else J17 j0 d t r k (t.text == [123]))
def J20 (z:Bool):Option R:=bif (!z)then k ⟨0,⟨0,0⟩, [], [], []⟩ (t::r) 40 else (bif (decide (d>16))then k ⟨0,⟨0,0⟩, [], [], []⟩ (t::r) 41 else J19 j0 d t r k)
end
theorem value_head {R:Type} (n:Nat) (d:Int) (t:Token) (r:List Token) (k:Json→List Token→Int→Option R):bt (n+1) d (t::r) 0 k=J20 (bt n) d t r k (tT t):=by
 have e0:bt (n+1) d (t::r) 0 k=cx (decide ((0:Int)<((t::r).length:Int))) (let j:=J20 (bt n) d t r k; bif (t.kind==2)then j true else (bif (t.kind==3)then j true else (bif (t.kind==4)then j true else (bif (t.kind==1)then (bif (t.text == [91])then j true else j (t.text == [123]))else j false)))):=rfl
 rw[e0,ay EM]
 unfold tT Ii
 simp only
 cases t.kind==2 <;> cases t.kind==3 <;> cases t.kind==4 <;> cases t.kind==1 <;> cases t.text == [91] <;> rfl
theorem open_named {x:ag} (h:Ii x=true):Eu x=false:=by
 unfold Ii at h
 rw[Bool.or_eq_true,beq_iff_eq,beq_iff_eq]at h
 rcases h with rfl|rfl <;> rfl
theorem value_ok {R:Type} (B:Nat) (hBB:B≤100000000):∀(n:Nat) (d:Int),0≤d→d≤17→17 - d<n→Hval (R:=R) (bt n) (yR n d) d B:=by
 intro n
 induction n with
 | zero=>intro d h0 h1 h2; omega
 | succ n ih =>
  intro d h0 h1 h2 ts he hB
  cases ts with
  | nil=>exact (he.ne rfl).elim
  | cons t r =>
   simp only[yR]
   have hv:=fun k=>value_head (R:=R) n d t r k
   cases hst:tT t with
   | false =>
    rw[if_pos rfl]
    rw[hst]at hv
    exact ⟨⟨he,by show (_:Int)≠0; simp⟩,_,fun k=>hv k⟩
   | true =>
    rw[if_neg (by simp)]
    rw[hst]at hv
    by_cases hd:d>16
    ·rw[if_pos hd]
     refine ⟨⟨he,by show (_:Int)≠0; simp⟩,⟨0,⟨0,0⟩, [], [], []⟩,fun k => ?_⟩
     rw[hv]
     unfold J20
     have e1:decide (d>16)=true:=by simpa using hd
     rw[e1]
     rfl
    ·rw[if_neg hd]
     have hk5:t.kind≠5:=by
      intro h5
      simp[tT,h5]at hst
     have her:=he.tail hk5
     have hrB:r.length≤B:=by simp only[List.length_cons]at hB; omega
     have hv2:∀k,bt (n+1) d (t::r) 0 k=J17 (bt n) d t r k (Ii t.text):=fun k=>by
      rw[hv]
      unfold J20
      have e1:decide (d>16)=false:=by simpa using hd
      rw[e1,Bool.not_true,cond_false,cond_false]
      unfold J19
      rw[ay Yo]
      unfold Ii
      cases t.text == [91] <;> rfl
     have h18:¬(t.kind=1∧Ii t.text=true)→¬(t.kind=4∧Eu t.text=true)→∀k,bt (n+1) d (t::r) 0 k=J18 t r k:=fun g1 g2 k=>by
      rw[hv2]
      unfold J17
      cases ho:Ii t.text with
      | true =>
       have:(t.kind==1)=false:=by
        rw[beq_eq_false_iff_ne]
        exact fun h=>g1 ⟨h,ho⟩
       rw[cond_true,this,cond_false]
      | false =>
       rw[cond_false]
       have hnm:(bif (t.text==rS)then J16 t r k (t.text==rS)else (bif (t.text==lv)then J16 t r k (t.text==lv)else J16 t r k (t.text==wZ)))=J16 t r k (Eu t.text):=by
        unfold Eu
        cases t.text==rS <;> cases t.text==lv <;> rfl
       rw[hnm]
       unfold J16
       cases hn:Eu t.text with
       | false=>rfl
       | true =>
        have:(t.kind==4)=false:=by
         rw[beq_eq_false_iff_ne]
         exact fun h=>g2 ⟨h,hn⟩
        rw[cond_true,this,cond_false]
     by_cases hop:t.kind=1∧Ii t.text=true
     ·rw[if_pos hop]
      have ek:(t.kind==1)=true:=by simpa using hop.1
      have hvp:∀k,bt (n+1) d (t::r) 0 k=cU (bt n) (t.text == [123]) d r 0 k:=fun k=>by
       rw[hv2]
       unfold J17
       rw[hop.2,cond_true,ek,cond_true]
       simp only[Json.eta]
      have j0:=ih (d+1) (by omega) (by omega) (by omega)
      have hfl:=fun ts p=>valS_len n (d+1) ts p
      cases hobj:t.text == [123]with
      | true =>
       simp only[if_true]
       rw[hobj]at hvp
       cases hs:kf [125] r with
       | some r' =>
        refine ⟨L6 her hs,fun k => ?_⟩
        rw[hvp]
        rw[parts_t]
        rw[list_none _ _ _ _ _ _ _ _ _ _ her.ne hs]
       | none =>
        have hl:=list_ok (R:=R) _ _ hfl d ⟨h0,by omega⟩ B hBB j0 true 7 0 0 [] [125] r her hrB hs
        simp only
        cases hq:zQ (yR n (d+1)) [125] true (r.length+1) [] [] r with
        | error q =>
         rw[hq]at hl
         obtain ⟨g1,v,g2⟩:=hl
         refine ⟨g1,v,fun k => ?_⟩
         rw[hvp]
         rw[parts_t]
         exact g2 _ k
        | ok p =>
         rw[hq]at hl
         obtain ⟨g1,g2⟩:=hl
         refine ⟨g1,fun k => ?_⟩
         rw[hvp]
         rw[parts_t]
         exact g2 _ k
      | false =>
       simp only[Bool.false_eq_true,if_false]
       rw[hobj]at hvp
       cases hs:kf [93] r with
       | some r' =>
        refine ⟨L6 her hs,fun k => ?_⟩
        rw[hvp]
        rw[parts_f]
        rw[list_none _ _ _ _ _ _ _ _ _ _ her.ne hs]
       | none =>
        have hl:=list_ok (R:=R) _ _ hfl d ⟨h0,by omega⟩ B hBB j0 false 6 0 0 [] [93] r her hrB hs
        simp only
        cases hq:zQ (yR n (d+1)) [93] false (r.length+1) [] [] r with
        | error q =>
         rw[hq]at hl
         obtain ⟨g1,v,g2⟩:=hl
         refine ⟨g1,v,fun k => ?_⟩
         rw[hvp]
         rw[parts_f]
         exact g2 _ k
        | ok p =>
         rw[hq]at hl
         obtain ⟨g1,g2⟩:=hl
         refine ⟨g1,fun k => ?_⟩
         rw[hvp]
         rw[parts_f]
         exact g2 _ k
     ·rw[if_neg hop]
      by_cases hnm:t.kind=4∧Eu t.text=true
      ·rw[if_pos hnm]
       refine ⟨her,fun k => ?_⟩
       rw[hv2]
       have ho:Ii t.text=false:=by
        cases ho:Ii t.text with
        | false=>rfl
        | true=>rw[open_named ho]at hnm; cases hnm.2
       have ek:(t.kind==4)=true:=by simpa using hnm.1
       unfold J17
       rw[ho,cond_false]
       have Vt:(bif (t.text==rS)then J16 t r k (t.text==rS)else (bif (t.text==lv)then J16 t r k (t.text==lv)else J16 t r k (t.text==wZ)))=J16 t r k (Eu t.text):=by
        unfold Eu
        cases t.text==rS <;> cases t.text==lv <;> rfl
       rw[Vt,hnm.2]
       unfold J16
       rw[ek]
       rfl
      ·rw[if_neg hnm]
       have h:=h18 hop hnm
       by_cases hk3:t.kind=3
       ·rw[if_pos hk3]
        refine ⟨her,fun k => ?_⟩
        rw[h]
        unfold J18
        have ek:(t.kind==3)=true:=by simpa using hk3
        rw[ek]
        rfl
       ·rw[if_neg hk3]
        refine ⟨her,fun k => ?_⟩
        rw[h]
        unfold J18
        have ek:(t.kind==3)=false:=by simpa using hk3
        rw[ek]
        rfl
theorem scanN_len:∀(n p:Nat) (s:ag) (out:List Token),(xM n p s out).1.length≤out.length+s.length+1
 | 0,_,_,_=>by simp[xM]
 | n+1,p,s,out=>by
  simp only[xM]
  split
  ·simp <;> omega
  ·split
   ·simp
   ·rename_i t r hr
    have h1:=(tokS_sfx hr).2
    have h2:=BF td s
    have h3:=scanN_len n (p+(s.length - r.length)) r (out ++ [putT t ((p+(s.takeWhile td).length:Nat):Int)])
    rw[List.length_append,List.length_cons,List.length_nil]at h3
    omega
theorem scanS_len (s:ag):(rT s).1.length≤20002:=by
 unfold rT
 split
 ·simp
 ·have:=scanN_len (s.length+1) 0 s []
  simp at this
  omega
def stT (t:Token):Int×ag×fT:=(t.kind,t.text,t.num)
theorem tokW_st:∀(l:List qy) (p:Nat),(tokW p l).map stT=l.map fun x=>stT x.2.2
 | [],_=>rfl
 | x::l,p=>by simp only[tokW,List.map_cons,tokW_st l]; rfl
theorem scanN_end:∀(n p:Nat) (s:ag) (out:List Token),s.length<n→(xM n p s out).2.1=0→De (xM n p s out).1
 | 0,_,_,_,h,_=>by omega
 | n+1,p,s,out,h,he=>by
  simp only[xM]at he ⊢
  by_cases hd:s.dropWhile td = []
  ·rw[if_pos hd]
   exact ⟨_,List.getLast?_concat ..,rfl⟩
  ·rw[if_neg hd]at he ⊢
   cases hr:tokS (s.dropWhile td)with
   | none=>rw[hr]at he; cases he
   | some q =>
    obtain ⟨t,r⟩:=q
    rw[hr]at he
    have h3:=(tokS_sfx hr).2
    have h4:=BF td s
    exact scanN_end n _ r _ (by omega) he
theorem scanS_end (s:ag) (he:(rT s).2.1=0):De (rT s).1:=by
 unfold rT at he ⊢
 split at he
 ·cases he
 ·rename_i h
  rw[if_neg h]
  exact scanN_end _ _ _ _ (by omega) he
def pE (s:ag):Json×Int×Int :=
 if (rT s).2.1≠0 then (⟨0,⟨0,0⟩, [], [], []⟩,(rT s).2.1,(rT s).2.2)else
 match yR 40 1 (rT s).1 with
 | .error b=>(⟨0,⟨0,0⟩, [], [], []⟩,b.1,(b.2.getD 0 ⟨0, [],⟨0,0⟩,0⟩).at_)
 | .ok (v,r)=>if (r.getD 0 ⟨0, [],⟨0,0⟩,0⟩).kind≠5 then (⟨0,⟨0,0⟩, [], [], []⟩,40,(r.getD 0 ⟨0, [],⟨0,0⟩,0⟩).at_)else (v,0,0)
theorem jparse_ok {R:Type} (s:ag) (k:Json→Int→Int→Option R):cH s k=k (pE s).1 (pE s).2.1 (pE s).2.2:=by
 have e0:cH s k=G8 au di ni s k:=rfl
 rw[e0]
 unfold G8 pE
 rw[scan_ok]
 by_cases h:(rT s).2.1=0
 rotate_left
 ·have e1:((rT s).2.1 != 0)=true:=by simpa using h
  rw[if_pos h,e1]
  rfl
 have e1:((rT s).2.1 != 0)=false:=by simpa using h
 rw[if_neg (by simpa using h),e1,cond_false]
 have hE:=scanS_end s h
 have hL:=scanS_len s
 have hv:=value_ok (R:=R) 20002 (by omega) 40 1 (by omega) (by omega) (by omega) (rT s).1 hE hL
 have e2:∀q,di (R:=R) 1 (rT s).1 0 q=bt 40 1 (rT s).1 0 q:=fun q=>rfl
 rw[e2]
 cases hq:yR 40 1 (rT s).1 with
 | error b =>
  rw[hq]at hv
  obtain ⟨⟨g1,g2⟩,v,g3⟩:=hv
  rw[g3]
  obtain ⟨c,r⟩:=b
  cases r with
  | nil=>exact (g1.ne rfl).elim
  | cons t r =>
   have e3:(c != 0)=true:=by simpa using g2
   have hf:∀q:List Token→Int→Option R,au 40 (t::r) c q=q (t::r) c:=fun q=>by
    show (bif c==0 then q (t::r) 40 else q (t::r) c)=_
    have e4:(c==0)=false:=by simpa using g2
    rw[e4]; rfl
   rw[ay EM]
   simp only[hf]
   have hz:∀z:Bool,(bif z then (bif (c != 0)then cx (decide ((0:Int)<((t::r).length:Int))) (k ⟨0,⟨0,0⟩, [], [], []⟩ c t.at_)else k v 0 0)else (bif (c != 0)then cx (decide ((0:Int)<((t::r).length:Int))) (k ⟨0,⟨0,0⟩, [], [], []⟩ c t.at_)else k v 0 0))=k ⟨0,⟨0,0⟩, [], [], []⟩ c t.at_:=fun z=>by
    rw[e3,ay EM]
    cases z <;> rfl
   have:=hz (t.kind != 5)
   obtain ⟨kd,⟨n1,n2⟩,tx,ns,is⟩:=v
   exact this
 | ok p =>
  rw[hq]at hv
  obtain ⟨g1,g2⟩:=hv
  obtain ⟨v,r⟩:=p
  rw[g2]
  cases r with
  | nil=>exact (g1.ne rfl).elim
  | cons t r =>
   rw[ay EM]
   by_cases hk:t.kind=5
   ·have e3:(t.kind != 5)=false:=by simpa using hk
    have:((((v,t::r):Json×List Token).2).getD 0 (Ty.bR .token)).kind=t.kind:=rfl
    show (bif (t.kind != 5)then _ else _)=_
    rw[e3,cond_false]
    obtain ⟨kd,⟨n1,n2⟩,tx,ns,is⟩:=v
    show k ⟨kd,⟨n1,n2⟩,tx,ns,is⟩ 0 0=_
    have ug:¬(((t::r).getD 0 ⟨0, [],⟨0,0⟩,0⟩).kind≠5):=fun h=>h hk
    simp only
    rw[if_neg ug]
   ·have e3:(t.kind != 5)=true:=by simpa using hk
    show (bif (t.kind != 5)then _ else _)=_
    rw[e3,cond_true]
    show cx (decide ((0:Int)<((t::r).length:Int))) (k ⟨0,⟨0,0⟩, [], [], []⟩ 40 t.at_)=_
    rw[ay EM]
    have ug:(((t::r).getD 0 ⟨0, [],⟨0,0⟩,0⟩).kind≠5):=hk
    simp only
    rw[if_pos ug]
    rfl
def stW (x:qy):Int×ag×fT:=stT x.2.2
theorem NU {ts:List Token} {x:qy} {l:List qy} (h:ts.map stT=(x::l).map stW):∃t r,ts=t::r∧stT t=stW x∧r.map stT=l.map stW:=by
 cases ts with
 | nil=>cases h
 | cons t r =>
  simp only[List.map_cons,List.cons.injEq]at h
  exact ⟨t,r,rfl,h.1,h.2⟩
theorem st_app {ts:List Token} {a b:List qy} (h:ts.map stT=(a++b).map stW):∃u v,ts=u++v∧u.map stT=a.map stW∧v.map stT=b.map stW:=by
 rw[List.map_append]at h
 obtain ⟨u,v,e,h1,h2⟩:=List.map_eq_append_iff.1 h
 exact ⟨u,v,e,h1,h2⟩
theorem aah {ts:List Token} {x:qy} (h:ts.map stT = [x].map stW):∃t,ts = [t]∧stT t=stW x:=by
 obtain ⟨t,r,e,h1,h2⟩:=NU h
 cases r with
 | nil=>exact ⟨t,e,h1⟩
 | cons u r=>cases h2
theorem CP {t:Token} {x:qy} (h:stT t=stW x):t.kind=x.2.2.kind∧t.text=x.2.2.text∧t.num=x.2.2.num:=by
 unfold stW stT at h
 simp only[Prod.mk.injEq]at h
 exact h
theorem val_name {n:Nat} {d:Int} (hd:d≤16) {t:Token} {rest:List Token} {x:ag} (hx:x=rS∨x=lv∨x=wZ) (hk:t.kind=4) (ht:t.text=x) :
  yR (n+1) d (t::rest) = .ok (⟨mm .str (.int .i64) x aaf,⟨0,0⟩, [], [], []⟩,rest):=by
 have h1:tT t=true:=by simp[tT,hk]
 have h2:Eu t.text=true:=by
  rw[ht]
  rcases hx with rfl|rfl|rfl <;> rfl
 simp only[yR]
 rw[if_neg (by rw[h1]; simp),if_neg (by omega),if_neg (by rw[hk]; simp),if_pos ⟨hk,h2⟩,ht]
theorem valS_sign {n:Nat} {d:Int} {ts:List Token} {p:Json×List Token} (h:yR n d ts = .ok p):kf [93] ts=none∧kf [125] ts=none:=by
 cases n with
 | zero=>cases h
 | succ n =>
  cases ts with
  | nil=>cases h
  | cons t r =>
   simp only[yR]at h
   by_cases hs:tT t=false
   ·rw[if_pos hs]at h; cases h
   ·have jE:∀x:ag,x = [93]∨x = [125]→¬(t.kind=1∧t.text=x):=fun x hx ⟨h1,h2⟩=>by
     apply hs
     rcases hx with rfl|rfl <;> simp[tT,Ii,h1,h2]
    simp only[kf]
    rw[if_neg (jE _ (.inl rfl)),if_neg (jE _ (.inr rfl))]
    exact ⟨rfl,rfl⟩
mutual
theorem TH:∀(v:Json) (d:Int) (n:Nat) (ts rest:List Token),dZ v d=true→17 - d<n→ts.map stT=(tS v).map stW→yR n d (ts++rest) = .ok (v,rest)
 | ⟨k,nm,t,ns,is⟩,d,0,ts,rest,h,hn,hw=>by
  have:d≤16:=by
   cases fx.1 h <;> assumption
  omega
 | ⟨k,nm,t,ns,is⟩,d,n+1,ts,rest,h,hn,hw=>by
  have hL:=listS_wL is
  have hO:=listS_wO ns is
  cases fx.1 h with
  | name _ _ hd hk =>
   have Ui:∀x:ag,(x=rS∨x=lv∨x=wZ)→ts.map stT = [(([],x,⟨4,x,⟨0,0⟩,0⟩):qy)].map stW→yR (n+1) d (ts++rest) = .ok (⟨mm .str (.int .i64) x aaf,⟨0,0⟩, [], [], []⟩,rest):=fun x hx hw=>by
    obtain ⟨u,rfl,hu⟩:=aah hw
    obtain ⟨h1,h2,_⟩:=CP hu
    exact val_name hd hx h1 h2
   rcases hk with rfl|rfl|rfl
   ·exact Ui rS (.inl rfl) hw
   ·exact Ui lv (.inr (.inl rfl)) hw
   ·exact Ui wZ (.inr (.inr rfl)) hw
  | num _ _ hd hnm =>
   obtain ⟨u,rfl,hu⟩:=aah (x:=([],AH nm,⟨3,AH nm,nm,0⟩)) hw
   obtain ⟨h1,h2,h3⟩:=CP hu
   simp only at h1 h2 h3
   have hs:tT u=true:=by simp[tT,h1]
   show yR (n+1) d (u::rest)=_
   simp only[yR]
   rw[if_neg (by rw[hs]; simp),if_neg (by omega),if_neg (by rw[h1]; simp),if_neg (by rw[h1]; simp),if_pos h1,h3]
  | text _ _ hd ht =>
   obtain ⟨u,rfl,hu⟩:=aah (x:=txW t) hw
   obtain ⟨h1,h2,h3⟩:=CP hu
   simp only[txW]at h1 h2 h3
   have hs:tT u=true:=by simp[tT,h1]
   show yR (n+1) d (u::rest)=_
   simp only[yR]
   rw[if_neg (by rw[hs]; simp),if_neg (by omega),if_neg (by rw[h1]; simp),if_neg (by rw[h1]; simp),if_neg (by rw[h1]; simp),h2]
  | arr _ _ hd hi =>
   obtain ⟨u,TG,rfl,hu,hw2⟩:=NU (x:=sg 91) (l:=rh is true ++ [sg 93]) hw
   obtain ⟨tl,tc,rfl,hl,Se⟩:=st_app hw2
   obtain ⟨c,rfl,hc⟩:=aah Se
   obtain ⟨h1,h2,_⟩:=CP hu
   obtain ⟨c1,c2,_⟩:=CP hc
   simp only[sg]at h1 h2 c1 c2
   have J0:Ii u.text=true:=by rw[h2]; rfl
   have hs:tT u=true:=by simp[tT,h1,J0]
   have ho7:(u.text==([123]:ag))=false:=by rw[h2]; rfl
   show yR (n+1) d (u::(tl ++ [c]++rest))=_
   simp only[yR]
   rw[if_neg (by rw[hs]; simp),if_neg (by omega),if_pos ⟨h1,J0⟩,ho7]
   simp only[Bool.false_eq_true,if_false]
   cases is with
   | nil =>
    obtain rfl:tl = []:=by simpa [rh]using hl
    show (match kf [93] (c::rest)with|some r'=>_|none=>_)=_
    have:kf [93] (c::rest)=some rest:=by
     show (if c.kind=1∧c.text = [93]then some rest else none)=some rest
     rw[if_pos ⟨c1,c2⟩]
    rw[this]
   | cons x l =>
    obtain ⟨e1,e2⟩:=hL d n (tl ++ [c]++rest).length.succ [] [] tl c rest (by simp) hi (by omega) (by simp; omega) hl c1 c2
    rw[e1,e2]
    rfl
  | obj _ _ _ hd hlen hu7 hi =>
   obtain ⟨u,TG,rfl,hu,hw2⟩:=NU (x:=sg 123) (l:=nn ns is true ++ [sg 125]) hw
   obtain ⟨tl,tc,rfl,hl,Se⟩:=st_app hw2
   obtain ⟨c,rfl,hc⟩:=aah Se
   obtain ⟨h1,h2,_⟩:=CP hu
   obtain ⟨c1,c2,_⟩:=CP hc
   simp only[sg]at h1 h2 c1 c2
   have J0:Ii u.text=true:=by rw[h2]; rfl
   have hs:tT u=true:=by simp[tT,h1,J0]
   have ho7:(u.text==([123]:ag))=true:=by rw[h2]; rfl
   show yR (n+1) d (u::(tl ++ [c]++rest))=_
   simp only[yR]
   rw[if_neg (by rw[hs]; simp),if_neg (by omega),if_pos ⟨h1,J0⟩,ho7]
   simp only[if_true]
   cases is with
   | nil =>
    obtain rfl:ns = []:=List.eq_nil_of_length_eq_zero hlen
    obtain rfl:tl = []:=by simpa [nn]using hl
    show (match kf [125] (c::rest)with|some r'=>_|none=>_)=_
    have:kf [125] (c::rest)=some rest:=by
     show (if c.kind=1∧c.text = [125]then some rest else none)=some rest
     rw[if_pos ⟨c1,c2⟩]
    rw[this]
   | cons x l =>
    obtain ⟨e1,e2⟩:=hO d n (tl ++ [c]++rest).length.succ [] [] [] tl c rest (by simp) hlen hi hu7 (fun n=>rfl) (by omega) (by simp; omega) hl c1 c2
    rw[e1,e2]
    rfl
theorem listS_wL:∀(is:List Json) (d:Int) (n m:Nat) (ns0:List ag) (is0:List Json) (tl:List Token) (c:Token) (rest:List Token),is ≠ []→eP is (d+1)=true→17 - (d+1)<n→tl.length<m →
  tl.map stT=(rh is true).map stW→c.kind=1→c.text = [93]→kf [93] (tl ++ [c]++rest)=none∧zQ (yR n (d+1)) [93] false m ns0 is0 (tl ++ [c]++rest) = .ok ((ns0,is0++is),rest)
 | [],_,_,_,_,_,_,_,_,h,_,_,_,_,_,_=>(h rfl).elim
 | x::l,d,n,0,ns0,is0,tl,c,rest,_,hr,hn,hm,hw,c1,c2=>by omega
 | x::l,d,n,m+1,ns0,is0,tl,c,rest,_,hr,hn,hm,hw,c1,c2=>by
  obtain ⟨tv,tr,rfl,hv,ht⟩:=st_app (a:=tS x) (b:=rh l false) hw
  simp only[eP,Bool.and_eq_true]at hr
  have hx:=TH x (d+1) n tv (tr ++ [c]++rest) hr.1 hn hv
  have hL:=listS_wL l
  rw[show tv++tr ++ [c]++rest=tv++(tr ++ [c]++rest) by simp]
  refine ⟨(valS_sign hx).1,?_⟩
  have hp:xN (yR n (d+1)) false ns0 is0 (tv++(tr ++ [c]++rest)) = .ok ((ns0,is0 ++ [x]),tr ++ [c]++rest):=by
   simp only[xN,hx]
  simp only[zQ,hp]
  cases l with
  | nil =>
   obtain rfl:tr = []:=by simpa [rh]using ht
   have:kf [93] ([] ++ [c]++rest)=some rest:=by
    show (if c.kind=1∧c.text = [93]then some rest else none)=some rest
    rw[if_pos ⟨c1,c2⟩]
   rw[this]
  | cons y l' =>
   obtain ⟨u,tr',rfl,hu,ht'⟩:=NU (x:=sg 44) (l:=rh (y::l') true) ht
   obtain ⟨u1,u2,_⟩:=CP hu
   simp only[sg]at u1 u2
   have s1:kf [93] (u::tr' ++ [c]++rest)=none:=by
    show (if u.kind=1∧u.text = [93]then some (tr' ++ [c]++rest)else none)=none
    rw[if_neg (by rw[u2]; rintro ⟨_,h⟩; cases h)]
   have s2:kf [44] (u::tr' ++ [c]++rest)=some (tr' ++ [c]++rest):=by
    show (if u.kind=1∧u.text = [44]then some (tr' ++ [c]++rest)else none)=_
    rw[if_pos ⟨u1,u2⟩]
   rw[s1,s2]
   obtain ⟨_,e2⟩:=hL d n m ns0 (is0 ++ [x]) tr' c rest (by simp) hr.2 hn (by simp at hm; omega) ht' c1 c2
   simp only
   rw[e2]
   simp
theorem listS_wO:∀(ns:List ag) (is:List Json) (d:Int) (n m:Nat) (ns0:List ag) (is0:List Json) (seen:List ag) (tl:List Token) (c:Token) (rest:List Token),is ≠ []→ns.length=is.length→eP is (d+1)=true→tp seen ns=true→(∀n,ns0.contains n=seen.contains n) →
  17 - (d+1)<n→tl.length<m →
  tl.map stT=(nn ns is true).map stW→c.kind=1→c.text = [125]→kf [125] (tl ++ [c]++rest)=none∧zQ (yR n (d+1)) [125] true m ns0 is0 (tl ++ [c]++rest) = .ok ((ns0++ns,is0++is),rest)
 | _, [],_,_,_,_,_,_,_,_,_,h,_,_,_,_,_,_,_,_,_=>(h rfl).elim
 | [],x::l,d,n,m,ns0,is0,seen,tl,c,rest,_,hlen,hr,hu,hsn,hn,hm,hw,c1,c2=>by cases hlen
 | nm::ns,x::l,d,n,0,ns0,is0,seen,tl,c,rest,_,hlen,hr,hu,hsn,hn,hm,hw,c1,c2=>by omega
 | nm::ns,x::l,d,n,m+1,ns0,is0,seen,tl,c,rest,_,hlen,hr,hu,hsn,hn,hm,hw,c1,c2=>by
  obtain ⟨tn,tl1,rfl,hn1,hw1⟩:=NU (x:=txW nm) (l:=sg 58::(tS x++nn ns l false)) hw
  obtain ⟨tk,tl2,rfl,hk1,hw2⟩:=NU hw1
  obtain ⟨tv,tr,rfl,hv,ht⟩:=st_app hw2
  obtain ⟨n1,n2,_⟩:=CP hn1
  obtain ⟨k1,k2,_⟩:=CP hk1
  simp only[txW]at n1 n2
  simp only[sg]at k1 k2
  simp only[eP,Bool.and_eq_true]at hr
  simp only[tp,Bool.and_eq_true,Bool.not_eq_true']at hu
  have hx:=TH x (d+1) n tv (tr ++ [c]++rest) hr.1 hn hv
  have hO:=listS_wO ns l
  rw[show tn::tk::(tv++tr) ++ [c]++rest=tn::tk::(tv++(tr ++ [c]++rest)) by simp]
  refine ⟨?_,?_⟩
  ·show (if tn.kind=1∧tn.text = [125]then some _ else none)=none
   rw[if_neg (by rw[n1]; rintro ⟨h,_⟩; cases h)]
  have hnm:JT ns0 (tn::tk::(tv++(tr ++ [c]++rest))) = .ok (nm,tv++(tr ++ [c]++rest)):=by
   simp only[JT]
   rw[if_neg (by rw[n1]; simp),if_neg (by rw[n2,hsn,hu.1.1]; simp)]
   have:kf [58] (tk::(tv++(tr ++ [c]++rest)))=some (tv++(tr ++ [c]++rest)):=by
    show (if tk.kind=1∧tk.text = [58]then some (tv++(tr ++ [c]++rest))else none)=_
    rw[if_pos ⟨k1,k2⟩]
   rw[this,n2]
  have hp:xN (yR n (d+1)) true ns0 is0 (tn::tk::(tv++(tr ++ [c]++rest))) = .ok ((ns0 ++ [nm],is0 ++ [x]),tr ++ [c]++rest):=by
   simp only[xN,hnm,hx]
  simp only[zQ,hp]
  cases l with
  | nil =>
   obtain rfl:ns = []:=List.eq_nil_of_length_eq_zero (by simpa using hlen)
   obtain rfl:tr = []:=by simpa [nn]using ht
   have:kf [125] ([] ++ [c]++rest)=some rest:=by
    show (if c.kind=1∧c.text = [125]then some rest else none)=some rest
    rw[if_pos ⟨c1,c2⟩]
   rw[this]
  | cons y l' =>
   obtain ⟨u,tr',rfl,hu2,ht'⟩:=NU (x:=sg 44) (l:=nn ns (y::l') true) ht
   obtain ⟨u1,u2,_⟩:=CP hu2
   simp only[sg]at u1 u2
   have s1:kf [125] (u::tr' ++ [c]++rest)=none:=by
    show (if u.kind=1∧u.text = [125]then some (tr' ++ [c]++rest)else none)=none
    rw[if_neg (by rw[u2]; rintro ⟨_,h⟩; cases h)]
   have s2:kf [44] (u::tr' ++ [c]++rest)=some (tr' ++ [c]++rest):=by
    show (if u.kind=1∧u.text = [44]then some (tr' ++ [c]++rest)else none)=_
    rw[if_pos ⟨u1,u2⟩]
   rw[s1,s2]
   obtain ⟨_,e2⟩:=hO d n m (ns0 ++ [nm]) (is0 ++ [x]) (nm::seen) tr' c rest (by simp) (by simpa using hlen) hr.2 hu.2 (fun z=>by
    rw[List.contains_append,hsn,List.contains_cons,List.contains_cons,List.contains_nil,Bool.or_false,Bool.or_comm]) hn (by simp at hm; omega) ht' c1 c2
   simp only
   rw[e2]
   simp
end
theorem val_tail {v:Json} (h:dZ v 1=true) (ts:List Token) (rest:List Token) (hw:ts.map stT=(tS v).map stW):yR 40 1 (ts++rest) = .ok (v,rest):=TH v 1 40 ts rest h (by omega) hw
theorem QJ {v:Json} (h:dZ v 1=true) (hl:(cD v).length≤20000):pE (cD v)=(v,0,0):=by
 have hlay:=Rv v []
 rw[List.append_nil]at hlay
 have uK:=Vk v 1 h [] (.inl rfl)
 have hlen:=Z7 (tS v) []
 have hs:=scanS_words (tS v) [] (by simp) uK (by rw[hlay]at hlen; simp at hlen ⊢; omega)
 rw[hlay]at hs
 have hv:=val_tail h (tokW 0 (tS v)) [⟨5, [],⟨0,0⟩,((QH (tS v)+0:Nat):Int)⟩] (tokW_st _ _)
 unfold pE
 rw[hs]
 simp only[ne_eq,not_true_eq_false,if_false,List.length_nil]
 rw[hv]
 rfl
def tight (l:List qy):Prop:=∀x∈l,x.1 = []
mutual
theorem tightJ:∀v:Json,tight (tS v)
 | ⟨k,n,t,ns,is⟩=>by
  have hL:=tightL is
  have hO:=tightO ns is
  intro x hx
  simp only[tS]at hx
  split at hx
  ·simp at hx; rw[hx]
  split at hx
  ·simp at hx; rw[hx]
  split at hx
  ·simp at hx; rw[hx]
  split at hx
  ·simp at hx; rw[hx]
  split at hx
  ·simp[txW]at hx; rw[hx]
  split at hx
  ·simp only[List.mem_cons,List.mem_append,List.not_mem_nil,or_false]at hx
   rcases hx with rfl|hx|rfl
   ·rfl
   ·exact hO true x hx
   ·rfl
  ·simp only[List.mem_cons,List.mem_append,List.not_mem_nil,or_false]at hx
   rcases hx with rfl|hx|rfl
   ·rfl
   ·exact hL true x hx
   ·rfl
theorem tightL:∀(l:List Json) (first:Bool),tight (rh l first)
 | [],_=>by intro x hx; simp[rh]at hx
 | y::l,first=>by
  have h1:=tightJ y
  have h2:=tightL l false
  intro x hx
  simp only[rh,List.mem_append]at hx
  rcases hx with hx|hx|hx
  ·cases first
   ·simp at hx; rw[hx]; rfl
   ·simp at hx
  ·exact h1 x hx
  ·exact h2 x hx
theorem tightO:∀(ns:List ag) (l:List Json) (first:Bool),tight (nn ns l first)
 | _, [],_=>by intro x hx; simp[nn]at hx
 | ns,y::l,first=>by
  have h1:=tightJ y
  have h2:=tightO ns.tail l false
  intro x hx
  simp only[nn,List.mem_append,List.mem_cons]at hx
  rcases hx with hx|rfl|rfl|hx|hx
  ·cases first
   ·simp at hx; rw[hx]; rfl
   ·simp at hx
  ·rfl
  ·rfl
  ·exact h1 x hx
  ·exact h2 x hx
end
theorem print_ne (v:Json) (h:dZ v 1=true):cD v ≠ []:=by
 intro e
 have h1:=Rv v []
 rw[List.append_nil,e]at h1
 have uK:=Vk v 1 h [] (.inl rfl)
 have hv:=val_tail h (tokW 0 (tS v)) [] (tokW_st _ _)
 cases hw:tS v with
 | nil=>rw[hw]at hv; cases hv
 | cons x l =>
  rw[hw]at h1 uK
  obtain ⟨_,⟨c,u,hc,_⟩,_⟩:=uK
  simp[tR,hc]at h1
theorem wq {R:Type} (t s:ag) (hv:fE t=true) (ht:t.length≤10000000000) (hl:(s++NS t).length≤100000000000) (k:List Int→Option R):aL t (zs s) k=k (zs (s++NS t)):=by
 obtain ⟨rs,hr,hc,rfl,_,hq⟩|⟨h,_⟩:=quote_any (R:=R) t ht
 ·have e:aL (fo rs) (zs s) k=eE (fo rs) (fun y3 y4=>ae y3 (zs s) (fun y5 y6=>k y6)):=rfl
  rw[Yn hr]at hl ⊢
  rw[List.length_append]at hl
  rw[e,hq]
  exact ws (qt rs) s (by omega) (by unfold Ve; omega) _
 ·rw[hv]at h; cases h
def Fv (v:Json) (i:Nat):ag:=if v.kind=7 then ir (v.names.drop i) (v.items.drop i) (i==0)else kZ (v.items.drop i) (i==0)
theorem aai {R:Type} (f:dj R) (z:ag) (v:Json) (hl:v.items.length≤1099511627776) (h7:v.kind=7→v.names.length=v.items.length∧∀t∈v.names,fE t=true∧t.length≤10000000000)
  (hf:∀x∈v.items,∀(s:ag) (k:List Int→Option R),(s++cD x).length≤100000000000→f x (zs s) k=k (zs (s++cD x))) (e0:ag→List Int→Option R):∀(F i:Nat) (s:ag),i≤v.items.length→v.items.length - i<F→(s++Fv v i).length≤100000000000 →
  aT f F z v.items (v.items.length:Int) (i:Int) (zs s) v e0=e0 z (zs (s++Fv v i)):=by
 intro F
 induction F with
 | zero=>intro i s _ h; omega
 | succ F ih =>
  intro i s hi hF hb
  have eL:aT f (F+1) z v.items (v.items.length:Int) (i:Int) (zs s) v e0=iW ad f aL (fun jb jf jl uk Ea FJ=>aT f F jb jf jl uk Ea FJ e0) z v.items (v.items.length:Int) (i:Int) (zs s) v e0:=rfl
  rw[eL]
  unfold iW
  simp only[Json.eta]
  by_cases h:i<v.items.length
  rotate_left
  ·have h1:decide ((i:Int)<(v.items.length:Int))=false:=by simp; omega
   rw[h1,cond_false]
   have hd:v.items.drop i = []:=List.drop_eq_nil_of_le (by omega)
   have:Fv v i = []:=by
    unfold Fv
    rw[hd]
    split
    ·cases v.names.drop i <;> rfl
    ·rfl
   rw[this,List.append_nil]
  have h1:decide ((i:Int)<(v.items.length:Int))=true:=by simp; omega
  have h2:(decide ((0:Int)≤(i:Int))&&true)=true:=by simp
  have hw:IntKind.i64.wrap ((i:Int)+1)=((i+1:Nat):Int):=by rw[cK (by omega) (by omega)]; omega
  have hg:v.items.getD (i:Int).toNat (Ty.bR .json)=v.items[i]:=getD_at h _
  have hr:Fv v i=(if i=0 then []else [44])++((if v.kind=7 then NS (v.names.getD i []) ++ [58]else [])++(cD v.items[i]++Fv v (i+1))):=by
   unfold Fv
   rw[List.drop_eq_getElem_cons h]
   by_cases h7':v.kind=7
   ·rw[if_pos h7',if_pos h7',if_pos h7']
    have hn:=(h7 h7').1
    have hni:i<v.names.length:=by omega
    rw[List.drop_eq_getElem_cons hni]
    simp only[ir,List.headD_cons,List.tail_cons]
    have:v.names.getD i []=v.names[i]:=getD_at hni _
    rw[this]
    by_cases h0:i=0
    ·subst h0; simp
    ·have e1:(i==0)=false:=by simpa using h0
     have e2:(i+1==0)=false:=rfl
     rw[e1,e2]
     simp[h0]
   ·rw[if_neg h7',if_neg h7',if_neg h7']
    simp only[kZ]
    by_cases h0:i=0
    ·subst h0; simp
    ·have e1:(i==0)=false:=by simpa using h0
     have e2:(i+1==0)=false:=rfl
     rw[e1,e2]
     simp[h0]
  rw[hr]at hb ⊢
  rw[h1,cond_true,ay h2,hg,hw]
  -- from the name on
  have key:∀s':ag,(s'++((if v.kind=7 then NS (v.names.getD i []) ++ [58]else [])++(cD v.items[i]++Fv v (i+1)))).length≤100000000000 →
    (bif (v.kind==7)then (cx (decide ((0:Int)≤(i:Int))&&decide ((i:Int)<(v.names.length:Int))) (aL (v.names.getD (i:Int).toNat (Ty.bR .str)) (zs s') (fun IX=>ad 58 IX (fun FB=>f v.items[i] FB (fun O7=>aT f F z v.items (v.items.length:Int) ((i+1:Nat):Int) O7 v e0)))))else (f v.items[i] (zs s') (fun WV=>aT f F z v.items (v.items.length:Int) ((i+1:Nat):Int) WV v e0))) =
    e0 z (zs (s'++((if v.kind=7 then NS (v.names.getD i []) ++ [58]else [])++(cD v.items[i]++Fv v (i+1))))):=by
   intro s' pP
   by_cases h7':v.kind=7
   ·rw[if_pos h7']at pP ⊢
    have hk:(v.kind==7)=true:=by simpa using h7'
    have hn:=(h7 h7').1
    have hni:i<v.names.length:=by omega
    have hgn:v.names.getD (i:Int).toNat (Ty.bR .str)=v.names.getD i []:=rfl
    have hgi:v.names.getD i []=v.names[i]:=getD_at hni _
    obtain ⟨hv1,hv2⟩:=(h7 h7').2 v.names[i] (List.getElem_mem hni)
    rw[hk,cond_true,ay (by simp; omega),hgn]
    rw[hgi]at pP ⊢
    have e58:((58:UInt8).toNat:Int)=58:=rfl
    simp only[List.length_append,List.length_cons,List.length_nil]at pP
    rw[wq _ _ hv1 hv2 (by rw[List.length_append]; omega),←e58,wb _ _ (by unfold Ve; rw[List.length_append]; omega),hf _ (List.getElem_mem h) _ _ (by simp only[List.length_append,List.length_cons,List.length_nil]; omega),
     ih (i+1) _ (by omega) (by omega) (by simp only[List.length_append,List.length_cons,List.length_nil]; omega)]
    simp only[List.append_assoc]
   ·rw[if_neg h7']at pP ⊢
    have hk:(v.kind==7)=false:=by simpa using h7'
    rw[List.nil_append]at pP ⊢
    simp only[List.length_append]at pP
    rw[hk,cond_false,hf _ (List.getElem_mem h) _ _ (by rw[List.length_append]; omega),ih (i+1) _ (by omega) (by omega) (by simp only[List.length_append]; omega)]
    simp only[List.append_assoc]
  by_cases h0:i=0
  ·subst h0
   rw[if_pos rfl,List.nil_append]at hb ⊢
   exact key s hb
  ·rw[if_neg h0]at hb ⊢
   have e3:decide ((i:Int)>0)=true:=by simp; omega
   have e44:((44:UInt8).toNat:Int)=44:=rfl
   have WD:=hb
   simp only[List.length_append,List.length_cons,List.length_nil]at WD
   rw[e3,cond_true,←e44,wb _ _ (by unfold Ve; omega)]
   have:=key (s ++ [44]) (by simp only[List.length_append,List.length_cons,List.length_nil]; omega)
   rw[List.append_assoc]at this
   exact this
theorem NV:∀(ns:List ag) (seen:List ag),tp seen ns=true→∀t∈ns,fE t=true
 | [],_,_,t,h=>by cases h
 | n::ns,seen,h,t,ht=>by
  simp only[tp,Bool.and_eq_true]at h
  rcases List.mem_cons.1 ht with rfl|ht
  ·exact h.1.2
  ·exact NV ns _ h.2 t ht
theorem write_N {R:Type}:∀(n:Nat) (v:Json) (d:Int),dZ v d=true→O0 v=true→v.depth<n→∀(s:ag) (k:List Int→Option R),(s++cD v).length≤100000000000→dk n v (zs s) k=k (zs (s++cD v)):=by
 intro n
 induction n with
 | zero=>intro v d _ _ h; omega
 | succ n ih =>
  intro v d hr hl hn s k hb
  obtain ⟨TR,Ym,hil,htx,hnl⟩:=w3.1 hl
  have e0:dk (n+1) v (zs s) k=Cd bT ad ae aL (aT (dk n)) v (zs s) k:=rfl
  rw[e0]
  have L7:∀(z:ag) (e:ag→List Int→Option R) (F:Nat) (s':ag),(v.kind=7→v.names.length=v.items.length∧∀t∈v.names,fE t=true∧t.length≤10000000000)→eP v.items (d+1)=true→v.items.length<F→(s'++Fv v 0).length≤100000000000 →
    aT (dk n) F z v.items (v.items.length:Int) 0 (zs s') v e=e z (zs (s'++Fv v 0)):=fun z e F s' h7 hi hF pP =>
   aai (dk n) z v Ym h7 (fun x hx s k hb=>ih x (d+1) (TF hi hx) (Vm hil hx) (by have:=Xe hx; omega) s k hb) e F 0 s' (by omega) (by omega) pP
  cases fx.1 hr with
  | name kd _ hd hk =>
   rcases hk with rfl|rfl|rfl
   ·show ae rS (zs s) (fun y3 y4=>k y4)=k (zs (s++rS))
    exact ws rS s (by decide) (by unfold Ve; rw[List.length_append]at hb; omega) _
   ·show ae lv (zs s) (fun y3 y4=>k y4)=k (zs (s++lv))
    exact ws lv s (by decide) (by unfold Ve; rw[List.length_append]at hb; omega) _
   ·show ae wZ (zs s) (fun y3 y4=>k y4)=k (zs (s++wZ))
    exact ws wZ s (by decide) (by unfold Ve; rw[List.length_append]at hb; omega) _
  | num nm _ hd hnm =>
   have WD:(s++AH nm).length≤100000000000:=hb
   rw[List.length_append]at WD
   show bT ⟨nm.ao,nm.exp⟩ (fun y9=>ae y9 (zs s) (fun oc uf=>k uf))=k (zs (s++AH nm))
   rw[print_any]
   exact ws (AH nm) s (by omega) (by unfold Ve; omega) _
  | text t _ hd ht=>exact wq t s ht htx hb k
  | arr is _ hd hi =>
   have WD:(s++(91::(kZ is true ++ [93]))).length≤100000000000:=hb
   simp only[List.length_append,List.length_cons,List.length_nil]at WD
   have e91:((91:UInt8).toNat:Int)=91:=rfl
   have e93:((93:UInt8).toNat:Int)=93:=rfl
   show ad ((91:UInt8).toNat:Int) (zs s) (fun Gd=>aT (dk n) _ [91,93] is (is.length:Int) 0 Gd ⟨6,⟨0,0⟩, [], [],is⟩ (fun OI XC=>cx (decide ((1:Int)<(OI.length:Int))) (ad ((OI.getD 1 0).toNat:Int) XC (fun HT=>k HT))))=k (zs (s++(91::(kZ is true ++ [93]))))
   rw[wb _ _ (by unfold Ve; omega)]
   simp only at L7
   have hz:Fv ⟨6,⟨0,0⟩, [], [],is⟩ 0=kZ is true:=rfl
   rw[hz]at L7
   rw[L7 _ _ _ _ (fun h=>by cases h) hi]
   rotate_left
   ·simp only[List.length_cons,List.length_nil]; omega
   ·simp only[List.length_append,List.length_cons,List.length_nil]; omega
   show ad ((93:UInt8).toNat:Int) (zs ((s ++ [91])++kZ is true)) (fun HT=>k HT)=_
   rw[wb _ _ (by unfold Ve; simp only[List.length_append,List.length_cons,List.length_nil]; omega)]
   simp only[List.append_assoc,List.cons_append,List.nil_append]
  | obj ns is _ hd hlen hu hi =>
   have WD:(s++(123::(ir ns is true ++ [125]))).length≤100000000000:=hb
   simp only[List.length_append,List.length_cons,List.length_nil]at WD
   show ad ((123:UInt8).toNat:Int) (zs s) (fun Gd=>aT (dk n) _ [123,125] is (is.length:Int) 0 Gd ⟨7,⟨0,0⟩, [],ns,is⟩ (fun OI XC=>cx (decide ((1:Int)<(OI.length:Int))) (ad ((OI.getD 1 0).toNat:Int) XC (fun HT=>k HT))))=k (zs (s++(123::(ir ns is true ++ [125]))))
   rw[wb _ _ (by unfold Ve; omega)]
   simp only at L7
   have hz:Fv ⟨7,⟨0,0⟩, [],ns,is⟩ 0=ir ns is true:=rfl
   rw[hz]at L7
   rw[L7 _ _ _ _ (fun _=>⟨hlen,fun t ht=>⟨NV ns [] hu t ht,hnl t ht⟩⟩) hi]
   rotate_left
   ·simp only[List.length_cons,List.length_nil]; omega
   ·simp only[List.length_append,List.length_cons,List.length_nil]; omega
   show ad ((125:UInt8).toNat:Int) (zs ((s ++ [123])++ir ns is true)) (fun HT=>k HT)=_
   rw[wb _ _ (by unfold Ve; simp only[List.length_append,List.length_cons,List.length_nil]; omega)]
   simp only[List.append_assoc,List.cons_append,List.nil_append]
theorem aaj {R:Type}:∀(F:Nat) (a:ag) (b:List Json) (c d:Int) (e:List Int) (f:Json) (g:ag→List Int→Option R),bI F a b c d e f g=aT cm F a b c d e f g:=by
 intro F
 induction F with
 | zero=>intros; rfl
 | succ F ih =>
  intro a b c d e f g
  have h1:bI (F+1) a b c d e f g=iW ad cm aL (fun jb jf jl uk Ea FJ=>bI F jb jf jl uk Ea FJ g) a b c d e f g:=rfl
  have h2:aT cm (F+1) a b c d e f g=iW ad cm aL (fun jb jf jl uk Ea FJ=>aT cm F jb jf jl uk Ea FJ g) a b c d e f g:=rfl
  rw[h1,h2]
  simp only[ih]
theorem aak {R:Type} (v:Json) (hr:dZ v 1=true) (hl:O0 v=true) (hb:(cD v).length≤100000000000) (k:ag→Option R):dM v k=k (cD v):=by
 have e0:dM v k=Hd na gW v k:=rfl
 rw[e0]
 unfold Hd
 simp only[Json.eta]
 rw[right_json v hl,hr,Bool.not_true,cond_false]
 have e1:gW v (fun y3=>k (wh y3))=Cl bT aj ad ai dL bI v (fun y3=>k (wh y3)):=rfl
 rw[e1]
 obtain ⟨TR,Ym,hil,htx,hnl⟩:=w3.1 hl
 have L7:∀(z:ag) (e:ag→List Int→Option R) (F:Nat) (s':ag),(v.kind=7→v.names.length=v.items.length∧∀t∈v.names,fE t=true∧t.length≤10000000000)→eP v.items (1+1)=true→v.items.length<F→(s'++Fv v 0).length≤100000000000 →
   aT cm F z v.items (v.items.length:Int) 0 (zs s') v e=e z (zs (s'++Fv v 0)):=fun z e F s' h7 hi hF pP =>
  aai cm z v Ym h7 (fun x hx s k hb=>write_N (x.depth+2) x (1+1) (TF hi hx) (Vm hil hx) (by omega) s k hb) e F 0 s' (by omega) (by omega) pP
 cases fx.1 hr with
 | name kd _ hd hk =>
  rcases hk with rfl|rfl|rfl
  ·show ai rS (fun y3 y4=>k (wh y4))=k rS
   rw[wsn rS (by decide),tQ]
  ·show ai lv (fun y3 y4=>k (wh y4))=k lv
   rw[wsn lv (by decide),tQ]
  ·show ai wZ (fun y3 y4=>k (wh y4))=k wZ
   rw[wsn wZ (by decide),tQ]
 | num nm _ hd hnm =>
  have WD:(AH nm).length≤100000000000:=hb
  show bT ⟨nm.ao,nm.exp⟩ (fun y9=>ai y9 (fun oc uf=>k (wh uf)))=k (AH nm)
  rw[print_any]
  show ai (AH nm) (fun oc uf=>k (wh uf))=k (AH nm)
  rw[wsn _ WD,tQ]
 | text t _ hd ht =>
  have WD:(NS t).length≤100000000000:=hb
  show eE t (fun y2 y3=>ai y2 (fun y4 y5=>k (wh y5)))=k (NS t)
  obtain ⟨rs,hrs,hc,rfl,_,hq⟩|⟨h,_⟩:=quote_any (R:=R) t htx
  ·rw[hq,Yn hrs]
   rw[Yn hrs]at WD
   show ai (qt rs) (fun y4 y5=>k (wh y5))=k (qt rs)
   rw[wsn _ WD,tQ]
  ·rw[ht]at h; cases h
 | arr is _ hd hi =>
   have WD:(91::(kZ is true ++ [93]):ag).length≤100000000000:=hb
   simp only[List.length_append,List.length_cons,List.length_nil]at WD
   show bI _ [91,93] is (is.length:Int) 0 (zs ([] ++ [91])) ⟨6,⟨0,0⟩, [], [],is⟩ (fun WV OI=>cx (decide ((1:Int)<(WV.length:Int))) (ad ((WV.getD 1 0).toNat:Int) OI (fun XC=>k (wh XC))))=k (91::(kZ is true ++ [93]))
   simp only at L7
   have hz:Fv ⟨6,⟨0,0⟩, [], [],is⟩ 0=kZ is true:=rfl
   rw[hz]at L7
   rw[aaj,L7 _ _ _ _ (fun h=>by cases h) hi]
   rotate_left
   ·simp only[List.length_cons,List.length_nil]; omega
   ·simp only[List.length_append,List.length_cons,List.length_nil]; omega
   show ad ((93:UInt8).toNat:Int) (zs (([] ++ [91])++kZ is true)) (fun HT=>k (wh HT))=_
   rw[wb _ _ (by unfold Ve; simp only[List.length_append,List.length_cons,List.length_nil]; omega),tQ]
   simp only[List.append_assoc,List.cons_append,List.nil_append]
 | obj ns is _ hd hlen hu hi =>
   have WD:(123::(ir ns is true ++ [125]):ag).length≤100000000000:=hb
   simp only[List.length_append,List.length_cons,List.length_nil]at WD
   show bI _ [123,125] is (is.length:Int) 0 (zs ([] ++ [123])) ⟨7,⟨0,0⟩, [],ns,is⟩ (fun WV OI=>cx (decide ((1:Int)<(WV.length:Int))) (ad ((WV.getD 1 0).toNat:Int) OI (fun XC=>k (wh XC))))=k (123::(ir ns is true ++ [125]))
   simp only at L7
   have hz:Fv ⟨7,⟨0,0⟩, [],ns,is⟩ 0=ir ns is true:=rfl
   rw[hz]at L7
   rw[aaj,L7 _ _ _ _ (fun _=>⟨hlen,fun t ht=>⟨NV ns [] hu t ht,hnl t ht⟩⟩) hi]
   rotate_left
   ·simp only[List.length_cons,List.length_nil]; omega
   ·simp only[List.length_append,List.length_cons,List.length_nil]; omega
   show ad ((125:UInt8).toNat:Int) (zs (([] ++ [123])++ir ns is true)) (fun HT=>k (wh HT))=_
   rw[wb _ _ (by unfold Ve; simp only[List.length_append,List.length_cons,List.length_nil]; omega),tQ]
   simp only[List.append_assoc,List.cons_append,List.nil_append]
end Go.Proofs.YtidfokedcnhahaaGreatDoor
namespace Go.aq
open Go.RowKit Go.Proofs.YtidfokedcnhahaaGreatDoor Go.ChangeShapes Go.WideShapes
mutual
inductive Wt:Nat→V→Prop where
 | int {n:Nat} {k:IntKind} {z:Int} (h1:1≤n) (h:k.has z):Wt n (.int k z)
 | bool {n:Nat} (h1:1≤n) (b:Bool):Wt n (.bool b)
 | str {n:Nat} {s:ag} (h:s.length+1≤n):Wt n (.str s)
 | sl {n m:Nat} {T:Ty} {l:List T.den} (h:m+1≤n) (he:aal m (l.map T.cells)):Wt n (.sl T l .no)
inductive WtL:Nat→List V→Prop where
 | nil:WtL 0 []
 | cons {a b:Nat} {v:V} {vs:List V} (h:Wt a v) (t:WtL b vs):WtL (a+b) (v::vs)
inductive aal:Nat→List (List V)→Prop where
 | nil:aal 0 []
 | cons {a b:Nat} {v:List V} {vs:List (List V)} (h:WtL a v) (t:aal b vs):aal (a+b) (v::vs)
end
section
variable {H:Type} {enc:TypeId×Value→H} {P:Program} {tt:dw} {w:World} {spare:Nat→Bool} {held:Bool}
def ReadsW (w:World) (N:Nat) (ls:List fi) (cs:List Value):Prop:=∃vs n,Jo ls vs∧cF w [] RM vs cs∧WtL n vs∧n≤N
theorem ReadsW.nil {N:Nat}:ReadsW w N [] []:=⟨[],0, .nil, .nil, .nil,Nat.zero_le _⟩
end
end Go.aq
set_option maxRecDepth 100000
namespace Go.Proofs.YtidfokedcnhahaaGreatDoor
open Go Go.aq Go.Lib
mutual
def Raw.tot:Raw→Nat
 | ⟨_,_,_,_,is⟩=>Raw.totL is+1
def Raw.totL:List Raw→Nat
 | []=>0
 | x::l=>Raw.tot x+Raw.totL l
end
mutual
def Raw.ok:Raw→Prop
 | ⟨k,m,e,t,is⟩=>(yo k∧yo m∧yo e∧∀c∈t,yo c)∧(t.length≤1048576∧is.length≤1048576)∧Raw.okL is
def Raw.okL:List Raw→Prop
 | []=>True
 | x::l=>Raw.ok x∧Raw.okL l
end
theorem aam {T:Ty}:∀(l:List T.den) (m:Nat),aal m (l.map T.cells)→(∀(x:T.den) n,WtL n (T.cells x)→1≤n)→l.length≤m
 | [],_,_,_=>Nat.zero_le _
 | x::l,_, .cons h t,hh=>by
  have h1:=hh x _ h
  have h2:=aam l _ t hh
  simp only[List.length_cons]
  omega
theorem wt_pos {n:Nat} {v:V} (h:Wt n v):1≤n:=by
 cases h <;> omega
theorem wt_ints:∀(l:List (Ty.den (.int .i64))) (m:Nat),aal m (l.map (Ty.cells (.int .i64)))→∀c∈(l:List Int),yo c
 | [],_,_,c,hc=>by cases hc
 | x::l,_, .cons h t,c,hc=>by
  rcases List.mem_cons.1 hc with rfl|hc
  ·have h':WtL _ [V.int .i64 c]:=h
   cases h' with
   | cons a b=>cases a with|int _ hk=>exact nU.1 hk
  ·exact wt_ints l _ t c hc
mutual
theorem wt_raw:∀(x:Raw) (n:Nat),n≤1048576→WtL n (Ty.cells .raw x)→Raw.tot x≤n∧Raw.ok x
 | ⟨k,m,e,t,is⟩,n,hn,h=>by
  have hL:=wt_rawL is
  have h':WtL n [.int .i64 k, .int .i64 m, .int .i64 e, .sl (.int .i64) t .no, .sl .raw is .no]:=h
  cases h' with
  | cons a1 h'=>cases h' with
   | cons a2 h'=>cases h' with
    | cons a3 h'=>cases h' with
     | cons a4 h'=>cases h' with
      | cons a5 h' =>
       cases h'
       cases a1 with|int p1 k1 =>
       cases a2 with|int p2 k2 =>
       cases a3 with|int p3 k3 =>
       cases a4 with|sl p4 w4 =>
       cases a5 with|sl p5 w5 =>
       have hl4:=aam (T := .int .i64) t _ w4 (fun x n h=>by
        have h':WtL n [V.int .i64 x]:=h
        cases h' with|cons a b=>have:=wt_pos a; omega)
       have hl5:=aam (T := .raw) is _ w5 (fun x n h=>by
        have h':WtL n (.int .i64 x.kind::_):=h
        cases h' with|cons a b=>have:=wt_pos a; omega)
       obtain ⟨g1,g2⟩:=hL _ (by omega) w5
       refine ⟨by simp only[Raw.tot]; omega,⟨nU.1 k1,nU.1 k2,nU.1 k3,wt_ints t _ w4⟩,⟨Nat.le_trans hl4 (by omega),Nat.le_trans hl5 (by omega)⟩,g2⟩
theorem wt_rawL:∀(l:List Raw) (n:Nat),n≤1048576→aal n (l.map (Ty.cells .raw))→Raw.totL l≤n∧Raw.okL l
 | [],_,_,_=>⟨Nat.zero_le _,trivial⟩
 | x::l,_,hn, .cons h t=>by
  obtain ⟨a1,a2⟩:=wt_raw x _ (by omega) h
  obtain ⟨b1,b2⟩:=wt_rawL l _ (by omega) t
  exact ⟨by simp only[Raw.totL]; omega,a2,b2⟩
end
theorem uniq_end:∀(ns seen:List ag) (n:ag),tp seen (ns ++ [n])=(tp seen ns&&((!(seen.contains n||ns.contains n))&&fE n))
 | [],seen,n=>by simp[tp]
 | m::ns,seen,n=>by
  simp only[List.cons_append,tp,uniq_end ns (m::seen) n,List.contains_cons]
  cases seen.contains m <;> cases fE m <;> cases tp (m::seen) ns <;> cases n==m <;> cases seen.contains n <;> rfl
theorem Rw (t:ag):(NS t).length≤6*t.length+2:=by
 unfold NS
 have:∀l:ag,(l.flatMap qb).length≤6*l.length:=by
  intro l
  induction l with
  | nil=>simp
  | cons b l ih =>
   have:=qb_len b
   simp only[List.flatMap_cons,List.length_append,List.length_cons]
   omega
 have:=this t
 simp only[List.length_cons,List.length_append,List.length_nil]
 omega
structure FitV (R:Type) (v:Json) (d:Int) (n:Nat):Prop where
 right:dZ v d=true
 len:O0 v=true
 size:(cD v).length+5000≤10000*n
theorem aan:∀(l:List Json) (x:Json) (b:Bool),(kZ (l ++ [x]) b).length≤(kZ l b).length+1+(cD x).length
 | [],x,b=>by cases b <;> simp[kZ] <;> omega
 | y::l,x,b=>by
  have:=aan l x false
  simp only[List.cons_append,kZ,List.length_append]
  omega
theorem aao:∀(ns:List ag) (l:List Json) (n:ag) (x:Json) (b:Bool),ns.length=l.length→(ir (ns ++ [n]) (l ++ [x]) b).length≤(ir ns l b).length+2+(NS n).length+(cD x).length
 | [], [],n,x,b,_=>by cases b <;> simp[ir] <;> omega
 | m::ns,y::l,n,x,b,h=>by
  have:=aao ns l n x false (by simpa using h)
  simp only[List.cons_append,ir,List.headD_cons,List.tail_cons,List.length_append,List.length_cons]
  omega
 | [],_::_,_,_,_,h=>by cases h
 | _::_, [],_,_,_,h=>by cases h
theorem TJ:∀(l:List Json) (x:Json) (d:Int),eP (l ++ [x]) d=(eP l d&&dZ x d)
 | [],x,d=>by simp[eP]
 | y::l,x,d=>by simp only[List.cons_append,eP,TJ l x d,Bool.and_assoc]
structure Held (q:Int) (d:Int) (ns:List ag) (is:List Json) (n:Nat):Prop where
 right:eP is (d+1)=true
 len:Vl is=true
 count:is.length≤12
 names:(q=7∧ns.length=is.length∧tp [] ns=true∧(∀t∈ns,t.length≤1000)∧(ir ns is true).length≤10000*n)∨(q=6∧ns = []∧(kZ is true).length≤10000*n)
theorem prtA_len {d:fT} (h:Fm d):(AH d).length≤60:=by
 have e:AH d=XT d:=by unfold AH; rw[JS.2 h]; rfl
 rw[e]
 exact (prt_chars h).2.2
structure Lone (x:qy):Prop where
 head:∃c u,x.2.1=c::u∧td c=false
 met:∀r,SJ r→tokS (x.2.1++r)=some (x.2.2,r)
 quo:x.2.2.kind=2→fE x.2.2.text=true∧x.2.1=NS x.2.2.text
 own:x.2.2.kind≠2→x.2.2.text=x.2.1
theorem Rx {x:qy} (h:∀r,SJ r→okW [x] r) (h2:x.2.2.kind=2→fE x.2.2.text=true∧x.2.1=NS x.2.2.text) (h3:x.2.2.kind≠2→x.2.2.text=x.2.1):Lone x:=by
 obtain ⟨_,g2,_⟩:=h [] (.inl rfl)
 exact ⟨g2,fun r hr=>(h r hr).2.2.1,h2,h3⟩
theorem NW {c:UInt8} (hc:TE c=true):Lone (sg c):=Rx (fun r _=>Fu hc r) (fun h=>by cases h) (fun _=>rfl)
theorem lone_tx {t:ag} (ht:fE t=true):Lone (txW t):=Rx (fun r _=>aad ht r) (fun _=>⟨ht,rfl⟩) (fun h=>(h rfl).elim)
mutual
theorem loneJ:∀(v:Json) (d:Int),dZ v d=true→∀x∈tS v,Lone x
 | ⟨k,n,t,ns,is⟩,d,h,x,hx=>by
  have hL:=loneL is
  have hO:=loneO ns is
  cases fx.1 h with
  | name _ _ hd hk =>
   rcases hk with rfl|rfl|rfl
   ·obtain rfl:=List.mem_singleton.1 hx
    exact Rx (fun r hr=>Ft (Hr (.inr (.inr rfl))) hr) (fun h=>by cases h) (fun _=>rfl)
   ·obtain rfl:=List.mem_singleton.1 hx
    exact Rx (fun r hr=>Ft (Hr (.inr (.inl rfl))) hr) (fun h=>by cases h) (fun _=>rfl)
   ·obtain rfl:=List.mem_singleton.1 hx
    exact Rx (fun r hr=>Ft (Hr (.inl rfl)) hr) (fun h=>by cases h) (fun _=>rfl)
  | num _ _ hd hn =>
   have e:AH n=XT n:=by unfold AH; rw[JS.2 hn]; rfl
   have hx':x∈([([],AH n,⟨3,AH n,n,0⟩)]:List qy):=hx
   obtain rfl:=List.mem_singleton.1 hx'
   refine Rx (fun r hr => ?_) (fun h=>by cases h) (fun _=>rfl)
   rw[e]
   exact Ft (word_num hn) hr
  | text _ _ hd ht =>
   have hx':x∈([txW t]:List qy):=hx
   obtain rfl:=List.mem_singleton.1 hx'
   exact lone_tx ht
  | arr _ _ hd hi =>
   have hx':x∈([sg 91]++(rh is true ++ [sg 93]):List qy):=hx
   rw[List.mem_append,List.mem_append,List.mem_singleton,List.mem_singleton]at hx'
   rcases hx' with rfl|hx|rfl
   ·exact NW (by decide)
   ·exact hL true (d+1) hi x hx
   ·exact NW (by decide)
  | obj _ _ _ hd hl hu hi =>
   have hx':x∈([sg 123]++(nn ns is true ++ [sg 125]):List qy):=hx
   rw[List.mem_append,List.mem_append,List.mem_singleton,List.mem_singleton]at hx'
   rcases hx' with rfl|hx|rfl
   ·exact NW (by decide)
   ·exact hO true (d+1) hi hl (fun t ht=>NV ns [] hu t ht) x hx
   ·exact NW (by decide)
theorem loneL:∀(l:List Json) (first:Bool) (d:Int),eP l d=true→∀x∈rh l first,Lone x
 | [],_,_,_,x,hx=>by simp[rh]at hx
 | y::l,first,d,h,x,hx=>by
  simp only[eP,Bool.and_eq_true]at h
  have h1:=loneJ y d h.1
  have h2:=loneL l false d h.2
  simp only[rh,List.mem_append]at hx
  rcases hx with hx|hx|hx
  ·cases first
   ·simp at hx; rw[hx]; exact NW (by decide)
   ·simp at hx
  ·exact h1 x hx
  ·exact h2 x hx
theorem loneO:∀(ns:List ag) (l:List Json) (first:Bool) (d:Int),eP l d=true→ns.length=l.length→(∀t∈ns,fE t=true)→∀x∈nn ns l first,Lone x
 | _, [],_,_,_,_,_,x,hx=>by simp[nn]at hx
 | [],y::l,_,_,_,hl,_,_,_=>by cases hl
 | n::ns,y::l,first,d,h,hl,hv,x,hx=>by
  simp only[eP,Bool.and_eq_true]at h
  have h1:=loneJ y d h.1
  have h2:=loneO ns l false d h.2 (by simpa using hl) (fun t ht=>hv t (by simp[ht]))
  simp only[nn,List.headD_cons,List.tail_cons,List.mem_append,List.mem_cons]at hx
  rcases hx with hx|rfl|rfl|hx|hx
  ·cases first
   ·simp at hx; rw[hx]; exact NW (by decide)
   ·simp at hx
  ·exact lone_tx (hv n (by simp))
  ·exact NW (by decide)
  ·exact h1 x hx
  ·exact h2 x hx
end
theorem qb_pos (b:UInt8):1≤(qb b).length:=by unfold qb; (repeat' split) <;> simp
theorem qtS_ge (t:ag):t.length≤(NS t).length:=by
 have:∀l:ag,l.length≤(l.flatMap qb).length:=by
  intro l
  induction l with
  | nil=>simp
  | cons b l ih =>
   have:=qb_pos b
   simp only[List.flatMap_cons,List.length_append,List.length_cons]
   omega
 have:=this t
 unfold NS
 simp only[List.length_cons,List.length_append]
 omega
def Fw (t:Token):Prop:=(t.kind=3→Fm t.num)∧(t.kind=2→fE t.text=true)∧(t.kind=4→Eu t.text=true)
theorem aap {x:ag} (h:Eu x=true):∃k:Int,(k=1∨k=2∨k=3)∧mm .str (.int .i64) x aaf=k:=by
 unfold Eu at h
 rw[Bool.or_eq_true,Bool.or_eq_true,beq_iff_eq,beq_iff_eq,beq_iff_eq]at h
 rcases h with rfl|rfl|rfl
 ·exact ⟨1, .inl rfl,rfl⟩
 ·exact ⟨2, .inr (.inl rfl),rfl⟩
 ·exact ⟨3, .inr (.inr rfl),rfl⟩
theorem L8 {x:ag} {ts r:List Token} (h:∀t∈ts,Fw t) (hs:kf x ts=some r):∀t∈r,Fw t:=by
 cases ts with
 | nil=>cases hs
 | cons t ts =>
  simp only[kf]at hs
  split at hs
  ·cases hs; exact fun u hu=>h u (by simp[hu])
  ·cases hs
theorem nameS_ok {ns:List ag} {ts:List Token} {p:ag×List Token} (h:∀t∈ts,Fw t) (hs:JT ns ts = .ok p):fE p.1=true∧ns.contains p.1=false∧∀t∈p.2,Fw t:=by
 cases ts with
 | nil=>cases hs
 | cons t ts =>
  simp only[JT]at hs
  split at hs
  ·cases hs
  ·rename_i hk
   split at hs
   ·cases hs
   ·rename_i hc
    split at hs
    ·rename_i r hr
     cases hs
     exact ⟨(h t (by simp)).2.1 (by simpa using hk),by simpa using hc,L8 (fun u hu=>h u (by simp[hu])) hr⟩
    ·cases hs
def Sound (f:List Token→Except XV (Json×List Token)) (d:Int):Prop:=∀ts p,(∀t∈ts,Fw t)→f ts = .ok p→dZ p.1 d=true∧∀t∈p.2,Fw t
def Inv (obj:Bool) (d:Int) (ns:List ag) (is:List Json):Prop:=eP is d=true∧(obj=true→ns.length=is.length∧tp [] ns=true)∧(obj=false→ns = [])
theorem partS_ok {f:List Token→Except XV (Json×List Token)} {d:Int} (hf:Sound f d) {obj:Bool} {ns:List ag} {is:List Json} {ts:List Token} {p:(List ag×List Json)×List Token} (h:∀t∈ts,Fw t) (hi:Inv obj d ns is) (hs:xN f obj ns is ts = .ok p) :
  Inv obj d p.1.1 p.1.2∧∀t∈p.2,Fw t:=by
 obtain ⟨i1,i2,i3⟩:=hi
 cases obj with
 | true =>
  simp only[xN]at hs
  split at hs
  ·cases hs
  ·rename_i nm ts1 hn
   obtain ⟨g1,g2,g3⟩:=nameS_ok h hn
   split at hs
   ·cases hs
   ·rename_i v TG hv
    obtain ⟨k1,k2⟩:=hf _ _ g3 hv
    cases hs
    obtain ⟨j1,j2⟩:=i2 rfl
    refine ⟨⟨by rw[TJ,i1,k1]; rfl,fun _=>⟨by simp[j1],?_⟩,fun h=>by cases h⟩,k2⟩
    simp only at g1 g2
    rw[uniq_end,j2,g2,g1]
    rfl
 | false =>
  simp only[xN]at hs
  split at hs
  ·cases hs
  ·rename_i v TG hv
   obtain ⟨k1,k2⟩:=hf _ _ h hv
   cases hs
   exact ⟨⟨by rw[TJ,i1,k1]; rfl,(fun h=>by cases h),i3⟩,k2⟩
theorem aaq {f:List Token→Except XV (Json×List Token)} {d:Int} (hf:Sound f d) {cl:ag} {obj:Bool}:∀(m:Nat) (ns:List ag) (is:List Json) (ts:List Token) (p:(List ag×List Json)×List Token),
  (∀t∈ts,Fw t)→Inv obj d ns is→zQ f cl obj m ns is ts = .ok p→Inv obj d p.1.1 p.1.2∧∀t∈p.2,Fw t
 | 0,_,_,_,_,_,_,h=>by cases h
 | m+1,ns,is,ts,p,h,hi,hs=>by
  simp only[zQ]at hs
  split at hs
  ·cases hs
  ·rename_i q TG hq
   obtain ⟨g1,g2⟩:=partS_ok hf h hi hq
   split at hs
   ·rename_i r hr
    cases hs
    exact ⟨g1,L8 g2 hr⟩
   ·split at hs
    ·rename_i r hr
     exact aaq hf m _ _ _ _ (L8 g2 hr) g1 hs
    ·cases hs
theorem Vn:∀(n:Nat) (d:Int),Sound (yR n d) d
 | 0,_,_,_,_,h=>by cases h
 | _+1,_, [],_,_,h=>by cases h
 | n+1,d,t::r,p,ht,h=>by
  have h0:=ht t (by simp)
  have hr0:∀u∈r,Fw u:=fun u hu=>ht u (by simp[hu])
  simp only[yR]at h
  split at h
  ·cases h
  rename_i hst
  split at h
  ·cases h
  rename_i hd
  have hd16:d≤16:=by omega
  split at h
  ·cases J0:t.text==([123]:ag)with
   | true =>
    rw[J0]at h
    simp only[if_true]at h
    split at h
    ·rename_i r' hr
     cases h
     exact ⟨fx.2 (.obj [] [] d hd16 rfl rfl rfl),L8 hr0 hr⟩
    ·split at h
     ·cases h
     ·rename_i q r' hq
      cases h
      obtain ⟨⟨g1,g2,_⟩,g4⟩:=aaq (Vn n (d+1)) _ _ _ _ _ hr0 ⟨rfl,fun _=>⟨rfl,rfl⟩,fun _=>rfl⟩ hq
      obtain ⟨g5,g6⟩:=g2 rfl
      exact ⟨fx.2 (.obj _ _ d hd16 g5 g6 g1),g4⟩
   | false =>
    rw[J0]at h
    simp only[Bool.false_eq_true,if_false]at h
    split at h
    ·rename_i r' hr
     cases h
     exact ⟨fx.2 (.arr [] d hd16 rfl),L8 hr0 hr⟩
    ·split at h
     ·cases h
     ·rename_i q r' hq
      cases h
      obtain ⟨⟨g1,_,g3⟩,g4⟩:=aaq (Vn n (d+1)) _ _ _ _ _ hr0 ⟨rfl,(fun h=>by cases h),fun _=>rfl⟩ hq
      have:=g3 rfl
      simp only at this ⊢
      rw[this]
      exact ⟨fx.2 (.arr _ d hd16 g1),g4⟩
  rename_i hop
  split at h
  ·rename_i hnm
   cases h
   obtain ⟨k,hk,e⟩:=aap hnm.2
   simp only[e]
   exact ⟨fx.2 (.name k d hd16 hk),hr0⟩
  rename_i hnm
  split at h
  ·rename_i hk3
   cases h
   exact ⟨fx.2 (.num _ d hd16 (h0.1 hk3)),hr0⟩
  ·rename_i hk3
   cases h
   have Re:t.kind=2:=by
    have hst':tT t=true:=by simpa using hst
    simp only[tT,Bool.or_eq_true,Bool.and_eq_true,beq_iff_eq]at hst'
    rcases hst' with h|h|h|⟨h,h'⟩
    ·exact h
    ·exact (hk3 h).elim
    ·exact (hnm ⟨h,h0.2.2 h⟩).elim
    ·exact (hop ⟨h,h'⟩).elim
   exact ⟨fx.2 (.text _ d hd16 (h0.2.1 Re)),hr0⟩
theorem finD_fm (neg:Bool) (all:ag) (x:Int) (h:∀c∈all,nH c) (ok:(finD neg all x).2=true):Fm (finD neg all x).1:=by
 unfold finD at ok ⊢
 by_cases h0:cL (bx all [48]) [48] = []
 ·rw[if_pos h0]
  exact Fm.mk0
 rw[if_neg h0]at ok ⊢
 obtain ⟨f1,f2,f3⟩:=Xd all h h0
 have hm:Int.tmod (uH (cL (bx all [48]) [48]) 0:Int) 10≠0:=by rw[Int.tmod_eq_emod_of_nonneg (by omega)]; omega
 cases neg with
 | true =>
  rw[if_pos rfl]at ok ⊢
  obtain ⟨e,g⟩:=mkD_fm (tmod_neg hm) ok
  rw[e]
  exact g
 | false =>
  rw[if_neg (by simp)]at ok ⊢
  obtain ⟨e,g⟩:=mkD_fm hm ok
  rw[e]
  exact g
theorem tailD_fm (neg:Bool) (all:ag) (x:Int) (X:ag) (h:∀c∈all,nH c) (ok:(tailD neg all x X).2=true):Fm (tailD neg all x X).1:=by
 unfold tailD at ok ⊢
 split
 ·rename_i h1
  rw[if_pos h1]at ok
  split
  ·rename_i h2
   rw[if_pos h2]at ok
   exact finD_fm _ _ _ h ok
  ·exact Fm.mk0
 ·rename_i h1
  rw[if_neg h1]at ok
  split
  ·exact Fm.mk0
  ·rename_i h2
   rw[if_neg h2]at ok
   split
   ·rename_i h3
    rw[if_pos h3]at ok
    exact finD_fm _ _ _ h ok
   ·exact Fm.mk0
theorem parseS_fm (s:ag) (ok:(CN s).2=true):Fm (CN s).1:=by
 unfold CN at ok ⊢
 simp only at ok ⊢
 split
 ·exact Fm.mk0
 rename_i h1
 rw[if_neg h1]at ok
 split
 ·exact Fm.mk0
 rename_i h2
 rw[if_neg h2]at ok
 split
 ·exact Fm.mk0
 rename_i h3
 rw[if_neg h3]at ok
 split
 ·rename_i h4
  rw[if_pos h4]at ok
  exact tailD_fm _ _ _ _ (Ih _) ok
 ·rename_i h4
  rw[if_neg h4]at ok
  split
  ·exact Fm.mk0
  ·rename_i h5
   rw[if_neg h5]at ok
   exact tailD_fm _ _ _ _ (fun c hc=>(List.mem_append.1 hc).elim (Ih _ c) (Ih _ c)) ok
theorem uq_len:∀(n:Nat) (s o o' r:ag),uq n s o=some (o',r)→o'.length+4*r.length≤o.length+4*s.length
 | 0,_,_,_,_,h=>by cases h
 | n+1,s,o,o',r,h=>by
  simp only[uq]at h
  split at h
  ·simp only[Option.some.injEq,Prod.mk.injEq]at h
   obtain ⟨rfl,rfl⟩:=h
   rw[List.length_drop]
   omega
  ·split at h
   ·cases h
   ·rename_i c r1 hs
    have h1:=uq_len n r1 (o++enc c) o' r h
    obtain ⟨hv,hl⟩:=Z1 hs
    have h2:=(JF hv).2
    simp only[List.length_append]at h1
    omega
theorem tokS_ok {s r:ag} {t:Token} (h:tokS s=some (t,r)):Fw t∧t.text.length≤4*s.length:=by
 cases s with
 | nil=>cases h
 | cons c u =>
  simp only[tokS]at h
  split at h
  ·split at h
   ·rename_i hp
    simp only[Option.some.injEq,Prod.mk.injEq]at h
    rw[←h.1]
    refine ⟨⟨fun _=>parseS_fm _ hp,(fun h=>by cases h),(fun h=>by cases h)⟩,?_⟩
    have:=(List.takeWhile_prefix (l:=c::u) Fq).length_le
    simp only
    omega
   ·cases h
  ·split at h
   ·split at h
    ·rename_i o q hq
     simp only[Option.some.injEq,Prod.mk.injEq]at h
     rw[←h.1]
     obtain ⟨_,_,rs,h3,h4⟩:=uqS_sfx hq
     refine ⟨⟨(fun h=>by cases h),fun _=>Hp.2 ⟨rs,h3,h4⟩,(fun h=>by cases h)⟩,?_⟩
     unfold uqS at hq
     split at hq
     ·have:=uq_len _ _ _ _ _ hq
      rw[List.length_drop]at this
      simp only[List.length_nil,List.length_cons]at this ⊢
      omega
     ·cases hq
    ·cases h
   ·split at h
    ·simp only[Option.some.injEq,Prod.mk.injEq]at h
     rw[←h.1]
     exact ⟨⟨(fun h=>by cases h),(fun h=>by cases h),(fun h=>by cases h)⟩,by simp; omega⟩
    ·split at h
     ·rename_i hw
      simp only[Option.some.injEq,Prod.mk.injEq]at h
      rw[←h.1]
      refine ⟨⟨(fun h=>by cases h),(fun h=>by cases h),fun _ => ?_⟩,?_⟩
      ·rcases hw with hw|hw|hw <;> simp only[hw] <;> rfl
      ·have:=(List.takeWhile_prefix (l:=c::u) Et).length_le
       simp only
       omega
     ·cases h
def fineT (t:Token):Prop:=Fw t∧t.text.length≤80000
theorem aar:∀(n p:Nat) (s:ag) (out:List Token),s.length≤20000→(∀t∈out,fineT t)→∀t∈(xM n p s out).1,fineT t
 | 0,_,_,_,_,_=>by intro t ht; cases ht
 | n+1,p,s,out,hs,ho=>by
  simp only[xM]
  split
  ·intro t ht
   rcases List.mem_append.1 ht with ht|ht
   ·exact ho t ht
   ·obtain rfl:=List.mem_singleton.1 ht
    exact ⟨⟨(fun h=>by cases h),(fun h=>by cases h),(fun h=>by cases h)⟩,by simp⟩
  ·have hd:=BF td s
   split
   ·intro t ht; cases ht
   ·rename_i t r hr
    have h3:=(tokS_sfx hr).2
    obtain ⟨g1,g2⟩:=tokS_ok hr
    refine aar n _ r _ (by omega) fun x hx => ?_
    rcases List.mem_append.1 hx with hx|hx
    ·exact ho x hx
    ·obtain rfl:=List.mem_singleton.1 hx
     exact ⟨g1,by show t.text.length≤80000; omega⟩
theorem scanS_fine (s:ag):∀t∈(rT s).1,fineT t:=by
 unfold rT
 split
 ·intro t ht; cases ht
 ·exact aar _ _ _ _ (by omega) (by intro t ht; cases ht)
def tokN (t:Token):Nat:=6*t.text.length+70
def tokL:List Token→Nat
 | []=>0
 | t::l=>tokN t+tokL l
theorem tokL_le:∀(l:List Token),(∀t∈l,fineT t)→tokL l≤l.length*480070
 | [],_=>Nat.le_refl _
 | t::l,h=>by
  have h1:=tokL_le l fun x hx=>h x (by simp[hx])
  have h2:=(h t (by simp)).2
  simp only[tokL,tokN,List.length_cons]
  omega
theorem Ij {x:ag} {ts r:List Token} (hs:kf x ts=some r):tokL r+70≤tokL ts:=by
 cases ts with
 | nil=>cases hs
 | cons t ts =>
  simp only[kf]at hs
  split at hs
  ·cases hs; simp only[tokL,tokN]; omega
  ·cases hs
theorem nameS_size {ns:List ag} {ts:List Token} {p:ag×List Token} (hs:JT ns ts = .ok p):(NS p.1).length+tokL p.2+130≤tokL ts:=by
 cases ts with
 | nil=>cases hs
 | cons t ts =>
  simp only[JT]at hs
  split at hs
  ·cases hs
  ·split at hs
   ·cases hs
   ·split at hs
    ·rename_i r hr
     cases hs
     have h1:=Ij hr
     have h2:=Rw t.text
     simp only[tokL,tokN]
     omega
    ·cases hs
def Sized (f:List Token→Except XV (Json×List Token)):Prop:=∀ts p,(∀t∈ts,Fw t)→f ts = .ok p→(cD p.1).length+tokL p.2≤tokL ts
def Xf (obj:Bool) (ns:List ag) (is:List Json):Nat:=if obj then (ir ns is true).length else (kZ is true).length
theorem partS_size {f:List Token→Except XV (Json×List Token)} {d:Int} (hs0:Sound f d) (hf:Sized f) {obj:Bool} {ns:List ag} {is:List Json} {ts:List Token} {p:(List ag×List Json)×List Token} (h:∀t∈ts,Fw t) (hi:Inv obj d ns is) (hs:xN f obj ns is ts = .ok p) :
  Xf obj p.1.1 p.1.2+tokL p.2≤Xf obj ns is+1+tokL ts:=by
 obtain ⟨i1,i2,i3⟩:=hi
 cases obj with
 | true =>
  simp only[xN]at hs
  split at hs
  ·cases hs
  ·rename_i nm ts1 hn
   obtain ⟨_,_,g3⟩:=nameS_ok h hn
   have g4:=nameS_size hn
   split at hs
   ·cases hs
   ·rename_i v TG hv
    have k1:=hf _ _ g3 hv
    cases hs
    have:=aao ns is nm v true (i2 rfl).1
    simp only[Xf,if_true]at g4 k1 ⊢
    omega
 | false =>
  simp only[xN]at hs
  split at hs
  ·cases hs
  ·rename_i v TG hv
   have k1:=hf _ _ h hv
   cases hs
   have:=aan is v true
   simp only[Xf,Bool.false_eq_true,if_false]at k1 ⊢
   omega
theorem TK {f:List Token→Except XV (Json×List Token)} {d:Int} (hs0:Sound f d) (hf:Sized f) {cl:ag} {obj:Bool}:∀(m:Nat) (ns:List ag) (is:List Json) (ts:List Token) (p:(List ag×List Json)×List Token),
  (∀t∈ts,Fw t)→Inv obj d ns is→zQ f cl obj m ns is ts = .ok p→Xf obj p.1.1 p.1.2+tokL p.2+60≤Xf obj ns is+1+tokL ts
 | 0,_,_,_,_,_,_,h=>by cases h
 | m+1,ns,is,ts,p,h,hi,hs=>by
  simp only[zQ]at hs
  split at hs
  ·cases hs
  ·rename_i q TG hq
   obtain ⟨g1,g2⟩:=partS_ok hs0 h hi hq
   have g3:=partS_size hs0 hf h hi hq
   split at hs
   ·rename_i r hr
    cases hs
    have g4:=Ij hr
    simp only at g3 g4 ⊢
    omega
   ·split at hs
    ·rename_i r hr
     have g4:=Ij hr
     have g5:=TK hs0 hf m _ _ _ _ (L8 g2 hr) g1 hs
     simp only at g3 g4 g5 ⊢
     omega
    ·cases hs
theorem printJ_name {k:Int} (hk:k=1∨k=2∨k=3):(cD ⟨k,⟨0,0⟩, [], [], []⟩).length≤60:=by
 rcases hk with rfl|rfl|rfl <;> decide
theorem Wp:∀(n:Nat) (d:Int),Sized (yR n d)
 | 0,_,_,_,_,h=>by cases h
 | _+1,_, [],_,_,h=>by cases h
 | n+1,d,t::r,p,ht,h=>by
  have h0:=ht t (by simp)
  have hr0:∀u∈r,Fw u:=fun u hu=>ht u (by simp[hu])
  have et:tokL (t::r)=tokN t+tokL r:=rfl
  have en:tokN t=6*t.text.length+70:=rfl
  simp only[yR]at h
  split at h
  ·cases h
  split at h
  ·cases h
  split at h
  ·cases J0:t.text==([123]:ag)with
   | true =>
    rw[J0]at h
    simp only[if_true]at h
    split at h
    ·rename_i r' hr
     cases h
     have:=Ij hr
     show 2+tokL r'≤_
     omega
    ·split at h
     ·cases h
     ·rename_i q r' hq
      cases h
      have g:=TK (Vn n (d+1)) (Wp n (d+1)) _ _ _ _ _ hr0 ⟨rfl,fun _=>⟨rfl,rfl⟩,fun _=>rfl⟩ hq
      have e:cD ⟨7,⟨0,0⟩, [],q.1,q.2⟩=123::(ir q.1 q.2 true ++ [125]):=by simp only[cD]; rfl
      simp only[Xf,if_true,ir,List.length_nil]at g
      show (cD ⟨7,⟨0,0⟩, [],q.1,q.2⟩).length+tokL r'≤_
      rw[e]
      simp only[List.length_cons,List.length_append,List.length_nil]
      omega
   | false =>
    rw[J0]at h
    simp only[Bool.false_eq_true,if_false]at h
    split at h
    ·rename_i r' hr
     cases h
     have:=Ij hr
     show 2+tokL r'≤_
     omega
    ·split at h
     ·cases h
     ·rename_i q r' hq
      cases h
      have g:=TK (Vn n (d+1)) (Wp n (d+1)) _ _ _ _ _ hr0 ⟨rfl,(fun h=>by cases h),fun _=>rfl⟩ hq
      have e:cD ⟨6,⟨0,0⟩, [],q.1,q.2⟩=91::(kZ q.2 true ++ [93]):=by simp only[cD]; rfl
      simp only[Xf,Bool.false_eq_true,if_false,kZ,List.length_nil]at g
      show (cD ⟨6,⟨0,0⟩, [],q.1,q.2⟩).length+tokL r'≤_
      rw[e]
      simp only[List.length_cons,List.length_append,List.length_nil]
      omega
  rename_i hop
  split at h
  ·rename_i hnm
   cases h
   obtain ⟨k,hk,e⟩:=aap hnm.2
   have:=printJ_name hk
   simp only[e]
   omega
  rename_i hnm
  split at h
  ·rename_i hk3
   cases h
   have:=prtA_len (h0.1 hk3)
   have e:cD ⟨4,t.num, [], [], []⟩=AH t.num:=by simp only[cD]; rfl
   simp only[e]
   omega
  ·cases h
   have:=Rw t.text
   have e:cD ⟨5,⟨0,0⟩,t.text, [], []⟩=NS t.text:=by simp only[cD]; rfl
   simp only[e]
   omega
mutual
theorem Ht:∀(v:Json) (d:Int),dZ v d=true→(cD v).length≤10000000000→O0 v=true∧1≤(cD v).length
 | ⟨k,n,t,ns,is⟩,d,h,hl=>by
  have hL:=aas is true
  have hO:=aat ns is true
  cases fx.1 h with
  | name _ _ hd hk=>rcases hk with rfl|rfl|rfl <;> exact ⟨rfl,by decide⟩
  | num _ _ hd hn =>
   refine ⟨rfl,?_⟩
   have:=print_ne ⟨4,n, [], [], []⟩ (by rw[fx]; exact .num n 1 (by omega) hn)
   cases hp:cD ⟨4,n, [], [], []⟩with
   | nil=>exact (this hp).elim
   | cons _ _=>simp
  | text _ _ hd ht =>
   have e:cD ⟨5,⟨0,0⟩,t, [], []⟩=NS t:=by simp only[cD]; rfl
   have:=qtS_ge t
   rw[e]at hl ⊢
   exact ⟨w3.2 ⟨by simp,by simp,rfl,by simp only; omega,by simp⟩,by simp[NS]⟩
  | arr _ _ hd hi =>
   have e:cD ⟨6,⟨0,0⟩, [], [],is⟩=91::(kZ is true ++ [93]):=by simp only[cD]; rfl
   rw[e]at hl ⊢
   simp only[List.length_cons,List.length_append,List.length_nil]at hl
   obtain ⟨g1,g2⟩:=hL (d+1) hi (by omega)
   exact ⟨w3.2 ⟨by simp,by simp only; omega,g1,by simp,by simp⟩,by simp⟩
  | obj _ _ _ hd hlen hu hi =>
   have e:cD ⟨7,⟨0,0⟩, [],ns,is⟩=123::(ir ns is true ++ [125]):=by simp only[cD]; rfl
   rw[e]at hl ⊢
   simp only[List.length_cons,List.length_append,List.length_nil]at hl
   obtain ⟨g1,g2,g3⟩:=hO (d+1) hi hlen (by omega)
   exact ⟨w3.2 ⟨by simp only; omega,by simp only; omega,g1,by simp,g3⟩,by simp⟩
theorem aas:∀(l:List Json) (first:Bool) (d:Int),eP l d=true→(kZ l first).length≤10000000000→Vl l=true∧l.length≤(kZ l first).length
 | [],_,_,_,_=>⟨rfl,by simp⟩
 | x::l,first,d,h,hl=>by
  simp only[eP,Bool.and_eq_true]at h
  have h1:=Ht x d h.1
  have h2:=aas l false d h.2
  simp only[kZ,List.length_append]at hl ⊢
  obtain ⟨a1,a2⟩:=h1 (by omega)
  obtain ⟨b1,b2⟩:=h2 (by omega)
  refine ⟨by simp only[Vl,a1,b1]; rfl,?_⟩
  simp only[List.length_cons]
  omega
theorem aat:∀(ns:List ag) (l:List Json) (first:Bool) (d:Int),eP l d=true→ns.length=l.length→(ir ns l first).length≤10000000000→Vl l=true∧l.length≤(ir ns l first).length∧∀n∈ns,n.length≤10000000000
 | ns, [],_,_,_,hlen,_=>by
  obtain rfl:ns = []:=List.eq_nil_of_length_eq_zero hlen
  exact ⟨rfl,by simp,by simp⟩
 | [],x::l,_,_,_,hlen,_=>by cases hlen
 | n::ns,x::l,first,d,h,hlen,hl=>by
  simp only[eP,Bool.and_eq_true]at h
  have h1:=Ht x d h.1
  have h2:=aat ns l false d h.2 (by simpa using hlen)
  simp only[ir,List.length_append,List.headD_cons,List.tail_cons,List.length_cons]at hl ⊢
  obtain ⟨a1,a2⟩:=h1 (by omega)
  obtain ⟨b1,b2,b3⟩:=h2 (by omega)
  have h3:=qtS_ge n
  refine ⟨by simp only[Vl,a1,b1]; rfl,by omega,fun m hm => ?_⟩
  rcases List.mem_cons.1 hm with rfl|hm
  ·omega
  ·exact b3 m hm
end
theorem parseJ_ok (s:ag) (h:(pE s).2.1=0):dZ (pE s).1 1=true∧O0 (pE s).1=true∧(cD (pE s).1).length≤10000000000:=by
 unfold pE at h ⊢
 by_cases h0:(rT s).2.1=0
 rotate_left
 ·rw[if_pos h0]at h
  exact (h0 h).elim
 rw[if_neg (by simpa using h0)]at h ⊢
 have hf:=scanS_fine s
 have hlen:=scanS_len s
 cases hq:yR 40 1 (rT s).1 with
 | error b =>
  rw[hq]at h
  simp only at h
  have hb:b.1≠0:=by
   have hv:=value_ok (R:=Unit) 20002 (by omega) 40 1 (by omega) (by omega) (by omega) (rT s).1 (scanS_end s h0) hlen
   rw[hq]at hv
   exact hv.1.2
  exact (hb h).elim
 | ok p =>
  rw[hq]at h
  obtain ⟨v,r⟩:=p
  simp only at h ⊢
  split
  ·rename_i hk
   rw[if_pos hk]at h
   cases h
  ·obtain ⟨g1,_⟩:=Vn 40 1 _ _ (fun t ht=>(hf t ht).1) hq
   have g2:=Wp 40 1 _ _ (fun t ht=>(hf t ht).1) hq
   have g3:=tokL_le _ hf
   simp only at g1 g2 ⊢
   have g4:(cD v).length≤10000000000:=by
    have:(rT s).1.length*480070≤20002*480070:=Nat.mul_le_mul_right _ hlen
    omega
   exact ⟨g1,(Ht v 1 g1 g4).1,g4⟩
abbrev nil4:Json:=⟨0,⟨0,0⟩, [], [], []⟩
def RokV {R:Type} (j0:bh R) (d:Int) (T:List Token) (p:Nat) (q:Json×List Token):Prop :=
 De q.2∧∃p':Nat,T.drop p'=q.2∧∀k:Json→List Token→Int→Int→Option R,j0 d T (p:Int) 0 k=k q.1 T (p':Int) 0
def RbadV {R:Type} (j0:bh R) (d:Int) (T:List Token) (p:Nat) (b:XV):Prop :=
 (De b.2∧b.1≠0)∧∃(v:Json) (p':Nat),T.drop p'=b.2∧∀k:Json→List Token→Int→Int→Option R,j0 d T (p:Int) 0 k=k v T (p':Int) b.1
def HvalR {R:Type} (j0:bh R) (f:List Token→Except XV (Json×List Token)) (d:Int) (T:List Token):Prop :=
 (∀(p c:Int),c≠0→∀k:Json→List Token→Int→Int→Option R,j0 d T p c k=k nil4 T p c) ∧
 ∀p:Nat,De (T.drop p)→Both (RokV j0 d T p) (RbadV j0 d T p) (f (T.drop p))
section
variable {R:Type} (j0:bh R) (f:List Token→Except XV (Json×List Token)) (hfl:∀ts p,f ts = .ok p→p.2.length<ts.length) (d:Int) (hd:0≤d∧d≤16) (T:List Token) (hT:T.length≤100000000)
 (hv:HvalR j0 f (d+1) T) (c1 c2 c3:Int) (c4:ag) (c5 c6 c7:Int) (c8:ag)
include hfl hd hT hv
end
mutual
def i64J:Json→Prop
 | ⟨k,n,t,ns,is⟩=>yo n.ao∧yo n.exp∧i64L is
def i64L:List Json→Prop
 | []=>True
 | x::l=>i64J x∧i64L l
end
theorem wt_strs:∀(l:List (Ty.den .str)) (m:Nat),aal m (l.map (Ty.cells .str))→l.length≤m∧∀t∈(l:List ag),t.length≤m
 | [],_,_=>⟨Nat.zero_le _,fun t h=>by cases h⟩
 | x::l,_, .cons h t=>by
  obtain ⟨h1,h2⟩:=wt_strs l _ t
  have h':WtL _ [V.str x]:=h
  cases h' with
  | cons a b =>
   cases a with
   | str hx =>
    have hx':List.length (x:ag)+1≤_:=hx
    refine ⟨by simp only[List.length_cons]; omega,fun u hu => ?_⟩
    rcases List.mem_cons.1 hu with hu|hu
    ·have:List.length u=List.length (x:ag):=congrArg List.length hu
     omega
    ·have:=h2 u hu; omega
def sumS:List ag→Nat
 | []=>0
 | t::l=>t.length+1+sumS l
theorem wt_sum:∀(l:List (Ty.den .str)) (m:Nat),aal m (l.map (Ty.cells .str))→sumS l≤m
 | [],_,_=>Nat.zero_le _
 | x::l,_, .cons h t=>by
  have h1:=wt_sum l _ t
  have h':WtL _ [V.str x]:=h
  cases h' with
  | cons a b =>
   cases a with
   | str hx =>
    have hx':List.length (x:ag)+1≤_:=hx
    show List.length (x:ag)+1+sumS l≤_
    omega
theorem prtA_any (d:fT):(AH d).length≤60:=by
 cases h:fmB d with
 | true=>exact prtA_len (JS.1 h)
 | false=>unfold AH; rw[h]; simp
mutual
theorem wt_json:∀(v:Json) (n:Nat),n≤1048576→WtL n (Ty.cells .json v)→O0 v=true∧i64J v∧(cD v).length+50≤100*n
 | ⟨k,⟨m,e⟩,t,ns,is⟩,n,hn,h=>by
  have hL:=wt_jsonL is
  have hO:=wt_jsonO is ns
  have h':WtL n [.int .i64 k, .int .i64 m, .int .i64 e, .str t, .sl .str ns .no, .sl .json is .no]:=h
  cases h' with
  | cons a1 h'=>cases h' with
   | cons a2 h'=>cases h' with
    | cons a3 h'=>cases h' with
     | cons a4 h'=>cases h' with
      | cons a5 h'=>cases h' with
       | cons a6 h' =>
        cases h'
        cases a1 with|int p1 k1 =>
        cases a2 with|int p2 k2 =>
        cases a3 with|int p3 k3 =>
        cases a4 with|str p4 =>
        cases a5 with|sl p5 w5 =>
        cases a6 with|sl p6 w6 =>
        obtain ⟨s1,s2⟩:=wt_strs ns _ w5
        have s3:=wt_sum ns _ w5
        have s1':List.length (α:=ag) ns≤_:=s1
        have s2':∀t∈ns,List.length t≤_:=s2
        obtain ⟨l1,l2,l3,l4⟩:=hL _ (by omega) w6
        have l5:=hO true _ (by omega) w6
        have l4':=l4 true
        refine ⟨w3.2 ⟨by simp only; omega,by simp only; omega,l1,by simp only; omega,fun u hu=>by have:=s2' u hu; omega⟩,⟨nU.1 k2,nU.1 k3,l2⟩,?_⟩
        have hq:=Rw t
        have hp:=prtA_any ⟨m,e⟩
        have n1:rS.length=4:=rfl
        have n2:lv.length=5:=rfl
        have n3:wZ.length=4:=rfl
        simp only[cD]
        split
        ·omega
        split
        ·omega
        split
        ·omega
        split
        ·omega
        split
        ·omega
        split
        ·simp only[List.length_cons,List.length_append,List.length_nil]; omega
        ·simp only[List.length_cons,List.length_append,List.length_nil]; omega
theorem wt_jsonL:∀(l:List Json) (n:Nat),n≤1048576→aal n (l.map (Ty.cells .json))→Vl l=true∧i64L l∧l.length≤n∧∀b:Bool,(kZ l b).length≤100*n
 | [],n,_,_=>⟨rfl,trivial,Nat.zero_le _,fun _=>by simp[kZ]⟩
 | x::l,_,hn, .cons h t=>by
  obtain ⟨a1,a2,a3⟩:=wt_json x _ (by omega) h
  obtain ⟨b1,b2,b3,b4⟩:=wt_jsonL l _ (by omega) t
  refine ⟨by simp only[Vl,a1,b1]; rfl,⟨a2,b2⟩,by simp only[List.length_cons]; omega,fun b => ?_⟩
  have b5:=b4 false
  simp only[kZ,List.length_append]
  have:(if b=true then ([]:ag)else [44]).length≤1:=by cases b <;> simp
  omega
theorem wt_jsonO:∀(l:List Json) (ns:List ag) (b:Bool) (n:Nat),n≤1048576→aal n (l.map (Ty.cells .json))→(ir ns l b).length≤100*n+6*sumS ns
 | [],ns,_,n,_,_=>by simp[ir]
 | x::l,ns,b,_,hn, .cons h t=>by
  obtain ⟨a1,a2,a3⟩:=wt_json x _ (by omega) h
  have b5:=wt_jsonO l ns.tail false _ (by omega) t
  simp only[ir,List.length_append,List.length_cons]
  have:(if b=true then ([]:ag)else [44]).length≤1:=by cases b <;> simp
  cases ns with
  | nil =>
   have hq:=Rw []
   simp only[List.headD_nil,List.tail_nil,sumS,List.length_nil]at b5 hq ⊢
   omega
  | cons u ns =>
   have hq:=Rw u
   simp only[List.headD_cons,List.tail_cons,sumS]at b5 ⊢
   omega
end
mutual
theorem right_i64:∀(v:Json) (d:Int),dZ v d=true→i64J v
 | ⟨k,⟨m,e⟩,t,ns,is⟩,d,h=>by
  have hL:=aau is
  have z:yo 0:=by unfold yo; omega
  cases fx.1 h with
  | name _ _ hd hk=>exact ⟨z,z,trivial⟩
  | num _ _ hd hn =>
   have:=hn.bounds
   simp only at this
   exact ⟨by show yo m; unfold yo; omega,by show yo e; unfold yo; omega,trivial⟩
  | text _ _ hd ht=>exact ⟨z,z,trivial⟩
  | arr _ _ hd hi=>exact ⟨z,z,hL _ hi⟩
  | obj _ _ _ hd hl hu hi=>exact ⟨z,z,hL _ hi⟩
theorem aau:∀(l:List Json) (d:Int),eP l d=true→i64L l
 | [],_,_=>trivial
 | x::l,d,h=>by
  simp only[eP,Bool.and_eq_true]at h
  exact ⟨right_i64 x d h.1,aau l d h.2⟩
end
def stripN:Nat→Int→Int→fT
 | 0,n,e=>⟨n,e⟩
 | f+1,n,e=>if Int.tmod n 10=0 then stripN f (Int.tdiv n 10) (e+1)else ⟨n,e⟩
def dI (n:Int):fT:=if n=0 then ⟨0,0⟩else stripN 20 n 0
theorem Xg:∀(f:Nat) (n e:Int),n≠0→n.natAbs<10 ^ f→∃(u:Int) (j:Nat),Int.tmod u 10≠0∧n=u*10 ^ j∧stripN f n e=⟨u,e+j⟩
 | 0,n,e,h0,h=>by omega
 | f+1,n,e,h0,h=>by
  simp only[stripN]
  by_cases hm:Int.tmod n 10=0
  ·rw[if_pos hm]
   obtain ⟨c,rfl⟩:=Int.dvd_of_tmod_eq_zero hm
   have hc:Int.tdiv (10*c) 10=c:=Int.mul_tdiv_cancel_left c (by decide)
   rw[hc]
   have hp:10 ^ (f+1)=10*10 ^ f:=by rw[Nat.pow_succ,Nat.mul_comm]
   obtain ⟨u,j,h1,h2,h3⟩:=Xg f c (e+1) (by rintro rfl; exact h0 rfl) (by rw[hp]at h; omega)
   refine ⟨u,j+1,h1,by rw[h2,Int.pow_succ,Int.mul_comm,Int.mul_assoc],?_⟩
   rw[h3]
   congr 1
   omega
  ·rw[if_neg hm]
   exact ⟨n,0,hm,by simp,by simp⟩
def jC (n:Int):Bool:=decide (0≤n)&&decide (n≤1000000000)
theorem Hu {n:Int}:jC n=true↔0≤n∧n≤1000000000:=by unfold jC; rw[Bool.and_eq_true,decide_eq_true_eq,decide_eq_true_eq]
theorem aav {n:Int} (h:jC n=true):(n=0∧dI n=⟨0,0⟩)∨∃(u:Int) (j:Nat),Int.tmod u 10≠0∧n=u*10 ^ j∧dI n=⟨u,j⟩∧j≤9∧1≤u∧u≤1000000000:=by
 obtain ⟨h1,h2⟩:=Hu.1 h
 by_cases h0:n=0
 ·exact .inl ⟨h0,by unfold dI; rw[if_pos h0]⟩
 ·have e20:(10:Nat) ^ 20=100000000000000000000:=rfl
  obtain ⟨u,j,g1,g2,g3⟩:=Xg 20 n 0 h0 (by omega)
  have hu:1≤u:=by
   have hp:(0:Int)<10 ^ j:=Int.pow_pos (by decide)
   rcases Int.lt_or_le 0 u with h|h
   ·omega
   ·have:u*10 ^ j≤0:=Int.mul_nonpos_of_nonpos_of_nonneg h (by omega)
    omega
  have hj:j≤9:=by
   rcases Nat.lt_or_ge 9 j with h|h
   ·exfalso
    have hp:(10:Int) ^ 10≤10 ^ j:=by
     have:=Nat.pow_le_pow_right (n:=10) (by decide) (show 10≤j by omega)
     exact_mod_cast this
    have e10:(10:Int) ^ 10=10000000000:=by decide
    have hm:1*(10:Int) ^ j≤u*10 ^ j:=Int.mul_le_mul_of_nonneg_right hu (by omega)
    omega
   ·exact h
  have hle:u≤n:=by
   have hp:(1:Int)≤10 ^ j:=Rq j
   have:u*1≤u*10 ^ j:=Int.mul_le_mul_of_nonneg_left hp (by omega)
   omega
  refine .inr ⟨u,j,g1,g2,?_,hj,hu,by omega⟩
  unfold dI
  rw[if_neg h0,g3]
  congr 1
  omega
theorem dI_fm {n:Int} (h:jC n=true):Fm (dI n):=by
 rcases aav h with ⟨_,e⟩|⟨u,j,g1,_,e,g4,g5,g6⟩
 ·rw[e]; exact Fm.mk0
 ·rw[e]; exact .inr ⟨g1,by show -1000000000000000≤u; omega,by show u≤1000000000000000; omega,by show -9≤(j:Int); omega,by show (j:Int)≤9; omega⟩
theorem shiftN_eq:∀(j:Nat) (u:Int),0≤u→u*10 ^ j≤1000000000→Pu.Nc j u=some (u*10 ^ j)
 | 0,u,_,_=>by simp[Pu.Nc]
 | j+1,u,h0,h=>by
  have e:u*10 ^ (j+1)=(u*10)*10 ^ j:=by rw[Int.pow_succ,Int.mul_assoc,Int.mul_comm 10]
  have hp:(1:Int)≤10 ^ j:=Rq j
  have hle:u*10≤u*10 ^ (j+1):=by
   rw[e]
   have:u*10*1≤u*10*10 ^ j:=Int.mul_le_mul_of_nonneg_left hp (by omega)
   omega
  simp only[Pu.Nc]
  rw[if_pos (by omega),shiftN_eq j (u*10) (by omega) (by rw[←e]; exact h),e]
theorem decInt_dI {n:Int} (h:jC n=true):Pu.tq (dI n)=some n:=by
 obtain ⟨h1,h2⟩:=Hu.1 h
 rcases aav h with ⟨rfl,e⟩|⟨u,j,g1,g2,e,g4,g5,g6⟩
 ·rw[e]; rfl
 ·rw[e]
  unfold Pu.tq
  have hr:Pu.To ⟨u,j⟩=true:=by
   unfold Pu.To
   rw[if_neg (by show ¬u=0; omega)]
   simp only[Bool.and_eq_true,decide_eq_true_eq]
   refine ⟨⟨g1,by omega,by omega⟩,by omega,by omega⟩
  rw[if_pos ⟨hr,by show (0:Int)≤(j:Int); omega⟩]
  show Pu.Nc ((j:Int)).toNat u=some n
  rw[Int.toNat_natCast,shiftN_eq j u (by omega) (by omega),←g2]
def AI (n:Int):Json:=⟨4,dI n, [], [], []⟩
def strV (s:ag):Json:=⟨5,⟨0,0⟩,s, [], []⟩
def yesV (b:Bool):Json:=⟨if b then 3 else 2,⟨0,0⟩, [], [], []⟩
def uI (ns:List ag) (is:List Json):Json:=⟨7,⟨0,0⟩, [],ns,is⟩
theorem Ik {n:Int} (h:jC n=true):Pu.UU (AI n)=some n:=by
 unfold Pu.UU AI
 rw[if_pos rfl]
 exact decInt_dI h
theorem flagF_yes (b:Bool):Pu.W4 (yesV b)=some b:=by cases b <;> rfl
theorem lW {n:Int} (h:jC n=true) {d:Int} (hd:d≤16):dZ (AI n) d=true:=fx.2 (.num _ d hd (dI_fm h))
theorem right_str {s:ag} (h:fE s=true) {d:Int} (hd:d≤16):dZ (strV s) d=true:=fx.2 (.text _ d hd h)
theorem Ry (b:Bool) {d:Int} (hd:d≤16):dZ (yesV b) d=true:=by cases b <;> exact fx.2 (.name _ d hd (by simp))
theorem right_obj {ns:List ag} {is:List Json} {d:Int} (hl:ns.length=is.length) (hu:tp [] ns=true) (h:eP is (d+1)=true) (hd:d≤16):dZ (uI ns is) d=true:=fx.2 (.obj _ _ d hd hl hu h)
theorem tU {n:Int} (h:jC n=true):(cD (AI n)).length≤40:=by
 have e:cD (AI n)=AH (dI n):=by unfold AI; simp only[cD]; rfl
 have e2:AH (dI n)=XT (dI n):=by unfold AH; rw[JS.2 (dI_fm h)]; rfl
 rw[e,e2]
 exact prt_len _ (dI_fm h)
theorem Yq (b:Bool):(cD (yesV b)).length≤5:=by cases b <;> decide
theorem len_str (s:ag):(cD (strV s)).length≤6*s.length+2:=by
 have e:cD (strV s)=NS s:=by unfold strV; simp only[cD]; rfl
 rw[e]
 exact Rw s
theorem len_obj (ns:List ag) (l:List Json):(cD (uI ns l)).length=(ir ns l true).length+2:=by
 have e:cD (uI ns l)=123::(ir ns l true ++ [125]):=by unfold uI; simp only[cD]; rfl
 rw[e]; simp
end Go.Proofs.YtidfokedcnhahaaGreatDoor
set_option maxRecDepth 100000
namespace Go.Proofs.YtidfokedcnhahaaGreatDoor
open Go Go.aq
def CQ (h:Nat) (c:UInt8):Nat:=((h ^^^ c.toNat)*16777619) % 4294967296
theorem Ev (h:Nat) (c:UInt8):CQ h c<4294967296:=by
 unfold CQ
 exact Nat.mod_lt _ (by decide)
def R2 (s:ag) (h:Nat):Nat:=s.foldl CQ h
def Wq (s:ag):Nat:=R2 s 2166136261
theorem L9 (c:UInt8) (s:ag) (h:Nat):R2 (c::s) h=R2 s (CQ h c):=by
 unfold R2
 rw[List.foldl_cons]
theorem fnv_app (a b:ag) (h:Nat):R2 (a++b) h=R2 b (R2 a h):=by
 unfold R2
 rw[List.foldl_append]
theorem fnv_lt (s:ag):∀(h:Nat),h<4294967296→R2 s h<4294967296:=by
 induction s with
 | nil=>intro h hh; unfold R2; rw[List.foldl_nil]; exact hh
 | cons c s ih=>intro h _; rw[L9]; exact ih _ (Ev h c)
theorem mul_inv (x:Nat) (hx:x<4294967296):(x*16777619 % 4294967296)*899433627 % 4294967296=x:=by omega
theorem mul_inj {a b:Nat} (ha:a<4294967296) (hb:b<4294967296) (h:a*16777619 % 4294967296=b*16777619 % 4294967296):a=b:=by
 have h1:=mul_inv a ha
 have h2:=mul_inv b hb
 rw[h]at h1
 exact h1.symm.trans h2
theorem aaw {h:Nat} (hh:h<4294967296) (c:UInt8):h ^^^ c.toNat<4294967296:=by
 have:=UInt8.toNat_lt c
 exact Nat.xor_lt_two_pow (n:=32) hh (by omega)
theorem xor_inj_l {a b c:Nat} (h:a ^^^ c=b ^^^ c):a=b:=by
 have:=congrArg (· ^^^ c) h
 simpa [Nat.xor_assoc]using this
theorem xor_inj_r {a b c:Nat} (h:c ^^^ a=c ^^^ b):a=b:=by
 rw[Nat.xor_comm c a,Nat.xor_comm c b]at h
 exact xor_inj_l h
theorem step_inj_l {a b:Nat} (ha:a<4294967296) (hb:b<4294967296) (c:UInt8) (h:CQ a c=CQ b c):a=b:=by
 unfold CQ at h
 exact xor_inj_l (mul_inj (aaw ha c) (aaw hb c) h)
theorem step_inj_r {a:Nat} (ha:a<4294967296) (c d:UInt8) (h:CQ a c=CQ a d):c=d:=by
 unfold CQ at h
 exact UInt8.toNat_inj.1 (xor_inj_r (mul_inj (aaw ha c) (aaw ha d) h))
theorem fnv_inj (s:ag):∀(a b:Nat),a<4294967296→b<4294967296→R2 s a=R2 s b→a=b:=by
 induction s with
 | nil=>intro a b _ _ h; unfold R2 at h; rw[List.foldl_nil,List.foldl_nil]at h; exact h
 | cons c s ih =>
  intro a b ha hb h
  rw[L9,L9]at h
  exact step_inj_l ha hb c (ih _ _ (Ev a c) (Ev b c) h)
theorem fnv_one (a b:ag) (x y:UInt8) (h:Wq (a++x::b)=Wq (a++y::b)):x=y:=by
 unfold Wq at h
 rw[fnv_app,fnv_app,L9,L9]at h
 have ha:=fnv_lt a 2166136261 (by decide)
 exact step_inj_r ha x y (fnv_inj b _ _ (Ev _ x) (Ev _ y) h)
def hxS:ag := [48,49,50,51,52,53,54,55,56,57,97,98,99,100,101,102]
def hxB (n:Nat):UInt8:=hxS.getD (n % 16) 0
def R3 (h:Nat):ag := [hxB (h / 268435456),hxB (h / 16777216),hxB (h / 1048576),hxB (h / 65536),hxB (h / 4096),hxB (h / 256),hxB (h / 16),hxB h]
theorem hxB_inj:∀a b:Fin 16,hxS.getD a.val 0=hxS.getD b.val 0→a=b:=by decide +kernel
theorem QK {a b:Nat} (h:hxB a=hxB b):a % 16=b % 16:=by
 have:=hxB_inj ⟨a % 16,Nat.mod_lt _ (by decide)⟩ ⟨b % 16,Nat.mod_lt _ (by decide)⟩ h
 exact congrArg Fin.val this
theorem hxB_ne (a:Nat):hxB a≠35:=by
 have all:∀n:Fin 16,hxS.getD n.val 0≠35:=by decide +kernel
 exact all ⟨a % 16,Nat.mod_lt _ (by decide)⟩
theorem hex8_inj {a b:Nat} (ha:a<4294967296) (hb:b<4294967296) (h:R3 a=R3 b):a=b:=by
 unfold R3 at h
 simp only[List.cons.injEq,and_true]at h
 obtain ⟨h1,h2,h3,h4,h5,h6,h7,h8⟩:=h
 have:=QK h1; have:=QK h2; have:=QK h3; have:=QK h4; have:=QK h5; have:=QK h6; have:=QK h7; have:=QK h8
 omega
theorem hex8_ne (h:Nat):∀x∈R3 h,x≠35:=by
 intro x hx
 unfold R3 at hx
 simp only[List.mem_cons,List.not_mem_nil,or_false]at hx
 rcases hx with rfl|rfl|rfl|rfl|rfl|rfl|rfl|rfl <;> exact hxB_ne _
def ew (s:ag):ag:=s++35::R3 (Wq s)
theorem lX (s:ag):(ew s).length=s.length+9:=by simp[ew,R3]
def DT (s:ag):Option ag:=if 9≤s.length∧ew (s.take (s.length - 9))=s then some (s.take (s.length - 9))else none
theorem Rz (s:ag):DT (ew s)=some s:=by
 have hl:=lX s
 have ht:(ew s).take ((ew s).length - 9)=s:=by rw[hl,Nat.add_sub_cancel]; unfold ew; simp
 unfold DT
 rw[ht,if_pos ⟨by omega,rfl⟩]
theorem RA {s t:ag} (h:DT s=some t):s=ew t:=by
 unfold DT at h
 split at h
 ·rename_i hc
  cases h
  exact hc.2.symm
 ·cases h
theorem open_altered (t:ag) (k:Nat) (c:UInt8) (hk:k<(ew t).length) (hc:(ew t)[k]≠c):DT ((ew t).set k c)=none:=by
 cases ho:DT ((ew t).set k c)with
 | none=>rfl
 | some u =>
  exfalso
  have e:=RA ho
  have hl:u.length=t.length:=by
   have:=congrArg List.length e
   rw[List.length_set,lX,lX]at this
   omega
  have X9:∀j,j≠k→(ew u)[j]? = (ew t)[j]? :=fun j hj=>by
   rw[←e,List.getElem?_set]
   rw[if_neg (fun h=>hj h.symm)]
  have hkk:(ew u)[k]? = some c:=by
   rw[←e,List.getElem?_set]
   simp[hk]
  have hu:∀j,j<t.length→(ew u)[j]? = u[j]? :=fun j hj=>by unfold ew; rw[List.getElem?_append_left (by omega)]
  have ht:∀j,j<t.length→(ew t)[j]? = t[j]? :=fun j hj=>by unfold ew; rw[List.getElem?_append_left (by omega)]
  have hu2:∀j,(ew u)[t.length+j]? = (35::R3 (Wq u))[j]? :=fun j=>by unfold ew; rw[List.getElem?_append_right (by omega)]; congr 1; omega
  have ht2:∀j,(ew t)[t.length+j]? = (35::R3 (Wq t))[j]? :=fun j=>by unfold ew; rw[List.getElem?_append_right (by omega)]; congr 1; omega
  rcases Nat.lt_or_ge k t.length with jD|hge
  ·-- a byte of the text itself
   have hd:R3 (Wq u)=R3 (Wq t):=by
    apply List.ext_getElem?
    intro j
    have h1:=hu2 (j+1)
    have h2:=ht2 (j+1)
    rw[List.getElem?_cons_succ]at h1 h2
    rw[←h1,←h2]
    exact X9 _ (by omega)
   have hf:=hex8_inj (fnv_lt _ _ (by decide)) (fnv_lt _ _ (by decide)) hd
   have VH:u=t.set k c:=by
    apply List.ext_getElem?
    intro j
    by_cases hj:j<t.length
    ·rw[←hu j hj]
     by_cases hjk:j=k
     ·subst hjk
      rw[hkk,List.getElem?_set]
      simp[jD]
     ·rw[X9 j hjk,ht j hj,List.getElem?_set,if_neg (fun h=>hjk h.symm)]
    ·rw[List.getElem?_eq_none (by omega),List.getElem?_eq_none (by rw[List.length_set]; omega)]
   have e1:t=t.take k++t[k]::t.drop (k+1):=by rw[←List.drop_eq_getElem_cons jD,List.take_append_drop]
   have e2:t.set k c=t.take k++c::t.drop (k+1):=by rw[List.set_eq_take_append_cons_drop,if_pos jD]
   rw[VH,e2]at hf
   have:=fnv_one (t.take k) (t.drop (k+1)) c t[k] (by rw[←e1]; exact hf)
   apply hc
   have h3:=ht k jD
   rw[List.getElem?_eq_getElem hk,List.getElem?_eq_getElem jD]at h3
   rw[Option.some.inj h3,this]
  ·-- behind it: the text is the same, and so all is
   have VH:u=t:=by
    apply List.ext_getElem?
    intro j
    by_cases hj:j<t.length
    ·rw[←hu j hj,X9 j (by omega),ht j hj]
    ·rw[List.getElem?_eq_none (by omega),List.getElem?_eq_none (by omega)]
   rw[VH]at hkk
   rw[List.getElem?_eq_getElem hk]at hkk
   exact hc (Option.some.inj hkk)
theorem open_longer (t:ag) (c:UInt8):DT (ew t ++ [c])=none:=by
 cases ho:DT (ew t ++ [c])with
 | none=>rfl
 | some u =>
  exfalso
  have e:=RA ho
  have hl:u.length=t.length+1:=by
   have:=congrArg List.length e
   rw[List.length_append,lX,lX,List.length_singleton]at this
   omega
  have h1:(ew u)[t.length+1]? = some 35:=by unfold ew; rw[List.getElem?_append_right (by omega),hl]; simp
  have h2:(ew t ++ [c])[t.length+1]? = (R3 (Wq t))[0]? :=by
   rw[List.getElem?_append_left (by rw[lX]; omega)]
   unfold ew
   rw[List.getElem?_append_right (by omega)]
   simp
  rw[e,h1]at h2
  exact hxB_ne _ (by simpa [R3]using h2.symm)
end Go.Proofs.YtidfokedcnhahaaGreatDoor
set_option maxRecDepth 100000
namespace Go.Proofs.YtidfokedcnhahaaGreatDoor
open Go Go.aq Go.Lib
def R4:ag := [97,98,99,100,101,102,103,104,105,106,107,108,109,110,111,112,113,114,115,116,117,118,119,120,121,122,65,66,67,68,69,70,71,72,73,74,75,76,77,78,79,80,81,82,83,84,85,86,87,88,89,90,48,49,50,51,52,53,54,55,56,57,95,46,58,45]
def CR (s:ag):Bool:=s.all (R4.contains ·)&&(!s.isEmpty&&decide (s.length≤16))
def EN:ag := [104,101,97,100,101,114,73,100]
def EO:ag := [115,101,114,105,97,108,78,117,109,98,101,114]
def KL:ag := [111,114,100,101,114,73,100]
def EP:ag := [111,114,100,101,114,85,112,100,97,116,101,73,100]
def dQ (v:Json) (s:ag):Option Int:=(Pu.at7 v s).bind Pu.UU
def Il (v:Json) (s:ag):Option ag:=(Pu.at7 v s).bind Pu.textF
def pF (v:Json) (s:ag):Option Bool:=(Pu.at7 v s).bind Pu.W4
def stopOk (x:Stop):Prop:=jC x.node=true∧jC x.seq=true
def wayOk (x:aq.Way):Prop:=jC x.TS=true∧jC x.seq=true
structure OkO (o:Order):Prop where
 name:CR o.bc=true
 header:jC o.header=true
 order:jC o.order=true
 update:jC o.update=true
 nodes:∀x∈o.nodes,stopOk x
 Je:∀x∈o.Je,wayOk x
 many:1≤o.nodes.length∧o.nodes.length≤64∧o.Je.length+1=o.nodes.length
theorem NX {s:ag} (h:CR s=true):fE s=true∧s.length≤16:=by
 unfold CR at h
 simp only[Bool.and_eq_true,decide_eq_true_eq]at h
 refine ⟨?_,h.2.2⟩
 refine Hp.2 ⟨s.map (·.toNat),fun c hc => ?_,?_⟩
 ·obtain ⟨b,hb,rfl⟩:=List.mem_map.1 hc
  have:=List.all_eq_true.1 h.1 b hb
  have all:∀n:Fin 256,R4.contains (UInt8.ofNat n.val)=true→n.val<128:=by decide +kernel
  have h128:b.toNat<128:=by simpa using all ⟨b.toNat,UInt8.toNat_lt b⟩ (by simpa using this)
  exact .inl (by omega)
 ·have pO:=List.all_eq_true.1 h.1
  clear h
  induction s with
  | nil=>rfl
  | cons b s ih =>
   have hb:=pO b (by simp)
   have all:∀n:Fin 256,R4.contains (UInt8.ofNat n.val)=true→enc n.val = [UInt8.ofNat n.val]:=by decide +kernel
   have WD:=all ⟨b.toNat,UInt8.toNat_lt b⟩ (by simpa using hb)
   simp only[List.map_cons,fo,List.flatMap_cons]
   have:=ih fun x hx=>pO x (by simp[hx])
   unfold fo at this
   rw[←this]
   have hb3:enc b.toNat = [b]:=by simpa using WD
   rw[hb3]
   rfl
theorem Wr {l:List Json} {d:Int} (h:∀x∈l,dZ x d=true):eP l d=true:=by
 induction l with
 | nil=>rfl
 | cons x l ih =>
  simp only[eP]
  rw[h x (by simp),ih fun y hy=>h y (by simp[hy])]
  rfl
theorem right_kind {v:Json} {d:Int} (h:dZ v d=true):yo v.kind:=by
 cases fx.1 h <;> first|(unfold yo; simp only; omega)|(unfold yo; decide)
mutual
theorem right_jok:∀(v:Json) (d:Int),dZ v d=true→O0 v=true→Pu.Hb v
 | ⟨k,⟨m,e⟩,t,ns,is⟩,d,h,hl=>by
  have hL:=NY is
  obtain ⟨l1,l2,l3,l4,l5⟩:=w3.1 hl
  have hk:=right_kind h
  have hi:=right_i64 _ _ h
  have hI:∀y∈is,Pu.Hb y:=by
   cases fx.1 h with
   | name _ _ hd hk=>simp
   | num _ _ hd hn=>simp
   | text _ _ hd ht=>simp
   | arr _ _ hd hi=>exact hL _ hi l3
   | obj _ _ _ hd hl hu hi=>exact hL _ hi l3
  exact Pu.jok_mk hk hi.1 hi.2.1 (by simp only at l4; omega) l1 (fun s hs=>by have:=l5 s hs; omega) l2 hI
theorem NY:∀(l:List Json) (d:Int),eP l d=true→Vl l=true→∀y∈l,Pu.Hb y
 | [],_,_,_=>by simp
 | x::l,d,h,hl=>by
  simp only[eP,Vl,Bool.and_eq_true]at h hl
  intro y hy
  rcases List.mem_cons.1 hy with e|hy
  ·rw[e]
   exact right_jok x d h.1 hl.1
  ·exact NY l d h.2 hl.2 y hy
end
theorem parse_jok {s:ag} (h:(pE s).2.1=0):Pu.Hb (pE s).1:=by
 obtain ⟨h1,h2,_⟩:=parseJ_ok s h
 exact right_jok _ 1 h1 h2
theorem dec_num {n:Int} (h:jC n=true):(∀ {R:Type} (k:fT→Bool→Option R),bk n 0 k=k (dI n) true)∧∀ {R:Type} (k:fT→Bool→Option R),tK n 0 k=k (dI n) true:=by
 obtain ⟨h1,h2⟩:=Hu.1 h
 rcases aav h with ⟨rfl,e⟩|⟨u,j,g1,g2,e,g4,g5,g6⟩
 ·rw[e]
  exact ⟨fun k=>Wf 0 k,fun k=>refMake_zero 0 k⟩
 ·rw[e]
  have hI:yo (u*10 ^ j):=by rw[←g2]; unfold yo; omega
  have hm:Xa u (0+(j:Int))=(⟨u,(j:Int)⟩,true):=by
   unfold Xa
   rw[if_pos ⟨by omega,by omega,by omega,by omega⟩,Int.zero_add]
  constructor
  ·intro R k
   have:=make_ok u j 0 g1 hI (by omega) (by omega) k
   rw[hm,←g2]at this
   exact this
  ·intro R k
   have:=refMake_ok u j 0 g1 hI (by unfold yo; omega) k
   rw[hm,←g2]at this
   exact this
theorem QL {R:Type} {n:Int} (h:jC n=true) (k:Json→Option R):bf n k=k (AI n):=by
 unfold bf Px
 rw[(dec_num h).1]
 rfl
def SK:ag := [98,111,111,116]
def SL:ag := [108,105,118,101]
def SM:ag := [108,97,115,116,78,111,100,101,73,100]
def tSeq:ag := [108,97,115,116,78,111,100,101,83,101,113,117,101,110,99,101,73,100]
def zR:ag := [100,114,105,118,105,110,103]
def uV:ag := [97,99,99,101,112,116,101,100]
abbrev bO:=aq.State
def jO (s:bO):Bool :=
 CR s.bc&&((jC s.header&&(jC s.dc&&(jC s.order&&(jC s.update&&(jC s.node&&(jC s.seq&&jC s.accepted))))))&&(decide (Int.tmod s.seq 2=0)&&(s.live || !s.bz)))
def lx:List ag := [EN,SK,EO,KL,EP,SL,SM,tSeq,zR,uV]
def ly (s:bO):List Json := [AI s.header,AI s.dc,strV s.bc,AI s.order,AI s.update,yesV s.live,AI s.node,AI s.seq,yesV s.bz,AI s.accepted]
def eF (s:bO):Json:=uI lx (ly s)
def stateT (v:Json):Option bO :=
 match dQ v EN,dQ v SK,Il v EO,dQ v KL,dQ v EP,pF v SL,dQ v SM,dQ v tSeq,pF v zR,dQ v uV with
 | some a,some b,some c,some d,some e,some f,some g,some h,some i,some j=>some ⟨a,b,c,d,e,f,g,h,i,j⟩
 | _,_,_,_,_,_,_,_,_,_=>none
def takeA (s:ag):Except Int bO :=
 match DT s with
 | none => .error 60
 | some t =>
  if (pE t).2.1≠0 then .error (pE t).2.1 else
  match stateT (pE t).1 with
  | some o=>if jO o then .ok o else .error 90
  | none => .error 90
structure OkA (s:bO):Prop where
 name:CR s.bc=true
 header:jC s.header=true
 dc:jC s.dc=true
 order:jC s.order=true
 update:jC s.update=true
 node:jC s.node=true
 seq:jC s.seq=true
 accepted:jC s.accepted=true
theorem Bf {s:bO} (h:jO s=true):OkA s:=by
 simp only[jO,Bool.and_eq_true]at h
 obtain ⟨h1,⟨h2,h3,h4,h5,h6,h7,h8⟩,_⟩:=h
 exact ⟨h1,h2,h3,h4,h5,h6,h7,h8⟩
theorem aax {s:bO} (h:OkA s):stateT (eF s)=some s:=by
 have e1:dQ (eF s) EN=some s.header:=by show Pu.UU (AI s.header)=_; exact Ik h.header
 have e2:dQ (eF s) SK=some s.dc:=by show Pu.UU (AI s.dc)=_; exact Ik h.dc
 have e3:Il (eF s) EO=some s.bc:=rfl
 have e4:dQ (eF s) KL=some s.order:=by show Pu.UU (AI s.order)=_; exact Ik h.order
 have e5:dQ (eF s) EP=some s.update:=by show Pu.UU (AI s.update)=_; exact Ik h.update
 have e6:pF (eF s) SL=some s.live:=by show Pu.W4 (yesV s.live)=_; exact flagF_yes _
 have e7:dQ (eF s) SM=some s.node:=by show Pu.UU (AI s.node)=_; exact Ik h.node
 have e8:dQ (eF s) tSeq=some s.seq:=by show Pu.UU (AI s.seq)=_; exact Ik h.seq
 have e9:pF (eF s) zR=some s.bz:=by show Pu.W4 (yesV s.bz)=_; exact flagF_yes _
 have e10:dQ (eF s) uV=some s.accepted:=by show Pu.UU (AI s.accepted)=_; exact Ik h.accepted
 unfold stateT
 rw[e1,e2,e3,e4,e5,e6,e7,e8,e9,e10]
theorem Fx {s:bO} (h:OkA s):dZ (eF s) 1=true:=by
 obtain ⟨hv,_⟩:=NX h.name
 refine right_obj rfl (by decide +kernel) ?_ (by omega)
 simp only[ly,eP,Bool.and_true]
 rw[lW h.header (by omega),lW h.dc (by omega),right_str hv (by omega),lW h.order (by omega),lW h.update (by omega),Ry s.live (by omega),lW h.node (by omega),lW h.seq (by omega),Ry s.bz (by omega),lW h.accepted (by omega)]
 rfl
theorem Hv {s:bO} (h:OkA s):(cD (eF s)).length≤20000:=by
 obtain ⟨_,hv⟩:=NX h.name
 have h1:=tU h.header
 have h2:=tU h.dc
 have h3:=tU h.order
 have h4:=tU h.update
 have h5:=tU h.node
 have h6:=tU h.seq
 have h7:=tU h.accepted
 have h8:=len_str s.bc
 have h9:=Yq s.live
 have h10:=Yq s.bz
 have q:(NS EN).length≤30∧(NS SK).length≤30∧(NS EO).length≤30∧(NS KL).length≤30∧(NS EP).length≤30∧(NS SL).length≤30∧(NS SM).length≤30∧(NS tSeq).length≤30∧(NS zR).length≤30∧(NS uV).length≤30:=by decide +kernel
 obtain ⟨q1,q2,q3,q4,q5,q6,q7,q8,q9,q10⟩:=q
 unfold eF lx ly
 rw[len_obj]
 simp only[ir,List.headD_cons,List.tail_cons,List.length_append,List.length_cons,List.length_nil,if_true,Bool.false_eq_true,if_false]
 omega
theorem Ws {s:bO} (h:jO s=true):takeA (ew (cD (eF s))) = .ok s:=by
 have hk:=Bf h
 unfold takeA
 rw[Rz]
 simp only
 rw[QJ (Fx hk) (Hv hk)]
 simp only[ne_eq,not_true_eq_false,if_false]
 rw[aax hk]
 simp only
 rw[if_pos h]
theorem takenA_right {t:ag} {s:bO} (h:takeA t = .ok s):jO s=true:=by
 unfold takeA at h
 split at h
 ·cases h
 ·split at h
  ·cases h
  ·split at h
   ·split at h
    ·rename_i hr
     cases h
     exact hr
    ·cases h
   ·cases h
theorem layA_inj {a b:bO} (ha:jO a=true) (hb:jO b=true) (h:ew (cD (eF a))=ew (cD (eF b))):a=b:=by
 have h1:=Ws ha
 have h2:=Ws hb
 rw[h,h2]at h1
 cases h1
 rfl
def lA (a b:bO):Bool:=decide (a.dc>b.dc)||(decide (a.dc=b.dc)&&decide (a.header>b.header))
def l7 (c n:Int):Int:=Int.tmod (if c<0 then -(c+1)else c) n
theorem Im (c n:Int):0≤l7 c n:=by
 unfold l7
 apply Int.tmod_nonneg
 split <;> omega
theorem Io (c:Int) {n:Int} (h:0<n):l7 c n<n:=by
 unfold l7
 exact Int.tmod_lt_of_pos _ h
theorem pickI_num (c:Int):jC (l7 c 1000000001)=true:=Hu.2 ⟨Im c _,by have:=Io c (n:=1000000001) (by decide); omega⟩
def fitL:ag := [97,98,99,120,121,122,65,66,67,88,89,90,48,49,56,57,95,46,58,45]
def fitB (b:UInt8):UInt8:=fitL.getD (b.toNat % 20) 0
def XW (s:ag):ag:=110::(s.take 15).map fitB
theorem fitB_ok (b:UInt8):R4.contains (fitB b)=true:=by
 have all:∀n:Fin 20,R4.contains (fitL.getD n.val 0)=true:=by decide +kernel
 exact all ⟨b.toNat % 20,Nat.mod_lt _ (by decide)⟩
theorem Yr (s:ag):CR (XW s)=true:=by
 unfold CR XW
 simp only[List.isEmpty_cons,Bool.not_false,Bool.true_and,Bool.and_eq_true,decide_eq_true_eq,List.length_cons,List.length_map,List.length_take]
 refine ⟨List.all_eq_true.2 fun x hx => ?_,by omega⟩
 rcases List.mem_cons.1 hx with rfl|hx
 ·decide +kernel
 ·obtain ⟨y,_,rfl⟩:=List.mem_map.1 hx
  exact fitB_ok y
def Wu (s:bO):bO:=⟨l7 s.header 1000000001,l7 s.dc 1000000001,XW s.bc,l7 s.order 1000000001,l7 s.update 1000000001,s.live||s.bz,l7 s.node 1000000001,2*l7 s.seq 500000001,s.bz,l7 s.accepted 1000000001⟩
theorem even_mod (x:Int):Int.tmod (2*x) 2=0:=Int.tmod_eq_zero_of_dvd ⟨x,rfl⟩
theorem odd_mod (x:Int) (h:0≤x):Int.tmod (2*x+1) 2=1:=by
 rw[Int.tmod_eq_emod_of_nonneg (by omega)]
 omega
theorem Ew (s:bO):jO (Wu s)=true:=by
 have h1:=Im s.seq 500000001
 have h2:=Io s.seq (n:=500000001) (by decide)
 have h3:jC (2*l7 s.seq 500000001)=true:=Hu.2 ⟨by omega,by omega⟩
 unfold jO Wu
 simp only[Yr,pickI_num,h3,even_mod,decide_true,Bool.and_self,Bool.true_and]
 cases s.live <;> cases s.bz <;> rfl
theorem rightA_bad (s:bO):jO { s with bz:=true,live:=false }=false:=by
 unfold jO
 simp
theorem rightA_odd (s:bO) (x:Int) (h:0≤x):jO { s with seq:=2*x+1 }=false:=by
 unfold jO
 simp only[odd_mod x h]
 simp
theorem pick_rawI {R:Type} (c n:Int) (hc:yo c) (h0:0<n) (k:Int→Option R) :
  (bif (decide (c<(0:Int)))then (cx (!decide (n=0)) (k (Int.tmod (IntKind.i64.wrap (0 - (IntKind.i64.wrap (c+1)))) n)))else (cx (!decide (n=0)) (k (Int.tmod c n))))=k (l7 c n):=by
 obtain ⟨h1,h2⟩:=hc
 have hz:(!decide (n=0))=true:=by simp; omega
 unfold l7
 by_cases h:c<0
 ·have hd:decide (c<(0:Int))=true:=by simpa using h
  rw[hd,cond_true,ay hz,cK (n:=c+1) (by omega) (by omega),cK (by omega) (by omega),if_pos h,Int.zero_sub]
 ·have hd:decide (c<(0:Int))=false:=by simpa using h
  rw[hd,cond_false,ay hz,if_neg h]
theorem trim_none:∀s:ag,bx s R4 = []↔s.all (R4.contains ·)=true
 | []=>by simp[bx]
 | b::s=>by
  have ih:=trim_none s
  unfold bx at ih ⊢
  rw[List.dropWhile_cons,List.all_cons]
  by_cases h:R4.contains b=true
  ·rw[if_pos h,h,Bool.true_and]
   exact ih
  ·rw[if_neg h,Bool.eq_false_iff.2 h,Bool.false_and]
   simp
theorem trim_name (s:ag):((bx s R4==([]:ag))&&(!(s==([]:ag))&&decide ((s.length:Int)≤16)))=CR s:=by
 have e1:(bx s R4==([]:ag))=s.all (R4.contains ·):=by
  rw[Bool.eq_iff_iff,←trim_none]
  exact beq_iff_eq
 have e2:(s==([]:ag))=s.isEmpty:=by cases s <;> rfl
 have e3:decide ((s.length:Int)≤16)=decide (s.length≤16):=decide_eq_decide.2 (by omega)
 unfold CR
 rw[e1,e2,e3]
def CS (s:ag) (j:Nat):ag:=110::((s.take j).map fitB++s.drop j)
theorem fitSt_get (s:ag) (j:Nat) (h:j<s.length) (d:UInt8):(CS s j).getD (j+1) d=s[j]:=by
 have e:((s.take j).map fitB).length=j:=by rw[List.length_map,List.length_take]; omega
 unfold CS
 rw[List.getD_cons_succ,List.getD_eq_getElem?_getD,List.getElem?_append_right (by omega),e,Nat.sub_self,List.getElem?_drop,Nat.add_zero,List.getElem?_eq_getElem h]
 rfl
theorem fitSt_set (s:ag) (j:Nat) (h:j<s.length):(CS s j).set (j+1) (fitB s[j])=CS s (j+1):=by
 have e:((s.take j).map fitB).length=j:=by rw[List.length_map,List.length_take]; omega
 unfold CS
 rw[List.set_cons_succ,List.set_append_right _ _ (by omega),e,Nat.sub_self,List.drop_eq_getElem_cons h,List.set_cons_zero,List.take_succ_eq_append_getElem h,List.map_append,List.map_singleton,List.append_assoc]
 rfl
theorem RB (s:ag) (j:Nat):(CS s j).length=s.length+1:=by
 unfold CS
 simp only[List.length_cons,List.length_append,List.length_map,List.length_take,List.length_drop]
 omega
theorem fitSt_end (s:ag):CS (s.take 15) (s.take 15).length=XW s:=by
 unfold CS XW
 rw[List.take_length,List.drop_length,List.append_nil]
end Go.Proofs.YtidfokedcnhahaaGreatDoor
end
