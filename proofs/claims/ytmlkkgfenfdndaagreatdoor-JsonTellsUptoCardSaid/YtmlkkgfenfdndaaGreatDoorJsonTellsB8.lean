/-
  JsonTells, part 8 of 10.
-/
import Derived.Test.YtmlkkgfenfdndaaGreatDoorJsonTellsB7
set_option linter.unusedSimpArgs false
set_option linter.unnecessarySimpa false
set_option linter.unusedVariables false
set_option linter.unusedSectionVars false
noncomputable section
set_option maxRecDepth 100000
namespace Go.Proofs.YtmlkkgfenfdndaaGreatDoor
open Go Go.bb Go.Lib
theorem drop_cons {s:af} {p:Nat} (h:p<s.length):s.drop p=s.getD p 0::s.drop (p+1):=by
 rw[List.drop_eq_getElem_cons h]; simp[List.getD,h]
theorem pre2 (a b:UInt8) (s:af) (p:Nat):([a,b]:af).isPrefixOf (s.drop p)=(decide (p+2≤s.length)&&(a==s.getD p 0&&b==s.getD (p+1) 0)):=by
 by_cases h:p+2≤s.length
 ·rw[aj h,drop_cons (show p<s.length by omega),drop_cons (show p+1<s.length by omega)];simp[List.isPrefixOf]
 ·rw[aE h,Bool.false_and];by_cases h1:p<s.length
  ·rw[drop_cons h1];have:s.drop (p+1) = []:=List.drop_eq_nil_of_le (by omega);rw[this];simp[List.isPrefixOf]
  ·have:s.drop p = []:=List.drop_eq_nil_of_le (by omega);rw[this];rfl
theorem beqN (b:UInt8) (n:Nat) (hn:n<256):(UInt8.ofNat n==b)=decide (b.toNat=n):=by
 by_cases h:b.toNat=n
 ·rw[aj h];subst h;simp
 ·rw[aE h];exact u8_ne hn h
theorem neI (n m:Nat):((n:Int) != (m:Int))=decide (n≠m):=by
 by_cases h:n=m
 ·subst h; simp
 ·have:¬((n:Int)=(m:Int)):=by omega
  simp[h,this]
theorem uni_ok {R:Type} (s:af) (p:Nat) (hs:s.length≤9000000000000) (hp:p+1≤s.length) (k:List Int→Int→Option R) :
  (match OJ (s.drop (p+1))with
   | some (c,r)=>∃n:Nat,1≤n∧p+n≤s.length∧r=s.drop (p+n)∧(iv s (IntKind.i64.wrap ((p:Int)+1)) (fun y4=>let j14:=bif (decide (y4<(55296:Int)))then (gR y4 (fun y8=>k y8 5))else (bif (decide (y4>(57343:Int)))then (gR y4 (fun y9=>k y9 5))else (bif (decide ((IntKind.i64.wrap ((p:Int)+7))>(s.length:Int)))then (k ([]:List Int) 0)else (bB (decide ((0:Int)≤(IntKind.i64.wrap ((p:Int)+5)))&&decide ((IntKind.i64.wrap ((p:Int)+5))<s.length)) (bif (((s.getD ((IntKind.i64.wrap ((p:Int)+5)).toNat) 0).toNat:Int) != 92)then (k ([]:List Int) 0)else (bB (decide ((0:Int)≤(IntKind.i64.wrap ((p:Int)+6)))&&decide ((IntKind.i64.wrap ((p:Int)+6))<s.length)) (bif (((s.getD ((IntKind.i64.wrap ((p:Int)+6)).toNat) 0).toNat:Int) != 117)then (k ([]:List Int) 0)else (iv s (IntKind.i64.wrap ((p:Int)+7)) (fun jf=>bif (decide (jf<(56320:Int)))then (k ([]:List Int) 0)else (bif (decide (jf>(57343:Int)))then (k ([]:List Int) 0)else (gR (IntKind.i64.wrap ((IntKind.i64.wrap ((IntKind.i64.wrap (65536+(IntKind.i64.wrap ((IntKind.i64.wrap (y4 - 55296))*2 ^ (min 10 IntKind.i64.bits)))))+jf)) - 56320)) (fun DN=>k DN 11))))))))))); bif (decide (y4<(0:Int)))then (k ([]:List Int) 0)else (bif (decide (y4≥(56320:Int)))then (bif (decide (y4≤(57343:Int)))then (k ([]:List Int) 0)else (j14))else (j14))))=k (zs (enc c)) (n:Int)
   | none=>(iv s (IntKind.i64.wrap ((p:Int)+1)) (fun y4=>let j14:=bif (decide (y4<(55296:Int)))then (gR y4 (fun y8=>k y8 5))else (bif (decide (y4>(57343:Int)))then (gR y4 (fun y9=>k y9 5))else (bif (decide ((IntKind.i64.wrap ((p:Int)+7))>(s.length:Int)))then (k ([]:List Int) 0)else (bB (decide ((0:Int)≤(IntKind.i64.wrap ((p:Int)+5)))&&decide ((IntKind.i64.wrap ((p:Int)+5))<s.length)) (bif (((s.getD ((IntKind.i64.wrap ((p:Int)+5)).toNat) 0).toNat:Int) != 92)then (k ([]:List Int) 0)else (bB (decide ((0:Int)≤(IntKind.i64.wrap ((p:Int)+6)))&&decide ((IntKind.i64.wrap ((p:Int)+6))<s.length)) (bif (((s.getD ((IntKind.i64.wrap ((p:Int)+6)).toNat) 0).toNat:Int) != 117)then (k ([]:List Int) 0)else (iv s (IntKind.i64.wrap ((p:Int)+7)) (fun jf=>bif (decide (jf<(56320:Int)))then (k ([]:List Int) 0)else (bif (decide (jf>(57343:Int)))then (k ([]:List Int) 0)else (gR (IntKind.i64.wrap ((IntKind.i64.wrap ((IntKind.i64.wrap (65536+(IntKind.i64.wrap ((IntKind.i64.wrap (y4 - 55296))*2 ^ (min 10 IntKind.i64.bits)))))+jf)) - 56320)) (fun DN=>k DN 11))))))))))); bif (decide (y4<(0:Int)))then (k ([]:List Int) 0)else (bif (decide (y4≥(56320:Int)))then (bif (decide (y4≤(57343:Int)))then (k ([]:List Int) 0)else (j14))else (j14))))=k [] 0):=by
 have w1:IntKind.i64.wrap ((p:Int)+1)=((p+1:Nat):Int):=by rw[aK (by omega) (by omega)]; omega
 have w5:IntKind.i64.wrap ((p:Int)+5)=((p+5:Nat):Int):=by rw[aK (by omega) (by omega)]; omega
 have w6:IntKind.i64.wrap ((p:Int)+6)=((p+6:Nat):Int):=by rw[aK (by omega) (by omega)]; omega
 have w7:IntKind.i64.wrap ((p:Int)+7)=((p+7:Nat):Int):=by rw[aK (by omega) (by omega)]; omega
 have n92:∀x:Nat,((x:Int) != 92)=decide (x≠92):=fun x=>neI x 92
 have n117:∀x:Nat,((x:Int) != 117)=decide (x≠117):=fun x=>neI x 117
 simp only[w1,w5,w6,w7,four_ok s (p+1) (by omega) hp,Int.toNat_natCast,n92,n117];unfold OJ;cases hu:Gb (s.drop (p+1))with
 | none =>
  simp only;rw[aj (show (-1:Int)<0 by omega),cond_true]
 | some q =>
  obtain ⟨v,r⟩:=q;obtain ⟨hv,hl,hr⟩:=CG hu;rw[List.length_drop]at hl;rw[List.drop_drop]at hr;have hr5:r=s.drop (p+5):=by rw[hr]
  simp only;rw[aE (show ¬(v:Int)<0 by omega)];by_cases h1:v<55296
  ·rw[if_pos (.inl h1),aE (show ¬(v:Int)≥56320 by omega),aj (show (v:Int)<55296 by omega)];simp only[cond_true,cond_false];exact ⟨5,by omega,by omega,hr5,laid_ok (by unfold vr; omega) _⟩
  by_cases h2:57344≤v
  ·rw[if_pos (.inr h2),aj (show (v:Int)≥56320 by omega),aE (show ¬(v:Int)≤57343 by omega),aE (show ¬(v:Int)<55296 by omega),aj (show (v:Int)>57343 by omega)];simp only[cond_true,cond_false];exact ⟨5,by omega,by omega,hr5,laid_ok (by unfold vr; omega) _⟩
  rw[if_neg (by omega)];by_cases h3:56320≤v
  ·rw[if_pos h3,aj (show (v:Int)≥56320 by omega),aj (show (v:Int)≤57343 by omega)];rfl
  rw[if_neg h3,aE (show ¬(v:Int)≥56320 by omega),aE (show ¬(v:Int)<55296 by omega),aE (show ¬(v:Int)>57343 by omega)];simp only[cond_false];rw[hr5,pre2];by_cases h7:p+7≤s.length
  ·have e92:((92:UInt8)==s.getD (p+5) 0)=decide ((s.getD (p+5) 0).toNat=92):=beqN _ 92 (by omega);have e117:((117:UInt8)==s.getD (p+5+1) 0)=decide ((s.getD (p+6) 0).toNat=117):=beqN _ 117 (by omega);rw[aj (show p+5+2≤s.length by omega),aE (show ¬((p+7:Nat):Int)>(s.length:Int) by omega),cond_false,ao (by rw[aj (by omega),aj (by omega)]; rfl),ao (by rw[aj (by omega),aj (by omega)]; rfl),e92,e117];by_cases g1:(s.getD (p+5) 0).toNat=92
   ·by_cases g2:(s.getD (p+6) 0).toNat=117
    ·rw[aj g1,aj g2,aE (show ¬(s.getD (p+5) 0).toNat≠92 from fun h=>h g1),aE (show ¬(s.getD (p+6) 0).toNat≠117 from fun h=>h g2)];simp only[Bool.and_self,if_true,cond_false,List.drop_drop];rw[four_ok s (p+7) (by omega) h7];have e57:p+5+2=p+7:=rfl;rw[e57];cases hu2:Gb (s.drop (p+7))with
     | none =>
      simp only;rw[aj (show (-1:Int)<56320 by omega),cond_true]
     | some q2 =>
      obtain ⟨w,r2⟩:=q2;obtain ⟨hw,XH,hr2⟩:=CG hu2;rw[List.length_drop]at XH;rw[List.drop_drop]at hr2;simp only;by_cases h4:56320≤w∧w<57344
      ·rw[if_pos h4,aE (show ¬(w:Int)<56320 by omega),cond_false,aE (show ¬(w:Int)>57343 by omega),cond_false];simp only;have k1:IntKind.i64.wrap ((v:Int) - 55296)=((v - 55296:Nat):Int):=by rw[aK (by omega) (by omega)]; omega
       have k2:IntKind.i64.wrap ((((v - 55296:Nat):Int))*2 ^ (min 10 IntKind.i64.bits))=(((v - 55296)*1024:Nat):Int):=by
        have e:(((v - 55296:Nat):Int))*2 ^ (min 10 IntKind.i64.bits)=(((v - 55296)*1024:Nat):Int):=by
         show (((v - 55296:Nat):Int))*2 ^ 10=_;omega
        rw[e,aK (by omega) (by omega)]
       rw[k1,k2,aK (n:=65536+(((v - 55296)*1024:Nat):Int)) (by omega) (by omega),aK (n:=65536+(((v - 55296)*1024:Nat):Int)+(w:Int)) (by omega) (by omega),aK (by omega) (by omega)];have e3:65536+(((v - 55296)*1024:Nat):Int)+(w:Int) - 56320=((65536+(v - 55296)*1024+(w - 56320):Nat):Int):=by omega
       rw[e3];exact ⟨11,by omega,by omega,by rw[hr2],laid_ok (by unfold vr; omega) _⟩
      ·rw[if_neg h4];simp only;by_cases h5:w<56320
       ·rw[aj (show (w:Int)<56320 by omega),cond_true]
       ·rw[aE (show ¬(w:Int)<56320 by omega),cond_false,aj (show (w:Int)>57343 by omega),cond_true]
    ·rw[aj g1,aE g2,aE (show ¬(s.getD (p+5) 0).toNat≠92 from fun h=>h g1),aj (show (s.getD (p+6) 0).toNat≠117 from g2)];rfl
   ·rw[aE g1,aj (show (s.getD (p+5) 0).toNat≠92 from g1)];rfl
  ·rw[aE (show ¬p+5+2≤s.length by omega),aj (show ((p+7:Nat):Int)>(s.length:Int) by omega)];rfl
theorem escape_ok {R:Type} (s:af) (p:Nat) (hs:s.length≤9000000000000) (k:List Int→Int→Option R) :
  match YP (s.drop p)with
  | some (c,r)=>∃n:Nat,1≤n∧p+n≤s.length∧r=s.drop (p+n)∧eZ s (p:Int) k=k (zs (enc c)) (n:Int)
  | none=>eZ s (p:Int) k=k [] 0:=by
 have e:eZ s (p:Int) k=Dc iv gR s (p:Int) k:=rfl;rw[e];unfold Dc;by_cases h:p<s.length
 ·have hu:=uni_ok (R:=R) s p hs (by omega) k;rw[drop_cons h,aE (show ¬(p:Int)≥(s.length:Int) by omega),cond_false,ao (by rw[aj (by omega),aj (by omega)]; rfl)];dsimp only;rw[Int.toNat_natCast,ao (by rw[aj (by omega),aj (by omega)]; rfl)];dsimp only at hu;generalize hF:iv s (IntKind.i64.wrap ((p:Int)+1)) _=F at hu ⊢;simp only[YP];have hb:=UInt8.toNat_lt (s.getD p 0);have hz:∀b:UInt8,([(b.toNat:Int)]:List Int)=zs (enc b.toNat)∨128≤b.toNat:=fun b=>by
   by_cases h1:b.toNat<128
   ·left; rw[enc1 h1]; simp
   ·right; omega
  have hz:=hz (s.getD p 0);generalize (s.getD p 0).toNat=b at *;have q34:((b:Int)==34)=decide (b=34):=Py _ 34;have q92:((b:Int)==92)=decide (b=92):=Py _ 92;have q47:((b:Int)==47)=decide (b=47):=Py _ 47;have q98:((b:Int)==98)=decide (b=98):=Py _ 98;have q102:((b:Int)==102)=decide (b=102):=Py _ 102;have q110:((b:Int)==110)=decide (b=110):=Py _ 110;have q114:((b:Int)==114)=decide (b=114):=Py _ 114;have q116:((b:Int)==116)=decide (b=116):=Py _ 116;have q117:((b:Int)==117)=decide (b=117):=Py _ 117;rw[q34,q92,q47,q98,q102,q110,q114,q116,q117];have one:∀c:Nat,c<128→∀l:List Int,l = [(c:Int)]→∃n:Nat,1≤n∧p+n≤s.length∧s.drop (p+1)=s.drop (p+n)∧k l 1=k (zs (enc c)) (n:Int):=fun c hc l hl=>by
   refine ⟨1,by omega,by omega,rfl,?_⟩;rw[hl,enc1 hc];simp only[zs,List.map_cons,List.map_nil,pw c (by omega)];rfl
  by_cases GH:b=34
  ·subst GH; exact one 34 (by omega) _ rfl
  by_cases Rz:b=92
  ·subst Rz; exact one 92 (by omega) _ rfl
  by_cases h47:b=47
  ·subst h47; exact one 47 (by omega) _ rfl
  simp only[GH,Rz,h47,decide_false,cond_false,or_self,if_false];by_cases h98:b=98
  ·subst h98; exact one 8 (by omega) _ rfl
  by_cases h102:b=102
  ·subst h102; exact one 12 (by omega) _ rfl
  by_cases h110:b=110
  ·subst h110; exact one 10 (by omega) _ rfl
  by_cases h114:b=114
  ·subst h114; exact one 13 (by omega) _ rfl
  by_cases h116:b=116
  ·subst h116; exact one 9 (by omega) _ rfl
  simp only[h98,h102,h110,h114,h116,decide_false,cond_false,if_false];by_cases h117:b=117
  ·simp only[h117,decide_true,cond_true,if_true];exact hu
  ·simp only[h117,decide_false,cond_false,if_false]
 ·have:s.drop p = []:=List.drop_eq_nil_of_le (by omega);rw[this,aj (show (p:Int)≥(s.length:Int) by omega),cond_true];rfl
theorem dec_all (u:Nat):∀b∈decDigits u,48≤b.toNat∧b.toNat≤57:=by
 induction u using Nat.strongRecOn with
 | _ u ih =>
  intro b hb;by_cases h:u<10
  ·rw[decDigits,dif_pos h]at hb;simp only[List.mem_cons,List.not_mem_nil,or_false]at hb;subst hb;rw[hP _ (by omega)]; omega
  ·rw[decDigits,dif_neg h]at hb;rcases List.mem_append.1 hb with hb|hb
   ·exact ih (u / 10) (by omega) b hb
   ·simp only[List.mem_cons,List.not_mem_nil,or_false]at hb;subst hb;rw[hP _ (by omega)]; omega
theorem dec_first (u:Nat) (hu:0<u):∃b t,decDigits u=b::t∧b.toNat≠48:=by
 induction u using Nat.strongRecOn with
 | _ u ih =>
  by_cases h:u<10
  ·exact ⟨_, [],by rw[decDigits,dif_pos h],by rw[hP _ (by omega)]; omega⟩
  ·obtain ⟨b,t,e,hb⟩:=ih (u / 10) (by omega) (by omega);exact ⟨b,t ++ [UInt8.ofNat (48+u % 10)],by rw[decDigits,dif_neg h,e]; rfl,hb⟩
theorem dec_last (u:Nat):∃l,decDigits u=l ++ [UInt8.ofNat (48+u % 10)]:=by
 by_cases h:u<10
 ·exact ⟨[],by rw[decDigits,dif_pos h,Nat.mod_eq_of_lt h]; rfl⟩
 ·exact ⟨decDigits (u / 10),by rw[decDigits,dif_neg h]⟩
theorem tmod_abs {m:Int} (h:Int.tmod m 10≠0):m.natAbs % 10≠0:=by
 intro h2;apply h;have e:m=(m / 10)*10:=by omega
 rw[e];exact Int.mul_tmod_left _ _
theorem Xi (c:UInt8):∀l:af,Go.Lib.indexByte l c<0↔l.contains c=false
 | []=>by simp[Go.Lib.indexByte]
 | x::l=>by
  have ih:=Xi c l;have hg:=Go.Lib.indexByte_ge l c;unfold Go.Lib.indexByte;rw[List.contains_cons];by_cases h:x=c
  ·subst h; simp
  ·have h2:(c==x)=false:=by rw[beq_eq_false_iff_ne]; exact fun e=>h e.symm
   rw[h2,Bool.false_or,←ih];split
   ·rename_i h3; exact (h (beq_iff_eq.1 h3)).elim
   ·split
    ·rename_i h4;have:=beq_iff_eq.1 h4;omega
    ·rename_i h4;have:¬Go.Lib.indexByte l c = -1:=fun e=>h4 (beq_iff_eq.2 e)
     omega
def fS (Lh s:af):Nat×af:=match s with | []=>(0, [])|b::t=>if Lh.contains b then (b.toNat,t)else (0,b::t)
theorem GW {R:Type} (Lh s:af) (hs:s.length≤4000000000) (k:Int→af→Option R):bg Lh s k=k ((fS Lh s).1:Int) (fS Lh s).2:=by
 have e:bg Lh s k=lj Lh s k:=rfl;rw[e];unfold lj;cases s with
 | nil=>rfl
 | cons b t =>
  simp only[List.length_cons]at hs;have im:((b::t:af)==([]:af))=false:=rfl;have hg:((b::t:af).getD 0 0)=b:=rfl;have hd:((b::t:af).drop 1).take (((b::t:af).length:Int).toNat - 1)=t:=by
   rw[Int.toNat_natCast,List.drop_succ_cons,List.drop_zero,List.length_cons,Nat.add_sub_cancel,List.take_length]
  have hi:Et Lh ((b.toNat:Nat):Int)=Go.Lib.indexByte Lh b:=by
   unfold Et;rw[Int.toNat_natCast];simp
  have hl:(b::t:af).length=t.length+1:=rfl;rw[im,cond_false,hg,hd,hi,hl,ao (aj (by omega))];unfold fS;cases hc:Lh.contains b with
  | false =>
   rw[aj ((Xi b Lh).2 hc),cond_true];simp only[hc,Bool.false_eq_true,if_false];rfl
  | true =>
   have:¬Go.Lib.indexByte Lh b<0:=fun h=>by rw[(Xi b Lh).1 h]at hc; cases hc
   rw[aE this,cond_false,ao (aj (by omega)),ao (by rw[aj (show (0:Int)≤((t.length+1:Nat):Int) by omega),aj (by omega)]; rfl),ao (aj (by omega))];simp only[hc,if_true]
def digS:af := [48,49,50,51,52,53,54,55,56,57]
def kM (b:UInt8):Prop:=48≤b.toNat∧b.toNat≤57
theorem digS_all:∀n:Fin 256,digS.contains (UInt8.ofNat n.val)=decide (48≤n.val∧n.val≤57):=by decide +kernel
theorem digS_ok (b:UInt8):digS.contains b=decide (48≤b.toNat∧b.toNat≤57):=by
 have:=digS_all ⟨b.toNat,UInt8.toNat_lt b⟩;simpa using this
theorem Pz (p:UInt8→Bool):∀(a r:af),(∀x∈a,p x=true)→(a++r).dropWhile p=r.dropWhile p
 | [],r,_=>rfl
 | x::a,r,h=>by
  rw[List.cons_append,List.dropWhile_cons,h x (by simp),if_pos rfl];exact Pz p a r fun y hy=>h y (by simp[hy])
theorem RJ (p:UInt8→Bool) (r:af) (h:∀b t,r=b::t→p b=false):r.dropWhile p=r:=by
 cases r with
 | nil=>rfl
 | cons b t=>rw[List.dropWhile_cons,h b t rfl]; rfl
theorem U6 {R:Type} (a r:af) (ha:∀x∈a,kM x) (hr:∀b t,r=b::t→¬kM b) (hl:(a++r).length≤4000000000) (k:af→af→Option R):aW (a++r) k=k a r:=by
 have e:aW (a++r) k=jU (a++r) k:=rfl;rw[e];unfold jU;have ht:bu (a++r) ([48,49,50,51,52,53,54,55,56,57]:af)=r:=by
  unfold bu;have h1:=Pz (fun x=>digS.contains x) a r (fun x hx=>by rw[digS_ok]; exact aj (ha x hx));have h2:=RJ (fun x=>digS.contains x) r (fun b t hb=>by rw[digS_ok]; exact aE (hr b t hb));exact h1.trans h2
 rw[ht];have hlen:(a++r).length=a.length+r.length:=List.length_append;have hw:IntKind.i64.wrap (((a++r).length:Int) - (r.length:Int))=(a.length:Int):=by rw[hlen,aK (by omega) (by omega)]; omega
 rw[hw,ao (by rfl),ao (by rw[aj (by omega),aj (by omega)]; rfl),ao (aj (by omega)),List.drop_zero,Int.toNat_natCast,Nat.sub_zero,List.take_left]
theorem parse_ok {R:Type} (neg:Bool) (I F X:af) (pt:Bool) (ev:Int) (hI:∀x∈I,kM x) (hI0:I ≠ []) (hI1:1<I.length→(I.getD 0 0).toNat≠48) (hF:∀x∈F,kM x) (hF0:pt=true→F ≠ []) (hF1:pt=false→F = [])
  (hX:(X = []∧ev=0)∨∃b Y,X=b::Y∧(b=101∨b=69)∧∀f:Int→Bool→af→Option R,bF Y f=f ev true []) (hev : -1000000≤ev∧ev≤1000000)
  (hlen:((if neg then [45]else [])++(I++((if pt then 46::F else [])++X))).length≤400)
  (hsh:(cM (bu (I++F) [48]) [48]).length≤18) (k:cC→Bool→Option R) :
  eK ((if neg then [45]else [])++(I++((if pt then 46::F else [])++X))) k =
   bX (if neg then IntKind.i64.wrap (0 - eT (48::cM (bu (I++F) [48]) [48]))else eT (48::cM (bu (I++F) [48]) [48])) (-(F.length:Int)+ev+(((bu (I++F) [48]).length:Int) - ((cM (bu (I++F) [48]) [48]).length:Int))) k:=by
 generalize hS:(if neg then [45]else [])++(I++((if pt then 46::F else [])++X))=s at *;have e:eK s k=qx bX bg aW bF s k:=rfl;rw[e];unfold qx
 
 obtain ⟨i0,It,hIe⟩:∃b t,I=b::t:=by cases I with|nil=>exact (hI0 rfl).elim|cons b t=>exact ⟨b,t,rfl⟩
 have hi0:=hI i0 (by rw[hIe]; simp);have hXh:∀b t,X=b::t→¬kM b∧b.toNat≠46:=by
  intro b t hb;rcases hX with ⟨rfl,_⟩|⟨c,Y,rfl,hc,_⟩
  ·cases hb
  ·cases hb;rcases hc with rfl|rfl <;> exact ⟨by unfold kM; decide,by decide⟩
 have hs1:fS [45] s=(if neg then 45 else 0,I++((if pt then 46::F else [])++X)):=by
  rw[←hS];cases neg with
  | true=>rfl
  | false =>
   rw[hIe];have:([45]:af).contains i0=false:=by
    have:i0≠45:=by rintro rfl; exact absurd hi0.1 (by decide)
    simp[this]
   simp only[Bool.false_eq_true,if_false,List.nil_append,List.cons_append,fS,this]
 have hsl:s.length≤400:=hlen;have LF:s.length=(if neg then 1 else 0)+(I.length+((if pt then F.length+1 else 0)+X.length)):=by
  rw[←hS];cases neg <;> cases pt <;> simp <;> omega
 have hFl:F.length≤400:=by
  cases pt with
  | true=>simp at LF; omega
  | false=>rw[hF1 rfl]; simp
 have hIl:I.length≤400:=by omega
 have hXl:X.length≤400:=by omega
 rw[GW _ _ (by omega),hs1];simp only;have hPh:∀b t,(if pt then 46::F else [])++X=b::t→¬kM b:=by
  intro b t hb;cases pt with
  | true=>simp at hb; rw[←hb.1]; unfold kM; decide
  | false=>exact (hXh b t (by simpa using hb)).1
 have XH:(I++((if pt then 46::F else [])++X)).length≤4000000000:=by
  have:(I++((if pt then 46::F else [])++X)).length=I.length+((if pt then F.length+1 else 0)+X.length):=by cases pt <;> simp <;> omega
  omega
 rw[U6 I _ hI hPh XH];have im:(I==([]:af))=false:=by rw[beq_eq_false_iff_ne]; exact hI0
 rw[aE (show ¬(s.length:Int)>400 by omega),cond_false,im,cond_false];have q48:(((I.getD 0 0).toNat:Int)==48)=decide ((I.getD 0 0).toNat=48):=Py _ 48
 
 have drop1:∀x:Option R,(bif (decide ((I.length:Int)>1))then (bB (decide ((0:Int)<I.length)) (bif (((I.getD 0 0).toNat:Int)==48)then (k ⟨0,0⟩ false)else x))else x)=x:=by
  intro x;by_cases h:1<I.length
  ·rw[aj (show (I.length:Int)>1 by omega),cond_true,ao (aj (by omega)),q48,aE (hI1 h),cond_false]
  ·rw[aE (show ¬(I.length:Int)>1 by omega),cond_false]
 rw[drop1];generalize hA:I++F=all at *;have Dw:all.length≤800:=by rw[←hA,List.length_append]; omega
 have htl:(bu all [48]).length≤all.length:=vT _ _;have lone:([48]:af).length=1:=rfl;have hc:(([48]:af)++(cM (bu all ([48]:af)) ([48]:af)))=48::cM (bu all [48]) [48]:=rfl;have hbe:((([]:af)==([]:af)))=true:=rfl;have hs2:decide ((48::cM (bu all [48]) [48]:af).length≤281474976710656)=true:=aj (by simp only[List.length_cons]; omega);have w0:IntKind.i64.wrap (((bu all [48]).length:Int) - ((cM (bu all [48]) [48]).length:Int))=((bu all [48]).length:Int) - ((cM (bu all [48]) [48]).length:Int):=aK (by omega) (by omega);have q1:decide (1+(cM (bu all [48]) [48]).length≤9223372036854775807)=true:=aj (by omega)
 have q2:decide (((cM (bu all [48]) [48]).length:Int)>18)=false:=aE (by omega);have q3:(yk ([48]:af)&&decide (([48]:af).length<4294967281))=true:=rfl;have qn:(((if neg then 45 else 0:Nat):Int) != 0)=neg:=by cases neg <;> rfl
 have sX:fS [101,69] X=match X with | []=>(0, [])|b::Y=>(b.toNat,Y):=by
  rcases hX with ⟨rfl,_⟩|⟨b,Y,rfl,hb,_⟩
  ·rfl
  ·rcases hb with rfl|rfl <;> rfl
 cases pt with
 | false =>
  have hFe:=hF1 rfl;subst hFe;rw[List.append_nil]at hA;subst hA;have s46:fS [46] X=(0,X):=by
   rcases hX with ⟨rfl,_⟩|⟨b,Y,rfl,hb,_⟩
   ·rfl
   ·rcases hb with rfl|rfl <;> rfl
  simp only[Bool.false_eq_true,if_false,List.nil_append];rw[GW _ _ (by omega),s46];have z0:(((0:Nat):Int) != 0)=false:=rfl;simp only[z0,cond_false];rw[GW _ _ (by omega),sX];rcases hX with ⟨rfl,rfl⟩|⟨b,Y,rfl,hb,hE⟩
  ·simp only[z0,cond_false,q3,ao rfl,hbe,Bool.not_true,q2,q1,hc,hs2,Bool.cond_self,w0,qn];rw[aK (n:=0+(((bu I [48]).length:Int) - ((cM (bu I [48]) [48]).length:Int))) (by omega) (by omega)];have e0 : -((([]:af).length:Nat):Int)+0=0:=rfl;rw[e0];cases neg <;> rfl
  ·have zb:((b.toNat:Int) != 0)=true:=by rcases hb with rfl|rfl <;> rfl
   simp only[zb,cond_true,hE,Bool.not_true,cond_false,q3,ao rfl,hbe,q2,q1,hc,hs2,Bool.cond_self,w0,qn];rw[aK (n:=0+ev) (by omega) (by omega),aK (n:=0+ev+(((bu I [48]).length:Int) - ((cM (bu I [48]) [48]).length:Int))) (by omega) (by omega)];have e0 : -((([]:af).length:Nat):Int)+ev=0+ev:=rfl;rw[e0];cases neg <;> rfl
 | true =>
  have hFe:=hF0 rfl;simp only[if_true,List.cons_append,List.nil_append];have s46:fS [46] (46::(F++X))=(46,F++X):=rfl;have lFX:(F++X).length=F.length+X.length:=List.length_append;rw[GW _ _ (by simp only[List.length_cons]; omega),s46];have z46:(((46:Nat):Int) != 0)=true:=rfl;have z0:(((0:Nat):Int) != 0)=false:=rfl;simp only[z46,cond_true];rw[U6 F X hF (fun b t hb=>(hXh b t hb).1) (by omega)];have hFn:(F==([]:af))=false:=by rw[beq_eq_false_iff_ne]; exact hFe
  rw[hFn,cond_false,ao (aj (by omega)),hA,aK (n:=0 - (F.length:Int)) (by omega) (by omega)];rw[GW _ _ (by omega),sX];rcases hX with ⟨rfl,rfl⟩|⟨b,Y,rfl,hb,hE⟩
  ·simp only[z0,cond_false,q3,ao rfl,hbe,Bool.not_true,q2,q1,hc,hs2,Bool.cond_self,w0,qn];rw[aK (n:=0 - (F.length:Int)+(((bu all [48]).length:Int) - ((cM (bu all [48]) [48]).length:Int))) (by omega) (by omega)];have e0 : -(F.length:Int)+0=0 - (F.length:Int):=by omega
   rw[e0];cases neg <;> rfl
  ·have zb:((b.toNat:Int) != 0)=true:=by rcases hb with rfl|rfl <;> rfl
   simp only[zb,cond_true,hE,Bool.not_true,cond_false,q3,ao rfl,hbe,q2,q1,hc,hs2,Bool.cond_self,w0,qn];rw[aK (n:=0 - (F.length:Int)+ev) (by omega) (by omega),aK (n:=0 - (F.length:Int)+ev+(((bu all [48]).length:Int) - ((cM (bu all [48]) [48]).length:Int))) (by omega) (by omega)];have e0 : -(F.length:Int)+ev=0 - (F.length:Int)+ev:=by omega
   rw[e0];cases neg <;> rfl
theorem uint_app:∀(l r:af) (acc v:Nat),parseUint10 acc l = .ok v→parseUint10 acc (l++r)=parseUint10 v r
 | [],r,acc,v,h=>by
  simp only[parseUint10]at h
  injection h with h
  subst h;rfl
 | c::l,r,acc,v,h=>by
  simp only[parseUint10,List.cons_append]at h ⊢;split at h
  ·rename_i h1;rw[if_pos h1];split at h
   ·cases h
   ·rename_i h2;rw[if_neg h2];split at h
    ·cases h
    ·rename_i h3;rw[if_neg h3];exact uint_app l r _ v h
  ·cases h
theorem uint_dec (u:Nat) (hu:u<1000000000000000000):parseUint10 0 (decDigits u) = .ok u:=by
 induction u using Nat.strongRecOn with
 | _ u ih =>
  by_cases h:u<10
  ·rw[decDigits,dif_pos h];simp only[parseUint10,hP (48+u) (by omega)];rw[if_pos (by omega),if_neg (by omega),if_neg (by omega)];congr 1;omega
  ·rw[decDigits,dif_neg h,uint_app _ _ _ _ (ih (u / 10) (by omega) (by omega))];simp only[parseUint10,hP (48+u % 10) (by omega)];rw[if_pos (by omega),if_neg (by omega),if_neg (by omega)];congr 1;omega
theorem atoi_dec (u:Nat) (hu:u<1000000000000000000):eT (48::decDigits u)=(u:Int):=by
 have h1:parseMag (48::decDigits u) = .ok u:=by
  unfold parseMag;rw[if_neg (by simp)];have:=uint_dec u hu;simp only[parseUint10];exact this
 have h2:atoiAll (48::decDigits u) = .ok (u:Int):=by
  unfold atoiAll;simp only;have e:(if (48:UInt8).toNat=43∨(48:UInt8).toNat=45 then decDigits u else 48::decDigits u)=48::decDigits u:=if_neg (by decide);rw[e,h1];simp only;rw[if_neg (by omega),if_neg (fun h=>absurd h.1 (by decide)),if_neg (by decide)]
 unfold eT;rw[h2]
theorem trimL_z (n:Nat) (r:af) (hr:∀b t,r=b::t→b≠48):bu (fm n++r) [48]=r:=by
 unfold bu;rw[Pz _ _ _ (fun x hx=>by have:=List.eq_of_mem_replicate hx; subst this; rfl)];exact RJ _ _ fun b t hb=>by simp[hr b t hb]
theorem trimR_z (l:af) (n:Nat) (b:UInt8) (hb:b≠48):cM (l ++ [b]++fm n) [48]=l ++ [b]:=by
 unfold cM;rw[List.reverse_append,List.reverse_append];have e:(fm n).reverse=fm n:=List.reverse_replicate;rw[e,Pz _ _ _ (fun x hx=>by have:=List.eq_of_mem_replicate hx; subst this; rfl)];have:List.dropWhile (fun x=>([48]:af).contains x) (([b]:af).reverse++l.reverse) = [b]++l.reverse:=RJ _ _ fun c t hc=>by
  have:b=c:=by
   have:=congrArg List.head? hc;simpa using this
  subst this;simp[hb]
 rw[this,List.reverse_append,List.reverse_reverse];rfl
theorem trims {u:Nat} (hu:u % 10≠0) (a b:Nat):bu (fm a++(decDigits u++fm b)) [48]=decDigits u++fm b∧cM (decDigits u++fm b) [48]=decDigits u:=by
 obtain ⟨x,t,e,hx⟩:=dec_first u (by omega);obtain ⟨l,hl⟩:=dec_last u;constructor
 ·apply trimL_z;intro c t' hc;rw[e]at hc;have:x=c:=by
   have:=congrArg List.head? hc;simpa using this
  subst this
  rintro rfl
  exact hx rfl
 ·rw[hl];apply trimR_z;intro h;have:=congrArg UInt8.toNat h;rw[hP _ (by omega)]at this;have e48:(48:UInt8).toNat=48:=rfl;omega
theorem U7 (d:cC) (hd:Fm d) (h0:d.au≠0):∃(I F:af) (pt:Bool) (a b:Nat),Wh d=(if decide (d.au<0)then [45]else [])++(I++(if pt then 46::F else [])) ∧
  I++F=fm a++(decDigits d.au.natAbs++fm b)∧I ≠ []∧(1<I.length→(I.getD 0 0).toNat≠48)∧(pt=true→F ≠ [])∧(pt=false→F = [])∧(F.length:Int)=(b:Int) - d.exp∧I.length+F.length≤40∧(∀x∈I,kM x)∧(∀x∈F,kM x):=by
 have bd:=hd.bounds;have Dw:=dec_all d.au.natAbs;have hlen:(decDigits d.au.natAbs).length≤16:=by rw[decDigits_length]; exact SW (by omega)
 have Q8:1≤(decDigits d.au.natAbs).length:=by rw[decDigits_length]; exact nDigits_pos _
 obtain ⟨x0,t0,hfirst,hx0⟩:=dec_first d.au.natAbs (by omega);have hsg:(if d.au<0 then ([45]:af)else [])=if decide (d.au<0)then [45]else []:=by by_cases h:d.au<0 <;> simp[h]
 unfold Wh;rw[hsg];generalize decDigits d.au.natAbs=L at *;by_cases he:0≤d.exp
 ·refine ⟨L++fm d.exp.toNat, [],false,0,d.exp.toNat,?_,by simp[fm],?_,fun _ => ?_,by simp,by simp,by simp; omega,?_,?_,by simp⟩
  ·unfold body; rw[if_pos he]; simp
  ·rw[hfirst]; simp
  ·rw[hfirst]; exact hx0
  ·rw[List.length_append,jK,List.length_nil]; omega
  ·intro x hx;rcases List.mem_append.1 hx with hx|hx
   ·exact Dw x hx
   ·have:=List.eq_of_mem_replicate hx;subst this; unfold kM; decide
 ·have hz:∃z:Nat,(max 0 (1 - d.exp - (L.length:Int))).toNat=z:=⟨_,rfl⟩;obtain ⟨z,hz⟩:=hz;have tl:(fm z++L).length=z+L.length:=by rw[List.length_append,jK]
  have hat:(((fm z++L).length:Int)+d.exp).toNat=(fm z++L).length - d.exp.natAbs:=by omega
  have h1:d.exp.natAbs+1≤(fm z++L).length:=by omega
  have tdig:∀x∈fm z++L,kM x:=by
   intro x hx;rcases List.mem_append.1 hx with hx|hx
   ·have:=List.eq_of_mem_replicate hx;subst this; unfold kM; decide
   ·exact Dw x hx
  have tfirst:z=0→((fm z++L).getD 0 0).toNat≠48:=by
   rintro rfl
   rw[hfirst];exact hx0
  refine ⟨(fm z++L).take ((fm z++L).length - d.exp.natAbs),(fm z++L).drop ((fm z++L).length - d.exp.natAbs),true,z,0,?_,?_,?_,?_,fun _ => ?_,(fun h=>by cases h),?_,?_,?_,?_⟩
  ·unfold body;rw[if_neg he];simp only[hz,hat,if_true];simp
  ·rw[List.take_append_drop]; simp[fm]
  ·intro e;have:=congrArg List.length e;rw[List.length_take,List.length_nil]at this;omega
  ·intro hI;rw[List.length_take]at hI;have e:((fm z++L).take ((fm z++L).length - d.exp.natAbs)).getD 0 0=(fm z++L).getD 0 0:=by
    have:=(IT (s:=(fm z++L).take ((fm z++L).length - d.exp.natAbs)) (t:=(fm z++L).drop ((fm z++L).length - d.exp.natAbs)) (i:=0) (by rw[List.length_take]; omega)).symm;rw[List.take_append_drop]at this;exact this
   rw[e];exact tfirst (by omega)
  ·intro e;have:=congrArg List.length e;rw[List.length_drop,List.length_nil]at this;omega
  ·rw[List.length_drop]; omega
  ·rw[List.length_take,List.length_drop]; omega
  ·intro x hx; exact tdig x (List.mem_of_mem_take hx)
  ·intro x hx; exact tdig x (List.mem_of_mem_drop hx)
theorem parse_zero {R:Type} (k:cC→Bool→Option R):eK [48] k=k ⟨0,0⟩ true:=by kernel_rfl
theorem Zd:Wh ⟨0,0⟩ = [48]:=by
 show []++body (decDigits 0) 0 = [48];rw[decDigits_one (by omega)];rfl
theorem parse_prt {R:Type} {d:cC} (hd:Fm d) (h0:d.au≠0) (X:af) (ev:Int) (hX:(X = []∧ev=0)∨∃b Y,X=b::Y∧(b=101∨b=69)∧∀f:Int→Bool→af→Option R,bF Y f=f ev true [])
  (hev : -1000000≤ev∧ev≤1000000) (hXl:X.length≤100) (k:cC→Bool→Option R):eK (Wh d++X) k=bX d.au (d.exp+ev) k:=by
 have bd:=hd.bounds;obtain ⟨I,F,pt,a,b,e1,e2,i0,i1,f0,f1,fl,il,iD,fD⟩:=U7 d hd h0;obtain ⟨t1,t2⟩:=trims (u:=d.au.natAbs) (tmod_abs (hd.nz h0)) a b;have hlen:(decDigits d.au.natAbs).length≤16:=by rw[decDigits_length]; exact SW (by omega)
 have key:=parse_ok (R:=R) (decide (d.au<0)) I F X pt ev iD i0 i1 fD f0 f1 hX hev (by
  cases hd2:decide (d.au<0) <;> cases pt <;> simp <;> omega) (by rw[e2,t1,t2]; omega) k
 have e3:Wh d++X=(if decide (d.au<0)then [45]else [])++(I++((if pt then 46::F else [])++X)):=by rw[e1]; simp only[List.append_assoc]
 rw[e3,key,e2,t1,t2,atoi_dec _ (by omega)];have e4:(if decide (d.au<0)=true then IntKind.i64.wrap (0 - (d.au.natAbs:Int))else (d.au.natAbs:Int))=d.au:=by
  by_cases h:d.au<0
  ·rw[if_pos (by rw[aj h]),aK (by omega) (by omega)]; omega
  ·rw[if_neg (by rw[aE h]; simp)]; omega
 have e5 : -(F.length:Int)+ev+(((decDigits d.au.natAbs++fm b).length:Int) - ((decDigits d.au.natAbs).length:Int))=d.exp+ev:=by
  rw[List.length_append,jK];omega
 rw[e4,e5]
theorem make_same {R:Type} {d:cC} (hd:Fm d) (h0:d.au≠0) (k:cC→Bool→Option R):bX d.au d.exp k=k d true:=by
 have bd:=hd.bounds;obtain ⟨r,hr,hm⟩:=make_any (R:=R) d.au d.exp (by unfold AN; omega) (by omega) (by omega);have e5:d.au=d.au*10 ^ 0:=by simp
 rw[e5]at hr;rw[hm,made_same hd h0 (j:=0) (x:=d.exp) (by omega) hr]
theorem zeros_add (a b:Nat):fm a++fm b=fm (a+b):=by unfold fm; rw[List.replicate_append_replicate]
theorem Ze (a:Nat):fm a ++ [48]=fm (a+1):=zeros_add a 1
abbrev isD (b:UInt8):Bool:=digS.contains b
theorem isD_ok (b:UInt8):isD b=decide (48≤b.toNat∧b.toNat≤57):=digS_ok b
abbrev takeD (s:af):af:=s.takeWhile isD
abbrev gZ (s:af):af:=s.dropWhile isD
theorem xo (s:af):∀x∈takeD s,kM x:=fun x hx=>by
 have h:=List.all_takeWhile (l:=s) (p:=isD);have:=List.all_eq_true.1 h x hx;rw[isD_ok]at this;exact of_decide_eq_true (p:=48≤x.toNat∧x.toNat≤57) this
theorem drop_dig (s:af):∀b t,gZ s=b::t→¬kM b:=fun b t h hb=>by
 have h2:isD b=false:=by
  have:=List.head?_dropWhile_not isD s;have e:s.dropWhile isD=b::t:=h;rw[e]at this;simpa using this
 rw[isD_ok,aj (p:=48≤b.toNat∧b.toNat≤57) hb]at h2;cases h2
theorem GX (s:af):(takeD s).length≤s.length:=by
 have:=congrArg List.length (List.takeWhile_append_dropWhile (p:=isD) (l:=s));rw[List.length_append]at this;unfold takeD;omega
theorem dropD_le (s:af):(gZ s).length≤s.length:=vT _ _
theorem RL {R:Type} (s:af) (hl:s.length≤4000000000) (k:af→af→Option R):aW s k=k (takeD s) (gZ s):=by
 have e:takeD s++gZ s=s:=List.takeWhile_append_dropWhile;have h:=U6 (R:=R) (takeD s) (gZ s) (xo s) (drop_dig s) (by rw[e]; exact hl) k;rw[e]at h;exact h
theorem TE (g s:af):(fS g s).2.length≤s.length:=by
 unfold fS;cases s with
 | nil=>simp
 | cons b t=>simp only; split <;> simp
def jc:af→Nat→Nat
 | [],v=>v
 | b::s,v=>jc s (10*v+(b.toNat - 48))
theorem Zf:∀(a b:af) (v:Nat),jc (a++b) v=jc b (jc a v)
 | [],_,_=>rfl
 | x::a,b,v=>Zf a b _
theorem valD_ge:∀(s:af) (v:Nat),v*10 ^ s.length≤jc s v
 | [],v=>by simp[jc]
 | b::s,v=>by
  have:=valD_ge s (10*v+(b.toNat - 48));have h2:10*v*10 ^ s.length≤(10*v+(b.toNat - 48))*10 ^ s.length:=Nat.mul_le_mul_right _ (by omega);have e:v*10 ^ (b::s).length=10*v*10 ^ s.length:=by rw[List.length_cons,Nat.pow_succ,Nat.mul_comm 10,Nat.mul_assoc,Nat.mul_comm 10]
  simp only[jc];omega
theorem valD_self (s:af) (v:Nat):v≤jc s v:=Nat.le_trans (Nat.le_mul_of_pos_right _ (Nat.pos_of_ne_zero (by simp))) (valD_ge s v)
theorem Xj:∀(s:af) (v:Nat),(∀x∈s,kM x)→jc s v<(v+1)*10 ^ s.length
 | [],v,_=>by simp[jc]
 | b::s,v,h=>by
  have hb:=h b (by simp);unfold kM at hb;have:=Xj s (10*v+(b.toNat - 48)) fun x hx=>h x (by simp[hx])
  have h2:(10*v+(b.toNat - 48)+1)*10 ^ s.length≤((v+1)*10)*10 ^ s.length:=Nat.mul_le_mul_right _ (by omega);have e:(v+1)*10 ^ (b::s).length=((v+1)*10)*10 ^ s.length:=by rw[List.length_cons,Nat.pow_succ,Nat.mul_assoc,Nat.mul_comm 10]
  simp only[jc];omega
theorem uint_dig:∀(D:af) (acc:Nat),(∀x∈D,kM x) →
  (jc D acc<18446744073709551616→parseUint10 acc D = .ok (jc D acc))∧(acc<18446744073709551616→18446744073709551616≤jc D acc→parseUint10 acc D = .range)
 | [],acc,_=>⟨fun _=>rfl,fun h1 h2=>by simp only[jc]at h2; omega⟩
 | b::D,acc,h=>by
  have hb:=h b (by simp);unfold kM at hb;obtain ⟨i1,i2⟩:=uint_dig D (10*acc+(b.toNat - 48)) fun x hx=>h x (by simp[hx])
  have hs:=valD_self D (10*acc+(b.toNat - 48));have e:acc*10+(b.toNat - 48)=10*acc+(b.toNat - 48):=by omega
  simp only[jc,parseUint10];rw[if_pos hb,e];refine ⟨fun h1 => ?_,fun h1 h2 => ?_⟩
  ·rw[if_neg (by omega),if_neg (by omega)];exact i1 h1
  ·by_cases g1:1844674407370955162≤acc
   ·rw[if_pos g1]
   ·rw[if_neg g1];by_cases g2:18446744073709551616≤10*acc+(b.toNat - 48)
    ·rw[if_pos g2]
    ·rw[if_neg g2];exact i2 (by omega) h2
theorem atoi_dig (D:af) (hD:∀x∈D,kM x) (h0:D ≠ []) :
  (jc D 0<9223372036854775808→atoiAll D = .ok (jc D 0:Int))∧(9223372036854775808≤jc D 0→atoiAll D = .range):=by
 obtain ⟨i1,i2⟩:=uint_dig D 0 hD;cases D with
 | nil=>exact (h0 rfl).elim
 | cons b D =>
  have hb:=hD b (by simp);unfold kM at hb;have e:(if b.toNat=43∨b.toNat=45 then D else b::D)=b::D:=if_neg (by omega);have m:parseMag (b::D)=parseUint10 0 (b::D):=by unfold parseMag; rw[if_neg (by simp)]
  unfold atoiAll;simp only;rw[e,m];refine ⟨fun h => ?_,fun h => ?_⟩
  ·rw[i1 (by omega)];simp only;rw[if_neg (by omega),if_neg (fun h2=>absurd h2.1 (by omega)),if_neg (by omega)]
  ·by_cases h2:jc (b::D) 0<18446744073709551616
   ·rw[i1 h2];simp only;rw[if_pos ⟨by omega,h⟩]
   ·rw[i2 (by omega) (by omega)]
def J9 (X:af):Int×Bool×af :=
 let q:=fS [43,45] X
 let v:Int:=min (jc (takeD q.2) 0:Int) 1000000
 (if q.1=45 then -v else v, !(takeD q.2 == []),gZ q.2)
theorem exp_any {R:Type} (X:af) (hl:X.length≤4000000000) (k:Int→Bool→af→Option R):bF X k=k (J9 X).1 (J9 X).2.1 (J9 X).2.2:=by
 have e:bF X k=jr bg aW X k:=rfl;rw[e];unfold jr;have h1:=TE [43,45] X;rw[GW _ _ hl];unfold J9;simp only;generalize fS [43,45] X=q at *;rw[RL _ (by omega)];have h2:=GX q.2;have hD:=xo q.2;generalize takeD q.2=D at *;generalize gZ q.2=r at *;have q45:((q.1:Int)==45)=decide (q.1=45):=Py _ 45;rw[ao (aj (by omega)),q45];by_cases h0:D = []
 ·subst h0;have a1:wO []=false:=rfl;have a2:eT []=0:=rfl;rw[a1,a2];simp only[cond_false,jc];by_cases hq:q.1=45
  ·rw[aj hq,if_pos hq]; rfl
  ·rw[aE hq,if_neg hq]; rfl
 ·have im:(D==([]:af))=false:=by rw[beq_eq_false_iff_ne]; exact h0
  obtain ⟨i1,i2⟩:=atoi_dig D hD h0;rw[im];simp only[Bool.not_false,cond_true];by_cases hv:jc D 0<9223372036854775808
  ·have a1:wO D=true:=by unfold wO; rw[i1 hv]
   have a2:eT D=(jc D 0:Int):=by unfold eT; rw[i1 hv]
   rw[a1,a2,cond_true];by_cases hb:(jc D 0:Int)>1000000
   ·rw[aj hb,cond_true,Int.min_eq_right (by omega)];by_cases hq:q.1=45
    ·rw[aj hq,if_pos hq]; rfl
    ·rw[aE hq,if_neg hq]; rfl
   ·rw[aE hb,cond_false,Int.min_eq_left (by omega),aK (by omega) (by omega)];by_cases hq:q.1=45
    ·rw[aj hq,if_pos hq,cond_true]; congr 1; omega
    ·rw[aE hq,if_neg hq,cond_false]
  ·have a1:wO D=false:=by unfold wO; rw[i2 (by omega)]
   rw[a1,cond_false,Int.min_eq_right (by omega)];by_cases hq:q.1=45
   ·rw[aj hq,if_pos hq]; rfl
   ·rw[aE hq,if_neg hq]; rfl
theorem Zg (a:af):∀b t,bu a [48]=b::t→b≠48:=fun b t h hb=>by
 have h2:=List.head?_dropWhile_not (([48]:af).contains ·) a;have e:a.dropWhile (([48]:af).contains ·)=b::t:=h;rw[e]at h2;subst hb;exact absurd (show (([48]:af).contains 48)=false from h2) (by decide)
theorem trimL_sub (a:af):∀x∈bu a [48],x∈a:=fun x hx=>(List.dropWhile_sublist _).subset hx
theorem VS (a:af):cM a [48] = []∨∃l b,cM a [48]=l ++ [b]∧b≠48:=by
 unfold cM;have h2:=List.head?_dropWhile_not (([48]:af).contains ·) a.reverse;cases h:a.reverse.dropWhile (([48]:af).contains ·)with
 | nil=>exact .inl rfl
 | cons b t =>
  rw[h]at h2;refine .inr ⟨t.reverse,b,by simp,fun hb => ?_⟩;subst hb;exact absurd (show (([48]:af).contains 48)=false from h2) (by decide)
theorem PA (a:af):∃n,a=cM a [48]++fm n:=by
 have h:=List.takeWhile_append_dropWhile (p:=(([48]:af).contains ·)) (l:=a.reverse);have h2:=congrArg List.reverse h;rw[List.reverse_append,List.reverse_reverse]at h2;refine ⟨(a.reverse.takeWhile (([48]:af).contains ·)).length,?_⟩;have hz:(a.reverse.takeWhile (([48]:af).contains ·)).reverse=fm (a.reverse.takeWhile (([48]:af).contains ·)).length:=by
  unfold fm;rw[List.eq_replicate_iff];refine ⟨List.length_reverse,fun x hx => ?_⟩;have h3:=List.all_takeWhile (l:=a.reverse) (p:=(([48]:af).contains ·));have:=List.all_eq_true.1 h3 x (List.mem_reverse.1 hx);simpa using this
 rw[←hz];exact h2.symm
def Li (neg:Bool) (all:af) (x:Int):cC×Bool :=
 if cM (bu all [48]) [48] = []then (⟨0,0⟩,true)
 else RZ (if neg then -(jc (cM (bu all [48]) [48]) 0:Int)else (jc (cM (bu all [48]) [48]) 0:Int)) (x+(((bu all [48]).length:Int) - ((cM (bu all [48]) [48]).length:Int)))
theorem make_min {R:Type} (m x:Int) (k:cC→Bool→Option R):bX m x k=bX m (min x 1000000) k:=by
 have e:∀x,bX m x k=pr bl bN m x k:=fun _=>rfl
 rw[e,e];unfold pr;have:min (min x 1000000) 1000000=min x 1000000:=by omega
 rw[this]
theorem mkD_min (u x:Int):RZ u (min x 1000000)=RZ u x:=by
 unfold RZ;by_cases h:x≤1000000
 ·rw[Int.min_eq_left h]
 ·rw[if_neg (by omega),if_neg (by omega)]
theorem make_unit {R:Type} (u x:Int) (hu:Int.tmod u 10≠0) (hb:AN u) (hx : -9223372036854775808≤x) (k:cC→Bool→Option R):bX u x k=k (RZ u x).1 (RZ u x).2:=by
 rw[make_min,←mkD_min u x];have:=make_ok (R:=R) u 0 (min x 1000000) hu (by simpa using hb) (by omega) (by omega) k;simpa using this
theorem Pc (all:af) (h:∀x∈all,kM x) (h0:cM (bu all [48]) [48] ≠ []) :
  (∀x∈cM (bu all [48]) [48],kM x)∧jc (cM (bu all [48]) [48]) 0 % 10≠0∧10 ^ ((cM (bu all [48]) [48]).length - 1)≤jc (cM (bu all [48]) [48]) 0:=by
 obtain ⟨n,hn⟩:=PA (bu all [48]);have hd:∀x∈cM (bu all [48]) [48],kM x:=fun x hx=>h x (trimL_sub _ _ (by rw[hn]; simp[hx]))
 refine ⟨hd,?_,?_⟩
 ·rcases VS (bu all [48])with e|⟨l,b,e,hb⟩
  ·exact (h0 e).elim
  ·have hbd:=hd b (by rw[e]; simp);rw[e,Zf];simp only[jc];unfold kM at hbd;have:b.toNat≠48:=fun h=>hb (UInt8.toNat_inj.1 h)
   omega
 ·cases e:cM (bu all [48]) [48]with
  | nil=>exact (h0 e).elim
  | cons b t =>
   have hb:b≠48:=Zg all b (t++fm n) (by rw[hn,e]; rfl);have hbd:=hd b (by rw[e]; simp);unfold kM at hbd;have h48:b.toNat≠48:=fun h=>hb (UInt8.toNat_inj.1 h)
   have:=valD_ge t (10*0+(b.toNat - 48));have h2:1*10 ^ t.length≤(10*0+(b.toNat - 48))*10 ^ t.length:=Nat.mul_le_mul_right _ (by omega);simp only[jc,List.length_cons,Nat.add_sub_cancel];omega
theorem mkD_far {u:Int} (x:Int) (h:1000000000000000<u.natAbs):RZ u x=(⟨0,0⟩,false):=by
 unfold RZ;rw[if_neg (by omega)]
theorem fin_ok {R:Type} (y2:Int) (pW:af) (Xd:Int) (z20:af) (h:∀x∈pW,kM x) (hl:pW.length≤1000) (hx : -2000000≤Xd∧Xd≤2000000) (k0:cC→Bool→Option R) :
  (bB (yk ([48]:af)&&decide (([48]:af).length<4294967281)) (bB (yk ([48]:af)&&decide (([48]:af).length<4294967281)) (bif (!(z20==([]:af)))then (k0 (⟨0,0⟩:cC) false)else (bif (decide (((cM (bu pW ([48]:af)) ([48]:af)).length:Int)>(18:Int)))then (k0 (⟨0,0⟩:cC) false)else (bB (decide (1+(cM (bu pW ([48]:af)) ([48]:af)).length≤9223372036854775807)) (bB (decide ((([48]:af)++(cM (bu pW ([48]:af)) ([48]:af))).length≤281474976710656)) (bif wO (([48]:af)++(cM (bu pW ([48]:af)) ([48]:af)))then (bif (y2 != 0)then (bX (IntKind.i64.wrap (0 - (eT (([48]:af)++(cM (bu pW ([48]:af)) ([48]:af)))))) (IntKind.i64.wrap (Xd+(IntKind.i64.wrap (((bu pW ([48]:af)).length:Int) - ((cM (bu pW ([48]:af)) ([48]:af)).length:Int))))) (fun Kg SQ=>k0 Kg SQ))else (bX (eT (([48]:af)++(cM (bu pW ([48]:af)) ([48]:af)))) (IntKind.i64.wrap (Xd+(IntKind.i64.wrap (((bu pW ([48]:af)).length:Int) - ((cM (bu pW ([48]:af)) ([48]:af)).length:Int))))) (fun BQ JF=>k0 BQ JF)))else (bif (y2 != 0)then (bX (IntKind.i64.wrap (0 - (eT (([48]:af)++(cM (bu pW ([48]:af)) ([48]:af)))))) (IntKind.i64.wrap (Xd+(IntKind.i64.wrap (((bu pW ([48]:af)).length:Int) - ((cM (bu pW ([48]:af)) ([48]:af)).length:Int))))) (fun Kg SQ=>k0 Kg SQ))else (bX (eT (([48]:af)++(cM (bu pW ([48]:af)) ([48]:af)))) (IntKind.i64.wrap (Xd+(IntKind.i64.wrap (((bu pW ([48]:af)).length:Int) - ((cM (bu pW ([48]:af)) ([48]:af)).length:Int))))) (fun BQ JF=>k0 BQ JF)))))))))) =
  if z20 = []then k0 (Li (y2 != 0) pW Xd).1 (Li (y2 != 0) pW Xd).2 else k0 ⟨0,0⟩ false:=by
 have q3:(yk ([48]:af)&&decide (([48]:af).length<4294967281))=true:=rfl;have htl:(bu pW [48]).length≤pW.length:=vT _ _;obtain ⟨n,hn⟩:=PA (bu pW [48]);have htr:(bu pW [48]).length=(cM (bu pW [48]) [48]).length+n:=by have:=congrArg List.length hn; rw[List.length_append,jK]at this; exact this
 rw[q3,ao rfl,ao rfl];by_cases hz:z20 = []
 ·subst hz;have hbe:((([]:af)==([]:af)))=true:=rfl;rw[hbe,if_pos rfl];simp only[Bool.not_true,cond_false];have w0:IntKind.i64.wrap (((bu pW [48]).length:Int) - ((cM (bu pW [48]) [48]).length:Int))=((bu pW [48]).length:Int) - ((cM (bu pW [48]) [48]).length:Int):=aK (by omega) (by omega);have w1:IntKind.i64.wrap (Xd+(((bu pW [48]).length:Int) - ((cM (bu pW [48]) [48]).length:Int)))=Xd+(((bu pW [48]).length:Int) - ((cM (bu pW [48]) [48]).length:Int)):=aK (by omega) (by omega);rw[w0,w1,ao (aj (by omega)),ao (aj (by simp only[List.length_append,List.length_cons,List.length_nil]; omega)),Bool.cond_self]
  unfold Li;have hc:(([48]:af)++(cM (bu pW ([48]:af)) ([48]:af)))=48::cM (bu pW [48]) [48]:=rfl;rw[hc];by_cases h0:cM (bu pW [48]) [48] = []
  ·rw[h0,if_pos rfl];have a0:eT (48::([]:af))=0:=by decide +kernel
   have a1:decide (((([]:af)).length:Int)>18)=false:=rfl;have a2:IntKind.i64.wrap (0 - 0)=0:=by decide
   rw[a0,a1,cond_false,a2,make_zero,Bool.cond_self]
  ·rw[if_neg h0];obtain ⟨f1,f2,f3⟩:=Pc pW h h0;have hX : -3000000≤Xd+(((bu pW [48]).length:Int) - ((cM (bu pW [48]) [48]).length:Int)):=by omega
   generalize cM (bu pW [48]) [48]=sh at *;generalize (Xd+(((bu pW [48]).length:Int) - (sh.length:Int)))=X at *;have Q8:1≤sh.length:=by cases sh with|nil=>exact (h0 rfl).elim|cons _ _=>simp
   by_cases h18:sh.length≤18
   ·rw[aE (show ¬(sh.length:Int)>18 by omega),cond_false];have jJ:=Xj sh 0 f1;have hp:(10:Nat) ^ sh.length≤10 ^ 18:=Nat.pow_le_pow_right (by omega) h18;have e18:(10:Nat) ^ 18=1000000000000000000:=rfl;have v48:jc (48::sh) 0=jc sh 0:=rfl;have ha:eT (48::sh)=(jc sh 0:Int):=by
     obtain ⟨i1,_⟩:=atoi_dig (48::sh) (fun x hx=>by rcases List.mem_cons.1 hx with rfl|hx; (unfold kM; decide); exact f1 x hx) (by simp);unfold eT;rw[i1 (by rw[v48]; omega),v48]
    rw[ha];have hm:Int.tmod (jc sh 0:Int) 10≠0:=by rw[Int.tmod_eq_emod_of_nonneg (by omega)]; omega
    cases hy:(y2 != 0)with
    | true =>
     rw[cond_true,if_pos rfl,aK (by omega) (by omega)];have e0:(0 - (jc sh 0:Int)) = -(jc sh 0:Int):=by omega
     rw[e0];exact make_unit _ _ (tmod_neg hm) (by unfold AN; omega) (by omega) _
    | false =>
     rw[cond_false,if_neg (by simp)];exact make_unit _ _ hm (by unfold AN; omega) (by omega) _
   ·rw[aj (show (sh.length:Int)>18 by omega),cond_true];have hp:(10:Nat) ^ 18≤10 ^ (sh.length - 1):=Nat.pow_le_pow_right (by omega) (by omega);have e18:(10:Nat) ^ 18=1000000000000000000:=rfl;rw[mkD_far _ (by split <;> omega)]
 ·have hbe:(z20==([]:af))=false:=by rw[beq_eq_false_iff_ne]; exact hz
  rw[hbe,if_neg hz];rfl
def noD:cC×Bool:=(⟨0,0⟩,false)
def tailD (neg:Bool) (all:af) (x:Int) (X:af):cC×Bool :=
 if (fS [101,69] X).1=0 then (if (fS [101,69] X).2 = []then Li neg all x else noD)
 else if (J9 (fS [101,69] X).2).2.1=false then noD
 else if (J9 (fS [101,69] X).2).2.2 = []then Li neg all (x+(J9 (fS [101,69] X).2).1)else noD
def qo (s:af):cC×Bool :=
 let q:=fS [45] s
 let I:=takeD q.2
 let r:=gZ q.2
 if 400<s.length then noD else if I = []then noD else if 1<I.length∧(I.getD 0 0).toNat=48 then noD
 else if (fS [46] r).1=0 then tailD (q.1 != 0) I 0 (fS [46] r).2
 else if takeD (fS [46] r).2 = []then noD
 else tailD (q.1 != 0) (I++takeD (fS [46] r).2) (-((takeD (fS [46] r).2).length:Int)) (gZ (fS [46] r).2)
theorem expP_lim (X:af) : -1000000≤(J9 X).1∧(J9 X).1≤1000000:=by
 unfold J9;simp only;split <;> omega
theorem neN (n:Nat):(((n:Nat):Int) != 0)=(n != 0):=by
 cases n with
 | zero=>rfl
 | succ n=>rw[bne_iff_ne.2 (by omega),bne_iff_ne.2 (by omega)]
theorem tailD_ok {R:Type} (q:Nat) (all:af) (x:Int) (X:af) (ha:∀c∈all,kM c) (hl:all.length≤900) (h1 : -1000≤x) (h2:x≤0) (hX:X.length≤1000) (k:cC→Bool→Option R) :
  bg ([101,69]:af) X (fun xy yI=>bif (xy != 0)then (bF yI (fun Fp KD NX=>bif (!KD)then (k (⟨0,0⟩:cC) false)else (bB (yk ([48]:af)&&decide (([48]:af).length<4294967281)) (bB (yk ([48]:af)&&decide (([48]:af).length<4294967281)) (bif (!(NX==([]:af)))then (k (⟨0,0⟩:cC) false)else (bif (decide (((cM (bu all ([48]:af)) ([48]:af)).length:Int)>(18:Int)))then (k (⟨0,0⟩:cC) false)else (bB (decide (1+(cM (bu all ([48]:af)) ([48]:af)).length≤9223372036854775807)) (bB (decide ((([48]:af)++(cM (bu all ([48]:af)) ([48]:af))).length≤281474976710656)) (bif wO (([48]:af)++(cM (bu all ([48]:af)) ([48]:af)))then (bif ((q:Int) != 0)then (bX (IntKind.i64.wrap (0 - (eT (([48]:af)++(cM (bu all ([48]:af)) ([48]:af)))))) (IntKind.i64.wrap ((IntKind.i64.wrap (x+Fp))+(IntKind.i64.wrap (((bu all ([48]:af)).length:Int) - ((cM (bu all ([48]:af)) ([48]:af)).length:Int))))) (fun Kg SQ=>k Kg SQ))else (bX (eT (([48]:af)++(cM (bu all ([48]:af)) ([48]:af)))) (IntKind.i64.wrap ((IntKind.i64.wrap (x+Fp))+(IntKind.i64.wrap (((bu all ([48]:af)).length:Int) - ((cM (bu all ([48]:af)) ([48]:af)).length:Int))))) (fun BQ JF=>k BQ JF)))else (bif ((q:Int) != 0)then (bX (IntKind.i64.wrap (0 - (eT (([48]:af)++(cM (bu all ([48]:af)) ([48]:af)))))) (IntKind.i64.wrap ((IntKind.i64.wrap (x+Fp))+(IntKind.i64.wrap (((bu all ([48]:af)).length:Int) - ((cM (bu all ([48]:af)) ([48]:af)).length:Int))))) (fun Kg SQ=>k Kg SQ))else (bX (eT (([48]:af)++(cM (bu all ([48]:af)) ([48]:af)))) (IntKind.i64.wrap ((IntKind.i64.wrap (x+Fp))+(IntKind.i64.wrap (((bu all ([48]:af)).length:Int) - ((cM (bu all ([48]:af)) ([48]:af)).length:Int))))) (fun BQ JF=>k BQ JF))))))))))))else (bB (yk ([48]:af)&&decide (([48]:af).length<4294967281)) (bB (yk ([48]:af)&&decide (([48]:af).length<4294967281)) (bif (!(yI==([]:af)))then (k (⟨0,0⟩:cC) false)else (bif (decide (((cM (bu all ([48]:af)) ([48]:af)).length:Int)>(18:Int)))then (k (⟨0,0⟩:cC) false)else (bB (decide (1+(cM (bu all ([48]:af)) ([48]:af)).length≤9223372036854775807)) (bB (decide ((([48]:af)++(cM (bu all ([48]:af)) ([48]:af))).length≤281474976710656)) (bif wO (([48]:af)++(cM (bu all ([48]:af)) ([48]:af)))then (bif ((q:Int) != 0)then (bX (IntKind.i64.wrap (0 - (eT (([48]:af)++(cM (bu all ([48]:af)) ([48]:af)))))) (IntKind.i64.wrap (x+(IntKind.i64.wrap (((bu all ([48]:af)).length:Int) - ((cM (bu all ([48]:af)) ([48]:af)).length:Int))))) (fun Kg SQ=>k Kg SQ))else (bX (eT (([48]:af)++(cM (bu all ([48]:af)) ([48]:af)))) (IntKind.i64.wrap (x+(IntKind.i64.wrap (((bu all ([48]:af)).length:Int) - ((cM (bu all ([48]:af)) ([48]:af)).length:Int))))) (fun BQ JF=>k BQ JF)))else (bif ((q:Int) != 0)then (bX (IntKind.i64.wrap (0 - (eT (([48]:af)++(cM (bu all ([48]:af)) ([48]:af)))))) (IntKind.i64.wrap (x+(IntKind.i64.wrap (((bu all ([48]:af)).length:Int) - ((cM (bu all ([48]:af)) ([48]:af)).length:Int))))) (fun Kg SQ=>k Kg SQ))else (bX (eT (([48]:af)++(cM (bu all ([48]:af)) ([48]:af)))) (IntKind.i64.wrap (x+(IntKind.i64.wrap (((bu all ([48]:af)).length:Int) - ((cM (bu all ([48]:af)) ([48]:af)).length:Int))))) (fun BQ JF=>k BQ JF)))))))))))=k (tailD (q != 0) all x X).1 (tailD (q != 0) all x X).2:=by
 rw[GW _ _ (by omega)];unfold tailD;have l5:=TE [101,69] X;generalize fS [101,69] X=g at *;rw[neN];by_cases hg:g.1=0
 ·rw[if_pos hg,hg];simp only[bne_self_eq_false,cond_false];rw[fin_ok _ _ _ _ ha (by omega) (by omega),neN];split <;> rfl
 ·rw[if_neg hg,bne_iff_ne.2 hg,cond_true,exp_any _ (by omega)];have hlim:=expP_lim g.2;generalize J9 g.2=z at *;rw[aK (n:=x+z.1) (by omega) (by omega)];cases hz:z.2.1 with
  | false=>rfl
  | true =>
   rw[Bool.not_true,cond_false,fin_ok _ _ _ _ ha (by omega) (by omega),neN,if_neg (show ¬(true=false) by simp)];split <;> rfl
theorem parse_any {R:Type} (s:af) (hs:s.length≤4000000000) (k:cC→Bool→Option R):eK s k=k (qo s).1 (qo s).2:=by
 have e:eK s k=qx bX bg aW bF s k:=rfl;rw[e];unfold qx;have l1:=TE [45] s;rw[GW _ _ hs];unfold qo;simp only;generalize fS [45] s=q at *;rw[RL _ (by omega)];have l2:=GX q.2;have l3:=dropD_le q.2;have dI:=xo q.2;generalize takeD q.2=I at *;generalize gZ q.2=r at *;by_cases h400:400<s.length
 ·rw[aj (show (s.length:Int)>400 by omega),cond_true,if_pos h400];rfl
 rw[aE (show ¬(s.length:Int)>400 by omega),cond_false,if_neg h400];by_cases hI:I = []
 ·subst hI;rw[if_pos rfl];rfl
 have im:(I==([]:af))=false:=by rw[beq_eq_false_iff_ne]; exact hI
 rw[im,cond_false,if_neg hI];have Q8:1≤I.length:=by cases I with|nil=>exact (hI rfl).elim|cons _ _=>simp
 have q48:(((I.getD 0 0).toNat:Int)==48)=decide ((I.getD 0 0).toNat=48):=Py _ 48;rw[ao (aj (show (0:Int)<I.length by omega)),q48];by_cases h48:1<I.length∧(I.getD 0 0).toNat=48
 ·rw[if_pos h48,aj (show (I.length:Int)>1 by omega),aj h48.2];rfl
 rw[if_neg h48];have cut:∀x:Option R,(bif decide ((I.length:Int)>1)then (bif decide ((I.getD 0 0).toNat=48)then k ⟨0,0⟩ false else x)else x)=x:=fun x=>by
  by_cases h1:1<I.length
  ·rw[aj (show (I.length:Int)>1 by omega),aE (fun h=>h48 ⟨h1,h⟩)]; rfl
  ·rw[aE (show ¬(I.length:Int)>1 by omega)]; rfl
 rw[cut];rw[GW _ _ (by omega)];have l4:=TE [46] r;generalize fS [46] r=p at *;rw[neN];by_cases hp:p.1=0
 ·rw[if_pos hp,hp];simp only[bne_self_eq_false,cond_false];exact tailD_ok q.1 I 0 p.2 dI (by omega) (by omega) (by omega) (by omega) k
 ·rw[if_neg hp,bne_iff_ne.2 hp,cond_true,RL _ (by omega)];have l5:=GX p.2;have l6:=dropD_le p.2;have dF:=xo p.2;generalize takeD p.2=F at *;generalize gZ p.2=Y at *;by_cases hF:F = []
  ·subst hF;rw[if_pos rfl];rfl
  have im:(F==([]:af))=false:=by rw[beq_eq_false_iff_ne]; exact hF
  rw[im,cond_false,if_neg hF,ao (aj (by omega)),aK (n:=0 - (F.length:Int)) (by omega) (by omega)];have e0:(0:Int) - (F.length:Int) = -(F.length:Int):=by omega
  rw[e0];exact tailD_ok q.1 (I++F) (-(F.length:Int)) Y (fun c hc=>(List.mem_append.1 hc).elim (dI c) (dF c)) (by rw[List.length_append]; omega) (by omega) (by omega) (by omega) k
theorem longP_sfx {s r:af} {c:Nat} (h:OJ s=some (c,r)):r <:+ s:=by
 unfold OJ at h;split at h
 ·cases h
 ·rename_i v r1 hu;obtain ⟨_,_,hr⟩:=CG hu;have s1:r1 <:+ s:=by rw[hr]; exact List.drop_suffix _ _
  split at h
  ·cases h; exact s1
  ·split at h
   ·cases h
   ·split at h
    ·split at h
     ·cases h
     ·rename_i w r2 hu2;obtain ⟨_,_,hr2⟩:=CG hu2;split at h
      ·simp only[Option.some.injEq,Prod.mk.injEq]at h;obtain ⟨_,rfl⟩:=h;rw[hr2];exact ((List.drop_suffix _ _).trans (List.drop_suffix _ _)).trans s1
      ·cases h
    ·cases h
theorem escP_sfx {s r:af} {c:Nat} (h:YP s=some (c,r)):r <:+ s:=by
 cases s with
 | nil=>cases h
 | cons b t =>
  have st:t <:+ b::t:=List.suffix_cons b t;simp only[YP]at h;split at h
  ·cases h; exact st
  split at h
  ·cases h; exact st
  split at h
  ·cases h; exact st
  split at h
  ·cases h; exact st
  split at h
  ·cases h; exact st
  split at h
  ·cases h; exact st
  split at h
  ·exact (longP_sfx h).trans st
  ·cases h
theorem plainP_sfx {s r:af} {c:Nat} (h:yX s=some (c,r)):r <:+ s:=by
 unfold yX at h;split at h
 ·cases h
 split at h
 ·cases h
 split at h
 ·cases h
 simp only[Option.some.injEq,Prod.mk.injEq]at h;rw[←h.2];exact List.drop_suffix _ _
theorem stepU_sfx {s r:af} {c:Nat} (h:Qy s=some (c,r)):r <:+ s:=by
 unfold Qy at h;split at h
 ·exact (escP_sfx h).trans (List.drop_suffix _ _)
 ·exact plainP_sfx h
theorem uq_sfx:∀(n:Nat) (s o o' r:af),uq n s o=some (o',r)→r <:+ s∧r.length<s.length∧∃rs:List Nat,(∀c∈rs,vr c)∧o'=o++dV rs
 | 0,_,_,_,_,h=>by cases h
 | n+1,s,o,o',r,h=>by
  simp only[uq]at h;split at h
  ·rename_i GH;simp only[Option.some.injEq,Prod.mk.injEq]at h;obtain ⟨rfl,rfl⟩:=h;refine ⟨List.drop_suffix _ _,?_, [],by simp,by simp[dV]⟩;cases s with
   | nil=>cases GH
   | cons b t=>simp
  ·split at h
   ·cases h
   ·rename_i c r1 hs;obtain ⟨h1,h2,rs,h3,h4⟩:=uq_sfx n r1 (o++enc c) o' r h;obtain ⟨hv,hl⟩:=YQ hs;refine ⟨h1.trans (stepU_sfx hs),by omega,c::rs,fun x hx => ?_,?_⟩
    ·rcases List.mem_cons.1 hx with rfl|hx
     ·exact hv
     ·exact h3 x hx
    ·rw[h4]; simp[dV]
theorem uqS_sfx {s o r:af} (h:uqS s=some (o,r)):r <:+ s∧r.length+1<s.length∧∃rs:List Nat,(∀c∈rs,vr c)∧o=dV rs:=by
 unfold uqS at h;split at h
 ·rename_i GH;obtain ⟨h1,h2,rs,h3,h4⟩:=uq_sfx _ _ _ _ _ h;refine ⟨h1.trans (List.drop_suffix _ _),?_,rs,h3,by simpa using h4⟩;rw[List.length_drop]at h2;omega
 ·cases h
theorem sfx_drop {s r:af} (h:r <:+ s):r=s.drop (s.length - r.length):=by
 obtain ⟨t,rfl⟩:=h;rw[List.length_append,Nat.add_sub_cancel,List.drop_left]
def numS:af := [48,49,50,51,52,53,54,55,56,57,43,45,46,101,69]
def letS:af := [97,98,99,100,101,102,103,104,105,106,107,108,109,110,111,112,113,114,115,116,117,118,119,120,121,122]
def blaS:af := [32,9,10,13]
def sigS:af := [123,125,91,93,44,58]
def sd (b:UInt8):Bool:=numS.contains b
def oy (b:UInt8):Bool:=letS.contains b
def pY (b:UInt8):Bool:=blaS.contains b
def Lj (b:UInt8):Bool:=sigS.contains b
def sF:af := [116,114,117,101]
def jG:af := [102,97,108,115,101]
def n9:af := [110,117,108,108]
def tokS (s:af):Option (Token×af) :=
 match s with
 | []=>none
 | c::t =>
  if c.toNat=45∨(48≤c.toNat∧c.toNat≤57)then
   (if (qo (s.takeWhile sd)).2 then some (⟨3,s.takeWhile sd,(qo (s.takeWhile sd)).1,0⟩,s.dropWhile sd)else none)
  else if c.toNat=34 then (match uqS s with|some (o,r)=>some (⟨2,o,⟨0,0⟩,0⟩,r)|none=>none)
  else if Lj c then some (⟨1, [c],⟨0,0⟩,0⟩,t)
  else if s.takeWhile oy=sF∨s.takeWhile oy=jG∨s.takeWhile oy=n9 then some (⟨4,s.takeWhile oy,⟨0,0⟩,0⟩,s.dropWhile oy)
  else none
theorem tw_nil {p:UInt8→Bool} {c:UInt8} {t:af} (h:p c=true):((c::t).dropWhile p).length<(c::t:af).length:=by
 rw[List.dropWhile_cons,if_pos h];have:=vT p t;simp only[List.length_cons];omega
theorem tokS_sfx {s r:af} {t:Token} (h:tokS s=some (t,r)):r <:+ s∧r.length<s.length:=by
 cases s with
 | nil=>cases h
 | cons c u =>
  simp only[tokS]at h;split at h
  ·rename_i hc;split at h
   ·simp only[Option.some.injEq,Prod.mk.injEq]at h;rw[←h.2];refine ⟨List.dropWhile_suffix _,tw_nil ?_⟩;have all:∀n:Fin 256,(n.val=45∨(48≤n.val∧n.val≤57))→sd (UInt8.ofNat n.val)=true:=by decide +kernel
    have:=all ⟨c.toNat,UInt8.toNat_lt c⟩ hc;simpa using this
   ·cases h
  ·split at h
   ·split at h
    ·rename_i o q hq;simp only[Option.some.injEq,Prod.mk.injEq]at h;obtain ⟨_,rfl⟩:=h;obtain ⟨h1,h2,_⟩:=uqS_sfx hq;exact ⟨h1,by omega⟩
    ·cases h
   ·split at h
    ·simp only[Option.some.injEq,Prod.mk.injEq]at h;rw[←h.2];exact ⟨List.suffix_cons _ _,by simp⟩
    ·split at h
     ·rename_i hw;simp only[Option.some.injEq,Prod.mk.injEq]at h;rw[←h.2];refine ⟨List.dropWhile_suffix _,tw_nil ?_⟩;cases hl:oy c with
      | true=>rfl
      | false =>
       have e:(c::u).takeWhile oy = []:=by rw[List.takeWhile_cons,hl]; rfl
       rw[e]at hw;rcases hw with hw|hw|hw <;> cases hw
     ·cases h
def putT (t:Token) (n:Int):Token:=⟨t.kind,t.text,t.num,n⟩
def rL:Nat→Nat→af→List Token→List Token×Int×Int
 | 0,_,_,_=>([],0,0)
 | n+1,p,s,out =>
  if s.dropWhile pY = []then (out ++ [⟨5, [],⟨0,0⟩,((p+(s.takeWhile pY).length:Nat):Int)⟩],0,0)
  else match tokS (s.dropWhile pY)with
   | none=>([],30,((p+(s.takeWhile pY).length:Nat):Int))
   | some (t,r)=>rL n (p+(s.length - r.length)) r (out ++ [putT t ((p+(s.takeWhile pY).length:Nat):Int)])
def l8 (s:af):List Token×Int×Int:=if 20000<s.length then ([],30,0)else rL (s.length+1) 0 s []
theorem MK:∀(n m p:Nat) (s:af) (out:List Token),s.length<n→s.length<m→rL n p s out=rL m p s out
 | 0,_,_,_,_,h,_=>by omega
 | _,0,_,_,_,_,h=>by omega
 | n+1,m+1,p,s,out,h1,h2=>by
  simp only[rL];split
  ·rfl
  ·split
   ·rfl
   ·rename_i t r hr;have h3:=(tokS_sfx hr).2;have h4:=vT pY s;exact MK n m _ r _ (by omega) (by omega)
abbrev vy:=af×af×Token
def Fe:List vy→af→af
 | [],z=>z
 | x::l,z=>x.1++(x.2.1++Fe l z)
def okW:List vy→af→Prop
 | [],_=>True
 | x::l,z=>(∀b∈x.1,pY b=true)∧(∃c u,x.2.1=c::u∧pY c=false)∧tokS (x.2.1++Fe l z)=some (x.2.2,Fe l z)∧okW l z
def tokW:Nat→List vy→List Token
 | _, [] => []
 | p,x::l=>putT x.2.2 ((p+x.1.length:Nat):Int)::tokW (p+x.1.length+x.2.1.length) l
def QT (r:af):Prop:=r = []∨∃b u,r=b::u∧sd b=false∧oy b=false
def Word (w:af) (t:Token):Prop:=(∃c u,w=c::u∧pY c=false)∧∀r,QT r→tokS (w++r)=some (t,r)
theorem tw_stop {p:UInt8→Bool}:∀(w r:af),(∀b∈w,p b=true)→(r = []∨∃b u,r=b::u∧p b=false)→(w++r).takeWhile p=w∧(w++r).dropWhile p=r
 | [],r,_,h=>by
  rcases h with rfl|⟨b,u,rfl,hb⟩
  ·exact ⟨rfl,rfl⟩
  ·exact ⟨by rw[List.nil_append,List.takeWhile_cons,hb]; rfl,by rw[List.nil_append,List.dropWhile_cons,hb]; rfl⟩
 | b::w,r,hw,h=>by
  have hb:=hw b (by simp);obtain ⟨h1,h2⟩:=tw_stop w r (fun x hx=>hw x (by simp[hx])) h;exact ⟨by rw[List.cons_append,List.takeWhile_cons,hb,if_pos rfl,h1],by rw[List.cons_append,List.dropWhile_cons,hb,if_pos rfl,h2]⟩
theorem stop_num {r:af} (h:QT r):r = []∨∃b u,r=b::u∧sd b=false:=h.imp id fun ⟨b,u,e,h1,_⟩=>⟨b,u,e,h1⟩
theorem stop_let {r:af} (h:QT r):r = []∨∃b u,r=b::u∧oy b=false:=h.imp id fun ⟨b,u,e,_,h1⟩=>⟨b,u,e,h1⟩
theorem word_sign (c:UInt8) (h:Lj c=true):Word [c] ⟨1, [c],⟨0,0⟩,0⟩:=by
 have all:∀n:Fin 256,Lj (UInt8.ofNat n.val)=true→pY (UInt8.ofNat n.val)=false∧¬(n.val=45∨(48≤n.val∧n.val≤57))∧¬n.val=34:=by decide +kernel
 obtain ⟨h1,h2,h3⟩:=all ⟨c.toNat,UInt8.toNat_lt c⟩ (by simpa using h);refine ⟨⟨c, [],rfl,by simpa using h1⟩,fun r _ => ?_⟩;show tokS (c::r)=_;simp only[tokS];rw[if_neg h2,if_neg h3,if_pos h]
theorem Hb {w:af} (h:w=sF∨w=jG∨w=n9):Word w ⟨4,w,⟨0,0⟩,0⟩:=by
 have hl:∀b∈w,oy b=true:=by rcases h with rfl|rfl|rfl <;> decide
 have hc:∃c u,w=c::u∧pY c=false∧¬(c.toNat=45∨(48≤c.toNat∧c.toNat≤57))∧¬c.toNat=34∧Lj c=false:=by
  rcases h with rfl|rfl|rfl <;> exact ⟨_,_,rfl,by decide,by decide,by decide,by decide⟩
 obtain ⟨c,u,rfl,h1,h2,h3,h4⟩:=hc;refine ⟨⟨c,u,rfl,h1⟩,fun r hr => ?_⟩;obtain ⟨t1,t2⟩:=tw_stop (c::u) r hl (stop_let hr);show tokS (c::(u++r))=_;have e:(c::(u++r):af)=(c::u)++r:=rfl;simp only[tokS];rw[if_neg h2,if_neg h3,h4,if_neg (by simp),e,t1,t2,if_pos h]
theorem word_text {rs:List Nat} (hr:∀c∈rs,vr c):Word (qt rs) ⟨2,dV rs,⟨0,0⟩,0⟩:=by
 have e:qt rs=34::(S4 rs ++ [34]):=by unfold qt; simp
 refine ⟨⟨34,_,e,by decide⟩,fun r _ => ?_⟩;have hu:=uqS_qt rs hr r;have e2:qt rs++r=34::(S4 rs ++ [34]++r):=by rw[e]; rfl
 rw[e2]at hu ⊢;simp only[tokS];rw[if_neg (by decide),if_pos (by decide),hu]
theorem parseS_prt {d:cC} (hd:Fm d):qo (Wh d)=(d,true):=by
 have key:∀k:cC→Bool→Option (cC×Bool),eK (Wh d) k=k d true:=fun k=>by
  by_cases h0:d.au=0
  ·rw[hd.zero h0,Zd,parse_zero]
  ·have:=parse_prt hd h0 [] 0 (.inl ⟨rfl,rfl⟩) (by omega) (by simp) k;rw[List.append_nil,Int.add_zero,make_same hd h0]at this;exact this
 have hl:(Wh d).length≤4000000000:=by
  by_cases h0:d.au=0
  ·rw[hd.zero h0,Zd]; simp
  ·obtain ⟨I,F,pt,a,b,e1,e2,i0,i1,f0,f1,fl,il,iD,fD⟩:=U7 d hd h0;rw[e1];cases hdn:decide (d.au<0) <;> cases pt <;> simp <;> omega
 have h1:=parse_any (Wh d) hl (fun a b=>some (a,b));rw[key]at h1;simp only[Option.some.injEq]at h1;rw[h1]
theorem prt_chars {d:cC} (hd:Fm d):(∀b∈Wh d,sd b=true)∧(∃c u,Wh d=c::u∧(c.toNat=45∨(48≤c.toNat∧c.toNat≤57)))∧(Wh d).length≤60:=by
 have dig:∀b:UInt8,kM b→sd b=true:=fun b hb=>by
  have all:∀n:Fin 256,(48≤n.val∧n.val≤57)→sd (UInt8.ofNat n.val)=true:=by decide +kernel
  have:=all ⟨b.toNat,UInt8.toNat_lt b⟩ hb;simpa using this
 by_cases h0:d.au=0
 ·rw[hd.zero h0,Zd];exact ⟨by decide,⟨48, [],rfl,by decide⟩,by simp⟩
 ·obtain ⟨I,F,pt,a,b,e1,e2,i0,i1,f0,f1,fl,il,iD,fD⟩:=U7 d hd h0;rw[e1];refine ⟨fun x hx => ?_,?_,?_⟩
  ·rcases List.mem_append.1 hx with hx|hx
   ·split at hx
    ·simp at hx; subst hx; decide
    ·simp at hx
   ·rcases List.mem_append.1 hx with hx|hx
    ·exact dig x (iD x hx)
    ·split at hx
     ·rcases List.mem_cons.1 hx with rfl|hx
      ·decide
      ·exact dig x (fD x hx)
     ·simp at hx
  ·cases I with
   | nil=>exact (i0 rfl).elim
   | cons c I =>
    cases decide (d.au<0)with
    | true=>exact ⟨45,_,rfl,by decide⟩
    | false=>exact ⟨c,_,rfl, .inr (iD c (by simp))⟩
  ·cases hdn:decide (d.au<0) <;> cases pt <;> simp <;> omega
theorem word_num {d:cC} (hd:Fm d):Word (Wh d) ⟨3,Wh d,d,0⟩:=by
 obtain ⟨h1,⟨c,u,h2,h3⟩,_⟩:=prt_chars hd;have hp:=parseS_prt hd;have hb:pY c=false:=by
  have all:∀n:Fin 256,(n.val=45∨(48≤n.val∧n.val≤57))→pY (UInt8.ofNat n.val)=false:=by decide +kernel
  have:=all ⟨c.toNat,UInt8.toNat_lt c⟩ h3;simpa using this
 refine ⟨⟨c,u,h2,hb⟩,fun r hr => ?_⟩;obtain ⟨t1,t2⟩:=tw_stop (Wh d) r h1 (stop_num hr);have e:Wh d++r=c::(u++r):=by rw[h2]; rfl
 rw[e]at t1 t2 ⊢;simp only[tokS];rw[if_pos h3,t1,t2,hp];rfl
def sg (c:UInt8):vy:=([], [c],⟨1, [c],⟨0,0⟩,0⟩)
theorem Ff:∀(a b:List vy) (z:af),Fe (a++b) z=Fe a (Fe b z)
 | [],_,_=>rfl
 | x::a,b,z=>by simp only[List.cons_append,Fe,Ff a b z]
theorem Dd:∀(a b:List vy) (z:af),okW (a++b) z↔okW a (Fe b z)∧okW b z
 | [],b,z=>by simp[okW]
 | x::a,b,z=>by simp only[List.cons_append,okW,Dd a b z,Ff,and_assoc]
theorem Fg {w:af} {t:Token} (h:Word w t) {z:af} (hz:QT z):okW [([],w,t)] z:=⟨by simp,h.1,h.2 z hz,trivial⟩
theorem Fh {c:UInt8} (h:Lj c=true) (z:af):okW [sg c] z:=by
 refine ⟨by simp[sg],(word_sign c h).1,?_,trivial⟩;have all:∀n:Fin 256,Lj (UInt8.ofNat n.val)=true→¬(n.val=45∨(48≤n.val∧n.val≤57))∧¬n.val=34:=by decide +kernel
 obtain ⟨h2,h3⟩:=all ⟨c.toNat,UInt8.toNat_lt c⟩ (by simpa using h);show tokS (c::z)=some (⟨1, [c],⟨0,0⟩,0⟩,z);simp only[tokS];rw[if_neg h2,if_neg h3,if_pos h]
theorem PB {c:UInt8} (h:Lj c=true) (z:af):QT (c::z):=by
 have all:∀n:Fin 256,Lj (UInt8.ofNat n.val)=true→sd (UInt8.ofNat n.val)=false∧oy (UInt8.ofNat n.val)=false:=by decide +kernel
 obtain ⟨h2,h3⟩:=all ⟨c.toNat,UInt8.toNat_lt c⟩ (by simpa using h);exact .inr ⟨c,z,rfl,by simpa using h2,by simpa using h3⟩
end Go.Proofs.YtmlkkgfenfdndaaGreatDoor
set_option maxRecDepth 100000
namespace Go.Proofs.YtmlkkgfenfdndaaGreatDoor
open Go Go.bb
variable {R:Type}
abbrev EK (R:Type):Type:=af→Int→Bool→(af→Option R)→Option R
abbrev ML:List dh := [.leaf (.str), .leaf (.int .i64), .leaf (.bool)]
abbrev MN:List aY := []
def QU (fn:EK R):oC R ML MN:=fun x y k=>fn x.1 x.2.1 x.2.2.1 (fun q0=>k (.str q0) [])
def TF (fn:EK R):=aG ML MN (QU fn)
abbrev De (R:Type):Type:=Nat→af→Int→Bool→Int→(af→Int→Int→Option R)→Option R
def yc:Hint := { live := [0,1,2,7],own := [],rows := [],cells := [],drop := [],out := [0,1,6,7] }
abbrev o0:Type:=af×Int×Bool×Int
def Bk:o0→St:=fun d=>⟨.str d.1 :: .int .i64 d.2.1 :: .bool d.2.2.1::U 4 (.int .i64 d.2.2.2::U 62 ([])), []⟩
def Df (K:Ex→St→Option R) (q0:af) (q1:Int) (q2:Int):Option R:=K (.exit 0) ⟨.str q0 :: .int .i64 q1::U 5 (.int .i64 q2::U 62 ([])), []⟩
abbrev tY:List dh := .leaf (.str) :: .leaf (.int .i64) :: .leaf (.bool)::PU 4 (.leaf (.int .i64)::PU 62 ([]))
abbrev tZ:List aY := []
def Lk (x:dh.bD tY) (y:aY.bD tZ):Nat:=(List.length x.1+Int.natAbs x.2.1+Int.natAbs x.2.2.2.2.2.2.2.1+64)
def U8 (x:dh.bD tY) (y:aY.bD tZ):o0:=(x.1,x.2.1,x.2.2.1,x.2.2.2.2.2.2.2.1)
def Jp (L:De R):sI R tY tZ:=fun x y K=>L (Lk x y) x.1 x.2.1 x.2.2.1 x.2.2.2.2.2.2.2.1 (Df K)
section
variable (da:De R)
def Ej (cb:af→Int→Bool→Int→Option R) (x4:af) (x5:Int) (x6:Bool) (x7:Int) (e0:af→Int→Int→Option R):Option R :=
 bif (decide ((IntKind.i64.wrap (x5+x7))<(x4.length:Int)))then (bB (decide ((0:Int)≤(IntKind.i64.wrap (x5+x7)))&&decide ((IntKind.i64.wrap (x5+x7))<x4.length)) (bif x6 then (bif (decide (((x4.getD ((IntKind.i64.wrap (x5+x7)).toNat) 0).toNat:Int)≥(48:Int)))then (bif (decide (((x4.getD ((IntKind.i64.wrap (x5+x7)).toNat) 0).toNat:Int)≤(57:Int)))then (bif (!x6)then (bif (decide (((x4.getD ((IntKind.i64.wrap (x5+x7)).toNat) 0).toNat:Int)<(97:Int)))then (e0 x4 x5 x7)else (bif (decide (((x4.getD ((IntKind.i64.wrap (x5+x7)).toNat) 0).toNat:Int)>(122:Int)))then (e0 x4 x5 x7)else (cb x4 x5 x6 (IntKind.i64.wrap (x7+1)))))else (cb x4 x5 x6 (IntKind.i64.wrap (x7+1))))else (bif (((x4.getD ((IntKind.i64.wrap (x5+x7)).toNat) 0).toNat:Int)==43)then (bif (!x6)then (bif (decide (((x4.getD ((IntKind.i64.wrap (x5+x7)).toNat) 0).toNat:Int)<(97:Int)))then (e0 x4 x5 x7)else (bif (decide (((x4.getD ((IntKind.i64.wrap (x5+x7)).toNat) 0).toNat:Int)>(122:Int)))then (e0 x4 x5 x7)else (cb x4 x5 x6 (IntKind.i64.wrap (x7+1)))))else (cb x4 x5 x6 (IntKind.i64.wrap (x7+1))))else (bif (((x4.getD ((IntKind.i64.wrap (x5+x7)).toNat) 0).toNat:Int)==45)then (bif (!x6)then (bif (decide (((x4.getD ((IntKind.i64.wrap (x5+x7)).toNat) 0).toNat:Int)<(97:Int)))then (e0 x4 x5 x7)else (bif (decide (((x4.getD ((IntKind.i64.wrap (x5+x7)).toNat) 0).toNat:Int)>(122:Int)))then (e0 x4 x5 x7)else (cb x4 x5 x6 (IntKind.i64.wrap (x7+1)))))else (cb x4 x5 x6 (IntKind.i64.wrap (x7+1))))else (bif (((x4.getD ((IntKind.i64.wrap (x5+x7)).toNat) 0).toNat:Int)==46)then (bif (!x6)then (bif (decide (((x4.getD ((IntKind.i64.wrap (x5+x7)).toNat) 0).toNat:Int)<(97:Int)))then (e0 x4 x5 x7)else (bif (decide (((x4.getD ((IntKind.i64.wrap (x5+x7)).toNat) 0).toNat:Int)>(122:Int)))then (e0 x4 x5 x7)else (cb x4 x5 x6 (IntKind.i64.wrap (x7+1)))))else (cb x4 x5 x6 (IntKind.i64.wrap (x7+1))))else (bif (((x4.getD ((IntKind.i64.wrap (x5+x7)).toNat) 0).toNat:Int)==101)then (bif (!x6)then (bif (decide (((x4.getD ((IntKind.i64.wrap (x5+x7)).toNat) 0).toNat:Int)<(97:Int)))then (e0 x4 x5 x7)else (bif (decide (((x4.getD ((IntKind.i64.wrap (x5+x7)).toNat) 0).toNat:Int)>(122:Int)))then (e0 x4 x5 x7)else (cb x4 x5 x6 (IntKind.i64.wrap (x7+1)))))else (cb x4 x5 x6 (IntKind.i64.wrap (x7+1))))else (bif (!(((x4.getD ((IntKind.i64.wrap (x5+x7)).toNat) 0).toNat:Int)==69))then (e0 x4 x5 x7)else (bif (!x6)then (bif (decide (((x4.getD ((IntKind.i64.wrap (x5+x7)).toNat) 0).toNat:Int)<(97:Int)))then (e0 x4 x5 x7)else (bif (decide (((x4.getD ((IntKind.i64.wrap (x5+x7)).toNat) 0).toNat:Int)>(122:Int)))then (e0 x4 x5 x7)else (cb x4 x5 x6 (IntKind.i64.wrap (x7+1)))))else (cb x4 x5 x6 (IntKind.i64.wrap (x7+1))))))))))else (bif (((x4.getD ((IntKind.i64.wrap (x5+x7)).toNat) 0).toNat:Int)==43)then (bif (!x6)then (bif (decide (((x4.getD ((IntKind.i64.wrap (x5+x7)).toNat) 0).toNat:Int)<(97:Int)))then (e0 x4 x5 x7)else (bif (decide (((x4.getD ((IntKind.i64.wrap (x5+x7)).toNat) 0).toNat:Int)>(122:Int)))then (e0 x4 x5 x7)else (cb x4 x5 x6 (IntKind.i64.wrap (x7+1)))))else (cb x4 x5 x6 (IntKind.i64.wrap (x7+1))))else (bif (((x4.getD ((IntKind.i64.wrap (x5+x7)).toNat) 0).toNat:Int)==45)then (bif (!x6)then (bif (decide (((x4.getD ((IntKind.i64.wrap (x5+x7)).toNat) 0).toNat:Int)<(97:Int)))then (e0 x4 x5 x7)else (bif (decide (((x4.getD ((IntKind.i64.wrap (x5+x7)).toNat) 0).toNat:Int)>(122:Int)))then (e0 x4 x5 x7)else (cb x4 x5 x6 (IntKind.i64.wrap (x7+1)))))else (cb x4 x5 x6 (IntKind.i64.wrap (x7+1))))else (bif (((x4.getD ((IntKind.i64.wrap (x5+x7)).toNat) 0).toNat:Int)==46)then (bif (!x6)then (bif (decide (((x4.getD ((IntKind.i64.wrap (x5+x7)).toNat) 0).toNat:Int)<(97:Int)))then (e0 x4 x5 x7)else (bif (decide (((x4.getD ((IntKind.i64.wrap (x5+x7)).toNat) 0).toNat:Int)>(122:Int)))then (e0 x4 x5 x7)else (cb x4 x5 x6 (IntKind.i64.wrap (x7+1)))))else (cb x4 x5 x6 (IntKind.i64.wrap (x7+1))))else (bif (((x4.getD ((IntKind.i64.wrap (x5+x7)).toNat) 0).toNat:Int)==101)then (bif (!x6)then (bif (decide (((x4.getD ((IntKind.i64.wrap (x5+x7)).toNat) 0).toNat:Int)<(97:Int)))then (e0 x4 x5 x7)else (bif (decide (((x4.getD ((IntKind.i64.wrap (x5+x7)).toNat) 0).toNat:Int)>(122:Int)))then (e0 x4 x5 x7)else (cb x4 x5 x6 (IntKind.i64.wrap (x7+1)))))else (cb x4 x5 x6 (IntKind.i64.wrap (x7+1))))else (bif (!(((x4.getD ((IntKind.i64.wrap (x5+x7)).toNat) 0).toNat:Int)==69))then (e0 x4 x5 x7)else (bif (!x6)then (bif (decide (((x4.getD ((IntKind.i64.wrap (x5+x7)).toNat) 0).toNat:Int)<(97:Int)))then (e0 x4 x5 x7)else (bif (decide (((x4.getD ((IntKind.i64.wrap (x5+x7)).toNat) 0).toNat:Int)>(122:Int)))then (e0 x4 x5 x7)else (cb x4 x5 x6 (IntKind.i64.wrap (x7+1)))))else (cb x4 x5 x6 (IntKind.i64.wrap (x7+1))))))))))else (bif (!x6)then (bif (decide (((x4.getD ((IntKind.i64.wrap (x5+x7)).toNat) 0).toNat:Int)<(97:Int)))then (e0 x4 x5 x7)else (bif (decide (((x4.getD ((IntKind.i64.wrap (x5+x7)).toNat) 0).toNat:Int)>(122:Int)))then (e0 x4 x5 x7)else (cb x4 x5 x6 (IntKind.i64.wrap (x7+1)))))else (cb x4 x5 x6 (IntKind.i64.wrap (x7+1))))))else (e0 x4 x5 x7)
def Ll (K:Ex→St→Option R) (rc:o0→Option R) (d:o0):Option R:=Ej (fun z0 z1 z2 z3=>rc (z0,z1,z2,z3)) d.1 d.2.1 d.2.2.1 d.2.2.2 (Df K)
def Dg:Nat→Option (Hint×cF R):=fun i=>match i with
 | 2=>some (yc,(cq tY tZ (Jp da) gl))
 | _=>none
theorem P2 (K:Ex→St→Option R) (rc:St→Option R) (d:o0):roundOf tt (cz []) (Dg da) 0 ((aA (aQ Tryz.f120)).getD 0 .skip) yc (Bk d) rc K=Ll K (fun d=>rc (Bk d)) d:=by kernel_rfl
def GY (x1:af) (x2:Int) (x3:Bool) (k0:af→Option R):Option R :=
 da (List.length x1+Int.natAbs x2+Int.natAbs 0+64) x1 x2 x3 0 (fun y9 o5 jf=>bB (decide ((0:Int)≤(IntKind.i64.wrap (o5+jf)))&&decide ((IntKind.i64.wrap (o5+jf))≤y9.length)) (bB (decide ((0:Int)≤o5)&&decide (o5≤(IntKind.i64.wrap (o5+jf)))) (k0 ((y9.drop o5.toNat).take ((IntKind.i64.wrap (o5+jf)).toNat - o5.toNat)))))
theorem ref03_word_ok:fC (R:=R) tt [] (Dg da) false Tryz.f120 ML MN (QU (GY da)):=fun x y k=>by kernel_rfl
end
def da:De R
 | 0,_,_,_,_,_=>none
 | n+1,eh,eB,fb,lZ,e0=>Ej (fun eh eB fb lZ=>da n eh eB fb lZ e0) eh eB fb lZ e0
def Lm (K:Ex→St→Option R) (n:Nat) (d:o0):Option R:=da n d.1 d.2.1 d.2.2.1 d.2.2.2 (Df K)
theorem TG (other:cF R) (ho:fZ tt (cz []) (Dg (R:=R) da) 0 ((aA (aQ Tryz.f120)).getD 0 .skip) yc other):fZ tt (cz []) (Dg (R:=R) da) 0 ((aA (aQ Tryz.f120)).getD 0 .skip) yc (cq tY tZ (Jp (da)) other) :=
 cx (A:=Lm) ho (dD Bk (Ll) (Lm) (fun _ _=>by kernel_rfl) (P2 da) (fun _ _ _=>by kernel_rfl)) Lk U8 (fun _ _=>by kernel_rfl) (fun _ _ _=>by kernel_rfl)
def kl:EK R:=fun x1 x2 x3 k0=>GY da x1 x2 x3 k0
theorem U9 (R:Type):∀a∈aA (aQ Tryz.f120),gE tt (cz []) (Dg (R:=R) da) 0 a:=by
 refine eV 1 (by kernel_rfl) fun i hi => ?_
 match i,hi with
 | 0,_=>exact bT (by kernel_rfl) (TG _ cQ)
 | n+1,hi=>omega
theorem WO (R:Type):od Tryz.prog 120 (TF (kl (R:=R))):=bS TT mixed .n rfl rfl rfl rfl (U9 R) (ref03_word_ok da)
abbrev AD (R:Type):Type:=af→Int→(Int→Option R)→Option R
abbrev HZ:List dh := [.leaf (.str), .leaf (.int .i64)]
abbrev H0:List aY := []
def Nr (fn:AD R):oC R HZ H0:=fun x y k=>fn x.1 x.2.1 (fun q0=>k (.int .i64 q0) [])
def Pd (fn:AD R):=aG HZ H0 (Nr fn)
abbrev zn (R:Type):Type:=Nat→af→Int→Int→(Int→Option R)→Option R
def uU:Hint := { live := [0,1,5],own := [],rows := [],cells := [],drop := [],out := [4,5] }
abbrev my:Type:=af×Int×Int
def xp:my→St:=fun d=>⟨.str d.1 :: .int .i64 d.2.1::U 3 (.int .i64 d.2.2::U 25 ([])), []⟩
def zo (K:Ex→St→Option R) (q0:Int):Option R:=K (.exit 0) ⟨U 5 (.int .i64 q0::U 25 ([])), []⟩
abbrev pJ:List dh := .leaf (.str) :: .leaf (.int .i64)::PU 3 (.leaf (.int .i64)::PU 25 ([]))
abbrev pK:List aY := []
def H2 (x:dh.bD pJ) (y:aY.bD pK):Nat:=(List.length x.1+Int.natAbs x.2.1+Int.natAbs x.2.2.2.2.2.1+64)
def RM (x:dh.bD pJ) (y:aY.bD pK):my:=(x.1,x.2.1,x.2.2.2.2.2.1)
def Gk (L:zn R):sI R pJ pK:=fun x y K=>L (H2 x y) x.1 x.2.1 x.2.2.2.2.2.1 (zo K)
section
variable (dd:zn R)
def Bl (cb:af→Int→Int→Option R) (x3:af) (x4:Int) (x5:Int) (e0:Int→Option R):Option R :=
 bif (decide ((IntKind.i64.wrap (x4+x5))<(x3.length:Int)))then (bB (decide ((0:Int)≤(IntKind.i64.wrap (x4+x5)))&&decide ((IntKind.i64.wrap (x4+x5))<x3.length)) (bif (decide (((x3.getD ((IntKind.i64.wrap (x4+x5)).toNat) 0).toNat:Int)≥(48:Int)))then (bB (decide ((0:Int)≤(IntKind.i64.wrap (x4+x5)))&&decide ((IntKind.i64.wrap (x4+x5))<x3.length)) (bif (decide (((x3.getD ((IntKind.i64.wrap (x4+x5)).toNat) 0).toNat:Int)≤(57:Int)))then (cb x3 x4 (IntKind.i64.wrap (x5+1)))else (e0 x5)))else (e0 x5)))else (e0 x5)
def H3 (K:Ex→St→Option R) (rc:my→Option R) (d:my):Option R:=Bl (fun z0 z1 z2=>rc (z0,z1,z2)) d.1 d.2.1 d.2.2 (zo K)
def xq:Nat→Option (Hint×cF R):=fun i=>match i with
 | 2=>some (uU,(cq pJ pK (Gk dd) gl))
 | _=>none
theorem NQ (K:Ex→St→Option R) (rc:St→Option R) (d:my):roundOf tt (cz []) (xq dd) 0 ((aA (aQ Tryz.f141)).getD 0 .skip) uU (xp d) rc K=H3 K (fun d=>rc (xp d)) d:=by kernel_rfl
def Pe (x1:af) (x2:Int) (k0:Int→Option R):Option R :=
 dd (List.length x1+Int.natAbs x2+Int.natAbs 0+64) x1 x2 0 (fun y7=>k0 y7)
theorem WQ:fC (R:=R) tt [] (xq dd) false Tryz.f141 HZ H0 (Nr (Pe dd)):=fun x y k=>by kernel_rfl
end
def dd:zn R
 | 0,_,_,_,_=>none
 | n+1,eh,eB,fb,e0=>Bl (fun eh eB fb=>dd n eh eB fb e0) eh eB fb e0
def H4 (K:Ex→St→Option R) (n:Nat) (d:my):Option R:=dd n d.1 d.2.1 d.2.2 (zo K)
theorem P3 (other:cF R) (ho:fZ tt (cz []) (xq (R:=R) dd) 0 ((aA (aQ Tryz.f141)).getD 0 .skip) uU other):fZ tt (cz []) (xq (R:=R) dd) 0 ((aA (aQ Tryz.f141)).getD 0 .skip) uU (cq pJ pK (Gk (dd)) other) :=
 cx (A:=H4) ho (dD xp (H3) (H4) (fun _ _=>by kernel_rfl) (NQ dd) (fun _ _ _=>by kernel_rfl)) H2 RM (fun _ _=>by kernel_rfl) (fun _ _ _=>by kernel_rfl)
def cv:AD R:=fun x1 x2 k0=>Pe dd x1 x2 k0
theorem RN (R:Type):∀a∈aA (aQ Tryz.f141),gE tt (cz []) (xq (R:=R) dd) 0 a:=by
 refine eV 1 (by kernel_rfl) fun i hi => ?_
 match i,hi with
 | 0,_=>exact bT (by kernel_rfl) (P3 _ cQ)
 | n+1,hi=>omega
theorem TH (R:Type):od Tryz.prog 141 (Pd (cv (R:=R))):=bS TT mixed .n rfl rfl rfl rfl (RN R) (WQ dd)
variable {R:Type}
abbrev Dh (R:Type):Type:=af→(cC→Bool→Option R)→Option R
abbrev Ka:List dh := [.leaf (.str)]
abbrev Kb:List aY := []
def Pf (fn:Dh R):oC R Ka Kb:=fun x y k=>fn x.1 (fun q0 q1=>k (.tuple [.agg [.int .i64 q0.au, .int .i64 q0.exp], .bool q1]) [])
def QV (fn:Dh R):=aG Ka Kb (Pf fn)
abbrev zp (R:Type):Type:=Nat→af→Int→Int→Int→af→Int→Bool→Int→Int→cC→(af→Int→Int→Int→af→Int→Bool→Int→cC→Option R)→Option R
abbrev zq (R:Type):Type:=Nat→Int→af→Int→cC→(Int→af→Int→cC→Option R)→Option R
abbrev zt (R:Type):Type:=Nat→Int→af→Int→cC→(Int→af→Int→cC→Option R)→Option R
abbrev zu (R:Type):Type:=Nat→Int→af→Int→Int→Int→cC→(Int→Int→Int→cC→Option R)→Option R
def uV:Hint := { live := [0,2,4,5,6,7,8,9,10,11],own := [],rows := [],cells := [],drop := [],out := [0,2,3,4,5,6,7,8,9,10] }
abbrev mz:Type:=af×Int×Int×Int×af×Int×Bool×Int×Int×cC
def xr:mz→St:=fun d=>⟨.str d.1 :: .undef :: .ptr 0 0 :: .undef :: .int .i64 d.2.1 :: .int .i64 d.2.2.1 :: .int .i64 d.2.2.2.1 :: .str d.2.2.2.2.1 :: .int .i64 d.2.2.2.2.2.1 :: .bool d.2.2.2.2.2.2.1 :: .int .i64 d.2.2.2.2.2.2.2.1 :: .int .i64 d.2.2.2.2.2.2.2.2.1::U 206 ([]), [.cells [.int .i64 d.2.2.2.2.2.2.2.2.2.au, .int .i64 d.2.2.2.2.2.2.2.2.2.exp]]⟩
def zw (K:Ex→St→Option R) (q0:af) (q1:Int) (q2:Int) (q3:Int) (q4:af) (q5:Int) (q6:Bool) (q7:Int) (q8:cC):Option R:=K (.exit 0) ⟨.str q0 :: .undef :: .ptr 0 0 :: .undef :: .int .i64 q1 :: .int .i64 q2 :: .int .i64 q3 :: .str q4 :: .int .i64 q5 :: .bool q6 :: .int .i64 q7::U 207 ([]), [.cells [.int .i64 q8.au, .int .i64 q8.exp]]⟩
abbrev pL:List dh := .leaf (.str) :: .leaf (.undef) :: .leaf (.ptr 0 0) :: .leaf (.undef) :: .leaf (.int .i64) :: .leaf (.int .i64) :: .leaf (.int .i64) :: .leaf (.str) :: .leaf (.int .i64) :: .leaf (.bool) :: .leaf (.int .i64) :: .leaf (.int .i64)::PU 206 ([])
abbrev pM:List aY := [.cells [.int .i64, .int .i64]]
def H5 (x:dh.bD pL) (y:aY.bD pM):Nat:=(List.length x.1+Int.natAbs x.2.2.2.2.1+Int.natAbs x.2.2.2.2.2.1+Int.natAbs x.2.2.2.2.2.2.1+List.length x.2.2.2.2.2.2.2.1+Int.natAbs ((t8 x).1)+Int.natAbs ((t8 x).2.2.1)+Int.natAbs ((t8 x).2.2.2.1)+cC.fu (⟨y.1.1,y.1.2.1⟩:cC)+64)
def RO (x:dh.bD pL) (y:aY.bD pM):mz:=(x.1,x.2.2.2.2.1,x.2.2.2.2.2.1,x.2.2.2.2.2.2.1,x.2.2.2.2.2.2.2.1,(t8 x).1,(t8 x).2.1,(t8 x).2.2.1,(t8 x).2.2.2.1,(⟨y.1.1,y.1.2.1⟩:cC))
def Gl (L:zp R):sI R pL pM:=fun x y K=>L (H5 x y) x.1 x.2.2.2.2.1 x.2.2.2.2.2.1 x.2.2.2.2.2.2.1 x.2.2.2.2.2.2.2.1 ((t8 x).1) ((t8 x).2.1) ((t8 x).2.2.1) ((t8 x).2.2.2.1) (⟨y.1.1,y.1.2.1⟩:cC) (zw K)
def uW:Hint := { live := [2,5,7,8],own := [],rows := [],cells := [],drop := [],out := [2,3,5,7,8] }
abbrev mA:Type:=Int×af×Int×cC
def xu:mA→St:=fun d=>⟨U 2 (.ptr 0 0::U 2 (.int .i64 d.1 :: .undef :: .str d.2.1 :: .int .i64 d.2.2.1::U 209 ([]))), [.cells [.int .i64 d.2.2.2.au, .int .i64 d.2.2.2.exp]]⟩
def zx (K:Ex→St→Option R) (q0:Int) (q1:af) (q2:Int) (q3:cC):Option R:=K (.exit 2) ⟨U 2 (.ptr 0 0::U 2 (.int .i64 q0 :: .undef :: .str q1 :: .int .i64 q2::U 209 ([]))), [.cells [.int .i64 q3.au, .int .i64 q3.exp]]⟩
abbrev pN:List dh:=PU 2 (.leaf (.ptr 0 0)::PU 2 (.leaf (.int .i64) :: .leaf (.undef) :: .leaf (.str) :: .leaf (.int .i64)::PU 209 ([])))
abbrev pO:List aY := [.cells [.int .i64, .int .i64]]
def H6 (x:dh.bD pN) (y:aY.bD pO):Nat:=(Int.natAbs x.2.2.2.2.2.1+List.length x.2.2.2.2.2.2.2.1+Int.natAbs ((t8 x).1)+cC.fu (⟨y.1.1,y.1.2.1⟩:cC)+64)
def RP (x:dh.bD pN) (y:aY.bD pO):mA:=(x.2.2.2.2.2.1,x.2.2.2.2.2.2.2.1,(t8 x).1,(⟨y.1.1,y.1.2.1⟩:cC))
def Gm (L:zq R):sI R pN pO:=fun x y K=>L (H6 x y) x.2.2.2.2.2.1 x.2.2.2.2.2.2.2.1 ((t8 x).1) (⟨y.1.1,y.1.2.1⟩:cC) (zx K)
def uX:Hint := { live := [2,5,7,8],own := [],rows := [],cells := [],drop := [],out := [2,3,5,7,8] }
abbrev mB:Type:=Int×af×Int×cC
def xw:mB→St:=fun d=>⟨U 2 (.ptr 0 0::U 2 (.int .i64 d.1 :: .undef :: .str d.2.1 :: .int .i64 d.2.2.1::U 209 ([]))), [.cells [.int .i64 d.2.2.2.au, .int .i64 d.2.2.2.exp]]⟩
def zy (K:Ex→St→Option R) (q0:Int) (q1:af) (q2:Int) (q3:cC):Option R:=K (.exit 4) ⟨U 2 (.ptr 0 0::U 2 (.int .i64 q0 :: .undef :: .str q1 :: .int .i64 q2::U 209 ([]))), [.cells [.int .i64 q3.au, .int .i64 q3.exp]]⟩
abbrev pP:List dh:=PU 2 (.leaf (.ptr 0 0)::PU 2 (.leaf (.int .i64) :: .leaf (.undef) :: .leaf (.str) :: .leaf (.int .i64)::PU 209 ([])))
abbrev pQ:List aY := [.cells [.int .i64, .int .i64]]
def H7 (x:dh.bD pP) (y:aY.bD pQ):Nat:=(Int.natAbs x.2.2.2.2.2.1+List.length x.2.2.2.2.2.2.2.1+Int.natAbs ((t8 x).1)+cC.fu (⟨y.1.1,y.1.2.1⟩:cC)+64)
def RQ (x:dh.bD pP) (y:aY.bD pQ):mB:=(x.2.2.2.2.2.1,x.2.2.2.2.2.2.2.1,(t8 x).1,(⟨y.1.1,y.1.2.1⟩:cC))
def Gn (L:zt R):sI R pP pQ:=fun x y K=>L (H7 x y) x.2.2.2.2.2.1 x.2.2.2.2.2.2.2.1 ((t8 x).1) (⟨y.1.1,y.1.2.1⟩:cC) (zy K)
def uY:Hint := { live := [2,5,7,8,12,13],own := [],rows := [],cells := [],drop := [],out := [2,3,5,8,12] }
abbrev mC:Type:=Int×af×Int×Int×Int×cC
def xx:mC→St:=fun d=>⟨U 2 (.ptr 0 0::U 2 (.int .i64 d.1 :: .undef :: .str d.2.1 :: .int .i64 d.2.2.1::U 3 (.int .i64 d.2.2.2.1 :: .int .i64 d.2.2.2.2.1::U 204 ([])))), [.cells [.int .i64 d.2.2.2.2.2.au, .int .i64 d.2.2.2.2.2.exp]]⟩
def zz (K:Ex→St→Option R) (q0:Int) (q1:Int) (q2:Int) (q3:cC):Option R:=K (.exit 6) ⟨U 2 (.ptr 0 0::U 2 (.int .i64 q0::U 2 (.int .i64 q1::U 3 (.int .i64 q2::U 205 ([]))))), [.cells [.int .i64 q3.au, .int .i64 q3.exp]]⟩
abbrev pR:List dh:=PU 2 (.leaf (.ptr 0 0)::PU 2 (.leaf (.int .i64) :: .leaf (.undef) :: .leaf (.str) :: .leaf (.int .i64)::PU 3 (.leaf (.int .i64) :: .leaf (.int .i64)::PU 204 ([]))))
abbrev pS:List aY := [.cells [.int .i64, .int .i64]]
def H8 (x:dh.bD pR) (y:aY.bD pS):Nat:=(Int.natAbs x.2.2.2.2.2.1+List.length x.2.2.2.2.2.2.2.1+Int.natAbs ((t8 x).1)+Int.natAbs ((t8 x).2.2.2.2.1)+Int.natAbs ((t8 x).2.2.2.2.2.1)+cC.fu (⟨y.1.1,y.1.2.1⟩:cC)+64)
def RR (x:dh.bD pR) (y:aY.bD pS):mC:=(x.2.2.2.2.2.1,x.2.2.2.2.2.2.2.1,(t8 x).1,(t8 x).2.2.2.2.1,(t8 x).2.2.2.2.2.1,(⟨y.1.1,y.1.2.1⟩:cC))
def Gp (L:zu R):sI R pR pS:=fun x y K=>L (H8 x y) x.2.2.2.2.2.1 x.2.2.2.2.2.2.2.1 ((t8 x).1) ((t8 x).2.2.2.2.1) ((t8 x).2.2.2.2.2.1) (⟨y.1.1,y.1.2.1⟩:cC) (zz K)
section
variable (cj:Ai R) (cv:AD R) (bm:zp R) (bn:zq R) (bc:zt R) (bk:zu R)
def gq:List (sS R) := [(117,true,(MC cj aC)),(141,true,(Pd cv aC))]
def Bm (cb:af→Int→Int→Int→af→Int→Bool→Int→Int→cC→Option R) (uB:af) (E1:Int) (Av:Int) (ZT:Int) (x22:af) (Mk:Int) (x24:Bool) (YI:Int) (Xf:Int) (x27:cC) (e0:af→Int→Int→Int→af→Int→Bool→Int→cC→Option R):Option R :=
 bif (decide (Xf<(IntKind.i64.wrap (E1+ZT))))then (bB (decide ((0:Int)≤Xf)&&decide (Xf<uB.length)) (cb uB E1 Av ZT x22 Mk x24 (min (IntKind.i64.wrap ((IntKind.i64.wrap (10*YI))+(IntKind.i64.wrap (IntKind.u8.wrap (((uB.getD Xf.toNat 0).toNat:Int) - 48))))) 100000) (IntKind.i64.wrap (Xf+1)) x27))else (e0 uB E1 Av ZT x22 Mk x24 YI x27)
def H9 (K:Ex→St→Option R) (rc:mz→Option R) (d:mz):Option R:=Bm (fun z0 z1 z2 z3 z4 z5 z6 z7 z8 z9=>rc (z0,z1,z2,z3,z4,z5,z6,z7,z8,z9)) d.1 d.2.1 d.2.2.1 d.2.2.2.1 d.2.2.2.2.1 d.2.2.2.2.2.1 d.2.2.2.2.2.2.1 d.2.2.2.2.2.2.2.1 d.2.2.2.2.2.2.2.2.1 d.2.2.2.2.2.2.2.2.2 (zw K)
def Bn (cb:Int→af→Int→cC→Option R) (x46:Int) (x47:af) (x48:Int) (x49:cC) (e0:Int→af→Int→cC→Option R):Option R :=
 bif (decide ((x47.length:Int)>(1:Int)))then (bB (decide ((0:Int)<x47.length)) (bif (((x47.getD 0 0).toNat:Int)==48)then (bB (decide ((0:Int)≤(x47.length:Int))&&decide ((x47.length:Int)≤x47.length)) (bB (decide ((1:Int)≤(x47.length:Int))) (cb x46 ((x47.drop 1).take ((x47.length:Int).toNat - 1)) x48 x49)))else (e0 x46 x47 x48 x49)))else (e0 x46 x47 x48 x49)
def Ia (K:Ex→St→Option R) (rc:mA→Option R) (d:mA):Option R:=Bn (fun z0 z1 z2 z3=>rc (z0,z1,z2,z3)) d.1 d.2.1 d.2.2.1 d.2.2.2 (zx K)
def uZ (cb:Int→af→Int→cC→Option R) (x55:Int) (x56:af) (x57:Int) (x58:cC) (e0:Int→af→Int→cC→Option R):Option R :=
 bif (decide ((x56.length:Int)>(1:Int)))then (bB (decide ((0:Int)≤(IntKind.i64.wrap ((x56.length:Int) - 1)))&&decide ((IntKind.i64.wrap ((x56.length:Int) - 1))<x56.length)) (bif (((x56.getD ((IntKind.i64.wrap ((x56.length:Int) - 1)).toNat) 0).toNat:Int)==48)then (bB (decide ((0:Int)≤(IntKind.i64.wrap ((x56.length:Int) - 1)))&&decide ((IntKind.i64.wrap ((x56.length:Int) - 1))≤x56.length)) (bB (decide ((0:Int)≤(IntKind.i64.wrap ((x56.length:Int) - 1)))) (cb x55 ((x56.drop 0).take ((IntKind.i64.wrap ((x56.length:Int) - 1)).toNat - 0)) (IntKind.i64.wrap (x57+1)) x58)))else (e0 x55 x56 x57 x58)))else (e0 x55 x56 x57 x58)
def Ib (K:Ex→St→Option R) (rc:mB→Option R) (d:mB):Option R:=uZ (fun z0 z1 z2 z3=>rc (z0,z1,z2,z3)) d.1 d.2.1 d.2.2.1 d.2.2.2 (zy K)
def Bo (cb:Int→af→Int→Int→Int→cC→Option R) (x64:Int) (x65:af) (x66:Int) (x67:Int) (x68:Int) (x69:cC) (e0:Int→Int→Int→cC→Option R):Option R :=
 bif (decide (x68<(x65.length:Int)))then (bB (decide ((0:Int)≤x68)&&decide (x68<x65.length)) (cb x64 x65 x66 (IntKind.i64.wrap ((IntKind.i64.wrap (10*x67))+(IntKind.i64.wrap (IntKind.u8.wrap (((x65.getD x68.toNat 0).toNat:Int) - 48))))) (IntKind.i64.wrap (x68+1)) x69))else (e0 x64 x66 x67 x69)
def Ic (K:Ex→St→Option R) (rc:mC→Option R) (d:mC):Option R:=Bo (fun z0 z1 z2 z3 z4 z5=>rc (z0,z1,z2,z3,z4,z5)) d.1 d.2.1 d.2.2.1 d.2.2.2.1 d.2.2.2.2.1 d.2.2.2.2.2 (zz K)
def gX:Nat→Option (Hint×cF R):=fun i=>match i with
 | 32=>some (uV,(cq pL pM (Gl bm) gl))
 | 41=>some (uW,(cq pN pO (Gm bn) gl))
 | 43=>some (uX,(cq pP pQ (Gn bc) gl))
 | 50=>some (uY,(cq pR pS (Gp bk) gl))
 | _=>none
theorem NR (K:Ex→St→Option R) (rc:St→Option R) (d:mz):roundOf tt (cz (gq cj cv)) (gX bm bn bc bk) 0 ((aA (aQ Tryz.f121)).getD 0 .skip) uV (xr d) rc K=H9 K (fun d=>rc (xr d)) d:=by kernel_rfl
theorem NS (K:Ex→St→Option R) (rc:St→Option R) (d:mA):roundOf tt (cz (gq cj cv)) (gX bm bn bc bk) 0 ((aA (aQ Tryz.f121)).getD 1 .skip) uW (xu d) rc K=Ia K (fun d=>rc (xu d)) d:=by kernel_rfl
theorem NT (K:Ex→St→Option R) (rc:St→Option R) (d:mB):roundOf tt (cz (gq cj cv)) (gX bm bn bc bk) 0 ((aA (aQ Tryz.f121)).getD 2 .skip) uX (xw d) rc K=Ib K (fun d=>rc (xw d)) d:=by kernel_rfl
theorem NU (K:Ex→St→Option R) (rc:St→Option R) (d:mC):roundOf tt (cz (gq cj cv)) (gX bm bn bc bk) 0 ((aA (aQ Tryz.f121)).getD 3 .skip) uY (xx d) rc K=Ic K (fun d=>rc (xx d)) d:=by kernel_rfl
def EL (x1:af) (k0:cC→Bool→Option R):Option R :=
 bif (decide ((x1.length:Int)>(400:Int)))then (k0 (⟨0,0⟩:cC) false)else (let j79:=fun (z3:Int) (z4:Int)=>cv x1 z3 (fun y5=>let j78:=bB (decide ((0:Int)≤(IntKind.i64.wrap (z3+y5)))&&decide ((IntKind.i64.wrap (z3+y5))≤x1.length)) (bB (decide ((0:Int)≤z3)&&decide (z3≤(IntKind.i64.wrap (z3+y5)))) (let j77:=fun (uy:Int) (pW:af) (z12:Int)=>let j76:=fun (z40:af) (z41:Int) (z42:Int) (z43:af) (z44:Int) (z45:cC)=>bif (z41 != (z40.length:Int))then (k0 (⟨0,0⟩:cC) false)else (bn (Int.natAbs z42+List.length z43+Int.natAbs z44+cC.fu z45+64) z42 z43 z44 z45 (fun YK Uy VK VL=>bc (Int.natAbs YK+List.length Uy+Int.natAbs VK+cC.fu VL+64) YK Uy VK VL (fun y60 y61 y62 y63=>bif (decide ((y61.length:Int)>(17:Int)))then (k0 (⟨0,0⟩:cC) false)else (bk (Int.natAbs y60+List.length y61+Int.natAbs y62+Int.natAbs 0+Int.natAbs 0+cC.fu y63+64) y60 y61 y62 0 0 y63 (fun y70 y71 y72 y73=>cj (IntKind.i64.wrap (y70*y72)) y71 (fun y74 y75=>k0 y74 y75)))))); let j39:=fun (V7:Bool)=>bif V7 then (let j38:=fun (YJ:Int) (z16:Bool)=>cv x1 YJ (fun KD=>bif (KD==0)then (k0 (⟨0,0⟩:cC) false)else (bm (List.length x1+Int.natAbs YJ+Int.natAbs z4+Int.natAbs KD+List.length pW+Int.natAbs z12+Int.natAbs 0+Int.natAbs YJ+cC.fu (⟨0,0⟩:cC)+64) x1 YJ z4 KD pW z12 z16 0 YJ (⟨0,0⟩:cC) (fun JF NY Nz Qr Md Xe y34 y35 Wg=>bif y34 then (j76 JF (IntKind.i64.wrap (NY+Qr)) Nz Md (IntKind.i64.wrap (Xe+(IntKind.i64.wrap (0 - y35)))) Wg)else (j76 JF (IntKind.i64.wrap (NY+Qr)) Nz Md (IntKind.i64.wrap (Xe+y35)) Wg)))); bif (decide ((IntKind.i64.wrap (uy+1))<(x1.length:Int)))then (bB (decide ((0:Int)≤(IntKind.i64.wrap (uy+1)))&&decide ((IntKind.i64.wrap (uy+1))<x1.length)) (bif (((x1.getD ((IntKind.i64.wrap (uy+1)).toNat) 0).toNat:Int)==43)then (bB (decide ((0:Int)≤(IntKind.i64.wrap (uy+1)))&&decide ((IntKind.i64.wrap (uy+1))<x1.length)) (j38 (IntKind.i64.wrap ((IntKind.i64.wrap (uy+1))+1)) (((x1.getD ((IntKind.i64.wrap (uy+1)).toNat) 0).toNat:Int)==45)))else (bB (decide ((0:Int)≤(IntKind.i64.wrap (uy+1)))&&decide ((IntKind.i64.wrap (uy+1))<x1.length)) (bif (((x1.getD ((IntKind.i64.wrap (uy+1)).toNat) 0).toNat:Int)==45)then (bB (decide ((0:Int)≤(IntKind.i64.wrap (uy+1)))&&decide ((IntKind.i64.wrap (uy+1))<x1.length)) (j38 (IntKind.i64.wrap ((IntKind.i64.wrap (uy+1))+1)) (((x1.getD ((IntKind.i64.wrap (uy+1)).toNat) 0).toNat:Int)==45)))else (j38 (IntKind.i64.wrap (uy+1)) false)))))else (j38 (IntKind.i64.wrap (uy+1)) false))else (j76 x1 uy z4 pW z12 (⟨0,0⟩:cC)); bif (decide (uy<(x1.length:Int)))then (bB (decide ((0:Int)≤uy)&&decide (uy<x1.length)) (bif (((x1.getD uy.toNat 0).toNat:Int)==101)then (j39 true)else (bB (decide ((0:Int)≤uy)&&decide (uy<x1.length)) (j39 (((x1.getD uy.toNat 0).toNat:Int)==69)))))else (j39 false); let j9:=fun (z7:Bool)=>bif z7 then (cv x1 (IntKind.i64.wrap ((IntKind.i64.wrap (z3+y5))+1)) (fun y8=>bif (y8==0)then (k0 (⟨0,0⟩:cC) false)else (bB (decide ((0:Int)≤(IntKind.i64.wrap ((IntKind.i64.wrap ((IntKind.i64.wrap (z3+y5))+1))+y8)))&&decide ((IntKind.i64.wrap ((IntKind.i64.wrap ((IntKind.i64.wrap (z3+y5))+1))+y8))≤x1.length)) (bB (decide ((0:Int)≤(IntKind.i64.wrap ((IntKind.i64.wrap (z3+y5))+1)))&&decide ((IntKind.i64.wrap ((IntKind.i64.wrap (z3+y5))+1))≤(IntKind.i64.wrap ((IntKind.i64.wrap ((IntKind.i64.wrap (z3+y5))+1))+y8)))) (bB (decide (((x1.drop z3.toNat).take ((IntKind.i64.wrap (z3+y5)).toNat - z3.toNat)).length+((x1.drop (IntKind.i64.wrap ((IntKind.i64.wrap (z3+y5))+1)).toNat).take ((IntKind.i64.wrap ((IntKind.i64.wrap ((IntKind.i64.wrap (z3+y5))+1))+y8)).toNat - (IntKind.i64.wrap ((IntKind.i64.wrap (z3+y5))+1)).toNat)).length≤9223372036854775807)) (j77 (IntKind.i64.wrap ((IntKind.i64.wrap ((IntKind.i64.wrap (z3+y5))+1))+y8)) (((x1.drop z3.toNat).take ((IntKind.i64.wrap (z3+y5)).toNat - z3.toNat))++((x1.drop (IntKind.i64.wrap ((IntKind.i64.wrap (z3+y5))+1)).toNat).take ((IntKind.i64.wrap ((IntKind.i64.wrap ((IntKind.i64.wrap (z3+y5))+1))+y8)).toNat - (IntKind.i64.wrap ((IntKind.i64.wrap (z3+y5))+1)).toNat))) (IntKind.i64.wrap (0 - y8))))))))else (j77 (IntKind.i64.wrap (z3+y5)) ((x1.drop z3.toNat).take ((IntKind.i64.wrap (z3+y5)).toNat - z3.toNat)) 0); bif (decide ((IntKind.i64.wrap (z3+y5))<(x1.length:Int)))then (bB (decide ((0:Int)≤(IntKind.i64.wrap (z3+y5)))&&decide ((IntKind.i64.wrap (z3+y5))<x1.length)) (j9 (((x1.getD ((IntKind.i64.wrap (z3+y5)).toNat) 0).toNat:Int)==46)))else (j9 false))); bif (y5==0)then (k0 (⟨0,0⟩:cC) false)else (bif (decide (y5>(1:Int)))then (bB (decide ((0:Int)≤z3)&&decide (z3<x1.length)) (bif (((x1.getD z3.toNat 0).toNat:Int)==48)then (k0 (⟨0,0⟩:cC) false)else (j78)))else (j78))); bif (decide ((0:Int)<(x1.length:Int)))then (bB (decide ((0:Int)<x1.length)) (bif (((x1.getD 0 0).toNat:Int)==45)then (j79 1 (-1))else (j79 0 1)))else (j79 0 1))
theorem Zh:fC (R:=R) tt (gq cj cv) (gX bm bn bc bk) false Tryz.f121 Ka Kb (Pf (EL cj cv bm bn bc bk)):=fun x y k=>by kernel_rfl
end
theorem WR:dy (R:=R) Tryz.prog (gq (R:=R) cj cv) := .c (Nj R) <| .c (TH R) <| .n
def bm:zp R
 | 0,_,_,_,_,_,_,_,_,_,_,_=>none
 | n+1,eh,eB,fb,lZ,BR,BS,NG,NH,NI,NJ,e0=>Bm (fun eh eB fb lZ BR BS NG NH NI NJ=>bm n eh eB fb lZ BR BS NG NH NI NJ e0) eh eB fb lZ BR BS NG NH NI NJ e0
def Ie (K:Ex→St→Option R) (n:Nat) (d:mz):Option R:=bm n d.1 d.2.1 d.2.2.1 d.2.2.2.1 d.2.2.2.2.1 d.2.2.2.2.2.1 d.2.2.2.2.2.2.1 d.2.2.2.2.2.2.2.1 d.2.2.2.2.2.2.2.2.1 d.2.2.2.2.2.2.2.2.2 (zw K)
def bn:zq R
 | 0,_,_,_,_,_=>none
 | n+1,eh,eB,fb,lZ,e0=>Bn (fun eh eB fb lZ=>bn n eh eB fb lZ e0) eh eB fb lZ e0
def Ig (K:Ex→St→Option R) (n:Nat) (d:mA):Option R:=bn n d.1 d.2.1 d.2.2.1 d.2.2.2 (zx K)
def bc:zt R
 | 0,_,_,_,_,_=>none
 | n+1,eh,eB,fb,lZ,e0=>uZ (fun eh eB fb lZ=>bc n eh eB fb lZ e0) eh eB fb lZ e0
def Ih (K:Ex→St→Option R) (n:Nat) (d:mB):Option R:=bc n d.1 d.2.1 d.2.2.1 d.2.2.2 (zy K)
def bk:zu R
 | 0,_,_,_,_,_,_,_=>none
 | n+1,eh,eB,fb,lZ,BR,BS,e0=>Bo (fun eh eB fb lZ BR BS=>bk n eh eB fb lZ BR BS e0) eh eB fb lZ BR BS e0
def Ii (K:Ex→St→Option R) (n:Nat) (d:mC):Option R:=bk n d.1 d.2.1 d.2.2.1 d.2.2.2.1 d.2.2.2.2.1 d.2.2.2.2.2 (zz K)
theorem P4 (other:cF R) (ho:fZ tt (cz (gq (R:=R) cj cv)) (gX (R:=R) bm bn bc bk) 0 ((aA (aQ Tryz.f121)).getD 0 .skip) uV other):fZ tt (cz (gq (R:=R) cj cv)) (gX (R:=R) bm bn bc bk) 0 ((aA (aQ Tryz.f121)).getD 0 .skip) uV (cq pL pM (Gl (bm)) other) :=
 cx (A:=Ie) ho (dD xr (H9) (Ie) (fun _ _=>by kernel_rfl) (NR cj cv bm bn bc bk) (fun _ _ _=>by kernel_rfl)) H5 RO (fun _ _=>by kernel_rfl) (fun _ _ _=>by kernel_rfl)
theorem P5 (other:cF R) (ho:fZ tt (cz (gq (R:=R) cj cv)) (gX (R:=R) bm bn bc bk) 0 ((aA (aQ Tryz.f121)).getD 1 .skip) uW other):fZ tt (cz (gq (R:=R) cj cv)) (gX (R:=R) bm bn bc bk) 0 ((aA (aQ Tryz.f121)).getD 1 .skip) uW (cq pN pO (Gm (bn)) other) :=
 cx (A:=Ig) ho (dD xu (Ia) (Ig) (fun _ _=>by kernel_rfl) (NS cj cv bm bn bc bk) (fun _ _ _=>by kernel_rfl)) H6 RP (fun _ _=>by kernel_rfl) (fun _ _ _=>by kernel_rfl)
theorem P6 (other:cF R) (ho:fZ tt (cz (gq (R:=R) cj cv)) (gX (R:=R) bm bn bc bk) 0 ((aA (aQ Tryz.f121)).getD 2 .skip) uX other):fZ tt (cz (gq (R:=R) cj cv)) (gX (R:=R) bm bn bc bk) 0 ((aA (aQ Tryz.f121)).getD 2 .skip) uX (cq pP pQ (Gn (bc)) other) :=
 cx (A:=Ih) ho (dD xw (Ib) (Ih) (fun _ _=>by kernel_rfl) (NT cj cv bm bn bc bk) (fun _ _ _=>by kernel_rfl)) H7 RQ (fun _ _=>by kernel_rfl) (fun _ _ _=>by kernel_rfl)
theorem P7 (other:cF R) (ho:fZ tt (cz (gq (R:=R) cj cv)) (gX (R:=R) bm bn bc bk) 0 ((aA (aQ Tryz.f121)).getD 3 .skip) uY other):fZ tt (cz (gq (R:=R) cj cv)) (gX (R:=R) bm bn bc bk) 0 ((aA (aQ Tryz.f121)).getD 3 .skip) uY (cq pR pS (Gp (bk)) other) :=
 cx (A:=Ii) ho (dD xx (Ic) (Ii) (fun _ _=>by kernel_rfl) (NU cj cv bm bn bc bk) (fun _ _ _=>by kernel_rfl)) H8 RR (fun _ _=>by kernel_rfl) (fun _ _ _=>by kernel_rfl)
def kB:Dh R:=fun x1 k0=>EL cj cv bm bn bc bk x1 k0
theorem TJ (R:Type):∀a∈aA (aQ Tryz.f121),gE tt (cz (gq (R:=R) cj cv)) (gX (R:=R) bm bn bc bk) 0 a:=by
 refine eV 4 (by kernel_rfl) fun i hi => ?_
 match i,hi with
 | 0,_=>exact bT (by kernel_rfl) (P4 _ cQ)
 | 1,_=>exact bT (by kernel_rfl) (P5 _ cQ)
 | 2,_=>exact bT (by kernel_rfl) (P6 _ cQ)
 | 3,_=>exact bT (by kernel_rfl) (P7 _ cQ)
 | n+4,hi=>omega
theorem Va (R:Type):od Tryz.prog 121 (QV (kB (R:=R))):=bS TT mixed (WR (R:=R)) rfl rfl rfl rfl (TJ R) (Zh cj cv bm bn bc bk)
end Go.Proofs.YtmlkkgfenfdndaaGreatDoor
set_option maxRecDepth 100000
namespace Go.Proofs.YtmlkkgfenfdndaaGreatDoor
open Go Go.bb Go.Lib
def kC {R:Type} (k0:cC→Bool→Option R) (z40:af) (z41:Int) (z42:Int) (z43:af) (z44:Int) (z45:cC):Option R :=
 bif (z41 != (z40.length:Int))then (k0 (⟨0,0⟩:cC) false)else (bn (Int.natAbs z42+List.length z43+Int.natAbs z44+cC.fu z45+64) z42 z43 z44 z45 (fun YK Uy VK VL=>bc (Int.natAbs YK+List.length Uy+Int.natAbs VK+cC.fu VL+64) YK Uy VK VL (fun y60 y61 y62 y63=>bif (decide ((y61.length:Int)>(17:Int)))then (k0 (⟨0,0⟩:cC) false)else (bk (Int.natAbs y60+List.length y61+Int.natAbs y62+Int.natAbs 0+Int.natAbs 0+cC.fu y63+64) y60 y61 y62 0 0 y63 (fun y70 y71 y72 y73=>cj (IntKind.i64.wrap (y70*y72)) y71 (fun y74 y75=>k0 y74 y75))))))
def mD {R:Type} (k0:cC→Bool→Option R) (x1:af) (z4:Int) (pW:af) (z12:Int) (YJ:Int) (z16:Bool):Option R :=
 cv x1 YJ (fun KD=>bif (KD==0)then (k0 (⟨0,0⟩:cC) false)else (bm (List.length x1+Int.natAbs YJ+Int.natAbs z4+Int.natAbs KD+List.length pW+Int.natAbs z12+Int.natAbs 0+Int.natAbs YJ+cC.fu (⟨0,0⟩:cC)+64) x1 YJ z4 KD pW z12 z16 0 YJ (⟨0,0⟩:cC) (fun JF NY Nz Qr Md Xe y34 y35 Wg=>bif y34 then (kC k0 JF (IntKind.i64.wrap (NY+Qr)) Nz Md (IntKind.i64.wrap (Xe+(IntKind.i64.wrap (0 - y35)))) Wg)else (kC k0 JF (IntKind.i64.wrap (NY+Qr)) Nz Md (IntKind.i64.wrap (Xe+y35)) Wg))))
def kD {R:Type} (k0:cC→Bool→Option R) (x1:af) (z4:Int) (uy:Int) (pW:af) (z12:Int) (V7:Bool):Option R :=
 bif V7 then (bif (decide ((IntKind.i64.wrap (uy+1))<(x1.length:Int)))then (bB (decide ((0:Int)≤(IntKind.i64.wrap (uy+1)))&&decide ((IntKind.i64.wrap (uy+1))<x1.length)) (bif (((x1.getD ((IntKind.i64.wrap (uy+1)).toNat) 0).toNat:Int)==43)then (bB (decide ((0:Int)≤(IntKind.i64.wrap (uy+1)))&&decide ((IntKind.i64.wrap (uy+1))<x1.length)) (mD k0 x1 z4 pW z12 (IntKind.i64.wrap ((IntKind.i64.wrap (uy+1))+1)) (((x1.getD ((IntKind.i64.wrap (uy+1)).toNat) 0).toNat:Int)==45)))else (bB (decide ((0:Int)≤(IntKind.i64.wrap (uy+1)))&&decide ((IntKind.i64.wrap (uy+1))<x1.length)) (bif (((x1.getD ((IntKind.i64.wrap (uy+1)).toNat) 0).toNat:Int)==45)then (bB (decide ((0:Int)≤(IntKind.i64.wrap (uy+1)))&&decide ((IntKind.i64.wrap (uy+1))<x1.length)) (mD k0 x1 z4 pW z12 (IntKind.i64.wrap ((IntKind.i64.wrap (uy+1))+1)) (((x1.getD ((IntKind.i64.wrap (uy+1)).toNat) 0).toNat:Int)==45)))else (mD k0 x1 z4 pW z12 (IntKind.i64.wrap (uy+1)) false)))))else (mD k0 x1 z4 pW z12 (IntKind.i64.wrap (uy+1)) false))else (kC k0 x1 uy z4 pW z12 (⟨0,0⟩:cC))
def ua {R:Type} (k0:cC→Bool→Option R) (x1:af) (z4:Int) (uy:Int) (pW:af) (z12:Int):Option R :=
 bif (decide (uy<(x1.length:Int)))then (bB (decide ((0:Int)≤uy)&&decide (uy<x1.length)) (bif (((x1.getD uy.toNat 0).toNat:Int)==101)then (kD k0 x1 z4 uy pW z12 true)else (bB (decide ((0:Int)≤uy)&&decide (uy<x1.length)) (kD k0 x1 z4 uy pW z12 (((x1.getD uy.toNat 0).toNat:Int)==69)))))else (kD k0 x1 z4 uy pW z12 false)
def vz {R:Type} (k0:cC→Bool→Option R) (x1:af) (z3:Int) (z4:Int) (y5:Int) (z7:Bool):Option R :=
 bif z7 then (cv x1 (IntKind.i64.wrap ((IntKind.i64.wrap (z3+y5))+1)) (fun y8=>bif (y8==0)then (k0 (⟨0,0⟩:cC) false)else (bB (decide ((0:Int)≤(IntKind.i64.wrap ((IntKind.i64.wrap ((IntKind.i64.wrap (z3+y5))+1))+y8)))&&decide ((IntKind.i64.wrap ((IntKind.i64.wrap ((IntKind.i64.wrap (z3+y5))+1))+y8))≤x1.length)) (bB (decide ((0:Int)≤(IntKind.i64.wrap ((IntKind.i64.wrap (z3+y5))+1)))&&decide ((IntKind.i64.wrap ((IntKind.i64.wrap (z3+y5))+1))≤(IntKind.i64.wrap ((IntKind.i64.wrap ((IntKind.i64.wrap (z3+y5))+1))+y8)))) (bB (decide (((x1.drop z3.toNat).take ((IntKind.i64.wrap (z3+y5)).toNat - z3.toNat)).length+((x1.drop (IntKind.i64.wrap ((IntKind.i64.wrap (z3+y5))+1)).toNat).take ((IntKind.i64.wrap ((IntKind.i64.wrap ((IntKind.i64.wrap (z3+y5))+1))+y8)).toNat - (IntKind.i64.wrap ((IntKind.i64.wrap (z3+y5))+1)).toNat)).length≤9223372036854775807)) (ua k0 x1 z4 (IntKind.i64.wrap ((IntKind.i64.wrap ((IntKind.i64.wrap (z3+y5))+1))+y8)) (((x1.drop z3.toNat).take ((IntKind.i64.wrap (z3+y5)).toNat - z3.toNat))++((x1.drop (IntKind.i64.wrap ((IntKind.i64.wrap (z3+y5))+1)).toNat).take ((IntKind.i64.wrap ((IntKind.i64.wrap ((IntKind.i64.wrap (z3+y5))+1))+y8)).toNat - (IntKind.i64.wrap ((IntKind.i64.wrap (z3+y5))+1)).toNat))) (IntKind.i64.wrap (0 - y8))))))))else (ua k0 x1 z4 (IntKind.i64.wrap (z3+y5)) ((x1.drop z3.toNat).take ((IntKind.i64.wrap (z3+y5)).toNat - z3.toNat)) 0)
def Ek {R:Type} (k0:cC→Bool→Option R) (x1:af) (z3:Int) (z4:Int) (y5:Int):Option R :=
 bB (decide ((0:Int)≤(IntKind.i64.wrap (z3+y5)))&&decide ((IntKind.i64.wrap (z3+y5))≤x1.length)) (bB (decide ((0:Int)≤z3)&&decide (z3≤(IntKind.i64.wrap (z3+y5)))) (bif (decide ((IntKind.i64.wrap (z3+y5))<(x1.length:Int)))then (bB (decide ((0:Int)≤(IntKind.i64.wrap (z3+y5)))&&decide ((IntKind.i64.wrap (z3+y5))<x1.length)) (vz k0 x1 z3 z4 y5 (((x1.getD ((IntKind.i64.wrap (z3+y5)).toNat) 0).toNat:Int)==46)))else (vz k0 x1 z3 z4 y5 false)))
def o3 {R:Type} (k0:cC→Bool→Option R) (x1:af) (z3:Int) (z4:Int):Option R :=
 cv x1 z3 (fun y5=>bif (y5==0)then (k0 (⟨0,0⟩:cC) false)else (bif (decide (y5>(1:Int)))then (bB (decide ((0:Int)≤z3)&&decide (z3<x1.length)) (bif (((x1.getD z3.toNat 0).toNat:Int)==48)then (k0 (⟨0,0⟩:cC) false)else (Ek k0 x1 z3 z4 y5)))else (Ek k0 x1 z3 z4 y5)))
theorem WS {R:Type} (x1:af) (k0:cC→Bool→Option R):EL cj cv bm bn bc bk x1 k0 =
 bif (decide ((x1.length:Int)>(400:Int)))then (k0 (⟨0,0⟩:cC) false)else (bif (decide ((0:Int)<(x1.length:Int)))then (bB (decide ((0:Int)<x1.length)) (bif (((x1.getD 0 0).toNat:Int)==45)then (o3 k0 x1 1 (-1))else (o3 k0 x1 0 1)))else (o3 k0 x1 0 1)):=rfl
theorem refMake_end {R:Type} (u x:Int) (k:cC→Bool→Option R) :
  (bif (decide (u>(1000000000000000:Int)))then (k (⟨0,0⟩:cC) false)else (bif (decide (u<(-1000000000000000:Int)))then (k (⟨0,0⟩:cC) false)else (bif (decide (x>(9:Int)))then (k (⟨0,0⟩:cC) false)else (bif (decide (x<(-9:Int)))then (k (⟨0,0⟩:cC) false)else (k (⟨u,x⟩:cC) true)))))=k (RZ u x).1 (RZ u x).2:=by
 unfold RZ;by_cases h1:u>1000000000000000
 ·rw[aj h1,if_neg (by omega)]; rfl
 ·rw[aE h1,cond_false];by_cases h2:u < -1000000000000000
  ·rw[aj h2,if_neg (by omega)]; rfl
  ·rw[aE h2,cond_false];by_cases h3:x>9
   ·rw[aj h3,if_neg (by omega)]; rfl
   ·rw[aE h3,cond_false];by_cases h4:x < -9
    ·rw[aj h4,if_neg (by omega)]; rfl
    ·rw[aE h4,cond_false,if_pos (by omega)]
theorem refMake_loop {R:Type} (k:cC→Bool→Option R):∀(j n:Nat) (u x:Int) (d:cC),j<n→Int.tmod u 10≠0→AN (u*10 ^ j)→AN x →
  cZ n (u*10 ^ j) x d (fun y6 y7 y8=>bif (decide (y6>(1000000000000000:Int)))then (k (⟨0,0⟩:cC) false)else (bif (decide (y6<(-1000000000000000:Int)))then (k (⟨0,0⟩:cC) false)else (bif (decide (y7>(9:Int)))then (k (⟨0,0⟩:cC) false)else (bif (decide (y7<(-9:Int)))then (k (⟨0,0⟩:cC) false)else (k (⟨y6,y7⟩:cC) true))))) (fun y9 o5 jf l9=>k l9 jf)=k (RZ u (x+j)).1 (RZ u (x+j)).2:=by
 intro j
 induction j with
 | zero =>
  intro n u x d hn hu hb hx;obtain ⟨m,rfl⟩:∃m,n=m+1:=⟨n - 1,by omega⟩;rw[cZ];unfold xV;have e1:u*10 ^ 0=u:=by simp
  have e2:(Int.tmod u 10==0)=false:=by rw[beq_eq_false_iff_ne]; exact hu
  have e3:x+((0:Nat):Int)=x:=by omega
  rw[e1,e2,cond_false,e3];exact refMake_end u x k
 | succ j ih =>
  intro n u x d hn hu hb hx;obtain ⟨m,rfl⟩:∃m,n=m+1:=⟨n - 1,by omega⟩;rw[cZ];unfold xV;have ep:u*10 ^ (j+1)=u*10 ^ j*10:=by rw[Int.pow_succ,Int.mul_assoc]
  unfold AN at hb hx;rw[ep]at hb ⊢;have e1:(Int.tmod (u*10 ^ j*10) 10==0)=true:=by rw[Int.mul_tmod_left]; rfl
  have e2:Int.tdiv (u*10 ^ j*10) 10=u*10 ^ j:=Int.mul_tdiv_cancel _ (by omega);rw[e1,cond_true,e2,aK (n:=u*10 ^ j) (by omega) (by omega)];by_cases hx2:x>1099511627776
  ·rw[aj hx2,cond_true];unfold RZ;rw[if_neg (by omega)]
  ·rw[aE hx2,cond_false,aK (n:=x+1) (by omega) (by omega)];refine (ih m u (x+1) d (by omega) hu (by unfold AN; omega) (by unfold AN; omega)).trans ?_;have:x+1+(j:Int)=x+((j+1:Nat):Int):=by omega
   rw[this]
theorem Zi {R:Type} (u:Int) (j:Nat) (x:Int) (hu:Int.tmod u 10≠0) (hb:AN (u*10 ^ j)) (hx:AN x) (k:cC→Bool→Option R):cj (u*10 ^ j) x k=k (RZ u (x+j)).1 (RZ u (x+j)).2:=by
 have e:cj (u*10 ^ j) x k=CR cZ (u*10 ^ j) x k:=rfl;rw[e];unfold CR;have hu0:u≠0:=by rintro rfl; exact hu rfl
 have ha:=D9 u j;have h64:=Rw hu0 hb;have h0:(u*10 ^ j==0)=false:=by rw[beq_eq_false_iff_ne]; omega
 rw[h0,cond_false];exact refMake_loop k j _ u x _ (by omega) hu hb hx
theorem TK {R:Type} (x:Int) (k:cC→Bool→Option R):cj 0 x k=k ⟨0,0⟩ true:=by
 have e:cj 0 x k=CR cZ 0 x k:=rfl;rw[e];rfl
theorem take_len (s:af):s.take (takeD s).length=takeD s:=by
 have e:takeD s++gZ s=s:=List.takeWhile_append_dropWhile;have:=List.take_left (l₁:=takeD s) (l₂:=gZ s);rw[e]at this;exact this
theorem Zj (s:af):s.drop (takeD s).length=gZ s:=by
 have e:takeD s++gZ s=s:=List.takeWhile_append_dropWhile;have:=List.drop_left (l₁:=takeD s) (l₂:=gZ s);rw[e]at this;exact this
theorem dig_at (t:af) (j:Nat) (h1:j≤(takeD t).length) (h2:j<t.length):kM (t.getD j 0)↔j<(takeD t).length:=by
 constructor
 ·intro h;rcases Nat.lt_or_ge j (takeD t).length with h3|h3
  ·exact h3
  ·exfalso;have hj:j=(takeD t).length:=by omega
   have hd:gZ t=t.drop j:=by rw[hj,Zj]
   exact drop_dig t _ _ (hd.trans (drop_cons h2)) h
 ·intro h;have e:takeD t++gZ t=t:=List.takeWhile_append_dropWhile;have e2:=IT (s:=takeD t) (t:=gZ t) h;rw[e]at e2;rw[e2];apply xo t;rw[getD_at h];exact List.getElem_mem h
theorem refDig_loop {R:Type} (s:af) (i:Nat) (hs:s.length≤4000000000) (e0:Int→Option R):∀(n j:Nat),(takeD (s.drop i)).length - j<n→j≤(takeD (s.drop i)).length→i≤s.length →
  dd n s (i:Int) (j:Int) e0=e0 ((takeD (s.drop i)).length:Int):=by
 intro n
 induction n with
 | zero=>intro j h; omega
 | succ n ih =>
  intro j h1 h2 h3;rw[dd];unfold Bl;have hl:=GX (s.drop i);rw[List.length_drop]at hl;rw[aK (n:=(i:Int)+(j:Int)) (by omega) (by omega)];by_cases hi:i+j<s.length
  ·have hd:=dig_at (s.drop i) j h2 (by rw[List.length_drop]; omega);rw[HW]at hd;have e1:((i:Int)+(j:Int)).toNat=i+j:=by omega
   rw[aj (show (i:Int)+(j:Int)<(s.length:Int) by omega),cond_true,e1];simp only[aj (show (0:Int)≤(i:Int)+(j:Int) by omega),Bool.and_self,ao rfl];unfold kM at hd;by_cases hj:j<(takeD (s.drop i)).length
   ·have:=hd.2 hj;rw[aj (show ((s.getD (i+j) 0).toNat:Int)≥48 by omega),cond_true,aj (show ((s.getD (i+j) 0).toNat:Int)≤57 by omega),cond_true,aK (n:=(j:Int)+1) (by omega) (by omega)];exact ih (j+1) (by omega) (by omega) h3
   ·have hn:¬(48≤(s.getD (i+j) 0).toNat∧(s.getD (i+j) 0).toNat≤57):=fun h=>hj (hd.1 h)
    have ej:j=(takeD (s.drop i)).length:=by omega
    by_cases g:(48:Int)≤((s.getD (i+j) 0).toNat:Int)
    ·rw[aj (show ((s.getD (i+j) 0).toNat:Int)≥48 from g),cond_true,aE (show ¬((s.getD (i+j) 0).toNat:Int)≤57 by omega),cond_false,←ej]
    ·rw[aE (show ¬((s.getD (i+j) 0).toNat:Int)≥48 from g),cond_false,←ej]
  ·rw[aE (by omega),cond_false];have:j=(takeD (s.drop i)).length:=by omega
   rw[←this]
theorem MO {R:Type} (s:af) (i:Nat) (hs:s.length≤4000000000) (hi:i≤s.length) (k:Int→Option R):cv s (i:Int) k=k ((takeD (s.drop i)).length:Int):=by
 have hl:=GX (s.drop i);rw[List.length_drop]at hl;exact refDig_loop s i hs (fun y=>k y) (List.length s+Int.natAbs (i:Int)+Int.natAbs 0+64) 0 (by omega) (by omega) hi
def Pg:af→af
 | b::c::t=>if b.toNat=48 then Pg (c::t)else b::c::t
 | s=>s
theorem strip0_eq:∀s:af,s ≠ []→(bu s [48] = []∧Pg s = [48])∨(bu s [48] ≠ []∧Pg s=bu s [48])
 | [],h=>(h rfl).elim
 | [b],_=>by
  by_cases hb:b=48
  ·subst hb; exact .inl ⟨rfl,rfl⟩
  ·have:bu [b] [48] = [b]:=by unfold bu; simp[List.dropWhile_cons,hb]
   exact .inr ⟨by rw[this]; simp,by rw[this]; rfl⟩
 | b::c::t,_=>by
  by_cases hb:b=48
  ·subst hb;have e1:Pg (48::c::t)=Pg (c::t):=rfl;have e2:bu (48::c::t) [48]=bu (c::t) [48]:=rfl;rw[e1,e2];exact strip0_eq (c::t) (by simp)
  ·have hn:b.toNat≠48:=fun h=>hb (UInt8.toNat_inj.1 h)
   have:bu (b::c::t) [48]=b::c::t:=by unfold bu; simp[List.dropWhile_cons,hb]
   refine .inr ⟨by rw[this]; simp,?_⟩;rw[this];unfold Pg;rw[if_neg hn]
theorem ref41 {R:Type} (sg x:Int) (d:cC) (e0:Int→af→Int→cC→Option R):∀(n:Nat) (a:af),a.length<n→a.length≤2000 →
  bn n sg a x d e0=e0 sg (Pg a) x d:=by
 intro n
 induction n with
 | zero=>intro a h; omega
 | succ n ih =>
  intro a h hl;rw[bn];unfold Bn
  match a,h,hl with
  | [],_,_=>rfl
  | [b],_,_=>rfl
  | b::c::t,h,hl =>
   simp only[List.length_cons]at h hl;have hlen:(b::c::t:af).length=t.length+2:=rfl;have hg:(b::c::t:af).getD 0 0=b:=rfl;have q48:((b.toNat:Int)==48)=decide (b.toNat=48):=Py _ 48;rw[hlen,hg,q48,aj (show ((t.length+2:Nat):Int)>1 by omega),cond_true,ao (aj (by omega))];unfold Pg;by_cases hb:b.toNat=48
   ·rw[aj hb,cond_true,if_pos hb,ao (by rw[aj (by omega),aj (by omega)]; rfl),ao (aj (by omega))];have e:((b::c::t:af).drop 1).take (((t.length+2:Nat):Int).toNat - 1)=c::t:=by
     rw[Int.toNat_natCast];show (c::t).take (t.length+1)=c::t;exact List.take_length (l:=c::t)
    rw[e];exact ih (c::t) (by simp only[List.length_cons]; omega) (by simp only[List.length_cons]; omega)
   ·rw[aE hb,cond_false,if_neg hb]
theorem getD_last (l:af) (b:UInt8):(l ++ [b]).getD l.length 0=b:=getD_app_at (s:=l) (t := [])
theorem ref43 {R:Type} (sg:Int) (d:cC) (l:af) (b:UInt8) (hb:b≠48) (hl:l.length≤2000) (e0:Int→af→Int→cC→Option R):∀(m n:Nat) (x:Int),m<n→m≤2000 → -4000000000≤x→x+m≤4000000000 →
  bc n sg (l ++ [b]++fm m) x d e0=e0 sg (l ++ [b]) (x+m) d:=by
 intro m
 induction m with
 | zero =>
  intro n x h1 h2 h3 h4;obtain ⟨n,rfl⟩:∃q,n=q+1:=⟨n - 1,by omega⟩;rw[bc];unfold uZ;have e0':l ++ [b]++fm 0=l ++ [b]:=by simp[fm]
  have ex:x+((0:Nat):Int)=x:=by omega
  have hlen:(l ++ [b]).length=l.length+1:=by simp
  rw[e0',ex,hlen,aK (n:=((l.length+1:Nat):Int) - 1) (by omega) (by omega)];have en:(((l.length+1:Nat):Int) - 1).toNat=l.length:=by omega
  rw[en,getD_last];have hn:b.toNat≠48:=fun h=>hb (UInt8.toNat_inj.1 h)
  have q48:((b.toNat:Int)==48)=false:=by rw[beq_eq_false_iff_ne]; omega
  rw[q48,ao (by rw[aj (by omega),aj (by omega)]; rfl)];simp only[cond_false,Bool.cond_self]
 | succ m ih =>
  intro n x h1 h2 h3 h4;obtain ⟨n,rfl⟩:∃q,n=q+1:=⟨n - 1,by omega⟩;rw[bc];unfold uZ;have e1:l ++ [b]++fm (m+1)=(l ++ [b]++fm m) ++ [48]:=by rw[List.append_assoc (l ++ [b]),Ze]
  have hlen:(l ++ [b]++fm (m+1)).length=l.length+1+(m+1):=by rw[List.length_append,List.length_append,jK]; rfl
  have hlen2:(l ++ [b]++fm m).length=l.length+1+m:=by rw[List.length_append,List.length_append,jK]; rfl
  rw[hlen,aK (n:=((l.length+1+(m+1):Nat):Int) - 1) (by omega) (by omega)];have en:(((l.length+1+(m+1):Nat):Int) - 1).toNat=(l ++ [b]++fm m).length:=by omega
  rw[en,e1,getD_last];have q48:(((48:UInt8).toNat:Int)==48)=true:=rfl;rw[q48,aj (show ((l.length+1+(m+1):Nat):Int)>1 by omega),cond_true,ao (by rw[aj (by omega),aj (by omega)]; rfl),cond_true,ao (by rw[aj (by omega),aj (by omega)]; rfl),ao (aj (by omega)),aK (n:=x+1) (by omega) (by omega),List.drop_zero,Nat.sub_zero,List.take_left];refine (ih n (x+1) (by omega) (by omega) (by omega) (by omega)).trans ?_;have:x+1+(m:Int)=x+((m+1:Nat):Int):=by omega
  rw[this]
theorem valD_take (a:af) (j:Nat) (hj:j<a.length):jc (a.take (j+1)) 0=10*jc (a.take j) 0+((a.getD j 0).toNat - 48):=by
 rw[List.take_succ_eq_append_getElem hj,Zf,getD_at hj];rfl
theorem ref50 {R:Type} (sg x:Int) (a:af) (d:cC) (ha:∀c∈a,kM c) (hl:a.length≤17) (e0:Int→Int→Int→cC→Option R):∀(n j:Nat),a.length - j<n→j≤a.length →
  bk n sg a x (jc (a.take j) 0:Int) (j:Int) d e0=e0 sg x (jc a 0:Int) d:=by
 intro n
 induction n with
 | zero=>intro j h; omega
 | succ n ih =>
  intro j h1 h2;rw[bk];unfold Bo;by_cases hj:j<a.length
  ·have hd:=ha (a.getD j 0) (by rw[getD_at hj]; exact List.getElem_mem hj);unfold kM at hd;have hv:=Xj (a.take j) 0 fun c hc=>ha c (List.mem_of_mem_take hc)
   have hp:(10:Nat) ^ (a.take j).length≤10 ^ 16:=Nat.pow_le_pow_right (by omega) (by rw[List.length_take]; omega);have e16:(10:Nat) ^ 16=10000000000000000:=rfl;have w8:=Zb (a:=(a.getD j 0).toNat) (b:=48) hd.1 (by have:=UInt8.toNat_lt (a.getD j 0); omega);have c48:((48:Nat):Int)=48:=rfl;rw[c48]at w8;rw[aj (show (j:Int)<(a.length:Int) by omega),cond_true,ao (by rw[aj (show (0:Int)≤(j:Int) by omega)]; rfl),Int.toNat_natCast,w8,aK (n:=10*(jc (a.take j) 0:Int)) (by omega) (by omega),aK (n:=(((a.getD j 0).toNat - 48:Nat):Int)) (by omega) (by omega),aK (n:=(j:Int)+1) (by omega) (by omega)];have e:=valD_take a j hj
   rw[aK (n:=10*(jc (a.take j) 0:Int)+(((a.getD j 0).toNat - 48:Nat):Int)) (by omega) (by omega)];have e2:10*(jc (a.take j) 0:Int)+(((a.getD j 0).toNat - 48:Nat):Int)=(jc (a.take (j+1)) 0:Int):=by omega
   rw[e2];exact ih (j+1) (by omega) (by omega)
  ·rw[aE (show ¬(j:Int)<(a.length:Int) by omega),cond_false,List.take_of_length_le (by omega)]
theorem Vb {R:Type} (k:cC→Bool→Option R) (s:af) (i:Nat) (sg:Int) (hsg:sg=1∨sg = -1) (all:af) (x:Int) (d:cC) (ha:∀c∈all,kM c) (h0:all ≠ []) (hl:all.length≤900) (hx : -2000000≤x∧x≤2000000) :
  kC k s (i:Int) sg all x d=if i=s.length then k (Li (decide (sg = -1)) all x).1 (Li (decide (sg = -1)) all x).2 else k ⟨0,0⟩ false:=by
 unfold kC;by_cases hi:i=s.length
 ·have e1:((i:Int) != (s.length:Int))=false:=by rw[hi]; simp
  rw[e1,cond_false,if_pos hi,ref41 _ _ _ _ _ _ (by omega) (by omega)];unfold Li;have htl:(bu all [48]).length≤all.length:=vT _ _;rcases strip0_eq all h0 with ⟨t1,t2⟩|⟨t1,t2⟩
  ·rw[t2,t1];have r1:bc (R:=R) (Int.natAbs sg+List.length ([48]:af)+Int.natAbs x+cC.fu d+64) sg [48] x d=fun e0=>e0 sg [48] x d:=by
    funext e0;rw[show Int.natAbs sg+List.length ([48]:af)+Int.natAbs x+cC.fu d+64=(Int.natAbs sg+List.length ([48]:af)+Int.natAbs x+cC.fu d+63)+1 by omega,bc];rfl
   rw[r1];have r2:∀(n:Nat) (h:2≤n) (e0:Int→Int→Int→cC→Option R),bk n sg [48] x 0 0 d e0=e0 sg x 0 d:=fun n h e0=>ref50 sg x [48] d (by intro c hc; simp at hc; subst hc; unfold kM; decide) (by simp) e0 n 0 (by simp; omega) (by simp)
   have hlen:decide (((([48]:af)).length:Int)>17)=false:=rfl;simp only[hlen,cond_false];rw[r2 _ (by omega)];have w0:IntKind.i64.wrap (sg*0)=0:=by rw[Int.mul_zero]; decide
   rw[w0,TK];rfl
  ·rw[t2];obtain ⟨m,hm⟩:=PA (bu all [48]);have im:cM (bu all [48]) [48] ≠ []:=by
    intro e;rw[e,List.nil_append]at hm;cases m with
    | zero=>exact t1 hm
    | succ m=>exact Zg all 48 (fm m) (by rw[hm]; rfl) rfl
   obtain ⟨f1,f2,f3⟩:=Pc all ha im;rw[if_neg im];rcases VS (bu all [48])with e|⟨l,b,e,hb⟩
   ·exact (im e).elim
   generalize cM (bu all [48]) [48]=sh at *;have hlen:(bu all [48]).length=sh.length+m:=by have:=congrArg List.length hm; rw[List.length_append,jK]at this; exact this
   have hsl:sh.length=l.length+1:=by rw[e]; simp
   rw[hm,e,ref43 _ _ l b hb (by omega) _ _ _ _ (by rw[←e,←hm]; omega) (by omega) (by omega) (by omega),←e];have hxx:x+(((sh++fm m).length:Int) - (sh.length:Int))=x+m:=by rw[List.length_append,jK]; omega
   rw[hxx];have hsn:(decide (sg = -1)=true→sg = -1)∧(decide (sg = -1)=false→sg=1):=by
    rcases hsg with h|h <;> subst h <;> decide
   by_cases h17:sh.length≤17
   ·rw[aE (show ¬(sh.length:Int)>17 by omega),cond_false];have key:=ref50 (R:=R) sg (x+m) sh d f1 h17 (fun y70 y71 y72 y73=>cj (IntKind.i64.wrap (y70*y72)) y71 (fun y74 y75=>k y74 y75)) (Int.natAbs sg+List.length sh+Int.natAbs (x+m)+Int.natAbs 0+Int.natAbs 0+cC.fu d+64) 0 (by omega) (by omega);have v0:jc (sh.take 0) 0=0:=rfl;rw[v0]at key;refine key.trans ?_;have hv:=Xj sh 0 f1;have hp:(10:Nat) ^ sh.length≤10 ^ 17:=Nat.pow_le_pow_right (by omega) h17;have e17:(10:Nat) ^ 17=100000000000000000:=rfl;have hm10:Int.tmod (jc sh 0:Int) 10≠0:=by rw[Int.tmod_eq_emod_of_nonneg (by omega)]; omega
    have unit:∀u:Int,Int.tmod u 10≠0→AN u→cj u (x+m) (fun y74 y75=>k y74 y75)=k (RZ u (x+m)).1 (RZ u (x+m)).2:=fun u h1 h2=>by
     have:=Zi (R:=R) u 0 (x+m) h1 (by simpa using h2) (by unfold AN; omega) k;simpa using this
    cases hd:decide (sg = -1)with
    | true =>
     have:=hsn.1 hd;subst this;have en:(-1:Int)*(jc sh 0:Int) = -(jc sh 0:Int):=by omega
     rw[en,aK (by omega) (by omega),if_pos rfl];exact unit _ (tmod_neg hm10) (by unfold AN; omega)
    | false =>
     have:=hsn.2 hd;subst this;rw[Int.one_mul,aK (by omega) (by omega),if_neg (by simp)];exact unit _ hm10 (by unfold AN; omega)
   ·rw[aj (show (sh.length:Int)>17 by omega),cond_true];have hp:(10:Nat) ^ 17≤10 ^ (sh.length - 1):=Nat.pow_le_pow_right (by omega) (by omega);have e17:(10:Nat) ^ 17=100000000000000000:=rfl;rw[mkD_far _ (by split <;> omega)]
 ·have e1:((i:Int) != (s.length:Int))=true:=by rw[bne_iff_ne]; omega
  rw[e1,cond_true,if_neg hi]
theorem getD_take (s:af) (i j:Nat) (hj:j<(takeD (s.drop i)).length):s.getD (i+j) 0=(takeD (s.drop i)).getD j 0:=by
 have e:takeD (s.drop i)++gZ (s.drop i)=s.drop i:=List.takeWhile_append_dropWhile;have e2:=IT (s:=takeD (s.drop i)) (t:=gZ (s.drop i)) hj;rw[e,HW]at e2;exact e2
theorem ref32 {R:Type} (s:af) (i:Nat) (hs:s.length≤4000000000) (hi:i≤s.length) (sg:Int) (all:af) (x:Int) (mi:Bool) (d:cC) (e0:af→Int→Int→Int→af→Int→Bool→Int→cC→Option R):∀(n j:Nat),(takeD (s.drop i)).length - j<n→j≤(takeD (s.drop i)).length →
  bm n s (i:Int) sg ((takeD (s.drop i)).length:Int) all x mi ((min (jc ((takeD (s.drop i)).take j) 0) 100000:Nat):Int) ((i+j:Nat):Int) d e0 =
   e0 s (i:Int) sg ((takeD (s.drop i)).length:Int) all x mi ((min (jc (takeD (s.drop i)) 0) 100000:Nat):Int) d:=by
 intro n
 induction n with
 | zero=>intro j h; omega
 | succ n ih =>
  intro j h1 h2;rw[bm];unfold Bm;have hl:=GX (s.drop i);rw[List.length_drop]at hl;rw[aK (n:=(i:Int)+((takeD (s.drop i)).length:Int)) (by omega) (by omega)];by_cases hj:j<(takeD (s.drop i)).length
  ·have hd:=xo (s.drop i) ((takeD (s.drop i)).getD j 0) (by rw[getD_at hj]; exact List.getElem_mem hj);have hv:=valD_take (takeD (s.drop i)) j hj;have hg:=getD_take s i j hj;unfold kM at hd;rw[aj (show ((i+j:Nat):Int)<(i:Int)+((takeD (s.drop i)).length:Int) by omega),cond_true,ao (by rw[aj (by omega),aj (by omega)]; rfl),Int.toNat_natCast,hg];generalize (takeD (s.drop i)).getD j 0=b at *;have w8:=Zb (a:=b.toNat) (b:=48) hd.1 (by have:=UInt8.toNat_lt b; omega);have c48:((48:Nat):Int)=48:=rfl;rw[c48]at w8;generalize jc ((takeD (s.drop i)).take j) 0=v at *;rw[w8,aK (n:=10*((min v 100000:Nat):Int)) (by omega) (by omega),aK (n:=((b.toNat - 48:Nat):Int)) (by omega) (by omega),aK (n:=((i+j:Nat):Int)+1) (by omega) (by omega),aK (n:=10*((min v 100000:Nat):Int)+((b.toNat - 48:Nat):Int)) (by omega) (by omega)]
   have e1:min (10*((min v 100000:Nat):Int)+((b.toNat - 48:Nat):Int)) 100000=((min (jc ((takeD (s.drop i)).take (j+1)) 0) 100000:Nat):Int):=by rw[hv]; omega
   have e2:((i+j:Nat):Int)+1=((i+(j+1):Nat):Int):=by omega
   rw[e1,e2];exact ih (j+1) (by omega) (by omega)
  ·rw[aE (show ¬((i+j:Nat):Int)<(i:Int)+((takeD (s.drop i)).length:Int) by omega),cond_false,List.take_of_length_le (by omega)]
theorem Xk {u x:Int} (h:x < -9∨9<x):RZ u x=(⟨0,0⟩,false):=by
 unfold RZ;rw[if_neg (by omega)]
theorem finD_clip (neg:Bool) (all:af) (hl:all.length≤900) (x:Int) (hx : -1000≤x∧x≤1000) (v:Nat) (mi:Bool) :
  Li neg all (x+(if mi then -((min v 100000:Nat):Int)else ((min v 100000:Nat):Int)))=Li neg all (x+(if mi then -(min (v:Int) 1000000)else min (v:Int) 1000000)):=by
 by_cases hv:v≤100000
 ·have e:((min v 100000:Nat):Int)=min (v:Int) 1000000:=by omega
  rw[e]
 ·unfold Li;have h1:(bu all [48]).length≤all.length:=vT _ _;obtain ⟨m,hm⟩:=PA (bu all [48]);have hlen:(bu all [48]).length=(cM (bu all [48]) [48]).length+m:=by have:=congrArg List.length hm; rw[List.length_append,jK]at this; exact this
  split
  ·rfl
  ·cases mi with
   | true=>rw[if_pos rfl,if_pos rfl,Xk (by omega),Xk (by omega)]
   | false=>rw[if_neg (show ¬(false=true) by simp),if_neg (show ¬(false=true) by simp),Xk (by omega),Xk (by omega)]
theorem drop_nil {s:af} {i:Nat} (hi:i≤s.length):gZ (s.drop i) = []↔i+(takeD (s.drop i)).length=s.length:=by
 have e:takeD (s.drop i)++gZ (s.drop i)=s.drop i:=List.takeWhile_append_dropWhile;have hl:=congrArg List.length e;rw[List.length_append,List.length_drop]at hl;constructor
 ·intro h; rw[h]at hl; simp at hl; omega
 ·intro h; exact List.eq_nil_of_length_eq_zero (by omega)
def outD {R:Type} (k:cC→Bool→Option R) (r:cC×Bool):Option R:=k r.1 r.2
section
variable {R:Type} (k:cC→Bool→Option R) (s:af) (hs:s.length≤4000000000) (sg:Int) (hsg:sg=1∨sg = -1) (all:af) (x:Int) (ha:∀c∈all,kM c) (h0:all ≠ []) (hl:all.length≤900) (hx : -1000≤x∧x≤0)
include hs hsg ha h0 hl hx
theorem ref38 (i:Nat) (hi:i≤s.length) (mi:Bool):mD k s sg all x (i:Int) mi =
  if takeD (s.drop i) = []then k ⟨0,0⟩ false else if gZ (s.drop i) = []then outD k (Li (decide (sg = -1)) all (x+(if mi then -(min (jc (takeD (s.drop i)) 0:Int) 1000000)else min (jc (takeD (s.drop i)) 0:Int) 1000000)))else k ⟨0,0⟩ false:=by
 unfold mD;have hdl:=GX (s.drop i);rw[List.length_drop]at hdl;rw[MO s i hs hi];by_cases hD:takeD (s.drop i) = []
 ·rw[if_pos hD,hD];rfl
 ·have im:(((takeD (s.drop i)).length:Int)==0)=false:=by
   rw[beq_eq_false_iff_ne];intro h;exact hD (List.eq_nil_of_length_eq_zero (by omega))
  rw[im,cond_false,if_neg hD];have key:=ref32 (R:=R) s i hs hi sg all x mi (⟨0,0⟩:cC) (fun JF NY Nz Qr Md Xe y34 y35 Wg=>bif y34 then (kC k JF (IntKind.i64.wrap (NY+Qr)) Nz Md (IntKind.i64.wrap (Xe+(IntKind.i64.wrap (0 - y35)))) Wg)else (kC k JF (IntKind.i64.wrap (NY+Qr)) Nz Md (IntKind.i64.wrap (Xe+y35)) Wg)) (List.length s+Int.natAbs (i:Int)+Int.natAbs sg+Int.natAbs ((takeD (s.drop i)).length:Int)+List.length all+Int.natAbs x+Int.natAbs 0+Int.natAbs (i:Int)+cC.fu (⟨0,0⟩:cC)+64) 0 (by omega) (by omega);have v0:((min (jc ((takeD (s.drop i)).take 0) 0) 100000:Nat):Int)=0:=rfl;rw[v0,Nat.add_zero]at key
  refine key.trans ?_;have w1:IntKind.i64.wrap ((i:Int)+((takeD (s.drop i)).length:Int))=((i+(takeD (s.drop i)).length:Nat):Int):=by rw[aK (by omega) (by omega)]; omega
  have hclip:=finD_clip (decide (sg = -1)) all hl x (by omega) (jc (takeD (s.drop i)) 0) mi;have hdn:=drop_nil hi;cases mi with
  | true =>
   simp only[cond_true];rw[w1,aK (n:=0 - ((min (jc (takeD (s.drop i)) 0) 100000:Nat):Int)) (by omega) (by omega),aK (n:=x+(0 - ((min (jc (takeD (s.drop i)) 0) 100000:Nat):Int))) (by omega) (by omega),Vb k s _ sg hsg all _ _ ha h0 hl (by omega)];have e1:x+(0 - ((min (jc (takeD (s.drop i)) 0) 100000:Nat):Int))=x+(if true=true then -((min (jc (takeD (s.drop i)) 0) 100000:Nat):Int)else ((min (jc (takeD (s.drop i)) 0) 100000:Nat):Int)):=by rw[if_pos rfl]; omega
   rw[e1,hclip];by_cases hn:gZ (s.drop i) = []
   ·rw[if_pos hn,if_pos (hdn.1 hn)]; rfl
   ·rw[if_neg hn,if_neg (fun h=>hn (hdn.2 h))]
  | false =>
   simp only[cond_false];rw[w1,aK (n:=x+((min (jc (takeD (s.drop i)) 0) 100000:Nat):Int)) (by omega) (by omega),Vb k s _ sg hsg all _ _ ha h0 hl (by omega)];have e1:x+((min (jc (takeD (s.drop i)) 0) 100000:Nat):Int)=x+(if false=true then -((min (jc (takeD (s.drop i)) 0) 100000:Nat):Int)else ((min (jc (takeD (s.drop i)) 0) 100000:Nat):Int)):=by rw[if_neg (by simp)]
   rw[e1,hclip];by_cases hn:gZ (s.drop i) = []
   ·rw[if_pos hn,if_pos (hdn.1 hn)]; rfl
   ·rw[if_neg hn,if_neg (fun h=>hn (hdn.2 h))]
theorem ref39 (i:Nat) (hi:i<s.length):kD k s sg (i:Int) all x true =
  if (J9 (s.drop (i+1))).2.1=false then k ⟨0,0⟩ false else if (J9 (s.drop (i+1))).2.2 = []then outD k (Li (decide (sg = -1)) all (x+(J9 (s.drop (i+1))).1))else k ⟨0,0⟩ false:=by
 unfold kD;have w1:IntKind.i64.wrap ((i:Int)+1)=((i+1:Nat):Int):=by rw[aK (by omega) (by omega)]; omega
 have w2:IntKind.i64.wrap (((i+1:Nat):Int)+1)=((i+1+1:Nat):Int):=by rw[aK (by omega) (by omega)]; omega
 rw[cond_true,w1,w2]
 
 have fin:∀(j:Nat) (mi:Bool) (q1:Nat),j≤s.length→fS [43,45] (s.drop (i+1))=(q1,s.drop j)→(mi=true↔q1=45)→mD k s sg all x (j:Int) mi =
   if (J9 (s.drop (i+1))).2.1=false then k ⟨0,0⟩ false else if (J9 (s.drop (i+1))).2.2 = []then outD k (Li (decide (sg = -1)) all (x+(J9 (s.drop (i+1))).1))else k ⟨0,0⟩ false:=by
  intro j mi q1 hj hq hmi;rw[ref38 k s hs sg hsg all x ha h0 hl hx j hj mi];unfold J9;rw[hq];simp only;by_cases hD:takeD (s.drop j) = []
  ·rw[if_pos hD,hD,if_pos (by rfl)]
  ·have im:(takeD (s.drop j)==([]:af))=false:=by rw[beq_eq_false_iff_ne]; exact hD
   rw[if_neg hD,im,if_neg (show ¬((!false)=false) by decide)];have:(if mi=true then -(min (jc (takeD (s.drop j)) 0:Int) 1000000)else min (jc (takeD (s.drop j)) 0:Int) 1000000)=(if q1=45 then -(min (jc (takeD (s.drop j)) 0:Int) 1000000)else min (jc (takeD (s.drop j)) 0:Int) 1000000):=by
    by_cases h:mi=true
    ·rw[if_pos h,if_pos (hmi.1 h)]
    ·rw[if_neg h,if_neg (fun g=>h (hmi.2 g))]
   rw[this]
 by_cases h1:i+1<s.length
 ·have hd:=drop_cons h1;rw[aj (show ((i+1:Nat):Int)<(s.length:Int) by omega),cond_true,Int.toNat_natCast];simp only[aj (show (0:Int)≤((i+1:Nat):Int) by omega),Bool.and_true,ao rfl];generalize s.getD (i+1) 0=b at *;have q43:((b.toNat:Int)==43)=decide (b.toNat=43):=Py _ 43;have q45:((b.toNat:Int)==45)=decide (b.toNat=45):=Py _ 45;rw[q43,q45];have hg:fS [43,45] (s.drop (i+1))=if ([43,45]:af).contains b then (b.toNat,s.drop (i+1+1))else (0,s.drop (i+1)):=by rw[hd]; rfl
  by_cases g43:b.toNat=43
  ·have hb:b=43:=UInt8.toNat_inj.1 g43;rw[aj g43,cond_true];rw[hb,if_pos (by rfl)]at hg;exact fin _ _ _ (by omega) hg (by rw[hb]; simp)
  ·rw[aE g43,cond_false];by_cases g45:b.toNat=45
   ·have hb:b=45:=UInt8.toNat_inj.1 g45;rw[aj g45,cond_true];rw[hb,if_pos (by rfl)]at hg;exact fin _ _ _ (by omega) hg (by simp)
   ·rw[aE g45,cond_false];have hc:([43,45]:af).contains b=false:=by
     have h1:b≠43:=fun h=>g43 (by rw[h]; rfl)
     have h2:b≠45:=fun h=>g45 (by rw[h]; rfl)
     simp[h1,h2]
    rw[hc,if_neg (by simp)]at hg;exact fin _ _ _ (by omega) hg (by simp)
 ·rw[aE (show ¬((i+1:Nat):Int)<(s.length:Int) by omega),cond_false];refine fin _ _ 0 (by omega) ?_ (by simp);rw[List.drop_of_length_le (by omega)];rfl
theorem ref77 (i:Nat) (hi:i≤s.length):ua k s sg (i:Int) all x=outD k (tailD (decide (sg = -1)) all x (s.drop i)):=by
 unfold ua;have no:kD k s sg (i:Int) all x false=if i=s.length then outD k (Li (decide (sg = -1)) all x)else k ⟨0,0⟩ false:=by
  have e:kD k s sg (i:Int) all x false=kC k s (i:Int) sg all x (⟨0,0⟩:cC):=rfl;rw[e,Vb k s i sg hsg all x _ ha h0 hl (by omega)];rfl
 unfold tailD;by_cases h1:i<s.length
 ·have hd:=drop_cons h1;rw[aj (show (i:Int)<(s.length:Int) by omega),cond_true,Int.toNat_natCast];simp only[aj (show (0:Int)≤(i:Int) by omega),Bool.and_true,ao rfl];have hg:fS [101,69] (s.drop i)=if ([101,69]:af).contains (s.getD i 0)then ((s.getD i 0).toNat,s.drop (i+1))else (0,s.drop i):=by rw[hd]; rfl
  generalize s.getD i 0=b at *;have q1:((b.toNat:Int)==101)=decide (b.toNat=101):=Py _ 101;have q2:((b.toNat:Int)==69)=decide (b.toNat=69):=Py _ 69;rw[q1,q2];have yes:([101,69]:af).contains b=true→b.toNat≠0→kD k s sg (i:Int) all x true=outD k (if (fS [101,69] (s.drop i)).1=0 then (if (fS [101,69] (s.drop i)).2 = []then Li (decide (sg = -1)) all x else noD)
    else if (J9 (fS [101,69] (s.drop i)).2).2.1=false then noD else if (J9 (fS [101,69] (s.drop i)).2).2.2 = []then Li (decide (sg = -1)) all (x+(J9 (fS [101,69] (s.drop i)).2).1)else noD):=by
   intro hc hb;rw[ref39 k s hs sg hsg all x ha h0 hl hx i h1,hg,hc,if_pos rfl];simp only;rw[if_neg hb];split
   ·rfl
   ·split <;> rfl
  by_cases g1:b.toNat=101
  ·have hb:b=101:=UInt8.toNat_inj.1 g1;rw[aj g1,cond_true];exact yes (by rw[hb]; rfl) (by omega)
  ·rw[aE g1,cond_false];by_cases g2:b.toNat=69
   ·have hb:b=69:=UInt8.toNat_inj.1 g2;rw[aj g2];exact yes (by rw[hb]; rfl) (by omega)
   ·rw[aE g2,no,if_neg (by omega)];have hc:([101,69]:af).contains b=false:=by
     have h1:b≠101:=fun h=>g1 (by rw[h]; rfl)
     have h2:b≠69:=fun h=>g2 (by rw[h]; rfl)
     simp[h1,h2]
    rw[hg,hc,if_neg (show ¬(false=true) by simp),if_pos (show ((0:Nat),s.drop i).1=0 from rfl),if_neg (show ¬((0:Nat),s.drop i).2 = [] by rw[hd]; simp)];rfl
 ·have hi2:i=s.length:=by omega
  rw[aE (show ¬(i:Int)<(s.length:Int) by omega),cond_false,no,if_pos hi2,List.drop_of_length_le (by omega)];rfl
end
theorem ref79 {R:Type} (k:cC→Bool→Option R) (s:af) (hs:s.length≤400) (sg:Int) (hsg:sg=1∨sg = -1) (i:Nat) (hi:i≤s.length):o3 k s (i:Int) sg =
  outD k (if takeD (s.drop i) = []then noD else if 1<(takeD (s.drop i)).length∧((takeD (s.drop i)).getD 0 0).toNat=48 then noD
   else if (fS [46] (gZ (s.drop i))).1=0 then tailD (decide (sg = -1)) (takeD (s.drop i)) 0 (fS [46] (gZ (s.drop i))).2
   else if takeD (fS [46] (gZ (s.drop i))).2 = []then noD
   else tailD (decide (sg = -1)) (takeD (s.drop i)++takeD (fS [46] (gZ (s.drop i))).2) (-((takeD (fS [46] (gZ (s.drop i))).2).length:Int)) (gZ (fS [46] (gZ (s.drop i))).2)):=by
 unfold o3;have hdl:=GX (s.drop i);rw[List.length_drop]at hdl;rw[MO s i (by omega) hi];have hI:=xo (s.drop i);have htk:=take_len (s.drop i);have WT:=Zj (s.drop i);have hg0:takeD (s.drop i) ≠ []→s.getD i 0=(takeD (s.drop i)).getD 0 0:=fun h=>by
  have:=getD_take s i 0 (by cases hT:takeD (s.drop i)with|nil=>exact (h hT).elim|cons _ _=>simp);simpa using this
 rw[List.drop_drop]at WT;generalize hIe:takeD (s.drop i)=I at *;by_cases h0:I = []
 ·rw[if_pos h0,h0];rfl
 have Q8:1≤I.length:=by cases I with|nil=>exact (h0 rfl).elim|cons _ _=>simp
 have im:((I.length:Int)==0)=false:=by rw[beq_eq_false_iff_ne]; omega
 rw[im,cond_false,if_neg h0,Int.toNat_natCast,hg0 h0];have q48:(((I.getD 0 0).toNat:Int)==48)=decide ((I.getD 0 0).toNat=48):=Py _ 48;rw[q48,ao (by rw[aj (by omega),aj (by omega)]; rfl)];by_cases h48:1<I.length∧(I.getD 0 0).toNat=48
 ·rw[if_pos h48,aj (show (I.length:Int)>1 by omega),aj h48.2];rfl
 rw[if_neg h48];have cut:∀y:Option R,(bif decide ((I.length:Int)>1)then (bif decide ((I.getD 0 0).toNat=48)then k ⟨0,0⟩ false else y)else y)=y:=fun y=>by
  by_cases h1:1<I.length
  ·rw[aj (show (I.length:Int)>1 by omega),aE (fun h=>h48 ⟨h1,h⟩)]; rfl
  ·rw[aE (show ¬(I.length:Int)>1 by omega)]; rfl
 rw[cut];unfold Ek;have w1:IntKind.i64.wrap ((i:Int)+(I.length:Int))=((i+I.length:Nat):Int):=by rw[aK (by omega) (by omega)]; omega
 rw[w1,ao (by rw[aj (by omega),aj (by omega)]; rfl),ao (by rw[aj (by omega),aj (by omega)]; rfl)];have hsub:((s.drop i).take (((i+I.length:Nat):Int).toNat - i))=I:=by
  rw[Int.toNat_natCast,Nat.add_sub_cancel_left]; exact htk
 have nodot:(fS [46] (gZ (s.drop i))).1=0→(fS [46] (gZ (s.drop i))).2=s.drop (i+I.length)→vz k s (i:Int) sg (I.length:Int) false=outD k (tailD (decide (sg = -1)) I 0 (fS [46] (gZ (s.drop i))).2):=by
  intro g1 g2;have e:vz k s (i:Int) sg (I.length:Int) false=ua k s sg (IntKind.i64.wrap ((i:Int)+(I.length:Int))) ((s.drop i).take ((IntKind.i64.wrap ((i:Int)+(I.length:Int))).toNat - i)) 0:=rfl;rw[e,w1,hsub,g2];exact ref77 k s (by omega) sg hsg I 0 hI h0 (by omega) (by omega) _ (by omega)
 by_cases h1:i+I.length<s.length
 ·have hd:=drop_cons h1;rw[aj (show ((i+I.length:Nat):Int)<(s.length:Int) by omega),cond_true,ao (by rw[aj (show (0:Int)≤((i+I.length:Nat):Int) by omega)]; rfl),Int.toNat_natCast];have q46:(((s.getD (i+I.length) 0).toNat:Int)==46)=decide ((s.getD (i+I.length) 0).toNat=46):=Py _ 46;rw[q46];by_cases g:(s.getD (i+I.length) 0).toNat=46
  ·have hb:s.getD (i+I.length) 0=46:=UInt8.toNat_inj.1 g;have Sp:fS [46] (gZ (s.drop i))=(46,s.drop (i+I.length+1)):=by rw[←WT,hd,hb]; rfl
   rw[aj g,Sp];simp only;rw[if_neg (by omega)];have w2:IntKind.i64.wrap (((i+I.length:Nat):Int)+1)=((i+I.length+1:Nat):Int):=by rw[aK (by omega) (by omega)]; omega
   unfold vz;rw[cond_true,w1,w2,MO s _ (by omega) (by omega)];have hfl:=GX (s.drop (i+I.length+1));rw[List.length_drop]at hfl;have hF:=xo (s.drop (i+I.length+1));have htk2:=take_len (s.drop (i+I.length+1));have hdr2:=Zj (s.drop (i+I.length+1));rw[List.drop_drop]at hdr2;generalize takeD (s.drop (i+I.length+1))=F at *;by_cases hF0:F = []
   ·rw[if_pos hF0,hF0];rfl
   have hne2:((F.length:Int)==0)=false:=by
    rw[beq_eq_false_iff_ne];intro h;exact hF0 (List.eq_nil_of_length_eq_zero (by omega))
   have w3:IntKind.i64.wrap (((i+I.length+1:Nat):Int)+(F.length:Int))=((i+I.length+1+F.length:Nat):Int):=by rw[aK (by omega) (by omega)]; omega
   have hsub2:((s.drop (i+I.length+1)).take (((i+I.length+1+F.length:Nat):Int).toNat - (i+I.length+1)))=F:=by
    rw[Int.toNat_natCast,Nat.add_sub_cancel_left]; exact htk2
   rw[hne2,cond_false,if_neg hF0,w3,ao (by rw[aj (by omega),aj (by omega)]; rfl),ao (by rw[aj (by omega),aj (by omega)]; rfl)];rw[Int.toNat_natCast i,hsub,Int.toNat_natCast (i+I.length+1),hsub2,ao (aj (by omega)),aK (n:=0 - (F.length:Int)) (by omega) (by omega)];have e0:(0:Int) - (F.length:Int) = -(F.length:Int):=by omega
   rw[e0,←hdr2];exact ref77 k s (by omega) sg hsg (I++F) (-(F.length:Int)) (fun c hc=>(List.mem_append.1 hc).elim (hI c) (hF c)) (by simp[h0]) (by rw[List.length_append]; omega) (by omega) _ (by omega)
  ·have hb:([46]:af).contains (s.getD (i+I.length) 0)=false:=by
    have:s.getD (i+I.length) 0≠46:=fun h=>g (by rw[h]; rfl)
    simp only[List.contains_cons,List.contains_nil,Bool.or_false,beq_eq_false_iff_ne];exact this
   have Sp:fS [46] (gZ (s.drop i))=(0,s.drop (i+I.length)):=by
    rw[←WT,hd];show (if ([46]:af).contains (s.getD (i+I.length) 0)then _ else _)=_;rw[hb]; rfl
   rw[aE g,if_pos (by rw[Sp])];exact nodot (by rw[Sp]) (by rw[Sp])
 ·have Sp:fS [46] (gZ (s.drop i))=(0,s.drop (i+I.length)):=by
   rw[←WT,List.drop_of_length_le (by omega)];rfl
  rw[aE (show ¬((i+I.length:Nat):Int)<(s.length:Int) by omega),cond_false,if_pos (by rw[Sp])];exact nodot (by rw[Sp]) (by rw[Sp])
theorem refParse_ok {R:Type} (s:af) (k:cC→Bool→Option R):kB s k=k (qo s).1 (qo s).2:=by
 have e:kB s k=EL cj cv bm bn bc bk s k:=rfl;rw[e,WS];unfold qo;simp only;by_cases h400:400<s.length
 ·rw[aj (show (s.length:Int)>400 by omega),cond_true,if_pos h400];rfl
 rw[aE (show ¬(s.length:Int)>400 by omega),cond_false,if_neg h400];have plain:∀q:Nat×af,q=(0,s)→o3 k s 0 1=k (if takeD q.2 = []then noD else if 1<(takeD q.2).length∧((takeD q.2).getD 0 0).toNat=48 then noD
   else if (fS [46] (gZ q.2)).1=0 then tailD (q.1 != 0) (takeD q.2) 0 (fS [46] (gZ q.2)).2
   else if takeD (fS [46] (gZ q.2)).2 = []then noD
   else tailD (q.1 != 0) (takeD q.2++takeD (fS [46] (gZ q.2)).2) (-((takeD (fS [46] (gZ q.2)).2).length:Int)) (gZ (fS [46] (gZ q.2)).2)).1 (if takeD q.2 = []then noD else if 1<(takeD q.2).length∧((takeD q.2).getD 0 0).toNat=48 then noD
   else if (fS [46] (gZ q.2)).1=0 then tailD (q.1 != 0) (takeD q.2) 0 (fS [46] (gZ q.2)).2
   else if takeD (fS [46] (gZ q.2)).2 = []then noD
   else tailD (q.1 != 0) (takeD q.2++takeD (fS [46] (gZ q.2)).2) (-((takeD (fS [46] (gZ q.2)).2).length:Int)) (gZ (fS [46] (gZ q.2)).2)).2:=by
  rintro q rfl
  exact ref79 k s (by omega) 1 (.inl rfl) 0 (by omega)
 by_cases h1:0<s.length
 ·rw[aj (show (0:Int)<(s.length:Int) by omega),cond_true,ao rfl];have hd:=drop_cons h1;rw[List.drop_zero]at hd;have q45:(((s.getD 0 0).toNat:Int)==45)=decide ((s.getD 0 0).toNat=45):=Py _ 45;rw[q45];by_cases g:(s.getD 0 0).toNat=45
  ·have hb:s.getD 0 0=45:=UInt8.toNat_inj.1 g;have hq:fS [45] s=(45,s.drop 1):=by
    conv=>lhs; rw[hd,hb]
    rfl
   rw[aj g,cond_true,hq];exact ref79 k s (by omega) (-1) (.inr rfl) 1 (by omega)
  ·have hq:fS [45] s=(0,s):=by
    have hc:([45]:af).contains (s.getD 0 0)=false:=by
     have:s.getD 0 0≠45:=fun h=>g (by rw[h]; rfl)
     simp only[List.contains_cons,List.contains_nil,Bool.or_false,beq_eq_false_iff_ne];exact this
    conv=>lhs; rw[hd]
    show (if ([45]:af).contains (s.getD 0 0)then _ else (0,_))=_;rw[hc];simp only[Bool.false_eq_true,if_false];rw[←hd]
   rw[aE g,cond_false];exact plain _ hq
 ·have hn:s = []:=List.eq_nil_of_length_eq_zero (by omega);subst hn;exact plain _ rfl
def fmB (d:cC):Bool:=(d.au==0&&d.exp==0)||(Int.tmod d.au 10 != 0&&(decide (-1000000000000000≤d.au)&&decide (d.au≤1000000000000000)&&(decide (-9≤d.exp)&&decide (d.exp≤9))))
theorem GZ {d:cC}:fmB d=true↔Fm d:=by
 unfold fmB Fm;simp[and_assoc]
theorem right_any {R:Type} (d:cC) (k:Bool→Option R):cT d k=k (fmB d):=by
 have e:cT d k=lJ bl d k:=rfl;rw[e];unfold lJ fmB;by_cases h0:d.au=0
 ·rw[h0];have t0:((0:Int)==0)=true:=rfl;have t1:(Int.tmod 0 10 != 0)=false:=rfl;rw[t0,t1,cond_true,Bool.true_and,Bool.false_and,Bool.or_false]
 ·have e0:(d.au==0)=false:=by rw[beq_eq_false_iff_ne]; exact h0
  rw[e0,cond_false,Bool.false_and,Bool.false_or];cases ht:(Int.tmod d.au 10 != 0)with
  | false=>rfl
  | true =>
   rw[cond_true,Bool.true_and,KI];cases (decide (-1000000000000000≤d.au)&&decide (d.au≤1000000000000000))with
   | false=>rfl
   | true=>rw[cond_true,KI,Bool.true_and]
theorem TL {R:Type} (d:cC) (hm:AN d.au) (he:AN d.exp) (k:Bool→Option R):bY d k=k (fmB d):=by
 have e:bY d k=EE cj d k:=rfl;rw[e];unfold EE;by_cases h0:d.au=0
 ·rw[h0,TK,cond_true];unfold fmB;rw[h0];have t0:((0:Int)==0)=true:=rfl;have t1:(Int.tmod 0 10 != 0)=false:=rfl;rw[t0,t1,Bool.true_and,Bool.false_and,Bool.or_false,Bool.true_and,Bool.and_true];congr 1;rw[Bool.eq_iff_iff];simp only[beq_iff_eq];exact eq_comm
 ·obtain ⟨j,u,hu,hd⟩:=SV (d.au.natAbs+1) d.au h0 (by omega);have hu0:u≠0:=by rintro rfl; exact hd rfl
  rw[hu]at hm;have key:=Zi (R:=R) u j d.exp hd hm he;rw[←hu]at key;rw[key];have e0:(d.au==0)=false:=by rw[beq_eq_false_iff_ne]; exact h0
  unfold fmB;rw[e0,Bool.false_and,Bool.false_or];cases j with
  | zero =>
   have eu:d.au=u:=by rw[hu]; simp
   have ex:d.exp+((0:Nat):Int)=d.exp:=by omega
   have ht:(Int.tmod d.au 10 != 0)=true:=bne_iff_ne.2 (by rw[eu]; exact hd);rw[ex,ht,Bool.true_and,eu];unfold RZ;by_cases h : -1000000000000000≤u∧u≤1000000000000000 ∧ -9≤d.exp∧d.exp≤9
   ·rw[if_pos h,aj h.1,aj h.2.1,aj h.2.2.1,aj h.2.2.2];simp
   ·rw[if_neg h,cond_false];congr 1
    symm
    rw[Bool.eq_false_iff];intro hh;simp only[Bool.and_eq_true,decide_eq_true_eq]at hh;exact h ⟨hh.1.1,hh.1.2,hh.2.1,hh.2.2⟩
  | succ j =>
   have ep:d.au=u*10 ^ j*10:=by rw[hu,Int.pow_succ,Int.mul_assoc]
   have ht:(Int.tmod d.au 10 != 0)=false:=by rw[ep,Int.mul_tmod_left]; rfl
   rw[ht,Bool.false_and];unfold RZ;split
   ·have hab:=D9 u j;have im:(u==d.au)=false:=by rw[beq_eq_false_iff_ne]; omega
    simp only[cond_true];rw[im,Bool.false_and]
   ·rfl
theorem refText_N {R:Type} (k:af→Option R):∀(F n:Nat),n<F→n<1000000000000000000→∀k:af→Option R,jv F (n:Int) k=k (decDigits n):=by
 intro F
 induction F with
 | zero=>intro n h; omega
 | succ F ih =>
  intro n h1 h2 k;have e:jv (F+1) (n:Int) k=GQ (jv F) (n:Int) k:=rfl;rw[e];unfold GQ;have htm:Int.tmod (n:Int) 10=((n % 10:Nat):Int):=by rw[Int.tmod_eq_emod_of_nonneg (by omega)]; omega
  have htd:Int.tdiv (n:Int) 10=((n / 10:Nat):Int):=by rw[Int.tdiv_eq_ediv_of_nonneg (by omega)]; omega
  have w1:IntKind.i64.wrap (48+((n % 10:Nat):Int))=((48+n % 10:Nat):Int):=by rw[aK (by omega) (by omega)]; omega
  have hb:(List.map (fun n:Int=>UInt8.ofNat n.toNat) ([(IntKind.u8.wrap (IntKind.i64.wrap (48+(Int.tmod (n:Int) 10))))]:List Int):af) = [UInt8.ofNat (48+n % 10)]:=by
   rw[htm,w1,wrap8,Nat.mod_eq_of_lt (by omega)];rfl
  rw[hb,htd,aK (n:=((n / 10:Nat):Int)) (by omega) (by omega)];by_cases h:n<10
  ·rw[aE (show ¬(n:Int)≥10 by omega),cond_false,decDigits,dif_pos h,Nat.mod_eq_of_lt h]
  ·rw[aj (show (n:Int)≥10 by omega),cond_true,ih (n / 10) (by omega) (by omega)];have hl:=nDigits_le20 (n / 10) (by omega);rw[←decDigits_length]at hl;rw[ao (aj (by simp only[List.length_cons,List.length_nil]; omega))]
   conv=>rhs; rw[decDigits,dif_neg h]
theorem refText_ok {R:Type} (n:Nat) (h:n<1000000000000000000) (k:af→Option R):fX (n:Int) k=k (decDigits n):=by
 have e:fX (n:Int) k=jv (Int.natAbs (n:Int)+2) (n:Int) k:=rfl;rw[e];exact refText_N k _ n (by omega) h k
theorem refPrint6 {R:Type} (d:cC) (hd:d.exp≤1000) (e0:af→cC→Option R):∀(n i:Nat) (y:af),d.exp.toNat - i<n→y.length≤100000+i→i≤2000 →
  cw n y (i:Int) d e0=e0 (y++fm (d.exp.toNat - i)) d:=by
 intro n
 induction n with
 | zero=>intro i y h; omega
 | succ n ih =>
  intro i y h hy hi;rw[cw];unfold CZ;by_cases jJ:(i:Int)<d.exp
  ·rw[aj jJ,cond_true,ao (aj (by omega)),aK (n:=(i:Int)+1) (by omega) (by omega)];refine (ih (i+1) (y ++ [48]) (by omega) (by simp; omega) (by omega)).trans ?_;have e:d.exp.toNat - i=(d.exp.toNat - (i+1))+1:=by omega
   have e2:([48]:af)++fm (d.exp.toNat - (i+1))=fm (d.exp.toNat - (i+1)+1):=by
    have:=zeros_add 1 (d.exp.toNat - (i+1));rw[Nat.add_comm 1]at this;exact this
   rw[List.append_assoc,e2,←e]
  ·rw[aE jJ,cond_false];have e:d.exp.toNat - i=0:=by omega
   have z0:fm 0 = []:=rfl;rw[e,z0,List.append_nil]
theorem refPrint10 {R:Type} (d:cC) (hd : -1000≤d.exp∧d.exp≤1000) (e0:af→cC→Option R):∀(n:Nat) (y:af),(1 - d.exp - (y.length:Int)).toNat<n→y.length≤100000 →
  ca n y d e0=e0 (fm (1 - d.exp - (y.length:Int)).toNat++y) d:=by
 intro n
 induction n with
 | zero=>intro y h; omega
 | succ n ih =>
  intro y h hy;rw[ca];unfold Be;rw[aK (n:=0 - d.exp) (by omega) (by omega)];by_cases hle:(y.length:Int)≤0 - d.exp
  ·rw[aj hle,cond_true,ao (aj (by omega))];have hl:(([48]:af)++y).length=y.length+1:=by simp
   refine (ih (([48]:af)++y) (by rw[hl]; omega) (by rw[hl]; omega)).trans ?_;rw[hl];have e:(1 - d.exp - (y.length:Int)).toNat=(1 - d.exp - ((y.length+1:Nat):Int)).toNat+1:=by omega
   rw[e,←Ze,List.append_assoc]
  ·rw[aE hle,cond_false];have e:(1 - d.exp - (y.length:Int)).toNat=0:=by omega
   rw[e];rfl
theorem refPrint_ok {R:Type} {d:cC} (hd:Fm d) (k:af→Option R):gI d k=k (Wh d):=by
 have bd:=hd.bounds;have e:gI d k=EG bY fX cw ca d k:=rfl;rw[e];unfold EG;rw[TL d (by unfold AN; omega) (by unfold AN; omega),GZ.2 hd,Bool.not_true,cond_false,aK (n:=0 - d.au) (by omega) (by omega)];have hm:max d.au (0 - d.au)=(d.au.natAbs:Int):=by omega
 have hlen:(decDigits d.au.natAbs).length≤16:=by rw[decDigits_length]; exact SW (by omega)
 rw[hm,refText_ok _ (by omega)];unfold Wh;generalize decDigits d.au.natAbs=L at *;have key:=refPrint6 (R:=R) d (by omega);have c0:((0:Nat):Int)=0:=rfl;have key0:=fun (e0:af→cC→Option R) (F:Nat) (hF:20≤F)=>key e0 F 0 L (by omega) (by omega) (by omega)
 rw[c0]at key0;rw[key0 _ _ (by omega),Nat.sub_zero];by_cases he:d.exp<0
 ·have z0:fm d.exp.toNat = []:=by rw[show d.exp.toNat=0 by omega]; rfl
  rw[aj he,cond_true,z0,List.append_nil,refPrint10 d (by omega) _ _ _ (by omega) (by omega)];unfold body;rw[if_neg (show ¬0≤d.exp by omega)];have ez:(max 0 (1 - d.exp - (L.length:Int))).toNat=(1 - d.exp - (L.length:Int)).toNat:=by omega
  simp only[ez];have hzl:(fm (1 - d.exp - (L.length:Int)).toNat++L).length=(1 - d.exp - (L.length:Int)).toNat+L.length:=by rw[List.length_append,jK]
  generalize fm (1 - d.exp - (L.length:Int)).toNat++L=t at *;have hb:0≤(t.length:Int)+d.exp:=by omega
  rw[aK (n:=(t.length:Int)+d.exp) (by omega) (by omega)];simp only[List.drop_zero,Nat.sub_zero,Int.toNat_natCast];have l1:(t.take ((t.length:Int)+d.exp).toNat).length≤t.length:=by rw[List.length_take]; omega
  have et:(t.drop ((t.length:Int)+d.exp).toNat).take (t.length - ((t.length:Int)+d.exp).toNat)=t.drop ((t.length:Int)+d.exp).toNat:=List.take_of_length_le (by rw[List.length_drop]; exact Nat.le_refl _);have l2:(t.drop ((t.length:Int)+d.exp).toNat).length≤t.length:=by rw[List.length_drop]; omega
  have Wi:∀a b:af,(a++b).length=a.length+b.length:=fun a b=>List.length_append
  have lone:([46]:af).length=1:=rfl;rw[et,ao (by rw[aj hb,aj (by omega)]; rfl),ao (aj hb),ao (aj (by omega)),ao (by rw[aj (by omega),aj (by omega)]; rfl),ao (by rw[aj hb,aj (by omega)]; rfl),ao (aj (by rw[Wi,lone]; omega))];by_cases hn:d.au<0
  ·rw[aj hn,cond_true,if_pos hn,ao (aj (by rw[Wi,Wi,lone]; omega))]
  ·rw[aE hn,cond_false,if_neg hn,List.nil_append]
 ·rw[aE he,cond_false];unfold body;rw[if_pos (show 0≤d.exp by omega)];by_cases hn:d.au<0
  ·rw[aj hn,cond_true,if_pos hn,ao (aj (by rw[List.length_append,jK]; omega))]
  ·rw[aE hn,cond_false,if_neg hn,List.nil_append]
theorem print_bad {R:Type} {d:cC} (hd:fmB d=false) (k:af→Option R):bt d k=k []:=by
 have e:bt d k=qw cT ak ae ai d k:=rfl;rw[e];unfold qw;rw[right_any,hd];rfl
def Am (d:cC):af:=if fmB d then Wh d else []
theorem print_any {R:Type} (d:cC) (k:af→Option R):bt d k=k (Am d):=by
 unfold Am;cases h:fmB d with
 | true=>rw[print_ok (GZ.1 h)]; rfl
 | false=>rw[print_bad h]; rfl
def qi:List af→List af→Bool
 | _, []=>true
 | seen,n::l => !seen.contains n&&fE n&&qi (n::seen) l
mutual
def eH:Json→Int→Bool
 | ⟨k,n,t,ns,is⟩,d=>decide (d≤16)&&(decide (1≤k)&&decide (k≤7))&&(k==4||(n.au==0&&n.exp==0))&&(k==5||t.isEmpty)&&(k==7||ns.isEmpty)&&(k==6||k==7||is.isEmpty) &&
   (if k=4 then fmB n else if k=5 then fE t else if k=7 then decide (ns.length=is.length)&&qi [] ns&&eS is (d+1)else eS is (d+1))
def eS:List Json→Int→Bool
 | [],_=>true
 | x::l,d=>eH x d&&eS l d
end
theorem MP {d:Int}:∀ {l:List Json} {x:Json},eS l d=true→x∈l→eH x d=true
 | y::l,x,h,hx=>by
  simp only[eS,Bool.and_eq_true]at h;rcases List.mem_cons.1 hx with rfl|hx
  ·exact h.1
  ·exact MP h.2 hx
inductive Vc:Json→Int→Prop where
 | name (k:Int) (d:Int) (hd:d≤16) (hk:k=1∨k=2∨k=3):Vc ⟨k,⟨0,0⟩, [], [], []⟩ d
 | num (n:cC) (d:Int) (hd:d≤16) (hn:Fm n):Vc ⟨4,n, [], [], []⟩ d
 | text (t:af) (d:Int) (hd:d≤16) (ht:fE t=true):Vc ⟨5,⟨0,0⟩,t, [], []⟩ d
 | arr (is:List Json) (d:Int) (hd:d≤16) (hi:eS is (d+1)=true):Vc ⟨6,⟨0,0⟩, [], [],is⟩ d
 | obj (ns:List af) (is:List Json) (d:Int) (hd:d≤16) (hl:ns.length=is.length) (hu:qi [] ns=true) (hi:eS is (d+1)=true):Vc ⟨7,⟨0,0⟩, [],ns,is⟩ d
theorem fY {v:Json} {d:Int}:eH v d=true↔Vc v d:=by
 obtain ⟨k,⟨m,e⟩,t,ns,is⟩:=v;constructor
 ·intro h;simp only[eH,Bool.and_eq_true,Bool.or_eq_true,decide_eq_true_eq,beq_iff_eq,List.isEmpty_iff]at h;obtain ⟨⟨⟨⟨⟨⟨hd,hk1,M4⟩,hn⟩,ht⟩,Nu⟩,Ph⟩,hx⟩:=h;have hk:k=1∨k=2∨k=3∨k=4∨k=5∨k=6∨k=7:=by omega
  rcases hk with rfl|rfl|rfl|rfl|rfl|rfl|rfl
  ·simp at hn ht Nu Ph;obtain ⟨rfl,rfl⟩:=hn;subst ht Nu Ph;exact .name 1 d hd (by omega)
  ·simp at hn ht Nu Ph;obtain ⟨rfl,rfl⟩:=hn;subst ht Nu Ph;exact .name 2 d hd (by omega)
  ·simp at hn ht Nu Ph;obtain ⟨rfl,rfl⟩:=hn;subst ht Nu Ph;exact .name 3 d hd (by omega)
  ·simp at ht Nu Ph hx;subst ht Nu Ph;exact .num _ d hd (GZ.1 hx)
  ·simp at hn Nu Ph hx;obtain ⟨rfl,rfl⟩:=hn;subst Nu Ph;exact .text t d hd hx
  ·simp at hn ht Nu hx;obtain ⟨rfl,rfl⟩:=hn;subst ht Nu;exact .arr is d hd hx
  ·simp at hn ht hx;obtain ⟨rfl,rfl⟩:=hn;subst ht;exact .obj ns is d hd hx.1.1 hx.1.2 hx.2
 ·intro h;cases h with
  | name _ _ hd hk=>rcases hk with rfl|rfl|rfl <;> simp[eH,eS,hd]
  | num _ _ hd hn=>simp[eH,hd,GZ.2 hn]
  | text _ _ hd ht=>simp[eH,hd,ht]
  | arr _ _ hd hi=>simp[eH,hd,hi]
  | obj _ _ _ hd hl hu hi=>simp[eH,hd,hl,hu,hi]
def RS (t:af):af:=34::(t.flatMap qb ++ [34])
theorem TM {rs:List Nat} (hr:∀c∈rs,vr c):RS (dV rs)=qt rs:=by unfold RS qt; rw[qb_encL rs hr]
mutual
def dY:Json→af
 | ⟨k,n,t,ns,is⟩=>if k=1 then n9 else if k=2 then jG else if k=3 then sF else if k=4 then Am n else if k=5 then RS t else if k=7 then 123::(hM ns is true ++ [125])else 91::(hZ is true ++ [93])
def hZ:List Json→Bool→af
 | [],_ => []
 | x::l,first=>(if first then []else [44])++(dY x++hZ l false)
def hM:List af→List Json→Bool→af
 | _, [],_ => []
 | ns,x::l,first=>(if first then []else [44])++(RS (ns.headD [])++(58::(dY x++hM ns.tail l false)))
end
def txW (t:af):vy:=([],RS t,⟨2,t,⟨0,0⟩,0⟩)
mutual
def Bp:Json→List vy
 | ⟨k,n,t,ns,is⟩=>if k=1 then [([],n9,⟨4,n9,⟨0,0⟩,0⟩)]else if k=2 then [([],jG,⟨4,jG,⟨0,0⟩,0⟩)]else if k=3 then [([],sF,⟨4,sF,⟨0,0⟩,0⟩)]
   else if k=4 then [([],Am n,⟨3,Am n,n,0⟩)]else if k=5 then [txW t]else if k=7 then sg 123::(nM ns is true ++ [sg 125])else sg 91::(se is true ++ [sg 93])
def se:List Json→Bool→List vy
 | [],_ => []
 | x::l,first=>(if first then []else [sg 44])++(Bp x++se l false)
def nM:List af→List Json→Bool→List vy
 | _, [],_ => []
 | ns,x::l,first=>(if first then []else [sg 44])++(txW (ns.headD [])::sg 58::(Bp x++nM ns.tail l false))
end
mutual
theorem Vd:∀(v:Json) (z:af),Fe (Bp v) z=dY v++z
 | ⟨k,n,t,ns,is⟩,z=>by
  have hL:=Zk is true;have hO:=Zl ns is true;simp only[Bp,dY];split
  ·simp[Fe]
  split
  ·simp[Fe]
  split
  ·simp[Fe]
  split
  ·simp[Fe]
  split
  ·simp[Fe,txW]
  split
  ·simp only[Fe,sg,Ff,hO]; simp[Fe,sg]
  ·simp only[Fe,sg,Ff,hL]; simp[Fe,sg]
theorem Zk:∀(l:List Json) (first:Bool) (z:af),Fe (se l first) z=hZ l first++z
 | [],_,z=>rfl
 | x::l,first,z=>by
  have h1:=Vd x;have h2:=Zk l false;simp only[se,hZ];rw[Ff,Ff,h1,h2];cases first <;> simp[Fe,sg]
theorem Zl:∀(ns:List af) (l:List Json) (first:Bool) (z:af),Fe (nM ns l first) z=hM ns l first++z
 | ns, [],_,z=>by simp[nM,hM,Fe]
 | ns,x::l,first,z=>by
  have h1:=Vd x;have h2:=Zl ns.tail l false;simp only[nM,hM];rw[Ff];simp only[Fe,txW,sg,Ff,h1,h2];cases first <;> simp[Fe,sg]
end
theorem Zm {t:af} (ht:fE t=true) (z:af):okW [txW t] z:=by
 obtain ⟨rs,hr,rfl⟩:=Bv.1 ht;have e:=TM hr;have hw:=word_text hr;refine ⟨by simp[txW],by simp only[txW,e]; exact hw.1,?_,trivial⟩;show tokS (RS (dV rs)++z)=some (⟨2,dV rs,⟨0,0⟩,0⟩,z);have e2:qt rs=34::(S4 rs ++ [34]):=by unfold qt; simp
 have hu:=uqS_qt rs hr z;have e3:qt rs++z=34::(S4 rs ++ [34]++z):=by rw[e2]; rfl
 rw[e,e3];rw[e3]at hu;simp only[tokS];rw[if_neg (by decide),if_pos (by decide),hu]
mutual
theorem Zn:∀(v:Json) (d:Int),eH v d=true→∀z,QT z→okW (Bp v) z
 | ⟨k,n,t,ns,is⟩,d,h,z,hz=>by
  have hL:=words_okL is;have hO:=words_okO ns is;cases fY.1 h with
  | name _ _ hd hk =>
   rcases hk with rfl|rfl|rfl
   ·exact Fg (Hb (.inr (.inr rfl))) hz
   ·exact Fg (Hb (.inr (.inl rfl))) hz
   ·exact Fg (Hb (.inl rfl)) hz
  | num _ _ hd hn =>
   have e:Am n=Wh n:=by unfold Am; rw[GZ.2 hn]; rfl
   show okW [([],Am n,⟨3,Am n,n,0⟩)] z;rw[e];exact Fg (word_num hn) hz
  | text _ _ hd ht=>exact Zm ht z
  | arr _ _ hd hi =>
   show okW ([sg 91]++(se is true ++ [sg 93])) z;rw[Dd,Dd];exact ⟨Fh (by decide) _,hL true (d+1) hi _ (PB (by decide) _),Fh (by decide) _⟩
  | obj _ _ _ hd hl hu hi =>
   show okW ([sg 123]++(nM ns is true ++ [sg 125])) z;rw[Dd,Dd];exact ⟨Fh (by decide) _,hO true (d+1) hi hl [] hu _ (PB (by decide) _),Fh (by decide) _⟩
theorem words_okL:∀(l:List Json) (first:Bool) (d:Int),eS l d=true→∀z,QT z→okW (se l first) z
 | [],_,_,_,_,_=>trivial
 | x::l,first,d,h,z,hz=>by
  simp only[eS,Bool.and_eq_true]at h;have h1:=Zn x d h.1;have h2:=words_okL l false d h.2 z hz;simp only[se];rw[Dd,Dd];refine ⟨?_,h1 _ ?_,h2⟩
  ·cases first
   ·exact Fh (by decide) _
   ·trivial
  ·cases l with
   | nil=>exact hz
   | cons y l =>
    simp only[se];exact PB (c:=44) (by decide) _
theorem words_okO:∀(ns:List af) (l:List Json) (first:Bool) (d:Int),eS l d=true→ns.length=l.length→∀seen,qi seen ns=true→∀z,QT z→okW (nM ns l first) z
 | ns, [],_,_,_,_,_,_,_,_=>by simp[nM,okW]
 | [],_::_,_,_,_,hl,_,_,_,_=>by simp at hl
 | n::ns,x::l,first,d,h,hl,seen,hu,z,hz=>by
  simp only[eS,Bool.and_eq_true]at h;simp only[qi,Bool.and_eq_true]at hu;have h1:=Zn x d h.1;have h2:=words_okO ns l false d h.2 (by simpa using hl) _ hu.2 z hz;simp only[nM,List.headD_cons,List.tail_cons];show okW ((if first=true then []else [sg 44])++([txW n]++([sg 58]++(Bp x++nM ns l false)))) z;rw[Dd,Dd,Dd,Dd];refine ⟨?_,Zm hu.1.2 _,Fh (by decide) _,h1 _ ?_,h2⟩
  ·cases first
   ·exact Fh (by decide) _
   ·trivial
  ·cases l with
   | nil=>simp only[nM,Fe]; exact hz
   | cons y l =>
    simp only[nM];exact PB (c:=44) (by decide) _
end
mutual
def G0:Json→Bool
 | ⟨_,_,t,ns,is⟩=>decide (ns.length≤1099511627776)&&decide (is.length≤1099511627776)&&P8 is&&(decide (t.length≤10000000000)&&ns.all fun n=>decide (n.length≤10000000000))
def P8:List Json→Bool
 | []=>true
 | x::l=>G0 x&&P8 l
end
theorem Fi:∀ {l:List Json} {x:Json},P8 l=true→x∈l→G0 x=true
 | y::l,x,h,hx=>by
  simp only[P8,Bool.and_eq_true]at h;rcases List.mem_cons.1 hx with rfl|hx
  ·exact h.1
  ·exact Fi h.2 hx
theorem rM {v:Json}:G0 v=true↔v.names.length≤1099511627776∧v.items.length≤1099511627776∧P8 v.items=true∧v.text.length≤10000000000∧∀n∈v.names,n.length≤10000000000:=by
 obtain ⟨k,n,t,ns,is⟩:=v;simp[G0,and_assoc]
theorem Ln (a b:af):DI .str a b=(a==b):=rfl
def seenM (m:List (af×Bool)) (n:af):Bool:=ma .str .bool n m
theorem seen_put (m:List (af×Bool)) (a b:af):seenM (B2 .str .bool a true m) b=((b==a)||seenM m b):=by
 induction m with
 | nil =>
  show (bif DI .str b a then true else false)=_;rw[Ln];cases b==a <;> rfl
 | cons e m ih =>
  unfold seenM at ih ⊢;show ma .str .bool b (bif DI .str a e.1 then (a,true)::m else e::B2 .str .bool a true m)=((b==a)||(bif DI .str b e.1 then e.2 else ma .str .bool b m));rw[Ln,Ln];by_cases h1:a=e.1
  ·have h1':(a==e.1)=true:=by simpa using h1
   rw[h1',cond_true];show (bif DI .str b a then true else ma .str .bool b m)=_;rw[Ln,←h1];cases b==a <;> rfl
  ·have h1':(a==e.1)=false:=by simpa using h1
   rw[h1',cond_false];show (bif DI .str b e.1 then e.2 else ma .str .bool b (B2 .str .bool a true m))=_;rw[Ln,ih];by_cases h2:b=a
   ·have h3:(b==e.1)=false:=by rw[h2]; exact h1'
    rw[h3];rfl
   ·have h3:(b==a)=false:=by simpa using h2
    rw[h3];rfl
theorem unique_loop {R:Type} (ns:List af) (hl:ns.length≤1099511627776) (k:Bool→Option R):∀(F i:Nat) (m:List (af×Bool)) (seen:List af),i≤ns.length→ns.length - i<F→(∀n,seenM m n=seen.contains n) →
  dx F ns (ns.length:Int) (i:Int) m (k true) k=k (qi seen (ns.drop i)):=by
 intro F
 induction F with
 | zero=>intro i m seen _ h; omega
 | succ F ih =>
  intro i m seen hi hF hm;show vV bM (fun x0 x1 x2 x3=>dx F x0 x1 x2 x3 (k true) k) ns (ns.length:Int) (i:Int) m (k true) k=_;unfold vV;by_cases h:i<ns.length
  ·have h1:decide ((i:Int)<(ns.length:Int))=true:=by simp; omega
   have h2:(decide ((0:Int)≤(i:Int))&&true)=true:=by simp
   have hw:IntKind.i64.wrap ((i:Int)+1)=((i+1:Nat):Int):=by rw[aK (by omega) (by omega)]; omega
   have hg:ns.getD (i:Int).toNat (Ty.br .str)=ns[i]:=getD_at h _;have hsn:ma .str .bool ns[i] m=seen.contains ns[i]:=hm ns[i];rw[h1,cond_true,ao h2,hg,hsn,hw,whole_eq,List.drop_eq_getElem_cons h];simp only[qi];cases seen.contains ns[i]with
   | true=>rfl
   | false =>
    cases fE ns[i]with
    | false=>rfl
    | true =>
     simp only[cond_false,Bool.not_true,Bool.not_false,Bool.true_and];refine ih (i+1) _ (ns[i]::seen) (by omega) (by omega) fun n => ?_
     rw[seen_put,hm];simp only[List.contains_cons]
  ·have h1:decide ((i:Int)<(ns.length:Int))=false:=by simp; omega
   rw[h1,cond_false,List.drop_eq_nil_of_le (by omega)];rfl
theorem unique_any {R:Type} (ns:List af) (hl:ns.length≤1099511627776) (k:Bool→Option R):lK ns k=k (qi [] ns):=by
 have:=unique_loop ns hl k (List.length ns+Int.natAbs (ns.length:Int)+Int.natAbs 0+List.length ([]:List (af×Bool))+64) 0 [] [] (by omega) (by omega) fun n=>rfl
 rw[List.drop_zero]at this;exact this
theorem rightL_loop {R:Type} (f:dj R) (is:List Json) (hl:is.length≤1099511627776) (d:Int) (hd:0≤d∧d≤16) (hf:∀x∈is,∀k:Bool→Option R,f x (d+1) k=k (eH x (d+1))) (k:Bool→Int→Option R):∀(F i:Nat),i≤is.length→is.length - i<F →
  aU f F is (is.length:Int) (i:Int) d (fun y=>k (decide ((-1:Int)≥0)) y) (fun x y=>k (decide (x≥0)) y)=k (!eS (is.drop i) (d+1)) d:=by
 intro F
 induction F with
 | zero=>intro i _ h; omega
 | succ F ih =>
  intro i hi hF;show gM (dk f) (fun x0 x1 x2 x3=>aU f F x0 x1 x2 x3 _ _) is (is.length:Int) (i:Int) d _ _=_;unfold gM;by_cases h:i<is.length
  ·have h1:decide ((i:Int)<(is.length:Int))=true:=by simp; omega
   have h2:(decide ((0:Int)≤(i:Int))&&true)=true:=by simp
   have hw:IntKind.i64.wrap ((i:Int)+1)=((i+1:Nat):Int):=by rw[aK (by omega) (by omega)]; omega
   have hwd:IntKind.i64.wrap (d+1)=d+1:=aK (by omega) (by omega);have hg:is.getD (i:Int).toNat (Ty.br .json)=is[i]:=getD_at h _;have hj:(decide ((i:Int)≥0))=true:=by simp
   have he:∀(x:Json) (q:Bool→Int→Option R),dk f x d q=f x (IntKind.i64.wrap (d+1)) fun y=>q (!y) d:=fun x q=>by
    show sM f x d q=_;unfold sM;simp only[Json.eta]
   rw[h1,cond_true,ao h2,hg,Json.eta,he,hwd,hf _ (List.getElem_mem h),List.drop_eq_getElem_cons h];simp only[eS];cases eH is[i] (d+1)with
   | false=>simp only[Bool.not_false,cond_true,Bool.false_and,hj]
   | true =>
    simp only[Bool.not_true,cond_false,Bool.true_and];rw[hw];exact ih (i+1) (by omega) (by omega)
  ·have h1:decide ((i:Int)<(is.length:Int))=false:=by simp; omega
   rw[h1,cond_false,List.drop_eq_nil_of_le (by omega)];rfl
theorem containsFunc {R:Type} (f:dj R) (is:List Json) (hl:is.length≤1099511627776) (d:Int) (hd:0≤d∧d≤16) (hf:∀x∈is,∀k:Bool→Option R,f x (d+1) k=k (eH x (d+1))) (k:Bool→Int→Option R) :
  aT f is d k=k (!eS is (d+1)) d:=by
 have:=rightL_loop f is hl d hd hf k (List.length is+Int.natAbs (is.length:Int)+Int.natAbs 0+Int.natAbs d+64) 0 (by omega) (by omega);rw[List.drop_zero]at this;exact this
theorem jdepthL_mem {l:List Json} {y:Json} (h:y∈l):y.depth≤Json.Hn l:=by
 induction l with
 | nil=>cases h
 | cons a l ih =>
  simp only[Json.Hn];rcases List.mem_cons.1 h with rfl|h
  ·exact Nat.le_max_left _ _
  ·exact Nat.le_trans (ih h) (Nat.le_max_right _ _)
theorem jdepth_eq (x:Json):x.depth=Json.Hn x.items+1:=by cases x; simp[Json.depth]
theorem BH {x y:Json} (h:y∈x.items):y.depth<x.depth:=by rw[jdepth_eq x]; exact Nat.lt_succ_of_le (jdepthL_mem h)
theorem bare_eq {R:Type} (k n1 n2:Int) (t:af) (ns:List af) (is:List Json) (q:Json→Option R):sV ⟨k,⟨n1,n2⟩,t,ns,is⟩ q =
  q ⟨k,if k=4 then ⟨0,0⟩else ⟨n1,n2⟩,if k=5 then []else t,if k=7 then []else ns,if k=6∨k=7 then []else is⟩:=by
 show IW _ q=_;unfold IW;simp only;by_cases h4:k=4
 ·subst h4; rfl
 by_cases h5:k=5
 ·subst h5; rfl
 by_cases h7:k=7
 ·subst h7; rfl
 by_cases h6:k=6
 ·subst h6; rfl
 have e4:(k==4)=false:=by simpa using h4
 have e5:(k==5)=false:=by simpa using h5
 have e6:(k==6)=false:=by simpa using h6
 have e7:(k==7)=false:=by simpa using h7
 rw[e4,e5,e6,e7];simp[h4,h5,h6,h7]
theorem chain {R:Type} (k:Bool→Option R) {a b c:Bool} {x:Option R} {r:Bool} (hx:a=true→b=true→c=false→x=k r) (hr:(a=true∧b=true∧c=false)∨r=false) :
  (bif !a then k false else (bif !b then k false else (bif c then k false else x)))=k r:=by
 cases a with
 | false =>
  rcases hr with ⟨h,_⟩|rfl
  ·cases h
  ·rfl
 | true =>
  cases b with
  | false =>
   rcases hr with ⟨_,h,_⟩|rfl
   ·cases h
   ·rfl
  | true =>
   cases c with
   | true =>
    rcases hr with ⟨_,_,h⟩|rfl
    ·cases h
    ·rfl
   | false=>exact hx rfl rfl rfl
theorem right_N {R:Type}:∀(n:Nat) (v:Json) (d:Int),G0 v=true→v.depth<n→0≤d→d≤17→∀k:Bool→Option R,fx n v d k=k (eH v d):=by
 intro n
 induction n with
 | zero=>intro v d _ h; omega
 | succ n ih =>
  intro v d hv hn hd0 hd1 k;obtain ⟨Nu,Ph,hil,_⟩:=rM.1 hv;have he:fx (n+1) v d k=Gx bM cT sV lK (aT (fx n)) v d k:=rfl;rw[he];have hcf:d≤16→∀q:Bool→Int→Option R,aT (fx n) v.items d q=q (!eS v.items (d+1)) d:=fun ZU q =>
   containsFunc _ _ Ph d ⟨hd0,ZU⟩ (fun x hx k=>ih x (d+1) (Fi hil hx) (by have:=BH hx; omega) (by omega) (by omega) k) q
  obtain ⟨kd,⟨n1,n2⟩,t,ns,is⟩:=v;unfold Gx;simp only at Nu Ph hcf ⊢;rw[bare_eq];simp only;by_cases ZU:d≤16;rotate_left
  ·have e1:decide (d>16)=true:=by simp; omega
   rw[e1,cond_true];simp[eH,ZU]
  have e1:decide (d>16)=false:=by simp; omega
  rw[e1,cond_false];by_cases hk1:kd<1
  ·have e2:decide (kd<1)=true:=by simpa using hk1
   have:¬1≤kd:=by omega
   rw[e2,cond_true];simp[eH,this]
  have e2:decide (kd<1)=false:=by simpa using hk1
  rw[e2,cond_false];by_cases hk7:kd>7
  ·have e3:decide (kd>7)=true:=by simpa using hk7
   have:¬kd≤7:=by omega
   rw[e3,cond_true];simp[eH,this]
  have e3:decide (kd>7)=false:=by simpa using hk7
  rw[e3,cond_false];have hk:kd=1∨kd=2∨kd=3∨kd=4∨kd=5∨kd=6∨kd=7:=by omega
  have hsum:∀a b:Nat,a≤1099511627776→b≤1099511627776→decide (IntKind.i64.wrap ((a:Int)+(b:Int))>0) = !(a==0&&b==0):=by
   intro a b ha hb;rw[aK (by omega) (by omega)];rw[Bool.eq_iff_iff,decide_eq_true_eq];simp only[Bool.not_eq_true',Bool.and_eq_false_iff,beq_eq_false_iff_ne];omega
  have hie:∀l:List af,(l.length==0)=l.isEmpty:=fun l=>by cases l <;> rfl
  have hje:∀l:List Json,(l.length==0)=l.isEmpty:=fun l=>by cases l <;> rfl
  have hte:∀l:af,(l==([]:af))=l.isEmpty:=fun l=>by cases l <;> rfl
  have DS:∀d:Int,eS [] d=true:=fun _=>rfl
  have hnum:∀a b:Int,((a==0)&&((b==0)&&true))=(a==0&&b==0):=fun a b=>by cases a==0 <;> cases b==0 <;> rfl
  have hcf0:∀q:Bool→Int→Option R,is.isEmpty=true→aT (fx n) is d q=q false d:=fun q h=>by
   rw[hcf ZU];obtain rfl:is = []:=List.isEmpty_iff.1 h;rfl
  have hbool:∀a b c:Bool,(a=true∧b=true∧(!c)=false)∨((a&&b)&&c)=false:=by decide
  have hb4:∀b c q:Bool,(true=true∧b=true∧(!c)=false)∨((b&&c)&&q)=false:=by decide
  have hb5:∀a c q:Bool,(a=true∧true=true∧(!c)=false)∨((a&&c)&&q)=false:=by decide
  have hb6:∀a b c q:Bool,(a=true∧b=true∧(!c)=false)∨(((a&&b)&&c)&&q)=false:=by decide
  have hb7:∀a b q:Bool,(a=true∧b=true∧false=false)∨((a&&b)&&q)=false:=by decide
  rcases hk with rfl|rfl|rfl|rfl|rfl|rfl|rfl
  ·have hr:eH ⟨1,⟨n1,n2⟩,t,ns,is⟩ d=(((n1==0&&n2==0)&&t.isEmpty)&&(ns.isEmpty&&is.isEmpty)):=by
    cases is <;> simp[eH,eS,ZU]
   simp only[Int.reduceEq,if_false,or_self,hnum];rw[hsum _ _ Nu Ph,hie,hje,hte,hr];refine chain k (fun h1 h2 h3 => ?_) (hbool _ _ _);have h4:ns.isEmpty=true∧is.isEmpty=true:=by simpa using h3
   rw[h1,h2,h4.1,h4.2];show aT (fx n) is d (fun DN xy=>k (!DN))=k true;exact hcf0 _ h4.2
  ·have hr:eH ⟨2,⟨n1,n2⟩,t,ns,is⟩ d=(((n1==0&&n2==0)&&t.isEmpty)&&(ns.isEmpty&&is.isEmpty)):=by
    cases is <;> simp[eH,eS,ZU]
   simp only[Int.reduceEq,if_false,or_self,hnum];rw[hsum _ _ Nu Ph,hie,hje,hte,hr];refine chain k (fun h1 h2 h3 => ?_) (hbool _ _ _);have h4:ns.isEmpty=true∧is.isEmpty=true:=by simpa using h3
   rw[h1,h2,h4.1,h4.2];show aT (fx n) is d (fun DN xy=>k (!DN))=k true;exact hcf0 _ h4.2
  ·have hr:eH ⟨3,⟨n1,n2⟩,t,ns,is⟩ d=(((n1==0&&n2==0)&&t.isEmpty)&&(ns.isEmpty&&is.isEmpty)):=by
    cases is <;> simp[eH,eS,ZU]
   simp only[Int.reduceEq,if_false,or_self,hnum];rw[hsum _ _ Nu Ph,hie,hje,hte,hr];refine chain k (fun h1 h2 h3 => ?_) (hbool _ _ _);have h4:ns.isEmpty=true∧is.isEmpty=true:=by simpa using h3
   rw[h1,h2,h4.1,h4.2];show aT (fx n) is d (fun DN xy=>k (!DN))=k true;exact hcf0 _ h4.2
  ·have hr:eH ⟨4,⟨n1,n2⟩,t,ns,is⟩ d=((t.isEmpty&&(ns.isEmpty&&is.isEmpty))&&fmB ⟨n1,n2⟩):=by
    simp[eH,ZU,Bool.and_assoc]
   simp only[Int.reduceEq,if_false,if_true,or_self];rw[hsum _ _ Nu Ph,hie,hje,hte,hr];refine chain k (a:=true) (b:=t.isEmpty) (c := !(ns.isEmpty&&is.isEmpty)) (fun h1 h2 h3 => ?_) (hb4 _ _ _);have h4:ns.isEmpty=true∧is.isEmpty=true:=by simpa using h3
   rw[h2,h4.1,h4.2];exact right_any _ _
  ·have hr:eH ⟨5,⟨n1,n2⟩,t,ns,is⟩ d=(((n1==0&&n2==0)&&(ns.isEmpty&&is.isEmpty))&&fE t):=by
    simp[eH,ZU,Bool.and_assoc]
   simp only[Int.reduceEq,if_false,if_true,or_self,hnum];rw[hsum _ _ Nu Ph,hie,hje,hr];refine chain k (a:=(n1==0&&n2==0)) (b:=true) (c := !(ns.isEmpty&&is.isEmpty)) (fun h1 h2 h3 => ?_) (hb5 _ _ _);have h4:ns.isEmpty=true∧is.isEmpty=true:=by simpa using h3
   rw[h1,h4.1,h4.2];exact whole_eq _ _
  ·have hr:eH ⟨6,⟨n1,n2⟩,t,ns,is⟩ d=((((n1==0&&n2==0)&&t.isEmpty)&&ns.isEmpty)&&eS is (d+1)):=by
    simp[eH,ZU,Bool.and_assoc]
   simp only[Int.reduceEq,if_false,if_true,true_or,hnum];have hs2:=hsum ns.length 0 Nu (by omega);have hq:((0:Nat)==0)=true:=rfl;rw[hq,Bool.and_true,hie]at hs2;rw[List.length_nil,hs2,hte,hr];refine chain k (a:=(n1==0&&n2==0)) (b:=t.isEmpty) (c := !ns.isEmpty) (fun h1 h2 h3 => ?_) (hb6 _ _ _ _);have h4:ns.isEmpty=true:=by simpa using h3
   rw[h1,h2,h4];show aT (fx n) is d (fun DN xy=>k (!DN))=k (eS is (d+1));rw[hcf ZU,Bool.not_not]
  ·have hr:eH ⟨7,⟨n1,n2⟩,t,ns,is⟩ d=(((n1==0&&n2==0)&&t.isEmpty)&&(decide (ns.length=is.length)&&qi [] ns&&eS is (d+1))):=by
    simp[eH,ZU,Bool.and_assoc]
   simp only[Int.reduceEq,if_false,if_true,or_true,hnum];have hs2:=hsum 0 0 (by omega) (by omega);rw[List.length_nil,List.length_nil,hs2,hte,hr];refine chain k (a:=(n1==0&&n2==0)) (b:=t.isEmpty) (c:=false) (fun h1 h2 h3 => ?_) (hb7 _ _ _);rw[h1,h2];show (bif ((ns.length:Int) != (is.length:Int))then k false else lK ns (fun y7=>bif !y7 then k false else aT (fx n) is d (fun jf l9=>k (!jf))))=_;by_cases hl:ns.length=is.length
   ·have e9:((ns.length:Int) != (is.length:Int))=false:=by rw[hl]; simp
    rw[e9,cond_false,unique_any ns Nu,hcf ZU,Bool.not_not];cases qi [] ns <;> simp[hl]
   ·have e9:((ns.length:Int) != (is.length:Int))=true:=by simp; omega
    rw[e9,cond_true];simp[hl]
theorem MQ {R:Type} (v:Json) (hv:G0 v=true) (k:Bool→Option R):cW v k=k (eH v 1):=by
 have e:cW v k=Gz o9 v k:=rfl;rw[e];unfold Gz;simp only[Json.eta];exact right_N (v.depth+2) v 1 hv (by omega) (by omega) (by omega) k
theorem yd (p:UInt8→Bool) (s:af):(s.takeWhile p).length+(s.dropWhile p).length=s.length:=by
 have:=congrArg List.length (List.takeWhile_append_dropWhile (p:=p) (l:=s));rwa [List.length_append]at this
theorem take_tw (p:UInt8→Bool) (s:af):s.take (s.takeWhile p).length=s.takeWhile p:=by
 have:=List.take_left (l₁:=s.takeWhile p) (l₂:=s.dropWhile p);rwa [List.takeWhile_append_dropWhile]at this
theorem drop_tw (p:UInt8→Bool) (s:af):s.drop (s.takeWhile p).length=s.dropWhile p:=by
 have:=List.drop_left (l₁:=s.takeWhile p) (l₂:=s.dropWhile p);rwa [List.takeWhile_append_dropWhile]at this
theorem Zo {R:Type} (s cs:af) (hs:s.length≤4000000000) (h1:yk cs=true) (h2:cs.length<4294967281) (k:af→Option R):cV s cs k=k (s.takeWhile (cs.contains ·)):=by
 have e:cV s cs k=EA s cs k:=rfl;rw[e];unfold EA;have hl:=yd (cs.contains ·) s;have ht:(bu s cs).length=(s.dropWhile (cs.contains ·)).length:=rfl;have hw:IntKind.i64.wrap ((s.length:Int) - ((bu s cs).length:Int))=((s.takeWhile (cs.contains ·)).length:Int):=by rw[ht,aK (by omega) (by omega)]; omega
 rw[hw,h1,ao (by rw[aj h2]; rfl),ao (by rw[aj (by omega),aj (by omega)]; rfl),ao (aj (by omega)),List.drop_zero,Nat.sub_zero,Int.toNat_natCast,take_tw]
theorem sign_has (c:UInt8):decide (Et sigS (c.toNat:Int)≥0)=Lj c:=by
 have hi:Et sigS (c.toNat:Int)=Go.Lib.indexByte sigS c:=by
  unfold Et;rw[Int.toNat_natCast];simp
 have h:=Xi c sigS;rw[hi];unfold Lj;cases hc:sigS.contains c with
 | true =>
  apply aj;have:¬Go.Lib.indexByte sigS c<0:=fun g=>by rw[h.1 g]at hc; cases hc
  omega
 | false =>
  apply aE;have:=h.2 hc;omega
theorem next_ok {R:Type} (s:af) (hs:s.length≤4000000000) (h0:s ≠ []) (k:Token→Int→Option R) :
  iq s k=match tokS s with|some (t,r)=>k t ((s.length - r.length:Nat):Int)|none=>k ⟨0, [],⟨0,0⟩,0⟩ 0:=by
 have e:iq s k=GF gm eK cV s k:=rfl;rw[e];unfold GF;cases s with
 | nil=>exact (h0 rfl).elim
 | cons c u =>
  have hlen:(c::u:af).length=u.length+1:=rfl;have hg:(c::u:af).getD 0 0=c:=rfl;simp only[List.length_cons]at hs;rw[hg,ao (aj (by rw[hlen]; omega))];simp only;have q45:((c.toNat:Int)==45)=decide (c.toNat=45):=Py _ 45;have q34:((c.toNat:Int)==34)=decide (c.toNat=34):=Py _ 34;have l48:decide ((c.toNat:Int)≥48)=decide (48≤c.toNat):=by
   by_cases h:48≤c.toNat
   ·rw[aj h,aj (by omega)]
   ·rw[aE h,aE (by omega)]
  have l57:decide ((c.toNat:Int)≤57)=decide (c.toNat≤57):=by
   by_cases h:c.toNat≤57
   ·rw[aj h,aj (by omega)]
   ·rw[aE h,aE (by omega)]
  have hsg:decide (Et ([123,125,91,93,44,58]:af) (c.toNat:Int)≥0)=Lj c:=sign_has c;have jJ:∀p:UInt8→Bool,((c::u).takeWhile p).length≤(c::u).length:=fun p=>by have:=yd p (c::u); omega
  have num:∀k:Token→Int→Option R,cV (c::u) ([48,49,50,51,52,53,54,55,56,57,43,45,46,101,69]:af) (fun y6=>eK y6 (fun y7 y8=>bif (!y8)then (k (⟨0,([]:af),⟨0,0⟩,0⟩:Token) 0)else (k (⟨3,y6,⟨y7.au,y7.exp⟩,0⟩:Token) (y6.length:Int)))) =
    (if (qo ((c::u).takeWhile sd)).2 then k ⟨3,(c::u).takeWhile sd,(qo ((c::u).takeWhile sd)).1,0⟩ (((c::u).length - ((c::u).dropWhile sd).length:Nat):Int)else k ⟨0, [],⟨0,0⟩,0⟩ 0):=fun k=>by
   rw[Zo _ _ (by rw[hlen]; omega) rfl (by decide)];have e:(c::u).takeWhile (fun x=>List.contains [48,49,50,51,52,53,54,55,56,57,43,45,46,101,69] x)=(c::u).takeWhile sd:=rfl;have hl:=jJ sd;have hd:=yd sd (c::u);rw[e,parse_any _ (by omega)];have el:(c::u).length - ((c::u).dropWhile sd).length=((c::u).takeWhile sd).length:=by omega
   rw[el];cases (qo ((c::u).takeWhile sd)).2 <;> rfl
  have txt:∀k:Token→Int→Option R,gm (c::u) (fun yI Fp KD=>bif (!KD)then (k (⟨0,([]:af),⟨0,0⟩,0⟩:Token) 0)else (k (⟨2,yI,⟨0,0⟩,0⟩:Token) Fp)) =
    match uqS (c::u)with|some (o,r)=>k ⟨2,o,⟨0,0⟩,0⟩ (((c::u).length - r.length:Nat):Int)|none=>k ⟨0, [],⟨0,0⟩,0⟩ 0:=fun k=>by
   rw[unquote_ok _ (by rw[hlen]; omega)];cases hu:uqS (c::u)with
   | none=>rfl
   | some p =>
    obtain ⟨o,r⟩:=p;obtain ⟨_,hr,_⟩:=uqS_sfx hu;simp only[Bool.not_true,cond_false];rw[aK (by omega) (by omega)];congr 1;omega
  have nam:∀k:Token→Int→Option R,cV (c::u) ([97,98,99,100,101,102,103,104,105,106,107,108,109,110,111,112,113,114,115,116,117,118,119,120,121,122]:af) (fun D7=>bif (D7==([116,114,117,101]:af))then (k (⟨4,D7,⟨0,0⟩,0⟩:Token) (D7.length:Int))else (bif (D7==([102,97,108,115,101]:af))then (k (⟨4,D7,⟨0,0⟩,0⟩:Token) (D7.length:Int))else (bif (!(D7==([110,117,108,108]:af)))then (k (⟨0,([]:af),⟨0,0⟩,0⟩:Token) 0)else (k (⟨4,D7,⟨0,0⟩,0⟩:Token) (D7.length:Int))))) =
    (if (c::u).takeWhile oy=sF∨(c::u).takeWhile oy=jG∨(c::u).takeWhile oy=n9 then k ⟨4,(c::u).takeWhile oy,⟨0,0⟩,0⟩ (((c::u).length - ((c::u).dropWhile oy).length:Nat):Int)else k ⟨0, [],⟨0,0⟩,0⟩ 0):=fun k=>by
   rw[Zo _ _ (by rw[hlen]; omega) rfl (by decide)];have e:(c::u).takeWhile (fun x=>List.contains [97,98,99,100,101,102,103,104,105,106,107,108,109,110,111,112,113,114,115,116,117,118,119,120,121,122] x)=(c::u).takeWhile oy:=rfl;have hd:=yd oy (c::u);have el:(c::u).length - ((c::u).dropWhile oy).length=((c::u).takeWhile oy).length:=by omega
   rw[e,el];generalize (c::u).takeWhile oy=w;have eq:∀a:af,(w==a)=decide (w=a):=fun a=>by
    by_cases h:w=a
    ·rw[aj h]; exact beq_iff_eq.2 h
    ·rw[aE h]; exact beq_eq_false_iff_ne.2 h
   rw[eq,eq,eq];by_cases h1:w=sF
   ·rw[aj (show w = [116,114,117,101]from h1),if_pos (.inl h1)]; rfl
   ·by_cases h2:w=jG
    ·rw[aE (show ¬w = [116,114,117,101]from h1),aj (show w = [102,97,108,115,101]from h2),if_pos (.inr (.inl h2))]; rfl
    ·by_cases h3:w=n9
     ·rw[aE (show ¬w = [116,114,117,101]from h1),aE (show ¬w = [102,97,108,115,101]from h2),aj (show w = [110,117,108,108]from h3),if_pos (.inr (.inr h3))]; rfl
     ·rw[aE (show ¬w = [116,114,117,101]from h1),aE (show ¬w = [102,97,108,115,101]from h2),aE (show ¬w = [110,117,108,108]from h3),if_neg (by rintro (h|h|h); exact h1 h; exact h2 h; exact h3 h)]; rfl
  have sgn1:∀k:Token→Int→Option R,bB (decide ((1:Int)≤((c::u:af).length:Int))) (k (⟨1,(((c::u:af).drop 0).take (1 - 0)),⟨0,0⟩,0⟩:Token) 1)=k ⟨1, [c],⟨0,0⟩,0⟩ (((c::u).length - u.length:Nat):Int):=fun k=>by
   have e1:(c::u).length - u.length=1:=by rw[hlen]; omega
   rw[ao (aj (by rw[hlen]; omega)),e1];rfl
  simp only[tokS];rw[q45,q34,l48,l57,hsg];by_cases h45:c.toNat=45
  ·rw[aj h45,cond_true,if_pos (.inl h45)];refine (num k).trans ?_;split <;> rfl
  ·rw[aE h45,cond_false];have rest:¬(48≤c.toNat∧c.toNat≤57)→(bif decide (c.toNat=34)then gm (c::u) (fun yI Fp KD=>bif (!KD)then (k (⟨0,([]:af),⟨0,0⟩,0⟩:Token) 0)else (k (⟨2,yI,⟨0,0⟩,0⟩:Token) Fp))else (bif Lj c then bB (decide ((1:Int)≤((c::u:af).length:Int))) (k (⟨1,(((c::u:af).drop 0).take (1 - 0)),⟨0,0⟩,0⟩:Token) 1)else cV (c::u) ([97,98,99,100,101,102,103,104,105,106,107,108,109,110,111,112,113,114,115,116,117,118,119,120,121,122]:af) (fun D7=>bif (D7==([116,114,117,101]:af))then (k (⟨4,D7,⟨0,0⟩,0⟩:Token) (D7.length:Int))else (bif (D7==([102,97,108,115,101]:af))then (k (⟨4,D7,⟨0,0⟩,0⟩:Token) (D7.length:Int))else (bif (!(D7==([110,117,108,108]:af)))then (k (⟨0,([]:af),⟨0,0⟩,0⟩:Token) 0)else (k (⟨4,D7,⟨0,0⟩,0⟩:Token) (D7.length:Int))))))) =
     match (if c.toNat=45∨(48≤c.toNat∧c.toNat≤57)then (if (qo ((c::u).takeWhile sd)).2 then some (⟨3,(c::u).takeWhile sd,(qo ((c::u).takeWhile sd)).1,0⟩,(c::u).dropWhile sd)else none)else if c.toNat=34 then (match uqS (c::u)with|some (o,r)=>some (⟨2,o,⟨0,0⟩,0⟩,r)|none=>none)else if Lj c then some ((⟨1, [c],⟨0,0⟩,0⟩:Token),u)else if (c::u).takeWhile oy=sF∨(c::u).takeWhile oy=jG∨(c::u).takeWhile oy=n9 then some (⟨4,(c::u).takeWhile oy,⟨0,0⟩,0⟩,(c::u).dropWhile oy)else none)with
     | some (t,r)=>k t (((c::u).length - r.length:Nat):Int)|none=>k ⟨0, [],⟨0,0⟩,0⟩ 0:=by
    intro hd;rw[if_neg (by rintro (h|h); exact h45 h; exact hd h)];by_cases GH:c.toNat=34
    ·rw[aj GH,cond_true,if_pos GH,txt];cases uqS (c::u)with
     | none=>rfl
     | some p=>rfl
    ·rw[aE GH,cond_false,if_neg GH];cases hs':Lj c with
     | true=>rw[cond_true,sgn1,if_pos rfl]
     | false =>
      rw[cond_false,nam,if_neg (show ¬(false=true) by simp)];split <;> rfl
   by_cases h48:48≤c.toNat
   ·rw[aj h48,cond_true];by_cases h57:c.toNat≤57
    ·rw[aj h57,cond_true,if_pos (.inr ⟨h48,h57⟩)];refine (num k).trans ?_;split <;> rfl
    ·rw[aE h57,cond_false];exact rest (fun h=>h57 h.2)
   ·rw[aE h48,cond_false];exact rest (fun h=>h48 h.1)
theorem scan_loop {R:Type} (s:af) (hs:s.length≤20000) (e0:List Token→Int→Int→Option R) (e1:Int→Int→Option R) (hz:∀a b,e0 [] a b=e1 a b):∀(n p:Nat) (out:List Token),s.length - p<n→p≤s.length→out.length≤p →
  dA n s out (p:Int) e0 e1=e0 (rL n p (s.drop p) out).1 (rL n p (s.drop p) out).2.1 (rL n p (s.drop p) out).2.2:=by
 intro n
 induction n with
 | zero=>intro p out h; omega
 | succ n ih =>
  intro p out h1 h2 h3;rw[dA];unfold Ec;have hsub:∀q:Nat,(s.drop q).take ((s.length:Int).toNat - q)=s.drop q:=fun q=>List.take_of_length_le (by rw[List.length_drop,Int.toNat_natCast]; exact Nat.le_refl _)
  have hl:=yd pY (s.drop p);rw[List.length_drop]at hl;have hdl:(s.drop p).length=s.length - p:=List.length_drop;rw[ao (by rw[aj (by omega),aj (by omega)]; rfl),ao (by rw[aj (by omega),aj (by omega)]; rfl),Int.toNat_natCast p,hsub,Zo _ _ (by omega) rfl (by decide)];have eb:(s.drop p).takeWhile (fun x=>List.contains [32,9,10,13] x)=(s.drop p).takeWhile pY:=rfl;rw[eb];have hdd:s.drop (p+((s.drop p).takeWhile pY).length)=(s.drop p).dropWhile pY:=by rw[←drop_tw pY (s.drop p),List.drop_drop]
  have hw:IntKind.i64.wrap ((p:Int)+(((s.drop p).takeWhile pY).length:Int))=((p+((s.drop p).takeWhile pY).length:Nat):Int):=by rw[aK (by omega) (by omega)]; omega
  rw[hw];simp only[rL];generalize hq:p+((s.drop p).takeWhile pY).length=q at *;by_cases TN:(s.drop p).dropWhile pY = []
  ·have hqe:q=s.length:=by rw[TN]at hl; simp at hl; omega
   have e1':(((q:Nat):Int)==(s.length:Int))=true:=by rw[hqe]; simp
   rw[e1',cond_true,ao (aj (by omega)),if_pos TN]
  ·have Q8:0<((s.drop p).dropWhile pY).length:=List.length_pos_iff.2 TN;have e1':(((q:Nat):Int)==(s.length:Int))=false:=by rw[beq_eq_false_iff_ne]; omega
   rw[e1',cond_false,ao (by rw[aj (by omega),aj (by omega)]; rfl),ao (by rw[aj (by omega),aj (by omega)]; rfl),Int.toNat_natCast q,hsub,hdd,next_ok _ (by omega) TN,if_neg TN];cases ht:tokS ((s.drop p).dropWhile pY)with
   | none =>
    have e0':((0:Int)==0)=true:=rfl;simp only;rw[e0',cond_true,hz]
   | some x =>
    obtain ⟨t,r⟩:=x;obtain ⟨f1,f2⟩:=tokS_sfx ht;have hn:((((s.drop p).dropWhile pY).length - r.length:Nat):Int)≠0:=by omega
    simp only;rw[beq_eq_false_iff_ne.2 hn,cond_false,ao (aj (by omega))];have hq2:IntKind.i64.wrap (((q:Nat):Int)+((((s.drop p).dropWhile pY).length - r.length:Nat):Int))=((p+((s.drop p).length - r.length):Nat):Int):=by rw[aK (by omega) (by omega)]; omega
    rw[hq2];have hr:s.drop (p+((s.drop p).length - r.length))=r:=by
     have:=sfx_drop (f1.trans (List.dropWhile_suffix pY));rw[←List.drop_drop,←this]
    have key:=ih (p+((s.drop p).length - r.length)) (out ++ [putT t ((q:Nat):Int)]) (by omega) (by omega) (by simp; omega);rw[hr]at key;exact key
theorem scan_ok {R:Type} (s:af) (k:List Token→Int→Int→Option R):nI s k=k (l8 s).1 (l8 s).2.1 (l8 s).2.2:=by
 have e:nI s k=GG dA s k:=rfl;rw[e];unfold GG l8;by_cases h:20000<s.length
 ·rw[aj (show (s.length:Int)>20000 by omega),cond_true,if_pos h]
 ·rw[aE (show ¬(s.length:Int)>20000 by omega),cond_false,if_neg h];have key:=scan_loop (R:=R) s (by omega) (fun y8 y9 o5=>k y8 y9 o5) (fun jf l9=>k [] jf l9) (fun _ _=>rfl) (List.length s+List.length ([]:List Token)+Int.natAbs 0+64) 0 [] (by omega) (by omega) (by simp);rw[List.drop_zero,MK _ (s.length+1) 0 s [] (by omega) (by omega)]at key;exact key
abbrev WU:=Int×List Token
def fT (x:af):List Token→Option (List Token)
 | t::r=>if t.kind=1∧t.text=x then some r else none
 | []=>none
def Ij (ns:List af):List Token→Except WU (af×List Token)
 | t::r =>
  if t.kind≠2 then .error (40,t::r)else if ns.contains t.text then .error (42,t::r)else
   match fT [58] r with
   | some r' => .ok (t.text,r')
   | none => .error (40,r)
 | [] => .error (0, [])
def wA (f:List Token→Except WU (Json×List Token)) (obj:Bool) (ns:List af) (is:List Json) (ts:List Token):Except WU ((List af×List Json)×List Token) :=
 match obj with
 | true =>
  (match Ij ns ts with
   | .error b => .error b
   | .ok (nm,ts1)=>(match f ts1 with | .error b => .error b | .ok (v,Lo) => .ok ((ns ++ [nm],is ++ [v]),Lo)))
 | false=>(match f ts with | .error b => .error b | .ok (v,Lo) => .ok ((ns,is ++ [v]),Lo))
def ub (f:List Token→Except WU (Json×List Token)) (cl:af) (obj:Bool):Nat→List af→List Json→List Token→Except WU ((List af×List Json)×List Token)
 | 0,_,_,ts => .error (0,ts)
 | m+1,ns,is,ts =>
  match wA f obj ns is ts with
  | .error b => .error b
  | .ok (p,Lo) =>
   match fT cl Lo with
   | some r => .ok (p,r)
   | none =>
    match fT [44] Lo with
    | some r=>ub f cl obj m p.1 p.2 r
    | none => .error (40,Lo)
def Di (t:af):Bool:=t==n9||(t==jG||t==sF)
def Ve:List (af×Int) := [(n9,1),(jG,2),(sF,3)]
def DO (t:af):Bool:=t == [91]||t == [123]
def oz (t:Token):Bool:=t.kind==2||(t.kind==3||(t.kind==4||(t.kind==1&&DO t.text)))
def uc:Nat→Int→List Token→Except WU (Json×List Token)
 | 0,_,ts => .error (0,ts)
 | _+1,_, [] => .error (0, [])
 | n+1,d,t::r =>
  if oz t=false then .error (40,t::r)else
  if d>16 then .error (41,t::r)else
  if t.kind=1∧DO t.text=true then
   let obj:=t.text == [123]
   let k:Int:=if obj then 7 else 6
   let cl:af:=if obj then [125]else [93]
   match fT cl r with
   | some r' => .ok (⟨k,⟨0,0⟩, [], [], []⟩,r')
   | none =>
    match ub (uc n (d+1)) cl obj (r.length+1) [] [] r with
    | .error b => .error b
    | .ok (p,r') => .ok (⟨k,⟨0,0⟩, [],p.1,p.2⟩,r')
  else if t.kind=4∧Di t.text=true then .ok (⟨ma .str (.int .i64) t.text Ve,⟨0,0⟩, [], [], []⟩,r)
  else if t.kind=3 then .ok (⟨4,t.num, [], [], []⟩,r)
  else .ok (⟨5,⟨0,0⟩,t.text, [], []⟩,r)
theorem ye {x:af} {ts r:List Token} (h:fT x ts=some r):r.length<ts.length:=by
 cases ts with
 | nil=>cases h
 | cons t ts =>
  simp only[fT]at h;split at h
  ·cases h; simp
  ·cases h
theorem nameS_len {ns:List af} {ts:List Token} {p:af×List Token} (h:Ij ns ts = .ok p):p.2.length<ts.length:=by
 cases ts with
 | nil=>cases h
 | cons t ts =>
  simp only[Ij]at h;split at h
  ·cases h
  ·split at h
   ·cases h
   ·split at h
    ·rename_i r hr;have:=ye hr;cases h;simp; omega
    ·cases h
theorem Vf {f:List Token→Except WU (Json×List Token)} (hf:∀ts p,f ts = .ok p→p.2.length<ts.length) {obj:Bool} {ns:List af} {is:List Json} {ts:List Token} {p:(List af×List Json)×List Token} (h:wA f obj ns is ts = .ok p) :
  p.2.length<ts.length:=by
 cases obj with
 | true =>
  simp only[wA]at h;split at h
  ·cases h
  ·rename_i nm ts1 hn;have h1:=nameS_len hn;split at h
   ·cases h
   ·rename_i v Lo hv;have h2:=hf _ _ hv;cases h;simp only at h1 h2 ⊢;omega
 | false =>
  simp only[wA]at h;split at h
  ·cases h
  ·rename_i v Lo hv;have h2:=hf _ _ hv;cases h;exact h2
theorem listS_len {f:List Token→Except WU (Json×List Token)} (hf:∀ts p,f ts = .ok p→p.2.length<ts.length) {cl:af} {obj:Bool}:∀(m:Nat) (ns:List af) (is:List Json) (ts:List Token) (p:(List af×List Json)×List Token),
  ub f cl obj m ns is ts = .ok p→p.2.length<ts.length
 | 0,_,_,_,_,h=>by cases h
 | m+1,ns,is,ts,p,h=>by
  simp only[ub]at h;split at h
  ·cases h
  ·rename_i q Lo hq;have h1:=Vf hf hq;split at h
   ·rename_i r hr;have h2:=ye hr;cases h;simp only at h1 h2 ⊢;omega
   ·split at h
    ·rename_i r hr;have h2:=ye hr;have h3:=listS_len hf m _ _ _ _ h;simp only at h1 h2 h3 ⊢;omega
    ·cases h
theorem Zp:∀(n:Nat) (d:Int) (ts:List Token) (p:Json×List Token),uc n d ts = .ok p→p.2.length<ts.length
 | 0,_,_,_,h=>by cases h
 | _+1,_, [],_,h=>by cases h
 | n+1,d,t::r,p,h=>by
  simp only[uc]at h;split at h
  ·cases h
  split at h
  ·cases h
  split at h
  ·split at h
   ·rename_i r' hr;have:=ye hr;cases h;simp; omega
   ·split at h
    ·cases h
    ·rename_i q r' hq;have:=listS_len (fun ts p=>Zp n (d+1) ts p) _ _ _ _ _ hq;cases h;simp only[List.length_cons]at this ⊢;omega
  split at h
  ·cases h; simp
  split at h
  ·cases h; simp
  ·cases h; simp
theorem Zq {f:List Token→Except WU (Json×List Token)} (hf:∀ts p,f ts = .ok p→p.2.length<ts.length) {cl:af} {obj:Bool}:∀(m m':Nat) (ns:List af) (is:List Json) (ts:List Token),ts.length<m→ts.length<m' →
  ub f cl obj m ns is ts=ub f cl obj m' ns is ts
 | 0,_,_,_,_,h,_=>by omega
 | _+1,0,_,_,_,_,h=>by omega
 | m+1,m'+1,ns,is,ts,h,h'=>by
  simp only[ub];cases hq:wA f obj ns is ts with
  | error b=>rfl
  | ok q =>
   obtain ⟨p,Lo⟩:=q;have h1:=Vf hf hq;simp only;cases fT cl Lo with
   | some r=>rfl
   | none =>
    simp only;cases hr:fT [44] Lo with
    | none=>rfl
    | some r =>
     have h2:=ye hr;simp only at h1 h2 ⊢;exact Zq hf m m' _ _ _ (by omega) (by omega)
def Both {α:Type} (P:α→Prop) (Q:WU→Prop):Except WU α→Prop
 | .ok p=>P p
 | .error b=>Q b
def yf (ts:List Token):Prop:=∃e,ts.getLast? = some e∧e.kind=5
theorem yf.ne {ts:List Token} (h:yf ts):ts ≠ []:=by
 rintro rfl
 obtain ⟨e,h,_⟩:=h;cases h
theorem yf.tail {t:Token} {r:List Token} (h:yf (t::r)) (ht:t.kind≠5):yf r:=by
 obtain ⟨e,h1,h2⟩:=h;cases r with
 | nil =>
  simp at h1;subst h1;exact (ht h2).elim
 | cons u r=>exact ⟨e,by simpa [List.getLast?_cons_cons]using h1,h2⟩
theorem qB {x:af} {ts r:List Token} (he:yf ts) (h:fT x ts=some r):yf r:=by
 cases ts with
 | nil=>cases h
 | cons t ts =>
  simp only[fT]at h;split at h
  ·rename_i hc;cases h;exact he.tail (by rw[hc.1]; decide)
  ·cases h
theorem nameS_end {ns:List af} {ts:List Token} (he:yf ts):Both (fun p:af×List Token=>yf p.2) (fun b=>yf b.2∧b.1≠0) (Ij ns ts):=by
 cases ts with
 | nil=>exact (he.ne rfl).elim
 | cons t ts =>
  simp only[Ij];by_cases hk:t.kind=2
  ·rw[if_neg (by simp[hk])];have h1:=he.tail (by rw[hk]; decide);by_cases hc:ns.contains t.text=true
   ·rw[if_pos hc];exact ⟨he,by show (_:Int)≠0; simp⟩
   ·rw[if_neg hc];cases hr:fT [58] ts with
    | some r=>exact qB h1 hr
    | none=>exact ⟨h1,by show (_:Int)≠0; simp⟩
  ·rw[if_pos hk];exact ⟨he,by show (_:Int)≠0; simp⟩
theorem EM {t:Token} {r:List Token}:decide ((0:Int)<((t::r).length:Int))=true:=by rw[decide_eq_true_eq,List.length_cons]; omega
theorem Xl {t:Token} {r:List Token}:decide ((1:Int)≤((t::r).length:Int))=true:=by rw[decide_eq_true_eq,List.length_cons]; omega
theorem Pj {R:Type} (x:af) {ts:List Token} (hn:ts ≠ []) (k:Bool→List Token→Int→Option R):az x ts 0 k=match fT x ts with|some r=>k true r 0|none=>k false ts 0:=by
 cases ts with
 | nil=>exact (hn rfl).elim
 | cons t r =>
  have e0:az x (t::r) 0 k=bB (decide ((0:Int)<((t::r).length:Int))) (bif (t.kind != 1)then (k false (t::r) 0)else (bif (!(t.text==x))then (k false (t::r) 0)else (bB (decide ((1:Int)≤((t::r).length:Int))) (k true r 0)))):=rfl;rw[e0,ao EM];simp only[fT];by_cases h1:t.kind=1
  ·by_cases h2:t.text=x
   ·rw[if_pos ⟨h1,h2⟩];have e1:(t.kind != 1)=false:=by simp[h1]
    have e2:(!(t.text==x))=false:=by simp[h2]
    rw[e1,e2,ao Xl];rfl
   ·rw[if_neg (fun h=>h2 h.2)];have e1:(t.kind != 1)=false:=by simp[h1]
    have e2:(!(t.text==x))=true:=by simp[h2]
    rw[e1,e2];rfl
  ·rw[if_neg (fun h=>h1 h.1)];have e1:(t.kind != 1)=true:=by simp[h1]
   rw[e1];rfl
theorem index_loop {R:Type} (ns:List af) (x:af) (hl:ns.length≤1099511627776) (k:Bool→Option R):∀(F i:Nat),i≤ns.length→ns.length - i<F →
  bq F ns x (ns.length:Int) (i:Int) (k (decide ((-1:Int)≥0))) (fun y=>k (decide (y≥0)))=k ((ns.drop i).contains x):=by
 intro F
 induction F with
 | zero=>intro i _ h; omega
 | succ F ih =>
  intro i hi hF;show iS (fun x0 x1 x2 x3=>bq F x0 x1 x2 x3 _ _) ns x (ns.length:Int) (i:Int) _ _=_;unfold iS;by_cases h:i<ns.length
  ·have h1:decide ((i:Int)<(ns.length:Int))=true:=by simp; omega
   have h2:(decide ((0:Int)≤(i:Int))&&true)=true:=by simp
   have hw:IntKind.i64.wrap ((i:Int)+1)=((i+1:Nat):Int):=by rw[aK (by omega) (by omega)]; omega
   have hg:ns.getD (i:Int).toNat (Ty.br .str)=ns[i]:=getD_at h _;have hj:(decide ((i:Int)≥0))=true:=by simp
   rw[h1,cond_true,ao h2,hg,List.drop_eq_getElem_cons h,List.contains_cons];cases hq:x==ns[i]with
   | true =>
    rw[cond_true,Bool.true_or];show k (decide ((i:Int)≥0))=k true;rw[hj]
   | false =>
    rw[cond_false,Bool.false_or,hw];exact ih (i+1) (by omega) (by omega)
  ·have h1:decide ((i:Int)<(ns.length:Int))=false:=by simp; omega
   rw[h1,cond_false,List.drop_eq_nil_of_le (by omega)];rfl
theorem MR {R:Type} (ns:List af) (x:af) (hl:ns.length≤1099511627776) (k:Bool→Option R):cK ns x k=k (ns.contains x):=by
 have:=index_loop ns x hl k (List.length ns+List.length x+Int.natAbs (ns.length:Int)+Int.natAbs 0+64) 0 (by omega) (by omega);rw[List.drop_zero]at this;exact this
theorem name_ok {R:Type} (ns:List af) (hl:ns.length≤1099511627776) {ts:List Token} (he:yf ts):Both (fun p:af×List Token=>∀k:af→List Token→Int→Option R,dB ns ts 0 k=k p.1 p.2 0)
  (fun b=>∃nm,∀k:af→List Token→Int→Option R,dB ns ts 0 k=k nm b.2 b.1) (Ij ns ts):=by
 cases ts with
 | nil=>exact (he.ne rfl).elim
 | cons t r =>
  have e0:∀k:af→List Token→Int→Option R,dB ns (t::r) 0 k=bB (decide ((0:Int)<((t::r).length:Int))) (bif (t.kind != 2)then (k t.text (t::r) 40)else (cK ns t.text (fun y6=>bif y6 then (k t.text (t::r) 42)else (bB (decide ((1:Int)≤((t::r).length:Int))) (az [58] r 0 (fun y9 o5 jf=>bif (!y9)then (av 40 o5 jf (fun l9 DN=>k t.text l9 DN))else (k t.text o5 jf))))))):=fun k=>rfl
  simp only[Ij];by_cases hk:t.kind=2
  ·have e1:(t.kind != 2)=false:=by simp[hk]
   have hr:=he.tail (by rw[hk]; decide);rw[if_neg (by simp[hk])];cases hc:ns.contains t.text with
   | true =>
    rw[if_pos rfl];refine ⟨t.text,fun k => ?_⟩;rw[e0,ao EM,e1,cond_false,MR ns _ hl,hc];rfl
   | false =>
    rw[if_neg (by simp)];have hs:=fun k:Bool→List Token→Int→Option R=>Pj [58] hr.ne k
    cases hq:fT [58] r with
    | some r' =>
     rw[hq]at hs;intro k;rw[e0,ao EM,e1,cond_false,MR ns _ hl,hc,cond_false,ao Xl];exact hs _
    | none =>
     rw[hq]at hs;refine ⟨t.text,fun k => ?_⟩;rw[e0,ao EM,e1,cond_false,MR ns _ hl,hc,cond_false,ao Xl];exact hs _
  ·have e1:(t.kind != 2)=true:=by simp[hk]
   rw[if_pos hk];refine ⟨t.text,fun k => ?_⟩;rw[e0,ao EM,e1];rfl
def Hval {R:Type} (ff:aH R) (f:List Token→Except WU (Json×List Token)) (d:Int) (B:Nat):Prop :=
 ∀ts,yf ts→ts.length≤B→Both (fun p:Json×List Token=>yf p.2∧∀k:Json→List Token→Int→Option R,ff d ts 0 k=k p.1 p.2 0)
  (fun b=>(yf b.2∧b.1≠0)∧∃v,∀k:Json→List Token→Int→Option R,ff d ts 0 k=k v b.2 b.1) (f ts)
theorem Xm {α:Type} (l:List α) (a b:α):(l ++ [a]).set ((l.length:Int)).toNat b=l ++ [b]:=by
 rw[Int.toNat_natCast,List.set_append_right _ _ (Nat.le_refl _),Nat.sub_self];rfl
abbrev PartG (R:Type):=Bool→Int→Int→Int→af→List af→Nat→Int→List Json→List Token→Int→Option R
theorem parts_ok {R:Type} (ff:aH R) (f:List Token→Except WU (Json×List Token)) (d:Int) (hd:0≤d∧d≤16) (B:Nat) (hv:Hval ff f (d+1) B) (obj:Bool) (kd a b:Int) (tx:af) (ns:List af) (is:List Json) (ts:List Token)
  (he:yf ts) (hB:ts.length≤B) (Nu:ns.length≤1000000000) (Ph:is.length≤1000000000) :
  Both (fun p:(List af×List Json)×List Token=>yf p.2∧∀G:PartG R,bw ff obj kd a b tx ns is.length d is ts 0 (fun a1 a2 a3 a4 a5 a6 a7 a8 t e i=>G a1 a2 a3 a4 a5 a6 a7 a8 i t e) G (fun a1 a2 a3 a4 a5 a6 a7 a8 t e i=>G a1 a2 a3 a4 a5 a6 a7 a8 i t e) G=G obj kd a b tx p.1.1 p.1.2.length d p.1.2 p.2 0)
   (fun q=>(yf q.2∧q.1≠0)∧∃TW n' QW,∀G:PartG R,bw ff obj kd a b tx ns is.length d is ts 0 (fun a1 a2 a3 a4 a5 a6 a7 a8 t e i=>G a1 a2 a3 a4 a5 a6 a7 a8 i t e) G (fun a1 a2 a3 a4 a5 a6 a7 a8 t e i=>G a1 a2 a3 a4 a5 a6 a7 a8 i t e) G=G obj kd a b tx TW n' d QW q.2 q.1)
   (wA f obj ns is ts):=by
 have e0:∀k0 k1 k2 k3,bw ff obj kd a b tx ns is.length d is ts 0 k0 k1 k2 k3=eQ dB ff obj kd a b tx ns is.length d is ts 0 k0 k1 k2 k3:=fun _ _ _ _=>rfl
 have c1:decide ((ns.length+1)*16≤140737488355328)=true:=by rw[decide_eq_true_eq]; omega
 have c2:decide ((is.length+1)*88≤140737488355328)=true:=by rw[decide_eq_true_eq]; omega
 have hw:IntKind.i64.wrap (d+1)=d+1:=aK (by omega) (by omega);have im:∀c:Int,c≠0→(c==0)=false:=fun c hc=>by simpa using hc
 cases obj with
 | true =>
  have hn:=name_ok (R:=R) ns (by omega) he;have hnE:=nameS_end (ns:=ns) he;have hnL:=fun p=>nameS_len (ns:=ns) (ts:=ts) (p:=p)
  simp only[wA];cases hq:Ij ns ts with
  | error q =>
   rw[hq]at hn hnE;obtain ⟨nm,hn⟩:=hn;refine ⟨hnE,ns ++ [nm],is.length,is,fun G => ?_⟩;rw[e0];unfold eQ;rw[cond_true,hn,ao c1,im _ hnE.2];rfl
  | ok q =>
   obtain ⟨nm,ts1⟩:=q;rw[hq]at hn hnE hnL;have hl1:=hnL _ rfl;have h2:=hv ts1 hnE (by simp only at hl1; omega);simp only;cases hf:f ts1 with
   | error q =>
    rw[hf]at h2;obtain ⟨h2,v,h3⟩:=h2;refine ⟨h2,ns ++ [nm],is.length+1,is ++ [v],fun G => ?_⟩;rw[e0];unfold eQ;rw[cond_true,hn,ao c1];show (ff (IntKind.i64.wrap (d+1)) ts1 0 _)=_;rw[hw,h3,ao c2,ao (by simp; omega),ao (by simp),Xm,Json.eta]
   | ok q =>
    obtain ⟨v,Lo⟩:=q;rw[hf]at h2;obtain ⟨h2,h3⟩:=h2;refine ⟨h2,fun G => ?_⟩;rw[e0];unfold eQ;rw[cond_true,hn,ao c1];show (ff (IntKind.i64.wrap (d+1)) ts1 0 _)=_;rw[hw,h3,ao c2,ao (by simp; omega),ao (by simp),Xm,Json.eta];simp only[List.length_append,List.length_cons,List.length_nil]
 | false =>
  have h2:=hv ts he hB;simp only[wA];cases hf:f ts with
  | error q =>
   rw[hf]at h2;obtain ⟨h2,v,h3⟩:=h2;refine ⟨h2,ns,is.length+1,is ++ [v],fun G => ?_⟩;rw[e0];unfold eQ;show (ff (IntKind.i64.wrap (d+1)) ts 0 _)=_;rw[hw,h3,ao c2,ao (by simp; omega),ao (by simp),Xm,Json.eta]
  | ok q =>
   obtain ⟨v,Lo⟩:=q;rw[hf]at h2;obtain ⟨h2,h3⟩:=h2;refine ⟨h2,fun G => ?_⟩;rw[e0];unfold eQ;show (ff (IntKind.i64.wrap (d+1)) ts 0 _)=_;rw[hw,h3,ao c2,ao (by simp; omega),ao (by simp),Xm,Json.eta];simp only[List.length_append,List.length_cons,List.length_nil]
theorem partS_out {f:List Token→Except WU (Json×List Token)} {obj:Bool} {ns:List af} {is:List Json} {ts:List Token} {p:(List af×List Json)×List Token} (h:wA f obj ns is ts = .ok p) :
  p.1.1.length≤ns.length+1∧p.1.2.length=is.length+1:=by
 cases obj with
 | true =>
  simp only[wA]at h;split at h
  ·cases h
  ·split at h
   ·cases h
   ·cases h; simp
 | false =>
  simp only[wA]at h;split at h
  ·cases h
  ·cases h; simp
theorem loop_ok {R:Type} (ff:aH R) (f:List Token→Except WU (Json×List Token)) (hfl:∀ts p,f ts = .ok p→p.2.length<ts.length) (d:Int) (hd:0≤d∧d≤16) (B:Nat) (hBB:B≤100000000) (hv:Hval ff f (d+1) B) (obj:Bool) (kd a b:Int) (tx cl:af) :
  ∀(F:Nat) (ns:List af) (is:List Json) (ts:List Token),ts.length<F→yf ts→ts.length≤B→ns.length+ts.length≤1000000000→is.length+ts.length≤1000000000 →
  Both (fun p:(List af×List Json)×List Token=>yf p.2∧∀e0,aN ff F cl ts 0 obj kd a b tx ns is.length d is e0=e0 p.2 0 obj kd a b tx p.1.1 p.1.2.length d p.1.2)
   (fun q=>(yf q.2∧q.1≠0)∧∃TW n' QW,∀e0,aN ff F cl ts 0 obj kd a b tx ns is.length d is e0=e0 q.2 q.1 obj kd a b tx TW n' d QW)
   (ub f cl obj F ns is ts):=by
 intro F
 induction F with
 | zero=>intro ns is ts h; omega
 | succ F ih =>
  intro ns is ts hF he hB Nu Ph;have e1:∀e0,aN ff (F+1) cl ts 0 obj kd a b tx ns is.length d is e0=oo av (bw ff) az (fun eh eB fb lZ BR BS NG NH NI NJ yU FJ=>aN ff F eh eB fb lZ BR BS NG NH NI NJ yU FJ e0) cl ts 0 obj kd a b tx ns is.length d is e0:=fun e0=>rfl
  let G:(List Token→Int→Bool→Int→Int→Int→af→List af→Nat→Int→List Json→Option R)→PartG R:=fun e0 Wg y37 y38 y39 y40 y41 YH y43 y44 y45 y46 =>
   bif (y46 != 0)then (e0 y45 y46 Wg y37 y38 y39 y40 y41 YH y43 y44)else (az cl y45 y46 (fun y80 y81 y82=>bif y80 then (e0 y81 y82 Wg y37 y38 y39 y40 y41 YH y43 y44)else (az [44] y81 y82 (fun y86 y87 y88=>bif (!y86)then (av 40 y87 y88 (fun y89 y90=>e0 y89 y90 Wg y37 y38 y39 y40 y41 YH y43 y44))else (aN ff F cl y87 y88 Wg y37 y38 y39 y40 y41 YH y43 y44 e0)))))
  have e2:∀e0,aN ff (F+1) cl ts 0 obj kd a b tx ns is.length d is e0=bw ff obj kd a b tx ns is.length d is ts 0 (fun a1 a2 a3 a4 a5 a6 a7 a8 t e i=>G e0 a1 a2 a3 a4 a5 a6 a7 a8 i t e) (G e0) (fun a1 a2 a3 a4 a5 a6 a7 a8 t e i=>G e0 a1 a2 a3 a4 a5 a6 a7 a8 i t e) (G e0):=fun e0=>rfl
  have hp:=parts_ok ff f d hd B hv obj kd a b tx ns is ts he hB (by omega) (by omega);simp only[ub];cases hq:wA f obj ns is ts with
  | error q =>
   rw[hq]at hp;obtain ⟨h1,TW,n',QW,h2⟩:=hp;refine ⟨h1,TW,n',QW,fun e0 => ?_⟩;rw[e2,h2];show (bif (q.1 != 0)then _ else _)=_;have:(q.1 != 0)=true:=by simpa using h1.2
   rw[this,cond_true]
  | ok q =>
   obtain ⟨⟨ns1,is1⟩,Lo⟩:=q;rw[hq]at hp;obtain ⟨h1,h2⟩:=hp;have hlen:=Vf hfl hq;have hout:=partS_out hq;simp only at h1 h2 hlen hout ⊢;have s1:=fun k:Bool→List Token→Int→Option R=>Pj cl h1.ne k
   cases hs:fT cl Lo with
   | some r =>
    rw[hs]at s1;refine ⟨qB h1 hs,fun e0 => ?_⟩;rw[e2,h2];show az cl Lo 0 _=_;rw[s1];rfl
   | none =>
    rw[hs]at s1;have s2:=fun k:Bool→List Token→Int→Option R=>Pj [44] h1.ne k
    simp only;cases hs2:fT [44] Lo with
    | none =>
     rw[hs2]at s2;refine ⟨⟨h1,by show (_:Int)≠0; simp⟩,ns1,is1.length,is1,fun e0 => ?_⟩;rw[e2,h2];show az cl Lo 0 _=_;rw[s1];show az [44] Lo 0 _=_;rw[s2];rfl
    | some r =>
     rw[hs2]at s2;have hl3:=ye hs2;have hih:=ih ns1 is1 r (by omega) (qB h1 hs2) (by omega) (by omega) (by omega);have e3:∀e0,aN ff (F+1) cl ts 0 obj kd a b tx ns is.length d is e0=aN ff F cl r 0 obj kd a b tx ns1 is1.length d is1 e0:=fun e0=>by
      rw[e2,h2];show az cl Lo 0 _=_;rw[s1];show az [44] Lo 0 _=_;rw[s2];rfl
     simp only[e3];exact hih
theorem list_ok {R:Type} (ff:aH R) (f:List Token→Except WU (Json×List Token)) (hfl:∀ts p,f ts = .ok p→p.2.length<ts.length) (d:Int) (hd:0≤d∧d≤16) (B:Nat) (hBB:B≤100000000) (hv:Hval ff f (d+1) B) (obj:Bool) (kd a b:Int) (tx cl:af)
  (r:List Token) (he:yf r) (hB:r.length≤B) (hs:fT cl r=none) :
  Both (fun p:(List af×List Json)×List Token=>yf p.2∧∀K0 (K:Json→List Token→Int→Option R),cg ff cl r 0 obj kd a b tx d K0 (fun DN xy yI Fp KD NX Cw Qs D7 y22 y23=>K ⟨Fp,⟨KD,NX⟩,Cw,Qs,y23⟩ DN xy)=K ⟨kd,⟨a,b⟩,tx,p.1.1,p.1.2⟩ p.2 0)
   (fun q=>(yf q.2∧q.1≠0)∧∃v,∀K0 (K:Json→List Token→Int→Option R),cg ff cl r 0 obj kd a b tx d K0 (fun DN xy yI Fp KD NX Cw Qs D7 y22 y23=>K ⟨Fp,⟨KD,NX⟩,Cw,Qs,y23⟩ DN xy)=K v q.2 q.1) (ub f cl obj (r.length+1) [] [] r):=by
 have e1:∀K0 K1,cg ff cl r 0 obj kd a b tx d K0 K1=az cl r 0 (fun o5 jf l9=>bif o5 then (K0 jf l9 obj kd a b tx d)else (aN ff (List.length cl+List.length jf+Int.natAbs l9+Int.natAbs kd+Int.natAbs a+Int.natAbs b+List.length tx+List.length ([]:List af)+Int.natAbs d+List.length ([]:List Json)+64) cl jf l9 obj kd a b tx ([]:List af) 0 d ([]:List Json) K1)):=fun K0 K1=>rfl
 have s1:=fun k:Bool→List Token→Int→Option R=>Pj cl he.ne k
 rw[hs]at s1;have hl:=loop_ok ff f hfl d hd B hBB hv obj kd a b tx cl (List.length cl+List.length r+Int.natAbs 0+Int.natAbs kd+Int.natAbs a+Int.natAbs b+List.length tx+List.length ([]:List af)+Int.natAbs d+List.length ([]:List Json)+64) [] [] r (by omega) he hB (by simp; omega) (by simp; omega);have e2:∀K0 K1,cg ff cl r 0 obj kd a b tx d K0 K1=aN ff (List.length cl+List.length r+Int.natAbs 0+Int.natAbs kd+Int.natAbs a+Int.natAbs b+List.length tx+List.length ([]:List af)+Int.natAbs d+List.length ([]:List Json)+64) cl r 0 obj kd a b tx ([]:List af) ([]:List Json).length d ([]:List Json) K1:=fun K0 K1=>by
  rw[e1,s1];rfl
 rw[Zq hfl _ (r.length+1) [] [] r (by omega) (by omega)]at hl;cases hq:ub f cl obj (r.length+1) [] [] r with
 | error q =>
  rw[hq]at hl;obtain ⟨h1,TW,n',QW,h2⟩:=hl;exact ⟨h1,⟨kd,⟨a,b⟩,tx,TW,QW⟩,fun K0 K=>by rw[e2,h2]⟩
 | ok p =>
  rw[hq]at hl;obtain ⟨h1,h2⟩:=hl;exact ⟨h1,fun K0 K=>by rw[e2,h2]⟩
theorem list_none {R:Type} (ff:aH R) (obj:Bool) (kd a b d:Int) (tx cl:af) (r r':List Token) (hn:r ≠ []) (hs:fT cl r=some r') (K0 K1) :
  cg (R:=R) ff cl r 0 obj kd a b tx d K0 K1=K0 r' 0 obj kd a b tx d:=by
 have e1:cg ff cl r 0 obj kd a b tx d K0 K1=az cl r 0 (fun o5 jf l9=>bif o5 then (K0 jf l9 obj kd a b tx d)else (aN ff (List.length cl+List.length jf+Int.natAbs l9+Int.natAbs kd+Int.natAbs a+Int.natAbs b+List.length tx+List.length ([]:List af)+Int.natAbs d+List.length ([]:List Json)+64) cl jf l9 obj kd a b tx ([]:List af) 0 d ([]:List Json) K1)):=rfl;rw[e1,Pj cl hn,hs];rfl
theorem parts_t {R:Type} (ff:aH R) (d:Int) (r:List Token) (q:Json→List Token→Int→Option R):dq ff true d r 0 q =
  cg ff [125] r 0 true 7 0 0 [] d (fun y5 y6 y7 y8 y9 o5 jf l9=>q ⟨y8,⟨y9,o5⟩,jf, [], []⟩ y5 y6) (fun DN xy yI Fp KD NX Cw Qs D7 y22 y23=>q ⟨Fp,⟨KD,NX⟩,Cw,Qs,y23⟩ DN xy):=rfl
theorem parts_f {R:Type} (ff:aH R) (d:Int) (r:List Token) (q:Json→List Token→Int→Option R):dq ff false d r 0 q =
  cg ff [93] r 0 false 6 0 0 [] d (fun y5 y6 y7 y8 y9 o5 jf l9=>q ⟨y8,⟨y9,o5⟩,jf, [], []⟩ y5 y6) (fun DN xy yI Fp KD NX Cw Qs D7 y22 y23=>q ⟨Fp,⟨KD,NX⟩,Cw,Qs,y23⟩ DN xy):=rfl
section
variable {R:Type} (ff:aH R) (d:Int) (t:Token) (r:List Token) (k:Json→List Token→Int→Option R)
def J18:Option R:=bif (t.kind==3)then k ⟨4,⟨t.num.au,t.num.exp⟩, [], [], []⟩ r 0 else k ⟨5,⟨0,0⟩,t.text, [], []⟩ r 0
def J16 (z:Bool):Option R:=bif z then (bif (t.kind==4)then k ⟨ma .str (.int .i64) t.text Ve,⟨0,0⟩, [], [], []⟩ r 0 else J18 t r k)else J18 t r k
def J17 (z:Bool):Option R:=bif z then (bif (t.kind==1)then dq ff (t.text == [123]) d r 0 (fun l9 DN xy=>k ⟨l9.kind,⟨l9.num.au,l9.num.exp⟩,l9.text,l9.names,l9.items⟩ DN xy)else J18 t r k)
 else (bif (t.text==n9)then J16 t r k (t.text==n9)else (bif (t.text==jG)then J16 t r k (t.text==jG)else J16 t r k (t.text==sF)))
def J19:Option R:=bB (decide ((1:Int)≤((t::r).length:Int))) (bif (t.text == [91])then J17 ff d t r k (t.text == [91])else J17 ff d t r k (t.text == [123]))
def J20 (z:Bool):Option R:=bif (!z)then k ⟨0,⟨0,0⟩, [], [], []⟩ (t::r) 40 else (bif (decide (d>16))then k ⟨0,⟨0,0⟩, [], [], []⟩ (t::r) 41 else J19 ff d t r k)
end
theorem value_head {R:Type} (n:Nat) (d:Int) (t:Token) (r:List Token) (k:Json→List Token→Int→Option R):bA (n+1) d (t::r) 0 k=J20 (bA n) d t r k (oz t):=by
 have e0:bA (n+1) d (t::r) 0 k=bB (decide ((0:Int)<((t::r).length:Int))) (let j:=J20 (bA n) d t r k; bif (t.kind==2)then j true else (bif (t.kind==3)then j true else (bif (t.kind==4)then j true else (bif (t.kind==1)then (bif (t.text == [91])then j true else j (t.text == [123]))else j false)))):=rfl;rw[e0,ao EM];unfold oz DO;simp only;cases t.kind==2 <;> cases t.kind==3 <;> cases t.kind==4 <;> cases t.kind==1 <;> cases t.text == [91] <;> rfl
theorem open_named {x:af} (h:DO x=true):Di x=false:=by
 unfold DO at h;rw[Bool.or_eq_true,beq_iff_eq,beq_iff_eq]at h;rcases h with rfl|rfl <;> rfl
theorem value_ok {R:Type} (B:Nat) (hBB:B≤100000000):∀(n:Nat) (d:Int),0≤d→d≤17→17 - d<n→Hval (R:=R) (bA n) (uc n d) d B:=by
 intro n
 induction n with
 | zero=>intro d h0 h1 h2; omega
 | succ n ih =>
  intro d h0 h1 h2 ts he hB;cases ts with
  | nil=>exact (he.ne rfl).elim
  | cons t r =>
   simp only[uc];have hv:=fun k=>value_head (R:=R) n d t r k
   cases ZS:oz t with
   | false =>
    rw[if_pos rfl];rw[ZS]at hv;exact ⟨⟨he,by show (_:Int)≠0; simp⟩,_,fun k=>hv k⟩
   | true =>
    rw[if_neg (by simp)];rw[ZS]at hv;by_cases hd:d>16
    ·rw[if_pos hd];refine ⟨⟨he,by show (_:Int)≠0; simp⟩,⟨0,⟨0,0⟩, [], [], []⟩,fun k => ?_⟩;rw[hv];unfold J20;have e1:decide (d>16)=true:=by simpa using hd
     rw[e1];rfl
    ·rw[if_neg hd];have hk5:t.kind≠5:=by
      intro h5;simp[oz,h5]at ZS
     have her:=he.tail hk5;have hrB:r.length≤B:=by simp only[List.length_cons]at hB; omega
     have hv2:∀k,bA (n+1) d (t::r) 0 k=J17 (bA n) d t r k (DO t.text):=fun k=>by
      rw[hv];unfold J20;have e1:decide (d>16)=false:=by simpa using hd
      rw[e1,Bool.not_true,cond_false,cond_false];unfold J19;rw[ao Xl];unfold DO;cases t.text == [91] <;> rfl
     have h18:¬(t.kind=1∧DO t.text=true)→¬(t.kind=4∧Di t.text=true)→∀k,bA (n+1) d (t::r) 0 k=J18 t r k:=fun g1 g2 k=>by
      rw[hv2];unfold J17;cases ho:DO t.text with
      | true =>
       have:(t.kind==1)=false:=by
        rw[beq_eq_false_iff_ne];exact fun h=>g1 ⟨h,ho⟩
       rw[cond_true,this,cond_false]
      | false =>
       rw[cond_false];have R0:(bif (t.text==n9)then J16 t r k (t.text==n9)else (bif (t.text==jG)then J16 t r k (t.text==jG)else J16 t r k (t.text==sF)))=J16 t r k (Di t.text):=by
        unfold Di;cases t.text==n9 <;> cases t.text==jG <;> rfl
       rw[R0];unfold J16;cases hn:Di t.text with
       | false=>rfl
       | true =>
        have:(t.kind==4)=false:=by
         rw[beq_eq_false_iff_ne];exact fun h=>g2 ⟨h,hn⟩
        rw[cond_true,this,cond_false]
     by_cases hop:t.kind=1∧DO t.text=true
     ·rw[if_pos hop];have ek:(t.kind==1)=true:=by simpa using hop.1
      have hvp:∀k,bA (n+1) d (t::r) 0 k=dq (bA n) (t.text == [123]) d r 0 k:=fun k=>by
       rw[hv2];unfold J17;rw[hop.2,cond_true,ek,cond_true];simp only[Json.eta]
      have ff:=ih (d+1) (by omega) (by omega) (by omega);have hfl:=fun ts p=>Zp n (d+1) ts p
      cases hobj:t.text == [123]with
      | true =>
       simp only[if_true];rw[hobj]at hvp;cases hs:fT [125] r with
       | some r' =>
        refine ⟨qB her hs,fun k => ?_⟩;rw[hvp];rw[parts_t];rw[list_none _ _ _ _ _ _ _ _ _ _ her.ne hs]
       | none =>
        have hl:=list_ok (R:=R) _ _ hfl d ⟨h0,by omega⟩ B hBB ff true 7 0 0 [] [125] r her hrB hs;simp only;cases hq:ub (uc n (d+1)) [125] true (r.length+1) [] [] r with
        | error q =>
         rw[hq]at hl;obtain ⟨g1,v,g2⟩:=hl;refine ⟨g1,v,fun k => ?_⟩;rw[hvp];rw[parts_t];exact g2 _ k
        | ok p =>
         rw[hq]at hl;obtain ⟨g1,g2⟩:=hl;refine ⟨g1,fun k => ?_⟩;rw[hvp];rw[parts_t];exact g2 _ k
      | false =>
       simp only[Bool.false_eq_true,if_false];rw[hobj]at hvp;cases hs:fT [93] r with
       | some r' =>
        refine ⟨qB her hs,fun k => ?_⟩;rw[hvp];rw[parts_f];rw[list_none _ _ _ _ _ _ _ _ _ _ her.ne hs]
       | none =>
        have hl:=list_ok (R:=R) _ _ hfl d ⟨h0,by omega⟩ B hBB ff false 6 0 0 [] [93] r her hrB hs;simp only;cases hq:ub (uc n (d+1)) [93] false (r.length+1) [] [] r with
        | error q =>
         rw[hq]at hl;obtain ⟨g1,v,g2⟩:=hl;refine ⟨g1,v,fun k => ?_⟩;rw[hvp];rw[parts_f];exact g2 _ k
        | ok p =>
         rw[hq]at hl;obtain ⟨g1,g2⟩:=hl;refine ⟨g1,fun k => ?_⟩;rw[hvp];rw[parts_f];exact g2 _ k
     ·rw[if_neg hop];by_cases R0:t.kind=4∧Di t.text=true
      ·rw[if_pos R0];refine ⟨her,fun k => ?_⟩;rw[hv2];have ho:DO t.text=false:=by
        cases ho:DO t.text with
        | false=>rfl
        | true=>rw[open_named ho]at R0; cases R0.2
       have ek:(t.kind==4)=true:=by simpa using R0.1
       unfold J17;rw[ho,cond_false];have TV:(bif (t.text==n9)then J16 t r k (t.text==n9)else (bif (t.text==jG)then J16 t r k (t.text==jG)else J16 t r k (t.text==sF)))=J16 t r k (Di t.text):=by
        unfold Di;cases t.text==n9 <;> cases t.text==jG <;> rfl
       rw[TV,R0.2];unfold J16;rw[ek];rfl
      ·rw[if_neg R0];have h:=h18 hop R0;by_cases hk3:t.kind=3
       ·rw[if_pos hk3];refine ⟨her,fun k => ?_⟩;rw[h];unfold J18;have ek:(t.kind==3)=true:=by simpa using hk3
        rw[ek];rfl
       ·rw[if_neg hk3];refine ⟨her,fun k => ?_⟩;rw[h];unfold J18;have ek:(t.kind==3)=false:=by simpa using hk3
        rw[ek];rfl
theorem plain_low {b:UInt8} {t:af} (h:b.toNat<32):yX (b::t)=none:=by
 unfold yX;rw[if_neg (by simp),decodeL_ascii b t (by omega)];simp only;rw[if_neg (by omega),if_pos h]
theorem plain_enc {s r:af} {c:Nat} (h:yX s=some (c,r)):s=enc c++r∧Rn s∧(decodeL s).2=(enc c).length∧c=(decodeL s).1:=by
 unfold yX at h;split at h
 ·cases h
 ·rename_i im;split at h
  ·cases h
  ·rename_i hg;split at h
   ·cases h
   ·simp only[Option.some.injEq,Prod.mk.injEq]at h;obtain ⟨rfl,rfl⟩:=h;obtain ⟨e1,e2⟩:=Yr im hg;exact ⟨e1,hg,e2.symm,rfl⟩
theorem refUnq_loop {R:Type} (s:af) (hs:s.length≤9000000000) (e1:af→Int→Bool→Option R):∀(n i:Nat) (o:af),s.length - i<n→1≤i→i≤s.length→o.length+4*(s.length - i)≤90000000000 →
  bR n s (zs o) (i:Int) (e1 [] 0 false) e1=match uq n (s.drop i) o with|some (o',r)=>e1 o' (((s.length - r.length:Nat)):Int) true|none=>e1 [] 0 false:=by
 intro n
 induction n with
 | zero=>intro i o h; omega
 | succ n ih =>
  intro i o h h1 hil hb;have e:bR (n+1) s (zs o) (i:Int) (e1 [] 0 false) e1=sR eZ dP (fun eh eB fb=>bR n eh eB fb (e1 [] 0 false) e1) s (zs o) (i:Int) (e1 [] 0 false) e1:=rfl;rw[e];unfold sR;simp only[uq];have w1:IntKind.i64.wrap ((i:Int)+1)=((i+1:Nat):Int):=by rw[aK (by omega) (by omega)]; omega
  by_cases hi:i<s.length
  ·have hd:=drop_cons hi;have fin:∀(c j:Nat),vr c→i<j→j≤s.length→(fun eh eB fb=>bR n eh eB fb (e1 [] 0 false) e1) s (zs o++zs (enc c)) (j:Int)=match uq n (s.drop j) (o++enc c)with|some (o',r)=>e1 o' (((s.length - r.length:Nat)):Int) true|none=>e1 [] 0 false:=fun c j hv hj hjl=>by
    have:=xG hv;show bR n s (zs o++zs (enc c)) (j:Int) (e1 [] 0 false) e1=_;rw[←Cy];exact ih j (o++enc c) (by omega) (by omega) hjl (by rw[List.length_append]; omega)
   have hchk:(decide ((0:Int)≤(i:Int))&&decide ((i:Int)<(s.length:Int)))=true:=by rw[aj (by omega),aj (by omega)]; rfl
   rw[aj (show (i:Int)<(s.length:Int) by omega),cond_true];simp only[Bool.and_true,aj (show (0:Int)≤(i:Int) by omega),ao rfl,Int.toNat_natCast,w1];have hbt:=UInt8.toNat_lt (s.getD i 0);have e34:([34]:af).isPrefixOf (s.drop i)=decide ((s.getD i 0).toNat=34):=by rw[hd,KO]; exact beqN _ 34 (by omega)
   have hd1:(s.drop i).drop 1=s.drop (i+1):=by rw[List.drop_drop]
   have q34:(((s.getD i 0).toNat:Int)==34)=decide ((s.getD i 0).toNat=34):=Py _ 34;have q92:(((s.getD i 0).toNat:Int)==92)=decide ((s.getD i 0).toNat=92):=Py _ 92;rw[e34,q34,q92];by_cases GH:(s.getD i 0).toNat=34
   ·rw[aj GH,cond_true];simp only[if_true];rw[unz];rw[hd1];have:s.length - (s.drop (i+1)).length=i+1:=by rw[List.length_drop]; omega
    rw[this]
   rw[aE GH,cond_false];simp only[Bool.false_eq_true,if_false];have e92:([92]:af).isPrefixOf (s.drop i)=decide ((s.getD i 0).toNat=92):=by rw[hd,KO]; exact beqN _ 92 (by omega)
   unfold Qy;rw[e92];by_cases h32:(s.getD i 0).toNat<32
   ·rw[aj (show ((s.getD i 0).toNat:Int)<32 by omega),cond_true,aE (show ¬(s.getD i 0).toNat=92 by omega)];simp only[Bool.false_eq_true,if_false];have hpl:yX (s.drop i)=none:=by rw[hd]; exact plain_low h32
    rw[hpl]
   rw[aE (show ¬((s.getD i 0).toNat:Int)<32 by omega),cond_false];by_cases Rz:(s.getD i 0).toNat=92
   ·rw[aj Rz,cond_true];simp only[if_true,hd1];have hk:=escape_ok (R:=R) s (i+1) (by omega) (fun y6 y7=>bif (y7==0)then (e1 ([]:af) 0 false)else (bB (decide (((zs o).length+y6.length)*1≤140737488355328)) (bR n s ((zs o:List Int)++(y6:List Int)) (IntKind.i64.wrap (((i+1:Nat):Int)+y7)) (e1 [] 0 false) e1)));cases he:YP (s.drop (i+1))with
    | none =>
     rw[he]at hk;simp only at hk ⊢;exact hk.trans rfl
    | some q =>
     obtain ⟨c,r⟩:=q;rw[he]at hk;obtain ⟨m,m1,m2,rfl,hk⟩:=hk;obtain ⟨hv,_⟩:=escP_ok he;have hel:=xG hv;simp only;refine hk.trans ?_;have em:((m:Int)==0)=false:=by rw[beq_eq_false_iff_ne]; omega
     rw[em,cond_false,ao (aj (by rw[A0,A0]; omega))];have ew:IntKind.i64.wrap (((i+1:Nat):Int)+(m:Int))=((i+1+m:Nat):Int):=by rw[aK (by omega) (by omega)]; omega
     rw[ew];exact fin c (i+1+m) hv (by omega) m2
   rw[aE Rz,cond_false];simp only[Bool.false_eq_true,if_false];rw[one_ok s i hi (by omega)];cases he:yX (s.drop i)with
   | none =>
    have hz:WH (s.drop i)=0:=by
     rw[oneN_zero];intro hg;have im:s.drop i ≠ []:=by rw[hd]; simp
     obtain ⟨g1,g2⟩:=Yr im hg;unfold yX at he;unfold Rn at hg;rw[if_neg im,if_neg hg]at he;split at he
     ·rename_i hc;have g3:=enc1 (show (decodeL (s.drop i)).1<128 by omega);rw[g3,hd]at g1;have g4:s.getD i 0=UInt8.ofNat (decodeL (s.getD i 0::s.drop (i+1))).1:=by
       have:=congrArg (fun l=>l.head?) g1;simpa using this
      rw[hd]at hc;rw[g4,hP _ (by omega)]at h32;omega
     ·cases he
    rw[hz];rfl
   | some q =>
    obtain ⟨c,r⟩:=q;obtain ⟨g1,g2,g3,g4⟩:=plain_enc he;obtain ⟨hv,_⟩:=UD he;have hel:=xG hv;have ho:WH (s.drop i)=(enc c).length:=by unfold WH; rw[if_pos g2,g3]
    have hlen:i+(enc c).length≤s.length:=by
     have:=congrArg List.length g1;rw[List.length_drop,List.length_append]at this;omega
    have hr:r=s.drop (i+(enc c).length):=by
     have:=congrArg (List.drop (enc c).length) g1;rw[List.drop_left,List.drop_drop]at this;exact this.symm
    rw[ho];have em:(((enc c).length:Int)==0)=false:=by rw[beq_eq_false_iff_ne]; omega
    have ew:IntKind.i64.wrap ((i:Int)+((enc c).length:Int))=((i+(enc c).length:Nat):Int):=by rw[aK (by omega) (by omega)]; omega
    have et:(s.drop i).take (((i+(enc c).length:Nat):Int).toNat - i)=enc c:=by
     rw[Int.toNat_natCast,Nat.add_sub_cancel_left];have:=congrArg (List.take (enc c).length) g1;rw[List.take_left]at this;exact this
    simp only;rw[em,cond_false,ew,ao (by rw[aj (by omega),aj (by omega)]; rfl),ao (by rw[aj (show (i:Int)≤((i+(enc c).length:Nat):Int) by omega)]; rfl),ao (aj (by rw[et,KJ,A0,A0]; omega)),et,KJ,hr];exact fin c (i+(enc c).length) hv (by omega) hlen
  ·have:s.drop i = []:=List.drop_eq_nil_of_le (by omega);rw[this,aE (show ¬(i:Int)<(s.length:Int) by omega),cond_false];rfl
theorem refUnquote_ok {R:Type} (s:af) (hs:s.length≤9000000000) (k:af→Int→Bool→Option R) :
  je s k=match uqS s with|some (o,r)=>k o (((s.length - r.length:Nat)):Int) true|none=>k [] 0 false:=by
 have e:je s k=AB bR s k:=rfl;rw[e];unfold AB uqS
 match s,hs with
 | [],_=>rfl
 | [b],_ =>
  by_cases h:([34]:af).isPrefixOf [b]=true
  ·rw[if_pos h]; rfl
  ·rw[if_neg h]; rfl
 | b::c::t,hs =>
  generalize hS:b::c::t=s at *;have hl:2≤s.length:=by rw[←hS]; simp
  have hg:s.getD 0 0=b:=by rw[←hS]; rfl
  rw[aE (show ¬(s.length:Int)<2 by omega),cond_false,ao (aj (by omega)),hg];have q:((b.toNat:Int) != 34)=decide (b.toNat≠34):=neI _ 34;have e34:([34]:af).isPrefixOf s=decide (b.toNat=34):=by rw[←hS,KO]; exact beqN _ 34 (by omega)
  rw[q,e34];by_cases h:b.toNat=34
  ·rw[aj h,aE (show ¬b.toNat≠34 from fun x=>x h),cond_false];simp only[if_true];have key:=refUnq_loop (R:=R) s hs (fun y9 o5 jf=>k y9 o5 jf) (List.length s+List.length ([]:List Int)+Int.natAbs 1+64) 1 [] (by omega) (by omega) (by omega) (by simp only[List.length_nil]; omega);rw[uq_fuel _ (s.length+1) _ _ (by rw[List.length_drop]; omega) (by rw[List.length_drop]; omega)]at key;exact key
  ·rw[aE h,aj (show b.toNat≠34 from h),cond_true];rfl
end Go.Proofs.YtmlkkgfenfdndaaGreatDoor
set_option maxRecDepth 100000
namespace Go.Proofs.YtmlkkgfenfdndaaGreatDoor
open Go Go.bb
variable {R:Type}
abbrev Dj (R:Type):Type:=af→Int→(Token→Int→Option R)→Option R
abbrev Kc:List dh := [.leaf (.str), .leaf (.int .i64)]
abbrev Kd:List aY := []
def Pk (fn:Dj R):oC R Kc Kd:=fun x y k=>fn x.1 x.2.1 (fun q0 q1=>k (.tuple [.agg [.int .i64 q0.kind, .str q0.text, .int .i64 q0.num.au, .int .i64 q0.num.exp, .int .i64 q0.at_], .int .i64 q1]) [])
def QX (fn:Dj R):=aG Kc Kd (Pk fn)
section
variable (je:yb R) (kB:Dh R) (kl:EK R)
def QY:List (sS R) := [(119,true,(Nq je aC)),(121,true,(QV kB aC)),(120,true,(TF kl aC))]
def EN (x1:af) (x2:Int) (k0:Token→Int→Option R):Option R :=
 bB (decide ((0:Int)≤x2)&&decide (x2<x1.length)) (let j16:=fun (z3:Bool)=>bif z3 then (bB (decide ((0:Int)≤(IntKind.i64.wrap (x2+1)))&&decide ((IntKind.i64.wrap (x2+1))≤x1.length)) (bB (decide ((0:Int)≤x2)&&decide (x2≤(IntKind.i64.wrap (x2+1)))) (k0 (⟨1,((x1.drop x2.toNat).take ((IntKind.i64.wrap (x2+1)).toNat - x2.toNat)),⟨0,0⟩,x2⟩:Token) 1)))else (bif (((x1.getD x2.toNat 0).toNat:Int)==34)then (bB (decide ((0:Int)≤(x1.length:Int))&&decide ((x1.length:Int)≤x1.length)) (bB (decide ((0:Int)≤x2)&&decide (x2≤(x1.length:Int))) (je ((x1.drop x2.toNat).take ((x1.length:Int).toNat - x2.toNat)) (fun y4 y5 y6=>bif (!y6)then (k0 (⟨0,([]:af),⟨0,0⟩,0⟩:Token) 0)else (k0 (⟨2,y4,⟨0,0⟩,x2⟩:Token) y5)))))else (let j15:=fun (z7:Bool)=>bif z7 then (kl x1 x2 true (fun y8=>kB y8 (fun y9 o5=>bif (!o5)then (k0 (⟨0,([]:af),⟨0,0⟩,0⟩:Token) 0)else (k0 (⟨3,y8,⟨y9.au,y9.exp⟩,x2⟩:Token) (y8.length:Int)))))else (let j14:=fun (pW:Bool)=>bif pW then (kl x1 x2 false (fun l9=>bif (l9==([116,114,117,101]:af))then (k0 (⟨4,l9,⟨0,0⟩,x2⟩:Token) (l9.length:Int))else (bif (l9==([102,97,108,115,101]:af))then (k0 (⟨4,l9,⟨0,0⟩,x2⟩:Token) (l9.length:Int))else (bif (l9==([110,117,108,108]:af))then (k0 (⟨4,l9,⟨0,0⟩,x2⟩:Token) (l9.length:Int))else (k0 (⟨0,([]:af),⟨0,0⟩,0⟩:Token) 0)))))else (k0 (⟨0,([]:af),⟨0,0⟩,0⟩:Token) 0); bif (decide (((x1.getD x2.toNat 0).toNat:Int)≥(97:Int)))then (j14 (decide (((x1.getD x2.toNat 0).toNat:Int)≤(122:Int))))else (j14 false)); bif (decide (((x1.getD x2.toNat 0).toNat:Int)≥(48:Int)))then (bif (decide (((x1.getD x2.toNat 0).toNat:Int)≤(57:Int)))then (j15 true)else (j15 (((x1.getD x2.toNat 0).toNat:Int)==45)))else (j15 (((x1.getD x2.toNat 0).toNat:Int)==45)))); bif (((x1.getD x2.toNat 0).toNat:Int)==123)then (j16 true)else (bif (((x1.getD x2.toNat 0).toNat:Int)==125)then (j16 true)else (bif (((x1.getD x2.toNat 0).toNat:Int)==91)then (j16 true)else (bif (((x1.getD x2.toNat 0).toNat:Int)==93)then (j16 true)else (bif (((x1.getD x2.toNat 0).toNat:Int)==44)then (j16 true)else (j16 (((x1.getD x2.toNat 0).toNat:Int)==58)))))))
theorem Zr:fC (R:=R) tt (QY je kB kl) AL false Tryz.f84 Kc Kd (Pk (EN je kB kl)):=fun x y k=>by kernel_rfl
end
theorem WV:dy (R:=R) Tryz.prog (QY (R:=R) je kB kl) := .c (RI R) <| .c (Va R) <| .c (WO R) <| .n
def gK:Dj R:=fun x1 x2 k0=>EN je kB kl x1 x2 k0
theorem Vg (R:Type):od Tryz.prog 84 (QX (gK (R:=R))):=bS TT mixed (WV (R:=R)) rfl rfl rfl rfl dM (Zr je kB kl)
abbrev EO (R:Type):Type:=af→((List Token)→Int→Int→Option R)→Option R
abbrev MS:List dh := [.leaf (.str)]
abbrev MT:List aY := []
def QZ (fn:EO R):oC R MS MT:=fun x y k=>fn x.1 (fun q0 q1 q2=>k (.tuple [.sl .token q0 .no, .int .i64 q1, .int .i64 q2]) [])
def TO (fn:EO R):=aG MS MT (QZ fn)
abbrev Dk (R:Type):Type:=Nat→af→(List Token)→Int→((List Token)→Int→Option R)→(Int→Int→(List Token)→Int→Option R)→Option R
def yg:Hint := { live := [0,5,6],own := [(5, .token)],rows := [],cells := [],drop := [],out := [2,3,4,5,6] }
abbrev o4:Type:=af×(List Token)×Int
def Bq:o4→St:=fun d=>⟨.str d.1::U 4 (.sl .token d.2.1 (.own 0) :: .int .i64 d.2.2::U 54 ([])), [.tok]⟩
def Dl (K:Ex→St→Option R) (q0:List Token) (q1:Int):Option R:=K (.exit 0) ⟨U 5 (.sl .token q0 (.own 0) :: .int .i64 q1::U 54 ([])), [.tok]⟩
def Dm (K:Ex→St→Option R) (q0:Int) (q1:Int) (q2:List Token) (q3:Int):Option R:=K (.ret) ⟨U 2 (.cG :: .int .i64 q0 :: .int .i64 q1 :: .sl .token q2 (.own 0) :: .int .i64 q3::U 54 ([])), [.tok]⟩
abbrev uf:List dh := .leaf (.str)::PU 4 (.leaf (.Ui .token 0) :: .leaf (.int .i64)::PU 54 ([]))
abbrev ug:List aY := [.tok]
def Lp (x:dh.bD uf) (y:aY.bD ug):Nat:=(List.length x.1+List.length x.2.2.2.2.2.1+Int.natAbs x.2.2.2.2.2.2.1+64)
def Vh (x:dh.bD uf) (y:aY.bD ug):o4:=(x.1,x.2.2.2.2.2.1,x.2.2.2.2.2.2.1)
def Jq (L:Dk R):sI R uf ug:=fun x y K=>L (Lp x y) x.1 x.2.2.2.2.2.1 x.2.2.2.2.2.2.1 (Dl K) (Dm K)
section
variable (gK:Dj R) (dt:Dk R)
def yh:List (sS R) := [(84,true,(QX gK aC))]
def El (cb:af→(List Token)→Int→Option R) (x2:af) (x3:List Token) (x4:Int) (e0:(List Token)→Int→Option R) (e1:Int→Int→(List Token)→Int→Option R):Option R :=
 bif (decide (x4<(x2.length:Int)))then (bB (decide ((0:Int)≤x4)&&decide (x4<x2.length)) (bif (((x2.getD x4.toNat 0).toNat:Int)==32)then (cb x2 x3 (IntKind.i64.wrap (x4+1)))else (bB (decide ((0:Int)≤x4)&&decide (x4<x2.length)) (bif (((x2.getD x4.toNat 0).toNat:Int)==9)then (cb x2 x3 (IntKind.i64.wrap (x4+1)))else (bB (decide ((0:Int)≤x4)&&decide (x4<x2.length)) (bif (((x2.getD x4.toNat 0).toNat:Int)==10)then (cb x2 x3 (IntKind.i64.wrap (x4+1)))else (bB (decide ((0:Int)≤x4)&&decide (x4<x2.length)) (bif (((x2.getD x4.toNat 0).toNat:Int)==13)then (cb x2 x3 (IntKind.i64.wrap (x4+1)))else (gK x2 x4 (fun y6 y7=>bif (y7==0)then (e1 30 x4 x3 x4)else (bB (decide ((x3.length+1)*48≤140737488355328)) (cb x2 (x3++([y6]:List Token)) (IntKind.i64.wrap (x4+y7))))))))))))))else (e0 x3 x4)
def Lq (K:Ex→St→Option R) (rc:o4→Option R) (d:o4):Option R:=El gK (fun z0 z1 z2=>rc (z0,z1,z2)) d.1 d.2.1 d.2.2 (Dl K) (Dm K)
def Dn:Nat→Option (Hint×cF R):=fun i=>match i with
 | 5=>some (yg,(cq uf ug (Jq dt) gl))
 | _=>none
theorem P9 (K:Ex→St→Option R) (rc:St→Option R) (d:o4):roundOf tt (cz (yh gK)) (Dn dt) 0 ((aA (aQ Tryz.f58)).getD 0 .skip) yg (Bq d) rc K=Lq gK K (fun d=>rc (Bq d)) d:=by kernel_rfl
def G1 (x1:af) (k0:(List Token)→Int→Int→Option R):Option R :=
 bif (decide ((x1.length:Int)>(20000:Int)))then (k0 ([]:List Token) 30 0)else (dt (List.length x1+List.length ([]:List Token)+Int.natAbs 0+64) x1 ([]:List Token) 0 (fun y8 y9=>bB (decide ((y8.length+1)*48≤140737488355328)) (k0 (y8++([(⟨5,([]:af),⟨0,0⟩,y9⟩:Token)]:List Token)) 0 0)) (fun o5 jf l9 DN=>k0 ([]:List Token) o5 jf))
theorem ref03_Scan_ok:fC (R:=R) tt (yh gK) (Dn dt) false Tryz.f58 MS MT (QZ (G1 dt)):=fun x y k=>by kernel_rfl
end
theorem Zs:dy (R:=R) Tryz.prog (yh (R:=R) gK) := .c (Vg R) <| .n
def dt:Dk R
 | 0,_,_,_,_,_=>none
 | n+1,eh,eB,fb,e0,e1=>El gK (fun eh eB fb=>dt n eh eB fb e0 e1) eh eB fb e0 e1
def Lr (K:Ex→St→Option R) (n:Nat) (d:o4):Option R:=dt n d.1 d.2.1 d.2.2 (Dl K) (Dm K)
theorem TP (other:cF R) (ho:fZ tt (cz (yh (R:=R) gK)) (Dn (R:=R) dt) 0 ((aA (aQ Tryz.f58)).getD 0 .skip) yg other):fZ tt (cz (yh (R:=R) gK)) (Dn (R:=R) dt) 0 ((aA (aQ Tryz.f58)).getD 0 .skip) yg (cq uf ug (Jq (dt)) other) :=
 cx (A:=Lr) ho (dD Bq (Lq gK) (Lr) (fun _ _=>by kernel_rfl) (P9 gK dt) (fun _ _ _=>by kernel_rfl)) Lp Vh (fun _ _=>by kernel_rfl) (fun _ _ _=>by kernel_rfl)
def nN:EO R:=fun x1 k0=>G1 dt x1 k0
theorem Vi (R:Type):∀a∈aA (aQ Tryz.f58),gE tt (cz (yh (R:=R) gK)) (Dn (R:=R) dt) 0 a:=by
 refine eV 1 (by kernel_rfl) fun i hi => ?_
 match i,hi with
 | 0,_=>exact bT (by kernel_rfl) (TP _ cQ)
 | n+1,hi=>omega
theorem WW (R:Type):od Tryz.prog 58 (TO (nN (R:=R))):=bS TT mixed (Zs (R:=R)) rfl rfl rfl rfl (Vi R) (ref03_Scan_ok gK dt)
abbrev kE (R:Type):Type:=af→(List Token)→Int→Int→(Bool→(List Token)→Int→Int→Option R)→Option R
abbrev u0:List dh := [.leaf (.ptr 0 0), .leaf (.str)]
abbrev u4:List aY := [.cells [.sl .token, .int .i64, .int .i64]]
def BI (fn:kE R):oC R u0 u4:=fun x y k=>fn x.2.1 y.1.1 y.1.2.1 y.1.2.2.1 (fun q0 q1 q2 q3=>k (.bool q0) [.cells [.sl .token q1 .no, .int .i64 q2, .int .i64 q3]])
def u6 (fn:kE R):=aG u0 u4 (BI fn)
section
def jy (x1:af) (x2:List Token) (x3:Int) (x4:Int) (k0:Bool→(List Token)→Int→Int→Option R):Option R :=
 bif (x4==0)then (bB (decide ((0:Int)≤x3)&&decide (x3<x2.length)) (bif ((x2.getD x3.toNat (Ty.br .token)).kind==1)then (bB (decide ((0:Int)≤x3)&&decide (x3<x2.length)) (bif ((x2.getD x3.toNat (Ty.br .token)).text==x1)then (k0 ((x2.getD x3.toNat (Ty.br .token)).text==x1) x2 (IntKind.i64.wrap (x3+1)) x4)else (k0 ((x2.getD x3.toNat (Ty.br .token)).text==x1) x2 x3 x4)))else (k0 false x2 x3 x4)))else (k0 false x2 x3 x4)
theorem Ls:fC (R:=R) (tt.mode [.json]) [] AL false Tryz.f85 u0 u4 (BI jy):=fun x y k=>by kernel_rfl
end
def aw:kE R:=fun x1 x2 x3 x4 k0=>jy x1 x2 x3 x4 k0
theorem yt (R:Type):od Tryz.prog 85 (u6 (aw (R:=R))):=bS (TT.mode [.json]) mixed .n rfl rfl rfl rfl dM (Ls)
abbrev lX (R:Type):Type:=af→(List Token)→Int→Int→((List Token)→Int→Int→Option R)→Option R
abbrev sf:List dh := [.leaf (.ptr 0 0), .leaf (.str)]
abbrev si:List aY := [.cells [.sl .token, .int .i64, .int .i64]]
def yu (fn:lX R):oC R sf si:=fun x y k=>fn x.2.1 y.1.1 y.1.2.1 y.1.2.2.1 (fun q0 q1 q2=>k (.tuple []) [.cells [.sl .token q0 .no, .int .i64 q1, .int .i64 q2]])
def An (fn:lX R):=aG sf si (yu fn)
section
variable (aw:kE R)
def Ao:List (sS R) := [(85,false,(u6 aw aC))]
def ig (x1:af) (x2:List Token) (x3:Int) (x4:Int) (k0:(List Token)→Int→Int→Option R):Option R :=
 aw x1 x2 x3 x4 (fun y5 y6 y7 y8=>bif (!y5)then (bif (y8==0)then (k0 y6 y7 40)else (k0 y6 y7 y8))else (k0 y6 y7 y8))
theorem IF:fC (R:=R) (tt.mode [.json]) (Ao aw) AL false Tryz.f86 sf si (yu (ig aw)):=fun x y k=>by kernel_rfl
end
theorem Ik:dy (R:=R) Tryz.prog (Ao (R:=R) aw) := .d (yt R) rfl <| .n
def aJ:lX R:=fun x1 x2 x3 x4 k0=>ig aw x1 x2 x3 x4 k0
theorem G2 (R:Type):od Tryz.prog 86 (An (aJ (R:=R))):=bS (TT.mode [.json]) mixed (Ik (R:=R)) rfl rfl rfl rfl dM (IF aw)
end Go.Proofs.YtmlkkgfenfdndaaGreatDoor
end
