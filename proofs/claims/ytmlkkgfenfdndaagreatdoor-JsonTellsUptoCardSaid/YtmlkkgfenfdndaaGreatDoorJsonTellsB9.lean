/-
  JsonTells, part 9 of 10.
-/
import Derived.Test.YtmlkkgfenfdndaaGreatDoorJsonTellsB8
set_option linter.unusedSimpArgs false
set_option linter.unnecessarySimpa false
set_option linter.unusedVariables false
set_option linter.unusedSectionVars false
noncomputable section
set_option maxRecDepth 100000
namespace Go.Proofs.YtmlkkgfenfdndaaGreatDoor
open Go Go.bb Go.Lib
theorem tw_at (p:UInt8→Bool) (t:af) (j:Nat) (h1:j≤(t.takeWhile p).length) (h2:j<t.length):p (t.getD j 0)=decide (j<(t.takeWhile p).length):=by
 by_cases h:j<(t.takeWhile p).length
 ·rw[aj h];have e:=List.takeWhile_append_dropWhile (p:=p) (l:=t);have e2:=IT (s:=t.takeWhile p) (t:=t.dropWhile p) h;rw[e]at e2;rw[e2,getD_at h];have:=List.all_eq_true.1 (List.all_takeWhile (l:=t) (p:=p)) _ (List.getElem_mem h);exact this
 ·rw[aE h];have hj:j=(t.takeWhile p).length:=by omega
  have hd:t.dropWhile p=t.drop j:=by rw[hj,drop_tw]
  have hc:=drop_cons h2;have h3:=List.head?_dropWhile_not p t;rw[hd,hc]at h3;simpa using h3
theorem numB_ok (b:UInt8):sd b=(decide (48≤b.toNat∧b.toNat≤57)||(decide (b.toNat=43)||(decide (b.toNat=45)||(decide (b.toNat=46)||(decide (b.toNat=101)||decide (b.toNat=69)))))):=by
 have all:∀n:Fin 256,sd (UInt8.ofNat n.val)=(decide (48≤n.val∧n.val≤57)||(decide (n.val=43)||(decide (n.val=45)||(decide (n.val=46)||(decide (n.val=101)||decide (n.val=69)))))):=by decide +kernel
 have:=all ⟨b.toNat,UInt8.toNat_lt b⟩;simpa using this
theorem letB_ok (b:UInt8):oy b=decide (97≤b.toNat∧b.toNat≤122):=by
 have all:∀n:Fin 256,oy (UInt8.ofNat n.val)=decide (97≤n.val∧n.val≤122):=by decide +kernel
 have:=all ⟨b.toNat,UInt8.toNat_lt b⟩;simpa using this
def Fj (number:Bool):UInt8→Bool:=if number then sd else oy
theorem refWord_round {R:Type} (b:UInt8) (number:Bool) (x y:Option R) :
  (bif number then (bif (decide ((b.toNat:Int)≥(48:Int)))then (bif (decide ((b.toNat:Int)≤(57:Int)))then x else (bif ((b.toNat:Int)==43)then x else (bif ((b.toNat:Int)==45)then x else (bif ((b.toNat:Int)==46)then x else (bif ((b.toNat:Int)==101)then x else (bif (!((b.toNat:Int)==69))then y else x))))))else (bif ((b.toNat:Int)==43)then x else (bif ((b.toNat:Int)==45)then x else (bif ((b.toNat:Int)==46)then x else (bif ((b.toNat:Int)==101)then x else (bif (!((b.toNat:Int)==69))then y else x))))))else
   (bif (decide ((b.toNat:Int)<(97:Int)))then y else (bif (decide ((b.toNat:Int)>(122:Int)))then y else x)))=if Fj number b then x else y:=by
 have q:∀m:Nat,((b.toNat:Int)==(m:Int))=decide (b.toNat=m):=fun m=>Py _ m
 have q43:=q 43;have q45:=q 45;have q46:=q 46;have q101:=q 101;have q69:=q 69;cases number with
 | true =>
  show _=if sd b then x else y
  rw[numB_ok,cond_true];have e43:(((43:Nat):Int))=43:=rfl;have e45:(((45:Nat):Int))=45:=rfl;have e46:(((46:Nat):Int))=46:=rfl;have e101:(((101:Nat):Int))=101:=rfl;have e69:(((69:Nat):Int))=69:=rfl;rw[e43]at q43; rw[e45]at q45; rw[e46]at q46; rw[e101]at q101; rw[e69]at q69;rw[q43,q45,q46,q101,q69];have tail:(bif decide (b.toNat=43)then x else (bif decide (b.toNat=45)then x else (bif decide (b.toNat=46)then x else (bif decide (b.toNat=101)then x else (bif (!decide (b.toNat=69))then y else x)))))=if (decide (b.toNat=43)||(decide (b.toNat=45)||(decide (b.toNat=46)||(decide (b.toNat=101)||decide (b.toNat=69)))))=true then x else y:=by
   cases decide (b.toNat=43) <;> cases decide (b.toNat=45) <;> cases decide (b.toNat=46) <;> cases decide (b.toNat=101) <;> cases decide (b.toNat=69) <;> rfl
  rw[tail];by_cases h1:48≤b.toNat
  ·rw[aj (show (b.toNat:Int)≥48 by omega),cond_true];by_cases h2:b.toNat≤57
   ·rw[aj (show (b.toNat:Int)≤57 by omega),cond_true,aj (show 48≤b.toNat∧b.toNat≤57 from ⟨h1,h2⟩),Bool.true_or,if_pos rfl]
   ·rw[aE (show ¬(b.toNat:Int)≤57 by omega),cond_false,aE (show ¬(48≤b.toNat∧b.toNat≤57) by omega),Bool.false_or]
  ·rw[aE (show ¬(b.toNat:Int)≥48 by omega),cond_false,aE (show ¬(48≤b.toNat∧b.toNat≤57) by omega),Bool.false_or]
 | false =>
  show _=if oy b then x else y
  rw[letB_ok,cond_false];by_cases h1:97≤b.toNat
  ·rw[aE (show ¬(b.toNat:Int)<97 by omega),cond_false];by_cases h2:b.toNat≤122
   ·rw[aE (show ¬(b.toNat:Int)>122 by omega),cond_false,aj (show 97≤b.toNat∧b.toNat≤122 from ⟨h1,h2⟩),if_pos rfl]
   ·rw[aj (show (b.toNat:Int)>122 by omega),cond_true,aE (show ¬(97≤b.toNat∧b.toNat≤122) by omega),if_neg (by simp)]
  ·rw[aj (show (b.toNat:Int)<97 by omega),cond_true,aE (show ¬(97≤b.toNat∧b.toNat≤122) by omega),if_neg (by simp)]
theorem refWord_loop {R:Type} (s:af) (i:Nat) (number:Bool) (hs:s.length≤4000000000) (hi:i≤s.length) (e0:af→Int→Int→Option R):∀(n j:Nat),((s.drop i).takeWhile (Fj number)).length - j<n→j≤((s.drop i).takeWhile (Fj number)).length →
  da n s (i:Int) number (j:Int) e0=e0 s (i:Int) (((s.drop i).takeWhile (Fj number)).length:Int):=by
 intro n
 induction n with
 | zero=>intro j h; omega
 | succ n ih =>
  intro j h1 h2;rw[da];unfold Ej;have hl:=yd (Fj number) (s.drop i);rw[List.length_drop]at hl;rw[aK (n:=(i:Int)+(j:Int)) (by omega) (by omega)];by_cases hj:i+j<s.length
  ·have hd:=tw_at (Fj number) (s.drop i) j h2 (by rw[List.length_drop]; omega);rw[HW]at hd;have e1:((i:Int)+(j:Int)).toNat=i+j:=by omega
   rw[aj (show (i:Int)+(j:Int)<(s.length:Int) by omega),cond_true,e1,ao (by rw[aj (show (0:Int)≤(i:Int)+(j:Int) by omega)]; rfl)];have fin:(if Fj number (s.getD (i+j) 0)=true then da n s (i:Int) number (IntKind.i64.wrap ((j:Int)+1)) e0 else e0 s (i:Int) (j:Int))=e0 s (i:Int) (((s.drop i).takeWhile (Fj number)).length:Int):=by
    rw[hd];by_cases jJ:j<((s.drop i).takeWhile (Fj number)).length
    ·rw[aj jJ,if_pos rfl,aK (n:=(j:Int)+1) (by omega) (by omega)];exact ih (j+1) (by omega) (by omega)
    ·have:j=((s.drop i).takeWhile (Fj number)).length:=by omega
     rw[aE jJ,if_neg (by simp),←this]
   have key:=(refWord_round (R:=R) (s.getD (i+j) 0) number (da n s (i:Int) number (IntKind.i64.wrap ((j:Int)+1)) e0) (e0 s (i:Int) (j:Int))).trans fin;cases number with
   | true=>exact key
   | false=>exact key
  ·rw[aE (show ¬(i:Int)+(j:Int)<(s.length:Int) by omega),cond_false];have:j=((s.drop i).takeWhile (Fj number)).length:=by omega
   rw[←this]
theorem Zt {R:Type} (s:af) (i:Nat) (number:Bool) (hs:s.length≤4000000000) (hi:i≤s.length) (k:af→Option R):kl s (i:Int) number k=k ((s.drop i).takeWhile (Fj number)):=by
 have hl:=yd (Fj number) (s.drop i);rw[List.length_drop]at hl;have e:kl s (i:Int) number k=GY da s (i:Int) number k:=rfl;rw[e];unfold GY;have key:=refWord_loop (R:=R) s i number hs hi;have c0:((0:Nat):Int)=0:=rfl;have key0:=fun (e0:af→Int→Int→Option R) (F:Nat) (hF:s.length<F)=>key e0 F 0 (by omega) (by omega)
 rw[c0]at key0;rw[key0 _ _ (by omega),aK (by omega) (by omega),ao (by rw[aj (by omega),aj (by omega)]; rfl),ao (by rw[aj (by omega),aj (by omega)]; rfl)];have e2:((i:Int)+(((s.drop i).takeWhile (Fj number)).length:Int)).toNat - (i:Int).toNat=((s.drop i).takeWhile (Fj number)).length:=by omega
 rw[e2,Int.toNat_natCast,take_tw]
theorem sig_ok (b:UInt8):Lj b=(decide (b.toNat=123)||(decide (b.toNat=125)||(decide (b.toNat=91)||(decide (b.toNat=93)||(decide (b.toNat=44)||decide (b.toNat=58)))))):=by
 have all:∀n:Fin 256,Lj (UInt8.ofNat n.val)=(decide (n.val=123)||(decide (n.val=125)||(decide (n.val=91)||(decide (n.val=93)||(decide (n.val=44)||decide (n.val=58)))))):=by decide +kernel
 have:=all ⟨b.toNat,UInt8.toNat_lt b⟩;simpa using this
theorem bla_ok (b:UInt8):pY b=(decide (b.toNat=32)||(decide (b.toNat=9)||(decide (b.toNat=10)||decide (b.toNat=13)))):=by
 have all:∀n:Fin 256,pY (UInt8.ofNat n.val)=(decide (n.val=32)||(decide (n.val=9)||(decide (n.val=10)||decide (n.val=13)))):=by decide +kernel
 have:=all ⟨b.toNat,UInt8.toNat_lt b⟩;simpa using this
theorem refTok_ok {R:Type} (s:af) (i:Nat) (hs:s.length≤4000000000) (hi:i<s.length) (k:Token→Int→Option R) :
  gK s (i:Int) k=match tokS (s.drop i)with|some (t,r)=>k (putT t (i:Int)) (((s.drop i).length - r.length:Nat):Int)|none=>k ⟨0, [],⟨0,0⟩,0⟩ 0:=by
 have e:gK s (i:Int) k=EN je kB kl s (i:Int) k:=rfl;rw[e];unfold EN;have hd:=drop_cons hi;have hdl:(s.drop i).length=s.length - i:=List.length_drop;rw[ao (by rw[aj (by omega),aj (by omega)]; rfl),Int.toNat_natCast];simp only;have w1:IntKind.i64.wrap ((i:Int)+1)=((i+1:Nat):Int):=by rw[aK (by omega) (by omega)]; omega
 have hsub:(s.drop i).take ((s.length:Int).toNat - i)=s.drop i:=List.take_of_length_le (by rw[List.length_drop,Int.toNat_natCast]; exact Nat.le_refl _);have one:(s.drop i).take (((i+1:Nat):Int).toNat - i) = [s.getD i 0]:=by
  rw[hd];have:((i+1:Nat):Int).toNat - i=1:=by omega
  rw[this]; rfl
 have hl1:=yd sd (s.drop i);have XH:=yd oy (s.drop i);have num:=Zt (R:=R) s i true hs (by omega);have nam:=Zt (R:=R) s i false hs (by omega);have kt:Fj true=sd:=rfl;have kf:Fj false=oy:=rfl;rw[kt]at num;rw[kf]at nam;rw[w1,hsub,one];have unq:=refUnquote_ok (R:=R) (s.drop i) (by omega);generalize hc:s.getD i 0=c at *;generalize hD:s.drop i=D at *;have q:∀m:Nat,((c.toNat:Int)==(m:Int))=decide (c.toNat=m):=fun m=>Py _ m
 by_cases hs:Lj c=true
 ·have hk:k (⟨1, [c],⟨0,0⟩,(i:Int)⟩:Token) 1=match tokS D with|some (t,r)=>k (putT t (i:Int)) ((D.length - r.length:Nat):Int)|none=>k ⟨0, [],⟨0,0⟩,0⟩ 0:=by
   have:=(word_sign c hs).2;have all:∀n:Fin 256,Lj (UInt8.ofNat n.val)=true→¬(n.val=45∨(48≤n.val∧n.val≤57))∧¬n.val=34:=by decide +kernel
   obtain ⟨h2,h3⟩:=all ⟨c.toNat,UInt8.toNat_lt c⟩ (by simpa using hs);rw[hd];simp only[tokS];rw[if_neg h2,if_neg h3,if_pos hs];have e1:(c::s.drop (i+1):af).length - (s.drop (i+1)).length=1:=by simp
   simp only[e1];rfl
  rw[←hk];rw[ao (by rw[aj (by omega),aj (by omega)]; rfl),ao (by rw[aj (by omega),aj (by omega)]; rfl)];rw[sig_ok]at hs;simp only[Bool.or_eq_true,decide_eq_true_eq]at hs;rcases hs with h|h|h|h|h|h
  all_goals (rw[h]; rfl)
 ·have hs':Lj c=false:=by simpa using hs
  rw[sig_ok]at hs;simp only[Bool.or_eq_true,decide_eq_true_eq,not_or]at hs;obtain ⟨n1,n2,n3,n4,n5,n6⟩:=hs;have f:∀m:Nat,c.toNat≠m→((c.toNat:Int)==(m:Int))=false:=fun m h=>by rw[q,aE h]
  have f1:=f 123 n1;have f2:=f 125 n2;have f3:=f 91 n3;have f4:=f 93 n4;have f5:=f 44 n5;have f6:=f 58 n6;have e1:((123:Nat):Int)=123:=rfl;have e2:((125:Nat):Int)=125:=rfl;have e3:((91:Nat):Int)=91:=rfl;have e4:((93:Nat):Int)=93:=rfl;have e5:((44:Nat):Int)=44:=rfl;have e6:((58:Nat):Int)=58:=rfl;rw[e1]at f1; rw[e2]at f2; rw[e3]at f3; rw[e4]at f4; rw[e5]at f5; rw[e6]at f6;rw[f1,f2,f3,f4,f5,f6];simp only[cond_false];have q34:=q 34;have e34:((34:Nat):Int)=34:=rfl;rw[e34]at q34;have q45:=q 45;have e45:((45:Nat):Int)=45:=rfl;rw[e45]at q45;rw[q34,q45,hd];simp only[tokS];rw[hs',←hd];by_cases GH:c.toNat=34
  ·rw[aj GH,cond_true,if_neg (by omega),if_pos GH,ao (by rw[aj (by omega),aj (by omega)]; rfl),ao (by rw[aj (by omega),aj (by omega)]; rfl),unq];cases uqS D with
   | none=>rfl
   | some p=>rfl
  ·rw[aE GH,cond_false]
   
   have numR:(c.toNat=45∨(48≤c.toNat∧c.toNat≤57))→(kl s (i:Int) true (fun y8=>kB y8 (fun y9 o5=>bif (!o5)then (k (⟨0,([]:af),⟨0,0⟩,0⟩:Token) 0)else (k (⟨3,y8,⟨y9.au,y9.exp⟩,(i:Int)⟩:Token) (y8.length:Int))))) =
     match (if c.toNat=45∨(48≤c.toNat∧c.toNat≤57)then (if (qo (D.takeWhile sd)).2 then some (⟨3,D.takeWhile sd,(qo (D.takeWhile sd)).1,0⟩,D.dropWhile sd)else none)else if c.toNat=34 then (match uqS D with|some (o,r)=>some (⟨2,o,⟨0,0⟩,0⟩,r)|none=>none)else if false=true then some ((⟨1, [c],⟨0,0⟩,0⟩:Token),s.drop (i+1))else if D.takeWhile oy=sF∨D.takeWhile oy=jG∨D.takeWhile oy=n9 then some (⟨4,D.takeWhile oy,⟨0,0⟩,0⟩,D.dropWhile oy)else none)with
     | some (t,r)=>k (putT t (i:Int)) ((D.length - r.length:Nat):Int)|none=>k ⟨0, [],⟨0,0⟩,0⟩ 0:=by
    intro h;rw[if_pos h,num,refParse_ok];have el:D.length - (D.dropWhile sd).length=(D.takeWhile sd).length:=by omega
    cases (qo (D.takeWhile sd)).2 with
    | true=>simp only[if_true]; rw[el]; rfl
    | false=>rfl
   have namR:¬(c.toNat=45∨(48≤c.toNat∧c.toNat≤57))→(let j14:=fun (pW:Bool)=>bif pW then (kl s (i:Int) false (fun l9=>bif (l9==([116,114,117,101]:af))then (k (⟨4,l9,⟨0,0⟩,(i:Int)⟩:Token) (l9.length:Int))else (bif (l9==([102,97,108,115,101]:af))then (k (⟨4,l9,⟨0,0⟩,(i:Int)⟩:Token) (l9.length:Int))else (bif (l9==([110,117,108,108]:af))then (k (⟨4,l9,⟨0,0⟩,(i:Int)⟩:Token) (l9.length:Int))else (k (⟨0,([]:af),⟨0,0⟩,0⟩:Token) 0)))))else (k (⟨0,([]:af),⟨0,0⟩,0⟩:Token) 0); bif (decide ((c.toNat:Int)≥(97:Int)))then (j14 (decide ((c.toNat:Int)≤(122:Int))))else (j14 false)) =
     match (if c.toNat=45∨(48≤c.toNat∧c.toNat≤57)then (if (qo (D.takeWhile sd)).2 then some (⟨3,D.takeWhile sd,(qo (D.takeWhile sd)).1,0⟩,D.dropWhile sd)else none)else if c.toNat=34 then (match uqS D with|some (o,r)=>some (⟨2,o,⟨0,0⟩,0⟩,r)|none=>none)else if false=true then some ((⟨1, [c],⟨0,0⟩,0⟩:Token),s.drop (i+1))else if D.takeWhile oy=sF∨D.takeWhile oy=jG∨D.takeWhile oy=n9 then some (⟨4,D.takeWhile oy,⟨0,0⟩,0⟩,D.dropWhile oy)else none)with
     | some (t,r)=>k (putT t (i:Int)) ((D.length - r.length:Nat):Int)|none=>k ⟨0, [],⟨0,0⟩,0⟩ 0:=by
    intro h;rw[if_neg h,if_neg GH,if_neg (show ¬(false=true) by simp)];have el:D.length - (D.dropWhile oy).length=(D.takeWhile oy).length:=by omega
    simp only;by_cases hlet:oy c=true
    ·have hl:=hlet;rw[letB_ok]at hl;have hl:=of_decide_eq_true hl;rw[aj (show (c.toNat:Int)≥97 by omega),aj (show (c.toNat:Int)≤122 by omega),cond_true,cond_true,nam];generalize D.takeWhile oy=w at *;have eq:∀a:af,(w==a)=decide (w=a):=fun a=>by
      by_cases h:w=a
      ·rw[aj h]; exact beq_iff_eq.2 h
      ·rw[aE h]; exact beq_eq_false_iff_ne.2 h
     rw[eq,eq,eq];by_cases h1:w=sF
     ·rw[aj (show w = [116,114,117,101]from h1),if_pos (.inl h1)]; simp only[el]; rfl
     ·by_cases h2:w=jG
      ·rw[aE (show ¬w = [116,114,117,101]from h1),aj (show w = [102,97,108,115,101]from h2),if_pos (.inr (.inl h2))]; simp only[el]; rfl
      ·by_cases h3:w=n9
       ·rw[aE (show ¬w = [116,114,117,101]from h1),aE (show ¬w = [102,97,108,115,101]from h2),aj (show w = [110,117,108,108]from h3),if_pos (.inr (.inr h3))]; simp only[el]; rfl
       ·rw[aE (show ¬w = [116,114,117,101]from h1),aE (show ¬w = [102,97,108,115,101]from h2),aE (show ¬w = [110,117,108,108]from h3),if_neg (by rintro (h|h|h); exact h1 h; exact h2 h; exact h3 h)]; rfl
    ·have hlf:oy c=false:=by simpa using hlet
     have hn:D.takeWhile oy = []:=by rw[hd,List.takeWhile_cons,hlf]; rfl
     rw[hn,if_neg (by rintro (h|h|h) <;> cases h)];have hl:=hlf;rw[letB_ok]at hl;have hl:=of_decide_eq_false hl;by_cases h97:97≤c.toNat
     ·rw[aj (show (c.toNat:Int)≥97 by omega),aE (show ¬(c.toNat:Int)≤122 by omega)]; rfl
     ·rw[aE (show ¬(c.toNat:Int)≥97 by omega)]; rfl
   by_cases h48:48≤c.toNat
   ·rw[aj (show (c.toNat:Int)≥48 by omega),cond_true];by_cases h57:c.toNat≤57
    ·rw[aj (show (c.toNat:Int)≤57 by omega),cond_true,cond_true];exact numR (.inr ⟨h48,h57⟩)
    ·rw[aE (show ¬(c.toNat:Int)≤57 by omega),cond_false,aE (show ¬c.toNat=45 by omega),cond_false];exact namR (by omega)
   ·rw[aE (show ¬(c.toNat:Int)≥48 by omega),cond_false];by_cases h45:c.toNat=45
    ·rw[aj h45,cond_true];exact numR (.inl h45)
    ·rw[aE h45,cond_false];exact namR (by omega)
theorem scanN_blank (n p:Nat) (b:UInt8) (u:af) (out:List Token) (hb:pY b=true):rL (n+1) p (b::u) out=rL (n+1) (p+1) u out:=by
 have e1:(b::u).dropWhile pY=u.dropWhile pY:=by rw[List.dropWhile_cons,hb,if_pos rfl]
 have e2:p+((b::u).takeWhile pY).length=p+1+(u.takeWhile pY).length:=by rw[List.takeWhile_cons,hb,if_pos rfl,List.length_cons]; omega
 simp only[rL];rw[e1,e2];split
 ·rfl
 ·split
  ·rfl
  ·rename_i t r hr;have h1:=(tokS_sfx hr).2;have h2:=vT pY u;have e3:p+((b::u).length - r.length)=p+1+(u.length - r.length):=by simp only[List.length_cons]; omega
   rw[e3]
theorem refScan_loop {R:Type} (s:af) (hs:s.length≤20000) (k:List Token→Int→Int→Option R):∀(n p:Nat) (out:List Token),s.length - p<n→p≤s.length→out.length≤p →
  dt n s out (p:Int) (fun y8 y9=>bB (decide ((y8.length+1)*48≤140737488355328)) (k (y8++([(⟨5,([]:af),⟨0,0⟩,y9⟩:Token)]:List Token)) 0 0)) (fun o5 jf l9 DN=>k ([]:List Token) o5 jf) =
   k (rL n p (s.drop p) out).1 (rL n p (s.drop p) out).2.1 (rL n p (s.drop p) out).2.2:=by
 intro n
 induction n with
 | zero=>intro p out h; omega
 | succ n ih =>
  intro p out h1 h2 h3;rw[dt];unfold El;by_cases hp:p<s.length
  ·have hd:=drop_cons hp;have hdl:(s.drop p).length=s.length - p:=List.length_drop;have w1:IntKind.i64.wrap ((p:Int)+1)=((p+1:Nat):Int):=by rw[aK (by omega) (by omega)]; omega
   have hchk:(decide ((0:Int)≤(p:Int))&&decide ((p:Int)<(s.length:Int)))=true:=by rw[aj (by omega),aj (by omega)]; rfl
   rw[aj (show (p:Int)<(s.length:Int) by omega),cond_true];simp only[Bool.and_true,aj (show (0:Int)≤(p:Int) by omega),ao rfl,Int.toNat_natCast,w1];have T1:=fun (k:Token→Int→Option R)=>refTok_ok s p (by omega) hp k
   generalize hc:s.getD p 0=c at *;by_cases hb:pY c=true
   ·have ff:dt n s out ((p+1:Nat):Int) (fun y8 y9=>bB (decide ((y8.length+1)*48≤140737488355328)) (k (y8++([(⟨5,([]:af),⟨0,0⟩,y9⟩:Token)]:List Token)) 0 0)) (fun o5 jf l9 DN=>k ([]:List Token) o5 jf) =
      k (rL (n+1) p (s.drop p) out).1 (rL (n+1) p (s.drop p) out).2.1 (rL (n+1) p (s.drop p) out).2.2:=by
     rw[ih (p+1) out (by omega) (by omega) (by omega),hd,scanN_blank n p c _ out hb,MK n (n+1) (p+1) _ out (by rw[List.length_drop]; omega) (by rw[List.length_drop]; omega)]
    rw[bla_ok]at hb;simp only[Bool.or_eq_true,decide_eq_true_eq]at hb;rcases hb with h|h|h|h
    all_goals (rw[h]; exact ff)
   ·have hbf:pY c=false:=by simpa using hb
    rw[bla_ok]at hb;simp only[Bool.or_eq_true,decide_eq_true_eq,not_or]at hb;obtain ⟨n1,n2,n3,n4⟩:=hb;have f:∀m:Nat,c.toNat≠m→((c.toNat:Int)==(m:Int))=false:=fun m h=>by rw[Py,aE h]
    have f1:=f 32 n1;have f2:=f 9 n2;have f3:=f 10 n3;have f4:=f 13 n4;have e1:((32:Nat):Int)=32:=rfl;have e2:((9:Nat):Int)=9:=rfl;have e3:((10:Nat):Int)=10:=rfl;have e4:((13:Nat):Int)=13:=rfl;rw[e1]at f1; rw[e2]at f2; rw[e3]at f3; rw[e4]at f4;rw[f1,f2,f3,f4];simp only[cond_false];rw[T1];have tw:(s.drop p).takeWhile pY = []:=by rw[hd,List.takeWhile_cons,hbf]; rfl
    have dw:(s.drop p).dropWhile pY=s.drop p:=by rw[hd,List.dropWhile_cons,hbf]; rfl
    simp only[rL];rw[tw,dw,if_neg (by rw[hd]; simp)];have ep:p+([]:af).length=p:=rfl;rw[ep];cases ht:tokS (s.drop p)with
    | none=>rfl
    | some x =>
     obtain ⟨t,r⟩:=x;obtain ⟨g1,g2⟩:=tokS_sfx ht;have hn:(((s.drop p).length - r.length:Nat):Int)≠0:=by omega
     simp only;rw[beq_eq_false_iff_ne.2 hn,cond_false,ao (aj (by omega))];have hq2:IntKind.i64.wrap ((p:Int)+(((s.drop p).length - r.length:Nat):Int))=((p+((s.drop p).length - r.length):Nat):Int):=by rw[aK (by omega) (by omega)]; omega
     rw[hq2];have hr:s.drop (p+((s.drop p).length - r.length))=r:=by rw[←List.drop_drop,←sfx_drop g1]
     have key:=ih (p+((s.drop p).length - r.length)) (out ++ [putT t (p:Int)]) (by omega) (by omega) (by simp; omega);rw[hr]at key;exact key
  ·have hpe:p=s.length:=by omega
   have hdn:s.drop p = []:=List.drop_of_length_le (by omega);rw[aE (show ¬(p:Int)<(s.length:Int) by omega),cond_false,hdn];show bB (decide ((out.length+1)*48≤140737488355328)) (k (out++([(⟨5,([]:af),⟨0,0⟩,(p:Int)⟩:Token)]:List Token)) 0 0)=_;rw[ao (aj (by omega))];rfl
theorem refScan_ok {R:Type} (s:af) (k:List Token→Int→Int→Option R):nN s k=k (l8 s).1 (l8 s).2.1 (l8 s).2.2:=by
 have e:nN s k=G1 dt s k:=rfl;rw[e];unfold G1 l8;by_cases h:20000<s.length
 ·rw[aj (show (s.length:Int)>20000 by omega),cond_true,if_pos h]
 ·rw[aE (show ¬(s.length:Int)>20000 by omega),cond_false,if_neg h];have key:=refScan_loop (R:=R) s (by omega) k (List.length s+List.length ([]:List Token)+Int.natAbs 0+64) 0 [] (by omega) (by omega) (by simp);rw[List.drop_zero,MK _ (s.length+1) 0 s [] (by omega) (by omega)]at key;exact key
theorem scanN_len:∀(n p:Nat) (s:af) (out:List Token),(rL n p s out).1.length≤out.length+s.length+1
 | 0,_,_,_=>by simp[rL]
 | n+1,p,s,out=>by
  simp only[rL];split
  ·simp <;> omega
  ·split
   ·simp
   ·rename_i t r hr;have h1:=(tokS_sfx hr).2;have h2:=vT pY s;have h3:=scanN_len n (p+(s.length - r.length)) r (out ++ [putT t ((p+(s.takeWhile pY).length:Nat):Int)]);rw[List.length_append,List.length_cons,List.length_nil]at h3;omega
theorem Vj (s:af):(l8 s).1.length≤20002:=by
 unfold l8;split
 ·simp
 ·have:=scanN_len (s.length+1) 0 s [];simp at this;omega
structure RawW (R:Type) (x:R1) (p:af×Token):Prop where
 word:Word p.1 p.2
 len:p.1.length≤182
 run:∀k:af→Option R,YY x k=k p.1
 kind:∃q:Int,p.2.kind=1+q∧0≤q∧q<4∧∀k:Int→Option R,nL x.kind 4 k=k q
 text:p.2.kind=2→∀k:af→Bool→Option R,cU p.2.text k=k p.1 true
 other:p.2.kind≠2→p.2.text=p.1
 num:p.2.kind=3→∀k:cC→Option R,eI x.au x.exp k=k p.2.num
end Go.Proofs.YtmlkkgfenfdndaaGreatDoor
set_option maxRecDepth 100000
namespace Go.Proofs.YtmlkkgfenfdndaaGreatDoor
open Go Go.bb
variable {R:Type}
end Go.Proofs.YtmlkkgfenfdndaaGreatDoor
set_option maxRecDepth 100000
namespace Go.Proofs.YtmlkkgfenfdndaaGreatDoor
open Go Go.bb Go.Lib
def stT (t:Token):Int×af×cC:=(t.kind,t.text,t.num)
theorem tokW_st:∀(l:List vy) (p:Nat),(tokW p l).map stT=l.map fun x=>stT x.2.2
 | [],_=>rfl
 | x::l,p=>by simp only[tokW,List.map_cons,tokW_st l]; rfl
theorem scanN_end:∀(n p:Nat) (s:af) (out:List Token),s.length<n→(rL n p s out).2.1=0→yf (rL n p s out).1
 | 0,_,_,_,h,_=>by omega
 | n+1,p,s,out,h,he=>by
  simp only[rL]at he ⊢;by_cases hd:s.dropWhile pY = []
  ·rw[if_pos hd];exact ⟨_,List.getLast?_concat ..,rfl⟩
  ·rw[if_neg hd]at he ⊢;cases hr:tokS (s.dropWhile pY)with
   | none=>rw[hr]at he; cases he
   | some q =>
    obtain ⟨t,r⟩:=q;rw[hr]at he;have h3:=(tokS_sfx hr).2;have h4:=vT pY s;exact scanN_end n _ r _ (by omega) he
theorem Vk (s:af) (he:(l8 s).2.1=0):yf (l8 s).1:=by
 unfold l8 at he ⊢;split at he
 ·cases he
 ·rename_i h;rw[if_neg h];exact scanN_end _ _ _ _ (by omega) he
def vO (s:af):Json×Int×Int :=
 if (l8 s).2.1≠0 then (⟨0,⟨0,0⟩, [], [], []⟩,(l8 s).2.1,(l8 s).2.2)else
 match uc 40 1 (l8 s).1 with
 | .error b=>(⟨0,⟨0,0⟩, [], [], []⟩,b.1,(b.2.getD 0 ⟨0, [],⟨0,0⟩,0⟩).at_)
 | .ok (v,r)=>if (r.getD 0 ⟨0, [],⟨0,0⟩,0⟩).kind≠5 then (⟨0,⟨0,0⟩, [], [], []⟩,40,(r.getD 0 ⟨0, [],⟨0,0⟩,0⟩).at_)else (v,0,0)
theorem jparse_ok {R:Type} (s:af) (k:Json→Int→Int→Option R):er s k=k (vO s).1 (vO s).2.1 (vO s).2.2:=by
 have e0:er s k=GP av dJ nI s k:=rfl;rw[e0];unfold GP vO;rw[scan_ok];by_cases h:(l8 s).2.1=0;rotate_left
 ·have e1:((l8 s).2.1 != 0)=true:=by simpa using h
  rw[if_pos h,e1];rfl
 have e1:((l8 s).2.1 != 0)=false:=by simpa using h
 rw[if_neg (by simpa using h),e1,cond_false];have hE:=Vk s h;have hL:=Vj s;have hv:=value_ok (R:=R) 20002 (by omega) 40 1 (by omega) (by omega) (by omega) (l8 s).1 hE hL;have e2:∀q,dJ (R:=R) 1 (l8 s).1 0 q=bA 40 1 (l8 s).1 0 q:=fun q=>rfl
 rw[e2];cases hq:uc 40 1 (l8 s).1 with
 | error b =>
  rw[hq]at hv;obtain ⟨⟨g1,g2⟩,v,g3⟩:=hv;rw[g3];obtain ⟨c,r⟩:=b;cases r with
  | nil=>exact (g1.ne rfl).elim
  | cons t r =>
   have e3:(c != 0)=true:=by simpa using g2
   have hf:∀q:List Token→Int→Option R,av 40 (t::r) c q=q (t::r) c:=fun q=>by
    show (bif c==0 then q (t::r) 40 else q (t::r) c)=_;have e4:(c==0)=false:=by simpa using g2
    rw[e4]; rfl
   rw[ao EM];simp only[hf];have hz:∀z:Bool,(bif z then (bif (c != 0)then bB (decide ((0:Int)<((t::r).length:Int))) (k ⟨0,⟨0,0⟩, [], [], []⟩ c t.at_)else k v 0 0)else (bif (c != 0)then bB (decide ((0:Int)<((t::r).length:Int))) (k ⟨0,⟨0,0⟩, [], [], []⟩ c t.at_)else k v 0 0))=k ⟨0,⟨0,0⟩, [], [], []⟩ c t.at_:=fun z=>by
    rw[e3,ao EM];cases z <;> rfl
   have:=hz (t.kind != 5);obtain ⟨kd,⟨n1,n2⟩,tx,ns,is⟩:=v;exact this
 | ok p =>
  rw[hq]at hv;obtain ⟨g1,g2⟩:=hv;obtain ⟨v,r⟩:=p;rw[g2];cases r with
  | nil=>exact (g1.ne rfl).elim
  | cons t r =>
   rw[ao EM];by_cases hk:t.kind=5
   ·have e3:(t.kind != 5)=false:=by simpa using hk
    have:((((v,t::r):Json×List Token).2).getD 0 (Ty.br .token)).kind=t.kind:=rfl;show (bif (t.kind != 5)then _ else _)=_;rw[e3,cond_false];obtain ⟨kd,⟨n1,n2⟩,tx,ns,is⟩:=v;show k ⟨kd,⟨n1,n2⟩,tx,ns,is⟩ 0 0=_;have va:¬(((t::r).getD 0 ⟨0, [],⟨0,0⟩,0⟩).kind≠5):=fun h=>h hk
    simp only;rw[if_neg va]
   ·have e3:(t.kind != 5)=true:=by simpa using hk
    show (bif (t.kind != 5)then _ else _)=_;rw[e3,cond_true];show bB (decide ((0:Int)<((t::r).length:Int))) (k ⟨0,⟨0,0⟩, [], [], []⟩ 40 t.at_)=_;rw[ao EM];have va:(((t::r).getD 0 ⟨0, [],⟨0,0⟩,0⟩).kind≠5):=hk;simp only;rw[if_pos va];rfl
def stW (x:vy):Int×af×cC:=stT x.2.2
theorem MU {ts:List Token} {x:vy} {l:List vy} (h:ts.map stT=(x::l).map stW):∃t r,ts=t::r∧stT t=stW x∧r.map stT=l.map stW:=by
 cases ts with
 | nil=>cases h
 | cons t r =>
  simp only[List.map_cons,List.cons.injEq]at h;exact ⟨t,r,rfl,h.1,h.2⟩
theorem st_app {ts:List Token} {a b:List vy} (h:ts.map stT=(a++b).map stW):∃u v,ts=u++v∧u.map stT=a.map stW∧v.map stT=b.map stW:=by
 rw[List.map_append]at h;obtain ⟨u,v,e,h1,h2⟩:=List.map_eq_append_iff.1 h;exact ⟨u,v,e,h1,h2⟩
theorem Zu {ts:List Token} {x:vy} (h:ts.map stT = [x].map stW):∃t,ts = [t]∧stT t=stW x:=by
 obtain ⟨t,r,e,h1,h2⟩:=MU h;cases r with
 | nil=>exact ⟨t,e,h1⟩
 | cons u r=>cases h2
theorem Dp {t:Token} {x:vy} (h:stT t=stW x):t.kind=x.2.2.kind∧t.text=x.2.2.text∧t.num=x.2.2.num:=by
 unfold stW stT at h;simp only[Prod.mk.injEq]at h;exact h
theorem val_name {n:Nat} {d:Int} (hd:d≤16) {t:Token} {rest:List Token} {x:af} (hx:x=n9∨x=jG∨x=sF) (hk:t.kind=4) (ht:t.text=x) :
  uc (n+1) d (t::rest) = .ok (⟨ma .str (.int .i64) x Ve,⟨0,0⟩, [], [], []⟩,rest):=by
 have h1:oz t=true:=by simp[oz,hk]
 have h2:Di t.text=true:=by
  rw[ht];rcases hx with rfl|rfl|rfl <;> rfl
 simp only[uc];rw[if_neg (by rw[h1]; simp),if_neg (by omega),if_neg (by rw[hk]; simp),if_pos ⟨hk,h2⟩,ht]
theorem valS_sign {n:Nat} {d:Int} {ts:List Token} {p:Json×List Token} (h:uc n d ts = .ok p):fT [93] ts=none∧fT [125] ts=none:=by
 cases n with
 | zero=>cases h
 | succ n =>
  cases ts with
  | nil=>cases h
  | cons t r =>
   simp only[uc]at h;by_cases hs:oz t=false
   ·rw[if_pos hs]at h; cases h
   ·have im:∀x:af,x = [93]∨x = [125]→¬(t.kind=1∧t.text=x):=fun x hx ⟨h1,h2⟩=>by
     apply hs;rcases hx with rfl|rfl <;> simp[oz,DO,h1,h2]
    simp only[fT];rw[if_neg (im _ (.inl rfl)),if_neg (im _ (.inr rfl))];exact ⟨rfl,rfl⟩
mutual
theorem RT:∀(v:Json) (d:Int) (n:Nat) (ts rest:List Token),eH v d=true→17 - d<n→ts.map stT=(Bp v).map stW→uc n d (ts++rest) = .ok (v,rest)
 | ⟨k,nm,t,ns,is⟩,d,0,ts,rest,h,hn,hw=>by
  have:d≤16:=by
   cases fY.1 h <;> assumption
  omega
 | ⟨k,nm,t,ns,is⟩,d,n+1,ts,rest,h,hn,hw=>by
  have hL:=listS_wL is;have hO:=listS_wO ns is;cases fY.1 h with
  | name _ _ hd hk =>
   have Sq:∀x:af,(x=n9∨x=jG∨x=sF)→ts.map stT = [(([],x,⟨4,x,⟨0,0⟩,0⟩):vy)].map stW→uc (n+1) d (ts++rest) = .ok (⟨ma .str (.int .i64) x Ve,⟨0,0⟩, [], [], []⟩,rest):=fun x hx hw=>by
    obtain ⟨u,rfl,hu⟩:=Zu hw;obtain ⟨h1,h2,_⟩:=Dp hu;exact val_name hd hx h1 h2
   rcases hk with rfl|rfl|rfl
   ·exact Sq n9 (.inl rfl) hw
   ·exact Sq jG (.inr (.inl rfl)) hw
   ·exact Sq sF (.inr (.inr rfl)) hw
  | num _ _ hd R0 =>
   obtain ⟨u,rfl,hu⟩:=Zu (x:=([],Am nm,⟨3,Am nm,nm,0⟩)) hw;obtain ⟨h1,h2,h3⟩:=Dp hu;simp only at h1 h2 h3;have hs:oz u=true:=by simp[oz,h1]
   show uc (n+1) d (u::rest)=_;simp only[uc];rw[if_neg (by rw[hs]; simp),if_neg (by omega),if_neg (by rw[h1]; simp),if_neg (by rw[h1]; simp),if_pos h1,h3]
  | text _ _ hd ht =>
   obtain ⟨u,rfl,hu⟩:=Zu (x:=txW t) hw;obtain ⟨h1,h2,h3⟩:=Dp hu;simp only[txW]at h1 h2 h3;have hs:oz u=true:=by simp[oz,h1]
   show uc (n+1) d (u::rest)=_;simp only[uc];rw[if_neg (by rw[hs]; simp),if_neg (by omega),if_neg (by rw[h1]; simp),if_neg (by rw[h1]; simp),if_neg (by rw[h1]; simp),h2]
  | arr _ _ hd hi =>
   obtain ⟨u,Lo,rfl,hu,hw2⟩:=MU (x:=sg 91) (l:=se is true ++ [sg 93]) hw;obtain ⟨tl,tc,rfl,hl,RY⟩:=st_app hw2;obtain ⟨c,rfl,hc⟩:=Zu RY;obtain ⟨h1,h2,_⟩:=Dp hu;obtain ⟨c1,c2,_⟩:=Dp hc;simp only[sg]at h1 h2 c1 c2;have He:DO u.text=true:=by rw[h2]; rfl
   have hs:oz u=true:=by simp[oz,h1,He]
   have ho7:(u.text==([123]:af))=false:=by rw[h2]; rfl
   show uc (n+1) d (u::(tl ++ [c]++rest))=_;simp only[uc];rw[if_neg (by rw[hs]; simp),if_neg (by omega),if_pos ⟨h1,He⟩,ho7];simp only[Bool.false_eq_true,if_false];cases is with
   | nil =>
    obtain rfl:tl = []:=by simpa [se]using hl
    show (match fT [93] (c::rest)with|some r'=>_|none=>_)=_;have:fT [93] (c::rest)=some rest:=by
     show (if c.kind=1∧c.text = [93]then some rest else none)=some rest;rw[if_pos ⟨c1,c2⟩]
    rw[this]
   | cons x l =>
    obtain ⟨e1,e2⟩:=hL d n (tl ++ [c]++rest).length.succ [] [] tl c rest (by simp) hi (by omega) (by simp; omega) hl c1 c2;rw[e1,e2];rfl
  | obj _ _ _ hd hlen hu7 hi =>
   obtain ⟨u,Lo,rfl,hu,hw2⟩:=MU (x:=sg 123) (l:=nM ns is true ++ [sg 125]) hw;obtain ⟨tl,tc,rfl,hl,RY⟩:=st_app hw2;obtain ⟨c,rfl,hc⟩:=Zu RY;obtain ⟨h1,h2,_⟩:=Dp hu;obtain ⟨c1,c2,_⟩:=Dp hc;simp only[sg]at h1 h2 c1 c2;have He:DO u.text=true:=by rw[h2]; rfl
   have hs:oz u=true:=by simp[oz,h1,He]
   have ho7:(u.text==([123]:af))=true:=by rw[h2]; rfl
   show uc (n+1) d (u::(tl ++ [c]++rest))=_;simp only[uc];rw[if_neg (by rw[hs]; simp),if_neg (by omega),if_pos ⟨h1,He⟩,ho7];simp only[if_true];cases is with
   | nil =>
    obtain rfl:ns = []:=List.eq_nil_of_length_eq_zero hlen;obtain rfl:tl = []:=by simpa [nM]using hl
    show (match fT [125] (c::rest)with|some r'=>_|none=>_)=_;have:fT [125] (c::rest)=some rest:=by
     show (if c.kind=1∧c.text = [125]then some rest else none)=some rest;rw[if_pos ⟨c1,c2⟩]
    rw[this]
   | cons x l =>
    obtain ⟨e1,e2⟩:=hO d n (tl ++ [c]++rest).length.succ [] [] [] tl c rest (by simp) hlen hi hu7 (fun n=>rfl) (by omega) (by simp; omega) hl c1 c2;rw[e1,e2];rfl
theorem listS_wL:∀(is:List Json) (d:Int) (n m:Nat) (ns0:List af) (is0:List Json) (tl:List Token) (c:Token) (rest:List Token),is ≠ []→eS is (d+1)=true→17 - (d+1)<n→tl.length<m →
  tl.map stT=(se is true).map stW→c.kind=1→c.text = [93]→fT [93] (tl ++ [c]++rest)=none∧ub (uc n (d+1)) [93] false m ns0 is0 (tl ++ [c]++rest) = .ok ((ns0,is0++is),rest)
 | [],_,_,_,_,_,_,_,_,h,_,_,_,_,_,_=>(h rfl).elim
 | x::l,d,n,0,ns0,is0,tl,c,rest,_,hr,hn,hm,hw,c1,c2=>by omega
 | x::l,d,n,m+1,ns0,is0,tl,c,rest,_,hr,hn,hm,hw,c1,c2=>by
  obtain ⟨tv,tr,rfl,hv,ht⟩:=st_app (a:=Bp x) (b:=se l false) hw;simp only[eS,Bool.and_eq_true]at hr;have hx:=RT x (d+1) n tv (tr ++ [c]++rest) hr.1 hn hv;have hL:=listS_wL l;rw[show tv++tr ++ [c]++rest=tv++(tr ++ [c]++rest) by simp];refine ⟨(valS_sign hx).1,?_⟩;have hp:wA (uc n (d+1)) false ns0 is0 (tv++(tr ++ [c]++rest)) = .ok ((ns0,is0 ++ [x]),tr ++ [c]++rest):=by
   simp only[wA,hx]
  simp only[ub,hp];cases l with
  | nil =>
   obtain rfl:tr = []:=by simpa [se]using ht
   have:fT [93] ([] ++ [c]++rest)=some rest:=by
    show (if c.kind=1∧c.text = [93]then some rest else none)=some rest;rw[if_pos ⟨c1,c2⟩]
   rw[this]
  | cons y l' =>
   obtain ⟨u,tr',rfl,hu,ht'⟩:=MU (x:=sg 44) (l:=se (y::l') true) ht;obtain ⟨u1,u2,_⟩:=Dp hu;simp only[sg]at u1 u2;have s1:fT [93] (u::tr' ++ [c]++rest)=none:=by
    show (if u.kind=1∧u.text = [93]then some (tr' ++ [c]++rest)else none)=none;rw[if_neg (by rw[u2]; rintro ⟨_,h⟩; cases h)]
   have s2:fT [44] (u::tr' ++ [c]++rest)=some (tr' ++ [c]++rest):=by
    show (if u.kind=1∧u.text = [44]then some (tr' ++ [c]++rest)else none)=_;rw[if_pos ⟨u1,u2⟩]
   rw[s1,s2];obtain ⟨_,e2⟩:=hL d n m ns0 (is0 ++ [x]) tr' c rest (by simp) hr.2 hn (by simp at hm; omega) ht' c1 c2;simp only;rw[e2];simp
theorem listS_wO:∀(ns:List af) (is:List Json) (d:Int) (n m:Nat) (ns0:List af) (is0:List Json) (seen:List af) (tl:List Token) (c:Token) (rest:List Token),is ≠ []→ns.length=is.length→eS is (d+1)=true→qi seen ns=true→(∀n,ns0.contains n=seen.contains n) →
  17 - (d+1)<n→tl.length<m →
  tl.map stT=(nM ns is true).map stW→c.kind=1→c.text = [125]→fT [125] (tl ++ [c]++rest)=none∧ub (uc n (d+1)) [125] true m ns0 is0 (tl ++ [c]++rest) = .ok ((ns0++ns,is0++is),rest)
 | _, [],_,_,_,_,_,_,_,_,_,h,_,_,_,_,_,_,_,_,_=>(h rfl).elim
 | [],x::l,d,n,m,ns0,is0,seen,tl,c,rest,_,hlen,hr,hu,hsn,hn,hm,hw,c1,c2=>by cases hlen
 | nm::ns,x::l,d,n,0,ns0,is0,seen,tl,c,rest,_,hlen,hr,hu,hsn,hn,hm,hw,c1,c2=>by omega
 | nm::ns,x::l,d,n,m+1,ns0,is0,seen,tl,c,rest,_,hlen,hr,hu,hsn,hn,hm,hw,c1,c2=>by
  obtain ⟨tn,tl1,rfl,hn1,hw1⟩:=MU (x:=txW nm) (l:=sg 58::(Bp x++nM ns l false)) hw;obtain ⟨tk,tl2,rfl,hk1,hw2⟩:=MU hw1;obtain ⟨tv,tr,rfl,hv,ht⟩:=st_app hw2;obtain ⟨n1,n2,_⟩:=Dp hn1;obtain ⟨k1,k2,_⟩:=Dp hk1;simp only[txW]at n1 n2;simp only[sg]at k1 k2;simp only[eS,Bool.and_eq_true]at hr;simp only[qi,Bool.and_eq_true,Bool.not_eq_true']at hu;have hx:=RT x (d+1) n tv (tr ++ [c]++rest) hr.1 hn hv;have hO:=listS_wO ns l;rw[show tn::tk::(tv++tr) ++ [c]++rest=tn::tk::(tv++(tr ++ [c]++rest)) by simp];refine ⟨?_,?_⟩
  ·show (if tn.kind=1∧tn.text = [125]then some _ else none)=none;rw[if_neg (by rw[n1]; rintro ⟨h,_⟩; cases h)]
  have R0:Ij ns0 (tn::tk::(tv++(tr ++ [c]++rest))) = .ok (nm,tv++(tr ++ [c]++rest)):=by
   simp only[Ij];rw[if_neg (by rw[n1]; simp),if_neg (by rw[n2,hsn,hu.1.1]; simp)];have:fT [58] (tk::(tv++(tr ++ [c]++rest)))=some (tv++(tr ++ [c]++rest)):=by
    show (if tk.kind=1∧tk.text = [58]then some (tv++(tr ++ [c]++rest))else none)=_;rw[if_pos ⟨k1,k2⟩]
   rw[this,n2]
  have hp:wA (uc n (d+1)) true ns0 is0 (tn::tk::(tv++(tr ++ [c]++rest))) = .ok ((ns0 ++ [nm],is0 ++ [x]),tr ++ [c]++rest):=by
   simp only[wA,R0,hx]
  simp only[ub,hp];cases l with
  | nil =>
   obtain rfl:ns = []:=List.eq_nil_of_length_eq_zero (by simpa using hlen);obtain rfl:tr = []:=by simpa [nM]using ht
   have:fT [125] ([] ++ [c]++rest)=some rest:=by
    show (if c.kind=1∧c.text = [125]then some rest else none)=some rest;rw[if_pos ⟨c1,c2⟩]
   rw[this]
  | cons y l' =>
   obtain ⟨u,tr',rfl,hu2,ht'⟩:=MU (x:=sg 44) (l:=nM ns (y::l') true) ht;obtain ⟨u1,u2,_⟩:=Dp hu2;simp only[sg]at u1 u2;have s1:fT [125] (u::tr' ++ [c]++rest)=none:=by
    show (if u.kind=1∧u.text = [125]then some (tr' ++ [c]++rest)else none)=none;rw[if_neg (by rw[u2]; rintro ⟨_,h⟩; cases h)]
   have s2:fT [44] (u::tr' ++ [c]++rest)=some (tr' ++ [c]++rest):=by
    show (if u.kind=1∧u.text = [44]then some (tr' ++ [c]++rest)else none)=_;rw[if_pos ⟨u1,u2⟩]
   rw[s1,s2];obtain ⟨_,e2⟩:=hO d n m (ns0 ++ [nm]) (is0 ++ [x]) (nm::seen) tr' c rest (by simp) (by simpa using hlen) hr.2 hu.2 (fun z=>by
    rw[List.contains_append,hsn,List.contains_cons,List.contains_cons,List.contains_nil,Bool.or_false,Bool.or_comm]) hn (by simp at hm; omega) ht' c1 c2
   simp only;rw[e2];simp
end
theorem val_tail {v:Json} (h:eH v 1=true) (ts:List Token) (rest:List Token) (hw:ts.map stT=(Bp v).map stW):uc 40 1 (ts++rest) = .ok (v,rest):=RT v 1 40 ts rest h (by omega) hw
def tight (l:List vy):Prop:=∀x∈l,x.1 = []
mutual
theorem tightJ:∀v:Json,tight (Bp v)
 | ⟨k,n,t,ns,is⟩=>by
  have hL:=tightL is;have hO:=tightO ns is;intro x hx;simp only[Bp]at hx;split at hx
  ·simp at hx; rw[hx]
  split at hx
  ·simp at hx; rw[hx]
  split at hx
  ·simp at hx; rw[hx]
  split at hx
  ·simp at hx; rw[hx]
  split at hx
  ·simp[txW]at hx; rw[hx]
  split at hx
  ·simp only[List.mem_cons,List.mem_append,List.not_mem_nil,or_false]at hx;rcases hx with rfl|hx|rfl
   ·rfl
   ·exact hO true x hx
   ·rfl
  ·simp only[List.mem_cons,List.mem_append,List.not_mem_nil,or_false]at hx;rcases hx with rfl|hx|rfl
   ·rfl
   ·exact hL true x hx
   ·rfl
theorem tightL:∀(l:List Json) (first:Bool),tight (se l first)
 | [],_=>by intro x hx; simp[se]at hx
 | y::l,first=>by
  have h1:=tightJ y;have h2:=tightL l false;intro x hx;simp only[se,List.mem_append]at hx;rcases hx with hx|hx|hx
  ·cases first
   ·simp at hx; rw[hx]; rfl
   ·simp at hx
  ·exact h1 x hx
  ·exact h2 x hx
theorem tightO:∀(ns:List af) (l:List Json) (first:Bool),tight (nM ns l first)
 | _, [],_=>by intro x hx; simp[nM]at hx
 | ns,y::l,first=>by
  have h1:=tightJ y;have h2:=tightO ns.tail l false;intro x hx;simp only[nM,List.mem_append,List.mem_cons]at hx;rcases hx with hx|rfl|rfl|hx|hx
  ·cases first
   ·simp at hx; rw[hx]; rfl
   ·simp at hx
  ·rfl
  ·rfl
  ·exact h1 x hx
  ·exact h2 x hx
end
theorem print_ne (v:Json) (h:eH v 1=true):dY v ≠ []:=by
 intro e;have h1:=Vd v [];rw[List.append_nil,e]at h1;have vB:=Zn v 1 h [] (.inl rfl);have hv:=val_tail h (tokW 0 (Bp v)) [] (tokW_st _ _);cases hw:Bp v with
 | nil=>rw[hw]at hv; cases hv
 | cons x l =>
  rw[hw]at h1 vB;obtain ⟨_,⟨c,u,hc,_⟩,_⟩:=vB;simp[Fe,hc]at h1
theorem wq {R:Type} (t s:af) (hv:fE t=true) (ht:t.length≤10000000000) (hl:(s++RS t).length≤100000000000) (k:List Int→Option R):aO t (zs s) k=k (zs (s++RS t)):=by
 obtain ⟨rs,hr,hc,rfl,_,hq⟩|⟨h,_⟩:=quote_any (R:=R) t ht
 ·have e:aO (dV rs) (zs s) k=cU (dV rs) (fun y3 y4=>ae y3 (zs s) (fun y5 y6=>k y6)):=rfl;rw[TM hr]at hl ⊢;rw[List.length_append]at hl;rw[e,hq];exact ws (qt rs) s (by omega) (by unfold SX; omega) _
 ·rw[hv]at h; cases h
def nB (v:Json) (i:Nat):af:=if v.kind=7 then hM (v.names.drop i) (v.items.drop i) (i==0)else hZ (v.items.drop i) (i==0)
theorem Zv {R:Type} (f:dK R) (z:af) (v:Json) (hl:v.items.length≤1099511627776) (h7:v.kind=7→v.names.length=v.items.length∧∀t∈v.names,fE t=true∧t.length≤10000000000)
  (hf:∀x∈v.items,∀(s:af) (k:List Int→Option R),(s++dY x).length≤100000000000→f x (zs s) k=k (zs (s++dY x))) (e0:af→List Int→Option R):∀(F i:Nat) (s:af),i≤v.items.length→v.items.length - i<F→(s++nB v i).length≤100000000000 →
  aZ f F z v.items (v.items.length:Int) (i:Int) (zs s) v e0=e0 z (zs (s++nB v i)):=by
 intro F
 induction F with
 | zero=>intro i s _ h; omega
 | succ F ih =>
  intro i s hi hF hb;have eL:aZ f (F+1) z v.items (v.items.length:Int) (i:Int) (zs s) v e0=jn ad f aO (fun eh eB fb lZ BR BS=>aZ f F eh eB fb lZ BR BS e0) z v.items (v.items.length:Int) (i:Int) (zs s) v e0:=rfl;rw[eL];unfold jn;simp only[Json.eta];by_cases h:i<v.items.length;rotate_left
  ·have h1:decide ((i:Int)<(v.items.length:Int))=false:=by simp; omega
   rw[h1,cond_false];have hd:v.items.drop i = []:=List.drop_eq_nil_of_le (by omega);have:nB v i = []:=by
    unfold nB;rw[hd];split
    ·cases v.names.drop i <;> rfl
    ·rfl
   rw[this,List.append_nil]
  have h1:decide ((i:Int)<(v.items.length:Int))=true:=by simp; omega
  have h2:(decide ((0:Int)≤(i:Int))&&true)=true:=by simp
  have hw:IntKind.i64.wrap ((i:Int)+1)=((i+1:Nat):Int):=by rw[aK (by omega) (by omega)]; omega
  have hg:v.items.getD (i:Int).toNat (Ty.br .json)=v.items[i]:=getD_at h _;have hr:nB v i=(if i=0 then []else [44])++((if v.kind=7 then RS (v.names.getD i []) ++ [58]else [])++(dY v.items[i]++nB v (i+1))):=by
   unfold nB;rw[List.drop_eq_getElem_cons h];by_cases ZV:v.kind=7
   ·rw[if_pos ZV,if_pos ZV,if_pos ZV];have hn:=(h7 ZV).1;have hni:i<v.names.length:=by omega
    rw[List.drop_eq_getElem_cons hni];simp only[hM,List.headD_cons,List.tail_cons];have:v.names.getD i []=v.names[i]:=getD_at hni _;rw[this];by_cases h0:i=0
    ·subst h0; simp
    ·have e1:(i==0)=false:=by simpa using h0
     have e2:(i+1==0)=false:=rfl;rw[e1,e2];simp[h0]
   ·rw[if_neg ZV,if_neg ZV,if_neg ZV];simp only[hZ];by_cases h0:i=0
    ·subst h0; simp
    ·have e1:(i==0)=false:=by simpa using h0
     have e2:(i+1==0)=false:=rfl;rw[e1,e2];simp[h0]
  rw[hr]at hb ⊢;rw[h1,cond_true,ao h2,hg,hw]
  
  have key:∀s':af,(s'++((if v.kind=7 then RS (v.names.getD i []) ++ [58]else [])++(dY v.items[i]++nB v (i+1)))).length≤100000000000 →
    (bif (v.kind==7)then (bB (decide ((0:Int)≤(i:Int))&&decide ((i:Int)<(v.names.length:Int))) (aO (v.names.getD (i:Int).toNat (Ty.br .str)) (zs s') (fun SQ=>ad 58 SQ (fun BQ=>f v.items[i] BQ (fun JF=>aZ f F z v.items (v.items.length:Int) ((i+1:Nat):Int) JF v e0)))))else (f v.items[i] (zs s') (fun NY=>aZ f F z v.items (v.items.length:Int) ((i+1:Nat):Int) NY v e0))) =
    e0 z (zs (s'++((if v.kind=7 then RS (v.names.getD i []) ++ [58]else [])++(dY v.items[i]++nB v (i+1))))):=by
   intro s' qq;by_cases ZV:v.kind=7
   ·rw[if_pos ZV]at qq ⊢;have hk:(v.kind==7)=true:=by simpa using ZV
    have hn:=(h7 ZV).1;have hni:i<v.names.length:=by omega
    have hgn:v.names.getD (i:Int).toNat (Ty.br .str)=v.names.getD i []:=rfl;have hgi:v.names.getD i []=v.names[i]:=getD_at hni _;obtain ⟨hv1,hv2⟩:=(h7 ZV).2 v.names[i] (List.getElem_mem hni);rw[hk,cond_true,ao (by simp; omega),hgn];rw[hgi]at qq ⊢;have e58:((58:UInt8).toNat:Int)=58:=rfl;simp only[List.length_append,List.length_cons,List.length_nil]at qq;rw[wq _ _ hv1 hv2 (by rw[List.length_append]; omega),←e58,wb _ _ (by unfold SX; rw[List.length_append]; omega),hf _ (List.getElem_mem h) _ _ (by simp only[List.length_append,List.length_cons,List.length_nil]; omega),
     ih (i+1) _ (by omega) (by omega) (by simp only[List.length_append,List.length_cons,List.length_nil]; omega)]
    simp only[List.append_assoc]
   ·rw[if_neg ZV]at qq ⊢;have hk:(v.kind==7)=false:=by simpa using ZV
    rw[List.nil_append]at qq ⊢;simp only[List.length_append]at qq;rw[hk,cond_false,hf _ (List.getElem_mem h) _ _ (by rw[List.length_append]; omega),ih (i+1) _ (by omega) (by omega) (by simp only[List.length_append]; omega)];simp only[List.append_assoc]
  by_cases h0:i=0
  ·subst h0;rw[if_pos rfl,List.nil_append]at hb ⊢;exact key s hb
  ·rw[if_neg h0]at hb ⊢;have e3:decide ((i:Int)>0)=true:=by simp; omega
   have e44:((44:UInt8).toNat:Int)=44:=rfl;have Vx:=hb;simp only[List.length_append,List.length_cons,List.length_nil]at Vx;rw[e3,cond_true,←e44,wb _ _ (by unfold SX; omega)];have:=key (s ++ [44]) (by simp only[List.length_append,List.length_cons,List.length_nil]; omega);rw[List.append_assoc]at this;exact this
theorem Il:∀(ns:List af) (seen:List af),qi seen ns=true→∀t∈ns,fE t=true
 | [],_,_,t,h=>by cases h
 | n::ns,seen,h,t,ht=>by
  simp only[qi,Bool.and_eq_true]at h;rcases List.mem_cons.1 ht with rfl|ht
  ·exact h.1.2
  ·exact Il ns _ h.2 t ht
theorem write_N {R:Type}:∀(n:Nat) (v:Json) (d:Int),eH v d=true→G0 v=true→v.depth<n→∀(s:af) (k:List Int→Option R),(s++dY v).length≤100000000000→dL n v (zs s) k=k (zs (s++dY v)):=by
 intro n
 induction n with
 | zero=>intro v d _ _ h; omega
 | succ n ih =>
  intro v d hr hl hn s k hb;obtain ⟨Nu,Ph,hil,htx,Vu⟩:=rM.1 hl;have e0:dL (n+1) v (zs s) k=Cl bt ad ae aO (aZ (dL n)) v (zs s) k:=rfl;rw[e0];have DP:∀(z:af) (e:af→List Int→Option R) (F:Nat) (s':af),(v.kind=7→v.names.length=v.items.length∧∀t∈v.names,fE t=true∧t.length≤10000000000)→eS v.items (d+1)=true→v.items.length<F→(s'++nB v 0).length≤100000000000 →
    aZ (dL n) F z v.items (v.items.length:Int) 0 (zs s') v e=e z (zs (s'++nB v 0)):=fun z e F s' h7 hi hF qq =>
   Zv (dL n) z v Ph h7 (fun x hx s k hb=>ih x (d+1) (MP hi hx) (Fi hil hx) (by have:=BH hx; omega) s k hb) e F 0 s' (by omega) (by omega) qq
  cases fY.1 hr with
  | name kd _ hd hk =>
   rcases hk with rfl|rfl|rfl
   ·show ae n9 (zs s) (fun y3 y4=>k y4)=k (zs (s++n9));exact ws n9 s (by decide) (by unfold SX; rw[List.length_append]at hb; omega) _
   ·show ae jG (zs s) (fun y3 y4=>k y4)=k (zs (s++jG));exact ws jG s (by decide) (by unfold SX; rw[List.length_append]at hb; omega) _
   ·show ae sF (zs s) (fun y3 y4=>k y4)=k (zs (s++sF));exact ws sF s (by decide) (by unfold SX; rw[List.length_append]at hb; omega) _
  | num nm _ hd R0 =>
   have Vx:(s++Am nm).length≤100000000000:=hb;rw[List.length_append]at Vx;show bt ⟨nm.au,nm.exp⟩ (fun y9=>ae y9 (zs s) (fun o5 jf=>k jf))=k (zs (s++Am nm));rw[print_any];exact ws (Am nm) s (by omega) (by unfold SX; omega) _
  | text t _ hd ht=>exact wq t s ht htx hb k
  | arr is _ hd hi =>
   have Vx:(s++(91::(hZ is true ++ [93]))).length≤100000000000:=hb;simp only[List.length_append,List.length_cons,List.length_nil]at Vx;have e91:((91:UInt8).toNat:Int)=91:=rfl;have e93:((93:UInt8).toNat:Int)=93:=rfl;show ad ((91:UInt8).toNat:Int) (zs s) (fun xy=>aZ (dL n) _ [91,93] is (is.length:Int) 0 xy ⟨6,⟨0,0⟩, [], [],is⟩ (fun Nz Qr=>bB (decide ((1:Int)<(Nz.length:Int))) (ad ((Nz.getD 1 0).toNat:Int) Qr (fun Md=>k Md))))=k (zs (s++(91::(hZ is true ++ [93]))));rw[wb _ _ (by unfold SX; omega)];simp only at DP;have hz:nB ⟨6,⟨0,0⟩, [], [],is⟩ 0=hZ is true:=rfl;rw[hz]at DP;rw[DP _ _ _ _ (fun h=>by cases h) hi]
   rotate_left
   ·simp only[List.length_cons,List.length_nil]; omega
   ·simp only[List.length_append,List.length_cons,List.length_nil]; omega
   show ad ((93:UInt8).toNat:Int) (zs ((s ++ [91])++hZ is true)) (fun Md=>k Md)=_;rw[wb _ _ (by unfold SX; simp only[List.length_append,List.length_cons,List.length_nil]; omega)];simp only[List.append_assoc,List.cons_append,List.nil_append]
  | obj ns is _ hd hlen hu hi =>
   have Vx:(s++(123::(hM ns is true ++ [125]))).length≤100000000000:=hb;simp only[List.length_append,List.length_cons,List.length_nil]at Vx;show ad ((123:UInt8).toNat:Int) (zs s) (fun xy=>aZ (dL n) _ [123,125] is (is.length:Int) 0 xy ⟨7,⟨0,0⟩, [],ns,is⟩ (fun Nz Qr=>bB (decide ((1:Int)<(Nz.length:Int))) (ad ((Nz.getD 1 0).toNat:Int) Qr (fun Md=>k Md))))=k (zs (s++(123::(hM ns is true ++ [125]))));rw[wb _ _ (by unfold SX; omega)];simp only at DP;have hz:nB ⟨7,⟨0,0⟩, [],ns,is⟩ 0=hM ns is true:=rfl;rw[hz]at DP;rw[DP _ _ _ _ (fun _=>⟨hlen,fun t ht=>⟨Il ns [] hu t ht,Vu t ht⟩⟩) hi];rotate_left
   ·simp only[List.length_cons,List.length_nil]; omega
   ·simp only[List.length_append,List.length_cons,List.length_nil]; omega
   show ad ((125:UInt8).toNat:Int) (zs ((s ++ [123])++hM ns is true)) (fun Md=>k Md)=_;rw[wb _ _ (by unfold SX; simp only[List.length_append,List.length_cons,List.length_nil]; omega)];simp only[List.append_assoc,List.cons_append,List.nil_append]
theorem Zw {R:Type}:∀(F:Nat) (a:af) (b:List Json) (c d:Int) (e:List Int) (f:Json) (g:af→List Int→Option R),bG F a b c d e f g=aZ cd F a b c d e f g:=by
 intro F
 induction F with
 | zero=>intros; rfl
 | succ F ih =>
  intro a b c d e f g;have h1:bG (F+1) a b c d e f g=jn ad cd aO (fun eh eB fb lZ BR BS=>bG F eh eB fb lZ BR BS g) a b c d e f g:=rfl;have h2:aZ cd (F+1) a b c d e f g=jn ad cd aO (fun eh eB fb lZ BR BS=>aZ cd F eh eB fb lZ BR BS g) a b c d e f g:=rfl;rw[h1,h2];simp only[ih]
theorem Zx {R:Type} (v:Json) (hr:eH v 1=true) (hl:G0 v=true) (hb:(dY v).length≤100000000000) (k:af→Option R):dX v k=k (dY v):=by
 have e0:dX v k=xL cW gQ v k:=rfl;rw[e0];unfold xL;simp only[Json.eta];rw[MQ v hl,hr,Bool.not_true,cond_false];have e1:gQ v (fun y3=>k (wN y3))=Ct bt ak ad ai dW bG v (fun y3=>k (wN y3)):=rfl;rw[e1];obtain ⟨Nu,Ph,hil,htx,Vu⟩:=rM.1 hl;have DP:∀(z:af) (e:af→List Int→Option R) (F:Nat) (s':af),(v.kind=7→v.names.length=v.items.length∧∀t∈v.names,fE t=true∧t.length≤10000000000)→eS v.items (1+1)=true→v.items.length<F→(s'++nB v 0).length≤100000000000 →
   aZ cd F z v.items (v.items.length:Int) 0 (zs s') v e=e z (zs (s'++nB v 0)):=fun z e F s' h7 hi hF qq =>
  Zv cd z v Ph h7 (fun x hx s k hb=>write_N (x.depth+2) x (1+1) (MP hi hx) (Fi hil hx) (by omega) s k hb) e F 0 s' (by omega) (by omega) qq
 cases fY.1 hr with
 | name kd _ hd hk =>
  rcases hk with rfl|rfl|rfl
  ·show ai n9 (fun y3 y4=>k (wN y4))=k n9;rw[wsn n9 (by decide),v7]
  ·show ai jG (fun y3 y4=>k (wN y4))=k jG;rw[wsn jG (by decide),v7]
  ·show ai sF (fun y3 y4=>k (wN y4))=k sF;rw[wsn sF (by decide),v7]
 | num nm _ hd R0 =>
  have Vx:(Am nm).length≤100000000000:=hb;show bt ⟨nm.au,nm.exp⟩ (fun y9=>ai y9 (fun o5 jf=>k (wN jf)))=k (Am nm);rw[print_any];show ai (Am nm) (fun o5 jf=>k (wN jf))=k (Am nm);rw[wsn _ Vx,v7]
 | text t _ hd ht =>
  have Vx:(RS t).length≤100000000000:=hb;show cU t (fun y2 y3=>ai y2 (fun y4 y5=>k (wN y5)))=k (RS t);obtain ⟨rs,hrs,hc,rfl,_,hq⟩|⟨h,_⟩:=quote_any (R:=R) t htx
  ·rw[hq,TM hrs];rw[TM hrs]at Vx;show ai (qt rs) (fun y4 y5=>k (wN y5))=k (qt rs);rw[wsn _ Vx,v7]
  ·rw[ht]at h; cases h
 | arr is _ hd hi =>
   have Vx:(91::(hZ is true ++ [93]):af).length≤100000000000:=hb;simp only[List.length_append,List.length_cons,List.length_nil]at Vx;show bG _ [91,93] is (is.length:Int) 0 (zs ([] ++ [91])) ⟨6,⟨0,0⟩, [], [],is⟩ (fun NY Nz=>bB (decide ((1:Int)<(NY.length:Int))) (ad ((NY.getD 1 0).toNat:Int) Nz (fun Qr=>k (wN Qr))))=k (91::(hZ is true ++ [93]));simp only at DP;have hz:nB ⟨6,⟨0,0⟩, [], [],is⟩ 0=hZ is true:=rfl;rw[hz]at DP;rw[Zw,DP _ _ _ _ (fun h=>by cases h) hi];rotate_left
   ·simp only[List.length_cons,List.length_nil]; omega
   ·simp only[List.length_append,List.length_cons,List.length_nil]; omega
   show ad ((93:UInt8).toNat:Int) (zs (([] ++ [91])++hZ is true)) (fun Md=>k (wN Md))=_;rw[wb _ _ (by unfold SX; simp only[List.length_append,List.length_cons,List.length_nil]; omega),v7];simp only[List.append_assoc,List.cons_append,List.nil_append]
 | obj ns is _ hd hlen hu hi =>
   have Vx:(123::(hM ns is true ++ [125]):af).length≤100000000000:=hb;simp only[List.length_append,List.length_cons,List.length_nil]at Vx;show bG _ [123,125] is (is.length:Int) 0 (zs ([] ++ [123])) ⟨7,⟨0,0⟩, [],ns,is⟩ (fun NY Nz=>bB (decide ((1:Int)<(NY.length:Int))) (ad ((NY.getD 1 0).toNat:Int) Nz (fun Qr=>k (wN Qr))))=k (123::(hM ns is true ++ [125]));simp only at DP;have hz:nB ⟨7,⟨0,0⟩, [],ns,is⟩ 0=hM ns is true:=rfl;rw[hz]at DP;rw[Zw,DP _ _ _ _ (fun _=>⟨hlen,fun t ht=>⟨Il ns [] hu t ht,Vu t ht⟩⟩) hi];rotate_left
   ·simp only[List.length_cons,List.length_nil]; omega
   ·simp only[List.length_append,List.length_cons,List.length_nil]; omega
   show ad ((125:UInt8).toNat:Int) (zs (([] ++ [123])++hM ns is true)) (fun Md=>k (wN Md))=_;rw[wb _ _ (by unfold SX; simp only[List.length_append,List.length_cons,List.length_nil]; omega),v7];simp only[List.append_assoc,List.cons_append,List.nil_append]
theorem print_wrong {R:Type} (v:Json) (hr:eH v 1=false) (hl:G0 v=true) (k:af→Option R):dX v k=k []:=by
 have e0:dX v k=xL cW gQ v k:=rfl;rw[e0];unfold xL;simp only[Json.eta];rw[MQ v hl,hr];rfl
end Go.Proofs.YtmlkkgfenfdndaaGreatDoor
namespace Go.bb
open Go.RowKit Go.Proofs.YtmlkkgfenfdndaaGreatDoor Go.ChangeShapes Go.WideShapes
mutual
inductive Wt:Nat→V→Prop where
 | int {n:Nat} {k:IntKind} {z:Int} (h1:1≤n) (h:k.has z):Wt n (.int k z)
 | bool {n:Nat} (h1:1≤n) (b:Bool):Wt n (.bool b)
 | str {n:Nat} {s:af} (h:s.length+1≤n):Wt n (.str s)
 | sl {n m:Nat} {T:Ty} {l:List T.den} (h:m+1≤n) (he:WX m (l.map T.cells)):Wt n (.sl T l .no)
inductive TQ:Nat→List V→Prop where
 | nil:TQ 0 []
 | cons {a b:Nat} {v:V} {vs:List V} (h:Wt a v) (t:TQ b vs):TQ (a+b) (v::vs)
inductive WX:Nat→List (List V)→Prop where
 | nil:WX 0 []
 | cons {a b:Nat} {v:List V} {vs:List (List V)} (h:TQ a v) (t:WX b vs):WX (a+b) (v::vs)
end
theorem TQ.append:∀ {x y:List V} {a b:Nat},TQ a x→TQ b y→TQ (a+b) (x++y)
 | [],_,_,_, .nil,h=>by rw[Nat.zero_add]; exact h
 | v::x,y,_,b, .cons (a:=p) (b:=q) h t,h'=>by
  rw[Nat.add_assoc];exact .cons h (TQ.append t h')
theorem Wt.one {p:fv} {x:p.den} {n:Nat} (h:Wt n (p.enc x)):TQ n [p.enc x] := .cons (b:=0) h .nil
section
variable {H:Type} {enc:TypeId×Value→H} {P:Program} {tt:dR} {w:World} {spare:Nat→Bool} {held:Bool}
def uh (w:World) (N:Nat) (ls:List fv) (cs:List Value):Prop:=∃vs n,IS ls vs∧cN w [] V2 vs cs∧TQ n vs∧n≤N
theorem uh.append {N M:Nat} {a b:List fv} {x y:List Value} (h:uh w N a x) (k:uh w M b y):uh w (N+M) (a++b) (x++y):=by
 obtain ⟨u,n,h1,h2,h3,h4⟩:=h;obtain ⟨v,m,k1,k2,k3,k4⟩:=k;exact ⟨u++v,n+m,h1.append k1,h2.append k2,h3.append k3,by omega⟩
theorem uh.nil {N:Nat}:uh w N [] []:=⟨[],0, .nil, .nil, .nil,Nat.zero_le _⟩
theorem uh.one {N:Nat} {p:fv} {x:p.den} {d:Value} (h:dQ w [] V2 (p.enc x) d) (s:Wt N (p.enc x)):uh w N [p] [d] :=
 ⟨[p.enc x],N, .one p x, .cons h .nil,Wt.one s,Nat.le_refl _⟩
theorem uh.le {N M:Nat} {ls:List fv} {cs:List Value} (h:uh w N ls cs) (hm:N≤M):uh w M ls cs:=by
 obtain ⟨u,n,h1,h2,h3,h4⟩:=h;exact ⟨u,n,h1,h2,h3,by omega⟩
theorem wtll_of {T:Ty}:∀(l:List T.den) (es:List (DataW H)),l.length=es.length→(∀(i:Nat) (y:T.den) (e:DataW H),l[i]? = some y→es[i]? = some e→∃n,TQ n (T.cells y)∧n≤Rows.uptoBulk e)→∃m,WX m (l.map T.cells)∧m≤Rows.uptoBulkAll es
 | [],es,_,_=>⟨0, .nil,Nat.zero_le _⟩
 | y::l, [],h,_=>by cases h
 | y::l,e::es,h,hh=>by
  obtain ⟨n,h1,h2⟩:=hh 0 y e rfl rfl;obtain ⟨m,h3,h4⟩:=wtll_of l es (by simpa using h) fun i y e hy he=>hh (i+1) y e hy he
  exact ⟨n+m, .cons h1 h3,by simp only[Rows.uptoBulkAll]; omega⟩
theorem TR {n m:Nat} (ih:∀(t:TypeId) (cs:List Value) (x:DataW H×List MemPlace) (ls:List fv),DataW.trod enc P w 0 spare held n t cs=some x→nO P tt m t=some ls→Rows.uptoBulk x.1≤mx→uh w (Rows.uptoBulk x.1) ls cs) (cs:List Value) :
  ∀(fs:List Field) (j:Nat) (xs:List (DataW H×List MemPlace)) (ls:List fv),(fs.mapM fun f=>DataW.trod enc P w 0 spare held n f.type ((cs.drop f.offset).take (P.cellsOf f.type)))=some xs →
   Od P (nO P tt m) fs j cs.length=some ls→Rows.uptoBulkAll (xs.map (·.1))≤mx→uh w (Rows.uptoBulkAll (xs.map (·.1))) ls (cs.drop j)
 | [],j,xs,ls,_,hl,_=>by
  unfold Od at hl;split at hl
  ·rename_i hj;cases hl;rw[List.drop_eq_nil_of_le (by omega)];exact .nil
  ·cases hl
 | f::fs,j,xs,ls,hx,hl,hb=>by
  simp only[List.mapM_cons,Option.pure_def,Option.bind_eq_bind,Option.bind_eq_some_iff]at hx;obtain ⟨y,hy,ys,hys,e⟩:=hx;cases e;simp only[List.map_cons,Rows.uptoBulkAll]at hb;unfold Od at hl;split at hl
  ·rename_i ho;split at hl
   ·rename_i a ha;split at hl
    ·rename_i sL;split at hl
     ·rename_i b qq;cases hl;rw[ho]at hy;have r1:=ih _ _ _ _ hy ha (by omega);have r2:=TR ih cs fs (j+a.length) ys b hys qq (by omega);have e:cs.drop j=(cs.drop j).take (P.cellsOf f.type)++cs.drop (j+a.length):=by
       rw[←sL,←List.drop_drop];exact (List.take_append_drop a.length (cs.drop j)).symm
      rw[e];exact r1.append r2
     ·cases hl
    ·cases hl
   ·cases hl
  ·cases hl
theorem read_arrW {n m:Nat} {e:TypeId} (ih:∀(t:TypeId) (cs:List Value) (x:DataW H×List MemPlace) (ls:List fv),DataW.trod enc P w 0 spare held n t cs=some x→nO P tt m t=some ls→Rows.uptoBulk x.1≤mx→uh w (Rows.uptoBulk x.1) ls cs) (cs:List Value) {a:List fv} (ha:nO P tt m e=some a) :
  ∀(k i:Nat) (ls:List fv) (es:List (DataW H)),es.length=k→(∀q y,es[q]? = some y→∃x,DataW.trod enc P w 0 spare held n e ((cs.drop ((i+q)*P.cellsOf e)).take (P.cellsOf e))=some x∧x.1=y)→Rows.uptoBulkAll es≤mx →
   D1 (some a) (P.cellsOf e) k (i*P.cellsOf e) cs.length=some ls→uh w (Rows.uptoBulkAll es) ls (cs.drop (i*P.cellsOf e))
 | 0,i,ls,es,_,_,_,hl=>by
  unfold D1 at hl;split at hl
  ·rename_i hj;cases hl;rw[List.drop_eq_nil_of_le (by omega)];exact .nil
  ·cases hl
 | k+1,i,ls, [],h0,hx,hbm,hl=>by cases h0
 | k+1,i,ls,y0::es,h0,hx,hbm,hl=>by
  unfold D1 at hl;simp only at hl;split at hl
  ·rename_i sL;split at hl
   ·rename_i b qq;cases hl;obtain ⟨x,h1,rfl⟩:=hx 0 y0 rfl;simp only[Rows.uptoBulkAll]at hbm ⊢;have r1:=ih _ _ _ _ h1 ha (by omega);rw[sL]at qq;have e1:i*P.cellsOf e+P.cellsOf e=(i+1)*P.cellsOf e:=by rw[Nat.add_mul]; omega
    rw[e1]at qq;have r2:=read_arrW ih cs ha k (i+1) b es (by simpa using h0) (fun q y hq=>by
     have:=hx (q+1) y hq;rw[show i+(q+1)=i+1+q by omega]at this;exact this) (by omega) qq
    have e:cs.drop (i*P.cellsOf e)=(cs.drop (i*P.cellsOf e)).take (P.cellsOf e)++cs.drop ((i+1)*P.cellsOf e):=by
     rw[←e1,←List.drop_drop];exact (List.take_append_drop _ _).symm
    rw[e];exact r1.append r2
   ·cases hl
  ·cases hl
theorem MV (Dw:Oe P tt):∀(n:Nat) (t:TypeId) (cs:List Value) (x:DataW H×List MemPlace) (m:Nat) (ls:List fv),DataW.trod enc P w 0 spare held n t cs=some x→nO P tt m t=some ls →
  Rows.uptoBulk x.1≤mx→uh w (Rows.uptoBulk x.1) ls cs
 | 0,_,_,_,_,_,h,_,_=>by simp[DataW.trod]at h
 | n+1,t,cs,x,0,ls,_,hl,_=>by simp[nO]at hl
 | n+1,t,cs,x,m+1,ls,h,hl,hb=>by
  have ih:∀(t:TypeId) (cs:List Value) (x:DataW H×List MemPlace) (ls:List fv),DataW.trod enc P w 0 spare held n t cs=some x→nO P tt m t=some ls→Rows.uptoBulk x.1≤mx→uh w (Rows.uptoBulk x.1) ls cs :=
   fun t cs x ls h1 h2 h3=>MV Dw n t cs x m ls h1 h2 h3
  have ih8:∀(t:TypeId) (cs:List Value) (x:DataW H×List MemPlace) (ls:List fv),DataW.trod enc P w 0 spare held n t cs=some x→nO P tt 8 t=some ls→Rows.uptoBulk x.1≤mx→uh w (Rows.uptoBulk x.1) ls cs :=
   fun t cs x ls h1 h2 h3=>MV Dw n t cs x 8 ls h1 h2 h3
  unfold nO at hl;unfold DataW.trod at h;cases hu:P.underlying t with
  | none=>rw[hu]at hl; cases hl
  | some u =>
   rw[hu]at hl h;cases u <;> simp only at hl <;> (try cases hl)
   case some.bool.refl =>
    rcases cs with _|⟨c,_|⟨c2,r⟩⟩
    ·simp at h
    ·cases c <;> simp at h;exact .one (p := .bool) (.bool _) (.bool (Su _) _)
    ·simp at h
   case some.int.refl k =>
    rcases cs with _|⟨c,_|⟨c2,r⟩⟩
    ·simp at h
    ·cases c <;> simp at h;rename_i k' z;obtain ⟨⟨rfl,hw⟩,_⟩:=h;have hk:IntKind.has k' z:=by
      simp only[Lit.wf,Bool.and_eq_true,decide_eq_true_eq]at hw;exact hw
     exact .one (p := .int k') (x:=z) (.int hk) (.int (Su _) hk)
    ·simp at h
   case some.string.refl =>
    rcases cs with _|⟨c,_|⟨c2,r⟩⟩
    ·simp at h
    ·cases c <;> simp at h;rename_i s;obtain ⟨hs,rfl⟩:=h;have qq:s.data.toList.length+1≤mx:=by simp only[Rows.uptoBulk]at hb; omega
     have sL:s.size≤mx:=by
      have e:s.data.toList.length=s.size:=by rw[Array.length_toList]; rfl
      omega
     exact .one (p := .str) (x:=s.data.toList) (.str sL) (.str (by simp only[Rows.uptoBulk]; omega))
    ·simp at h
   case some.slice e =>
    split at hl <;> (try cases hl);rename_i T hT;split at hl <;> (try cases hl);rename_i sL;rcases cs with _|⟨c,_|⟨c2,r⟩⟩
    ·simp at h
    ·cases c <;> try (simp at h; done)
     rename_i A len cap;cases A with
     | none =>
      have h0:len=0∧cap=0:=by
       split at h <;> simp_all
      obtain ⟨rfl,rfl⟩:=h0;refine .one (p := .sl T) (x := []) ?_ (.sl (m:=0) (Su _) .nil);exact dQ.sl (T:=T) (l := []) (t := .no) (A:=none) (cap:=0) (fun _ _=>undef) (Nat.le_refl _) (Nat.zero_le _) (fun i j hi=>by simp at hi) (fun i j x v hx=>by simp at hx) (by simp) (by simp)
     | some a =>
      simp only[Nat.zero_le,true_and]at h;split at h <;> (try cases h);rename_i hc;simp only[Option.bind_eq_some_iff,Option.map_eq_some_iff]at h;obtain ⟨elems,he,rest,hr,rfl⟩:=h;obtain ⟨g1,g2⟩:=Sv he;simp only[List.length_range]at g1;simp only[Rows.uptoBulk]at hb;have hlen:len≤mx:=by
       have:=bulk_len (elems.map (·.1));simp only[List.length_map]at this;omega
      have key:∀i,i<len→∃y:T.den,∃ds:List Value,w.cells? 0 (a.add (i*P.cellsOf e)) (P.cellsOf e)=some ds∧cN w [] V2 (T.cells y) ds∧∃n,TQ n (T.cells y)∧∀z,elems[i]? = some z→n≤Rows.uptoBulk z.1:=by
       intro i hi;obtain ⟨z,hz,hz2⟩:=g2 i i (by simp[hi]);simp only[Option.bind_eq_some_iff]at hz2;obtain ⟨ds,hd1,hd2⟩:=hz2;have hmem:z.1∈elems.map (·.1):=List.mem_map.2 ⟨z,List.mem_of_getElem? hz,rfl⟩;obtain ⟨vs,nw,⟨q,rfl⟩,k2,k3,k4⟩:=ih8 _ _ _ _ hd2 (Dw e T hT) (by have:=bulk_part hmem; omega);obtain ⟨y,hy⟩:=Ss T q;rw[←hy]at k2 k3;exact ⟨y,ds,hd1,k2,nw,k3,fun z' hz'=>by rw[hz]at hz'; cases hz'; exact k4⟩
      obtain ⟨l,hl1,XH⟩:=list_of _ len key;obtain ⟨mm,hm1,hm2⟩:=wtll_of l (elems.map (·.1)) (by simp; omega) fun i y e hy he=>by
       obtain ⟨_,_,_,nn,hn1,hn2⟩:=XH i y hy;rw[List.getElem?_map]at he;obtain ⟨z,hz,rfl⟩:=Option.map_eq_some_iff.1 he;exact ⟨nn,hn1,hn2 z hz⟩
      refine .one (p := .sl T) (x:=l) ?_ (.sl (m:=mm) (by simp only[Rows.uptoBulk]; omega) hm1)
      ·have hv:(Value.slice (some a) len cap) = .slice (some a) l.length cap:=by rw[hl1]
       rw[hv];refine dQ.sl (fun i j=>(w.cell? ((a.add (i*T.sz)).add j)).getD undef) (by omega) (Nat.le_trans hc.2 (Nat.le_of_ble_eq_true rfl)) (fun i j hi hj => ?_) (fun i j y v hy hv => ?_) (by simp) (by simp)
       ·obtain ⟨y,hy⟩:∃y,l[i]? = some y:=⟨l[i],by simp[hi]⟩;obtain ⟨ds,d1,d2,_⟩:=XH i y hy;rw[sL]at d1;obtain ⟨c1,c2⟩:=Rl d1;obtain ⟨v,v1,v2⟩:=c2 j hj;have ea:a=⟨a.block,a.off,none⟩:=by
         have hs0:a.spot=none:=by
          obtain ⟨y0,hy0⟩:∃y,l[0]? = some y:=⟨l[0],by simp⟩;obtain ⟨ds0,d01,_,_⟩:=XH 0 y0 hy0;rw[sL]at d01;obtain ⟨_,c02⟩:=Rl d01;obtain ⟨v0,_,v02⟩:=c02 0 (Ty.LC T);simp only[Nat.zero_mul,Addr.add,if_true]at v02;exact spot_none v02
         cases a; simp_all
        refine ⟨a.block,a.off,by rw[←ea],?_,free0 _ _⟩;have e2:=addr_add (a:=a) (by rw[ea]) (i*T.sz) j;rw[e2,v2]; rfl
       ·have hi:i<l.length:=(List.getElem?_eq_some_iff.1 hy).1;obtain ⟨ds,d1,d2,_⟩:=XH i y hy;rw[sL]at d1;obtain ⟨c1,c2⟩:=Rl d1;have hj:j<T.sz:=by rw[←T.lF y]; exact (List.getElem?_eq_some_iff.1 hv).1
        obtain ⟨u,v1,v2⟩:=c2 j hj;rw[v2];exact d2.2 j v u hv v1
    ·simp at h
   case some.struct fs =>
    simp only at h;split at h
    ·rename_i Er;simp only[Option.map_eq_some_iff]at h;obtain ⟨xs,hx,rfl⟩:=h;simp only[Rows.uptoBulk]at hb;rw[←Er]at hl;have:=TR ih cs fs.toList 0 xs ls hx hl (by omega);exact uh.le (by simpa using this) (by simp only[Rows.uptoBulk]; omega)
    ·cases h
   case some.array k e =>
    simp only at h;split at h
    ·rename_i Er;simp only[Option.map_eq_some_iff]at h;obtain ⟨xs,hx,rfl⟩:=h;simp only[Rows.uptoBulk]at hb;rw[←Er]at hl;obtain ⟨g1,g2⟩:=Sv hx;cases ha:nO P tt m e with
     | none =>
      rw[ha]at hl;cases k with
      | zero =>
       unfold D1 at hl;split at hl
       ·rename_i hj;cases hl;have:cs = []:=List.eq_nil_of_length_eq_zero hj.symm;subst this;exact .nil
       ·cases hl
      | succ k=>simp[D1]at hl
     | some a =>
      rw[ha]at hl;have:=read_arrW ih cs ha k 0 ls (xs.map (·.1)) (by simpa using g1) (fun q y hy=>by
       rw[List.getElem?_map]at hy;obtain ⟨z,hz,rfl⟩:=Option.map_eq_some_iff.1 hy;have hq:q<k:=by
        have:=(List.getElem?_eq_some_iff.1 hz).1;simp at g1;omega
       obtain ⟨y2,hy1,hy2⟩:=g2 q q (by simp[hq]);rw[hz]at hy1;cases hy1;exact ⟨z,by rw[Nat.zero_add]; exact hy2,rfl⟩) (by omega) (by simpa using hl)
      exact uh.le (by simpa using this) (by simp only[Rows.uptoBulk]; omega)
    ·cases h
theorem Zy {N:Nat} (Dw:Oe P tt) {t:TypeId} {v:Value} {d:DataW H} {ps:List MemPlace} {p:fv} {base:Nat} (ho:oneCell P t=true) (hl:nO P tt 8 t=some [p]) (Gv:Value.okWide P w .any base t v)
  (h:DataW.Trod enc P w 0 spare held t v d ps) (hb:Rows.uptoBulk d≤N) (hN:N≤mx):∃x:p.den,dQ w [] V2 (p.enc x) v∧∃n,Wt n (p.enc x)∧n≤N:=by
 obtain ⟨n,h⟩:=h;obtain ⟨vs,nw,⟨x,rfl⟩,h2,h3,h4⟩:=MV Dw n t _ _ 8 _ h hl (Nat.le_trans hb hN);have hc:v.cells.toList = [v]:=by
  unfold oneCell at ho;unfold Value.okWide at Gv;cases hu:P.underlying t with
  | none=>rw[hu]at ho; cases ho
  | some u =>
   rw[hu]at ho Gv;cases u <;> simp only at ho <;> (try cases ho) <;> (cases v <;> simp[Cell.okWide,Cell.ok,hu]at Gv <;> rfl)
 rw[hc]at h2;have h3':TQ nw [p.enc x.1]:=h3;cases h3' with
 | cons a b=>cases b; exact ⟨x.1,h2.head,_,a,Nat.le_trans h4 hb⟩
theorem Zz {N:Nat} (Dw:Oe P tt) {t:TypeId} {v:Value} {d:DataW H} {ps:List MemPlace} {T:Ty} {base:Nat} (ho:aggCell P t=true) (hl:nO P tt 8 t=some T.leaves) (Gv:Value.okWide P w .any base t v)
  (h:DataW.Trod enc P w 0 spare held t v d ps) (hb:Rows.uptoBulk d≤N) (hN:N≤mx):∃x:T.den,dQ w [] V2 (.agg (T.cells x)) v∧∃n,TQ n (T.cells x)∧n≤N:=by
 obtain ⟨n,h⟩:=h;obtain ⟨vs,nw,⟨x,rfl⟩,h2,h3,h4⟩:=MV Dw n t _ _ 8 _ h hl (Nat.le_trans hb hN);obtain ⟨y,hy⟩:=Ss T x;rw[←hy]at h2 h3;have hc:∃cs,v = .agg cs:=by
  unfold aggCell at ho;unfold Value.okWide at Gv;cases hu:P.underlying t with
  | none=>rw[hu]at ho; cases ho
  | some u =>
   rw[hu]at ho Gv;cases u <;> simp only at ho <;> (try cases ho) <;> (obtain ⟨cs,hc,_⟩:=Gv; exact ⟨cs,hc⟩)
 obtain ⟨cs,rfl⟩:=hc;exact ⟨y, .agg (by have:=h2.1; simpa [Value.cells]using this) fun j v d hv hd=>h2.2 j v d hv (by simpa [Value.cells]using hd),nw,h3,Nat.le_trans h4 hb⟩
end
end Go.bb
set_option maxRecDepth 100000
namespace Go.Proofs.YtmlkkgfenfdndaaGreatDoor
open Go Go.bb Go.Lib
mutual
def Raw.tot:Raw→Nat
 | ⟨_,_,_,_,is⟩=>Raw.totL is+1
def Raw.totL:List Raw→Nat
 | []=>0
 | x::l=>Raw.tot x+Raw.totL l
end
mutual
def Raw.ok:Raw→Prop
 | ⟨k,m,e,t,is⟩=>(AN k∧AN m∧AN e∧∀c∈t,AN c)∧(t.length≤1048576∧is.length≤1048576)∧Raw.okL is
def Raw.okL:List Raw→Prop
 | []=>True
 | x::l=>Raw.ok x∧Raw.okL l
end
theorem ZA {T:Ty}:∀(l:List T.den) (m:Nat),WX m (l.map T.cells)→(∀(x:T.den) n,TQ n (T.cells x)→1≤n)→l.length≤m
 | [],_,_,_=>Nat.zero_le _
 | x::l,_, .cons h t,hh=>by
  have h1:=hh x _ h;have h2:=ZA l _ t hh;simp only[List.length_cons];omega
theorem wt_pos {n:Nat} {v:V} (h:Wt n v):1≤n:=by
 cases h <;> omega
theorem wt_ints:∀(l:List (Ty.den (.int .i64))) (m:Nat),WX m (l.map (Ty.cells (.int .i64)))→∀c∈(l:List Int),AN c
 | [],_,_,c,hc=>by cases hc
 | x::l,_, .cons h t,c,hc=>by
  rcases List.mem_cons.1 hc with rfl|hc
  ·have h':TQ _ [V.int .i64 c]:=h;cases h' with
   | cons a b=>cases a with|int _ hk=>exact L5.1 hk
  ·exact wt_ints l _ t c hc
mutual
theorem wt_raw:∀(x:Raw) (n:Nat),n≤1048576→TQ n (Ty.cells .raw x)→Raw.tot x≤n∧Raw.ok x
 | ⟨k,m,e,t,is⟩,n,hn,h=>by
  have hL:=wt_rawL is;have h':TQ n [.int .i64 k, .int .i64 m, .int .i64 e, .sl (.int .i64) t .no, .sl .raw is .no]:=h;cases h' with
  | cons a1 h'=>cases h' with
   | cons a2 h'=>cases h' with
    | cons a3 h'=>cases h' with
     | cons a4 h'=>cases h' with
      | cons a5 h' =>
       cases h';cases a1 with|int p1 k1 =>
       cases a2 with|int p2 k2 =>
       cases a3 with|int p3 k3 =>
       cases a4 with|sl p4 w4 =>
       cases a5 with|sl p5 w5 =>
       have hl4:=ZA (T := .int .i64) t _ w4 (fun x n h=>by
        have h':TQ n [V.int .i64 x]:=h;cases h' with|cons a b=>have:=wt_pos a; omega)
       have hl5:=ZA (T := .raw) is _ w5 (fun x n h=>by
        have h':TQ n (.int .i64 x.kind::_):=h;cases h' with|cons a b=>have:=wt_pos a; omega)
       obtain ⟨g1,g2⟩:=hL _ (by omega) w5;refine ⟨by simp only[Raw.tot]; omega,⟨L5.1 k1,L5.1 k2,L5.1 k3,wt_ints t _ w4⟩,⟨Nat.le_trans hl4 (by omega),Nat.le_trans hl5 (by omega)⟩,g2⟩
theorem wt_rawL:∀(l:List Raw) (n:Nat),n≤1048576→WX n (l.map (Ty.cells .raw))→Raw.totL l≤n∧Raw.okL l
 | [],_,_,_=>⟨Nat.zero_le _,trivial⟩
 | x::l,_,hn, .cons h t=>by
  obtain ⟨a1,a2⟩:=wt_raw x _ (by omega) h;obtain ⟨b1,b2⟩:=wt_rawL l _ (by omega) t;exact ⟨by simp only[Raw.totL]; omega,a2,b2⟩
end
theorem okL_mem:∀ {l:List Raw} {x:Raw},Raw.okL l→x∈l→Raw.ok x
 | y::l,x,h,hx=>by
  rcases List.mem_cons.1 hx with rfl|hx
  ·exact h.1
  ·exact okL_mem h.2 hx
theorem rdepth_mem {l:List Raw} {y:Raw} (h:y∈l):y.depth≤Raw.Hn l:=by
 induction l with
 | nil=>cases h
 | cons a l ih =>
  simp only[Raw.Hn];rcases List.mem_cons.1 h with rfl|h
  ·exact Nat.le_max_left _ _
  ·exact Nat.le_trans (ih h) (Nat.le_max_right _ _)
theorem rdepth_item {x y:Raw} (h:y∈x.items):y.depth<x.depth:=by
 have:x.depth=Raw.Hn x.items+1:=by cases x; simp[Raw.depth]
 rw[this];exact Nat.lt_succ_of_le (rdepth_mem h)
theorem ZB:∀(ns seen:List af) (n:af),qi seen (ns ++ [n])=(qi seen ns&&((!(seen.contains n||ns.contains n))&&fE n))
 | [],seen,n=>by simp[qi]
 | m::ns,seen,n=>by
  simp only[List.cons_append,qi,ZB ns (m::seen) n,List.contains_cons];cases seen.contains m <;> cases fE m <;> cases qi (m::seen) ns <;> cases n==m <;> cases seen.contains n <;> rfl
theorem MW (t:af):(RS t).length≤6*t.length+2:=by
 unfold RS;have:∀l:af,(l.flatMap qb).length≤6*l.length:=by
  intro l
  induction l with
  | nil=>simp
  | cons b l ih =>
   have:=qb_len b;simp only[List.flatMap_cons,List.length_append,List.length_cons];omega
 have:=this t;simp only[List.length_cons,List.length_append,List.length_nil];omega
theorem fit_seen {R:Type} (d q i:Int) (y:af) (raw:Raw) (a1 a2 a3:Int) (a4:af) (b1 b2 b3:Int) (b4:af) (ns:List af) (hl:ns.length≤1000000) (is:List Json) (ri:Raw) (e0):∀(F j:Nat) (b:Bool),j≤ns.length→ns.length - j<F →
  cf (R:=R) F d q i y b (j:Int) raw a1 a2 a3 a4 b1 b2 b3 b4 ns is ri e0=e0 d q i y (b||(ns.drop j).contains y) raw a1 a2 a3 a4 b1 b2 b3 b4 ns is ri:=by
 intro F
 induction F with
 | zero=>intro j b _ h; omega
 | succ F ih =>
  intro j b hj hF;show xT (fun eh eB fb lZ BR BS NG NH NI NJ yU FJ Mr Ms UG x15' x16' x17'=>cf F eh eB fb lZ BR BS NG NH NI NJ yU FJ Mr Ms UG x15' x16' x17' e0) d q i y b (j:Int) raw a1 a2 a3 a4 b1 b2 b3 b4 ns is ri e0=_;unfold xT;simp only[Raw.eta];by_cases h:j<ns.length
  ·have h1:decide ((j:Int)<(ns.length:Int))=true:=by simp; omega
   have h2:(decide ((0:Int)≤(j:Int))&&true)=true:=by simp
   have hw:IntKind.i64.wrap ((j:Int)+1)=((j+1:Nat):Int):=by rw[aK (by omega) (by omega)]; omega
   have hg:ns.getD (j:Int).toNat (Ty.br .str)=ns[j]:=getD_at h _;rw[h1,cond_true,ao h2,hg,hw,List.drop_eq_getElem_cons h,List.contains_cons];cases b with
   | true =>
    rw[cond_true,ih (j+1) true (by omega) (by omega)];rfl
   | false =>
    rw[cond_false,ih (j+1) _ (by omega) (by omega),Bool.false_or];have:(ns[j]==y)=(y==ns[j]):=by rw[Bool.eq_iff_iff,beq_iff_eq,beq_iff_eq]; exact eq_comm
    rw[this]
  ·have h1:decide ((j:Int)<(ns.length:Int))=false:=by simp; omega
   rw[h1,cond_false,List.drop_eq_nil_of_le (by omega),List.contains_nil,Bool.or_false]
structure FitV (R:Type) (v:Json) (d:Int) (n:Nat):Prop where
 right:eH v d=true
 len:G0 v=true
 size:(dY v).length+5000≤10000*n
theorem RU:∀(l:List Json) (x:Json) (b:Bool),(hZ (l ++ [x]) b).length≤(hZ l b).length+1+(dY x).length
 | [],x,b=>by cases b <;> simp[hZ] <;> omega
 | y::l,x,b=>by
  have:=RU l x false;simp only[List.cons_append,hZ,List.length_append];omega
theorem RV:∀(ns:List af) (l:List Json) (n:af) (x:Json) (b:Bool),ns.length=l.length→(hM (ns ++ [n]) (l ++ [x]) b).length≤(hM ns l b).length+2+(RS n).length+(dY x).length
 | [], [],n,x,b,_=>by cases b <;> simp[hM] <;> omega
 | m::ns,y::l,n,x,b,h=>by
  have:=RV ns l n x false (by simpa using h);simp only[List.cons_append,hM,List.headD_cons,List.tail_cons,List.length_append,List.length_cons];omega
 | [],_::_,_,_,_,h=>by cases h
 | _::_, [],_,_,_,h=>by cases h
theorem Im:∀(l:List Json) (x:Json) (d:Int),eS (l ++ [x]) d=(eS l d&&eH x d)
 | [],x,d=>by simp[eS]
 | y::l,x,d=>by simp only[List.cons_append,eS,Im l x d,Bool.and_assoc]
theorem ZC:∀(l:List Json) (x:Json),P8 (l ++ [x])=(P8 l&&G0 x)
 | [],x=>by simp[P8]
 | y::l,x=>by simp only[List.cons_append,P8,ZC l x,Bool.and_assoc]
theorem totL_take (l:List Raw) (i:Nat) (h:i<l.length):Raw.totL (l.take (i+1))=Raw.totL (l.take i)+Raw.tot l[i]:=by
 induction l generalizing i with
 | nil=>cases h
 | cons y l ih =>
  cases i with
  | zero=>simp[Raw.totL]
  | succ i =>
   have:=ih i (by simpa using h);simp only[List.take_succ_cons,Raw.totL,List.getElem_cons_succ];omega
theorem totL_take_le (l:List Raw) (i:Nat):Raw.totL (l.take i)≤Raw.totL l:=by
 induction l generalizing i with
 | nil=>simp
 | cons y l ih =>
  cases i with
  | zero=>simp[Raw.totL]
  | succ i =>
   have:=ih i;simp only[List.take_succ_cons,Raw.totL];omega
structure Held (q:Int) (d:Int) (ns:List af) (is:List Json) (n:Nat):Prop where
 right:eS is (d+1)=true
 len:P8 is=true
 count:is.length≤12
 names:(q=7∧ns.length=is.length∧qi [] ns=true∧(∀t∈ns,t.length≤1000)∧(hM ns is true).length≤10000*n)∨(q=6∧ns = []∧(hZ is true).length≤10000*n)
theorem Held.fit {R:Type} {q d:Int} (hd:d≤16) {ns:List af} {is:List Json} {n m:Nat} (h:Held q d ns is n) (hn:n≤m):FitV R ⟨q,⟨0,0⟩, [],ns,is⟩ d (m+1):=by
 obtain ⟨h1,h2,h3,h4⟩:=h;rcases h4 with ⟨rfl,g1,g2,g3,g4⟩|⟨rfl,rfl,g4⟩
 ·refine ⟨fY.2 (.obj ns is d hd g1 g2 h1),rM.2 ⟨by simp only; omega,by simp only; omega,h2,by simp,fun t ht=>by have:=g3 t ht; omega⟩,?_⟩;show (123::(hM ns is true ++ [125]):af).length+5000≤_;simp only[List.length_cons,List.length_append,List.length_nil];omega
 ·refine ⟨fY.2 (.arr is d hd h1),rM.2 ⟨by simp,by simp only; omega,h2,by simp,by simp⟩,?_⟩;show (91::(hZ is true ++ [93]):af).length+5000≤_;simp only[List.length_cons,List.length_append,List.length_nil];omega
end Go.Proofs.YtmlkkgfenfdndaaGreatDoor
set_option maxRecDepth 100000
namespace Go.Proofs.YtmlkkgfenfdndaaGreatDoor
open Go Go.bb
variable {R:Type}
end Go.Proofs.YtmlkkgfenfdndaaGreatDoor
set_option maxRecDepth 100000
namespace Go.Proofs.YtmlkkgfenfdndaaGreatDoor
open Go Go.bb Go.Lib
theorem awake04 {R:Type} (k:Bool→Option R):ij k=k true:=by kernel_rfl
theorem pick04 {R:Type} (c n:Int) (hc:AN c) (h0:0<n) (hn:n≤9223372036854775807):∃r:Int,0≤r∧r<n∧∀k:Int→Option R,dm c n k=k r:=Yv c n hc h0 hn
theorem fit_loop11 {R:Type} (ff:gP R) (d:Int) (hd:1≤d∧d≤16) (q:Int) (hq:q=6∨q=7) (raw:Raw) (hl:raw.items.length≤1048576) (vB:Raw.okL raw.items) (hf:d<16→∀x∈raw.items,∃v,FitV R v (d+1) (Raw.tot x)∧∀k:Json→Option R,ff x (d+1) k=k v) :
  ∀(F i:Nat) (ns:List af) (is:List Json),i≤raw.items.length→raw.items.length - i<F→is.length≤i→Held q d ns is (Raw.totL (raw.items.take i)) →
  ∃TW QW,Held q d TW QW (Raw.totL raw.items)∧∀e0,bE ff F d q (i:Int) raw 0 0 0 [] q 0 0 [] ns is e0=e0 0 0 0 [] q 0 0 [] TW QW:=by
 intro F
 induction F with
 | zero=>intro i ns is _ h; omega
 | succ F ih =>
  intro i ns is hi hF hc hh;have e1:∀e0,bE ff (F+1) d q (i:Int) raw 0 0 0 [] q 0 0 [] ns is e0=mn db ff cf (fun eh eB fb lZ BR BS NG NH NI NJ yU FJ Mr Ms=>bE ff F eh eB fb lZ BR BS NG NH NI NJ yU FJ Mr Ms e0) d q (i:Int) raw 0 0 0 [] q 0 0 [] ns is e0:=fun e0=>rfl
  have stop:(∀e0,bE ff (F+1) d q (i:Int) raw 0 0 0 [] q 0 0 [] ns is e0=e0 0 0 0 [] q 0 0 [] ns is)→∃TW QW,Held q d TW QW (Raw.totL raw.items)∧∀e0,bE ff (F+1) d q (i:Int) raw 0 0 0 [] q 0 0 [] ns is e0=e0 0 0 0 [] q 0 0 [] TW QW:=fun h=>by
   refine ⟨ns,is,⟨hh.right,hh.len,hh.count,?_⟩,h⟩;have hle:=totL_take_le raw.items i;rcases hh.names with ⟨g1,g2,g3,g4,g5⟩|⟨g1,g2,g3⟩
   ·exact .inl ⟨g1,g2,g3,g4,by omega⟩
   ·exact .inr ⟨g1,g2,by omega⟩
  by_cases h:i<raw.items.length;rotate_left
  ·refine stop fun e0 => ?_
   rw[e1];unfold mn;have h1:decide ((i:Int)<(raw.items.length:Int))=false:=by simp; omega
   rw[h1];rfl
  have h1:decide ((i:Int)<(raw.items.length:Int))=true:=by simp; omega
  by_cases h12:i<12;rotate_left
  ·refine stop fun e0 => ?_
   rw[e1];unfold mn;have h2:decide ((i:Int)<12)=false:=by simp; omega
   rw[h1,h2];rfl
  have h2:decide ((i:Int)<12)=true:=by simp; omega
  by_cases ZU:d<16;rotate_left
  ·refine stop fun e0 => ?_
   rw[e1];unfold mn;have h3:decide (d<16)=false:=by simp; omega
   rw[h1,h2,h3];rfl
  have h3:decide (d<16)=true:=by simpa using ZU
  have hw:IntKind.i64.wrap ((i:Int)+1)=((i+1:Nat):Int):=by rw[aK (by omega) (by omega)]; omega
  have hwd:IntKind.i64.wrap (d+1)=d+1:=aK (by omega) (by omega);have hg:raw.items.getD (i:Int).toNat (Ty.br .raw)=raw.items[i]:=getD_at h _;have hxok:=okL_mem vB (List.getElem_mem h);obtain ⟨v,hv,kR⟩:=hf ZU raw.items[i] (List.getElem_mem h);generalize hx:raw.items[i]=x at *;have hxt:∀c∈x.text,AN c:=by
   obtain ⟨k1,m1,e1',t1,is1⟩:=x;exact hxok.1.2.2.2
  have hxl:x.text.length≤1048576:=by
   obtain ⟨k1,m1,e1',t1,is1⟩:=x;exact hxok.2.1.1
  have hmin:min (x.text.length:Int) 8=((min x.text.length 8:Nat):Int):=by omega
  obtain ⟨rs,r1,r2,r3,r4⟩:=text_ok2 (R:=R) (x.text.take (min x.text.length 8)) (fun c hc=>hxt c (List.mem_of_mem_take hc));have Gv:fE (dV rs)=true:=Bv.2 ⟨rs,r1,rfl⟩;have htot:Raw.totL (raw.items.take (i+1))=Raw.totL (raw.items.take i)+Raw.tot x:=by rw[totL_take _ _ h,hx]
  have hqt:=MW (dV rs);have e2:∀e0,bE ff (F+1) d q (i:Int) raw 0 0 0 [] q 0 0 [] ns is e0 =
    (bif (q==7)then (cf (Int.natAbs d+Int.natAbs q+Int.natAbs (i:Int)+List.length (dV rs)+Int.natAbs 0+Raw.fu raw+Int.natAbs 0+Int.natAbs 0+Int.natAbs 0+List.length ([]:af)+Int.natAbs q+Int.natAbs 0+Int.natAbs 0+List.length ([]:af)+List.length ns+List.length is+Raw.fu x+64) d q (i:Int) (dV rs) false 0 raw 0 0 0 [] q 0 0 [] ns is x (fun YH y43 y44 y45 y46 Ux y48 y49 y50 YK Uy VK VL y55 y56 y57 y58=>bif y46 then (bE ff F YH y43 (IntKind.i64.wrap (y44+1)) Ux y48 y49 y50 YK Uy VK VL y55 y56 y57 e0)else (bB (decide ((y56.length+1)*16≤140737488355328)) (ff y58 (IntKind.i64.wrap (YH+1)) (fun y59=>bB (decide ((y57.length+1)*88≤140737488355328)) (bE ff F YH y43 (IntKind.i64.wrap (y44+1)) Ux y48 y49 y50 YK Uy VK VL y55 (y56++([y45]:List af)) (y57++([y59]:List Json)) e0))))))
    else (ff x (IntKind.i64.wrap (d+1)) (fun y60=>bB (decide ((is.length+1)*88≤140737488355328)) (bE ff F d q (IntKind.i64.wrap ((i:Int)+1)) raw 0 0 0 [] q 0 0 [] ns (is++([y60]:List Json)) e0)))):=fun e0=>by
   rw[e1];unfold mn;simp only[Raw.eta,Json.eta];rw[h1,cond_true,h2,cond_true,h3,cond_true,ao (by simp),hg,hmin,ao (by rw[aj (by omega),aj (by omega)]; rfl),ao (aj (by omega)),Int.toNat_natCast,List.drop_zero,Nat.sub_zero,r4]
  have c1:decide ((ns.length+1)*16≤140737488355328)=true:=by
   rw[decide_eq_true_eq];have:=hh.count;rcases hh.names with ⟨_,g2,_⟩|⟨_,g2,_⟩
   ·omega
   ·rw[g2]; simp
  have c2:decide ((is.length+1)*88≤140737488355328)=true:=by
   rw[decide_eq_true_eq];have:=hh.count;omega
  have sL:=hv.size;rcases hq with rfl|rfl
  ·
   rcases hh.names with ⟨g1,_⟩|⟨_,g2,g3⟩
   ·cases g1
   have hpe:=RU is v true;obtain ⟨TW,QW,hh',hrun'⟩:=ih (i+1) ns (is ++ [v]) (by omega) (by omega) (by simp; omega) ⟨by rw[Im,hh.right,hv.right]; rfl,by rw[ZC,hh.len,hv.len]; rfl,by simp; omega, .inr ⟨rfl,g2,by rw[htot]; omega⟩⟩;refine ⟨TW,QW,hh',fun e0 => ?_⟩;rw[e2];show ff x (IntKind.i64.wrap (d+1)) _=_;rw[hwd,kR,ao c2,hw,hrun']
  ·
   rcases hh.names with ⟨_,g2,g3,g4,g5⟩|⟨g1,_⟩;rotate_left
   ·cases g1
   have hsl:=fun e=>fit_seen (R:=R) d 7 (i:Int) (dV rs) raw 0 0 0 [] 7 0 0 [] ns (by have:=hh.count; omega) is x e (Int.natAbs d+Int.natAbs 7+Int.natAbs (i:Int)+List.length (dV rs)+Int.natAbs 0+Raw.fu raw+Int.natAbs 0+Int.natAbs 0+Int.natAbs 0+List.length ([]:af)+Int.natAbs 7+Int.natAbs 0+Int.natAbs 0+List.length ([]:af)+List.length ns+List.length is+Raw.fu x+64) 0 false (by omega) (by omega)
   cases hcn:ns.contains (dV rs)with
   | true =>
    obtain ⟨TW,QW,hh',hrun'⟩:=ih (i+1) ns is (by omega) (by omega) (by omega) ⟨hh.right,hh.len,hh.count, .inl ⟨rfl,g2,g3,g4,by rw[htot]; omega⟩⟩;refine ⟨TW,QW,hh',fun e0 => ?_⟩;rw[e2];refine (hsl _).trans ?_;rw[List.drop_zero,hcn];show bE ff F d 7 (IntKind.i64.wrap ((i:Int)+1)) raw 0 0 0 [] 7 0 0 [] ns is e0=_;rw[hw,hrun']
   | false =>
    have hpe:=RV ns is (dV rs) v true g2;obtain ⟨TW,QW,hh',hrun'⟩:=ih (i+1) (ns ++ [dV rs]) (is ++ [v]) (by omega) (by omega) (by simp; omega) ⟨by rw[Im,hh.right,hv.right]; rfl,by rw[ZC,hh.len,hv.len]; rfl,by simp; omega,
     .inl ⟨rfl,by simp[g2],by rw[ZB,g3,hcn,Gv]; rfl,fun t ht=>by
      rcases List.mem_append.1 ht with ht|ht
      ·exact g4 t ht
      ·simp only[List.mem_singleton]at ht;rw[ht]; omega,by rw[htot]; omega⟩⟩
    refine ⟨TW,QW,hh',fun e0 => ?_⟩;rw[e2];refine (hsl _).trans ?_;rw[List.drop_zero,hcn];show bB (decide ((ns.length+1)*16≤140737488355328)) (ff x (IntKind.i64.wrap (d+1)) _)=_;rw[ao c1,hwd,kR,ao c2,hw,hrun']
theorem ZD {d:cC} (h:Fm d):(Am d).length≤60:=by
 have e:Am d=Wh d:=by unfold Am; rw[GZ.2 h]; rfl
 rw[e];exact (prt_chars h).2.2
theorem fit_N {R:Type}:∀(n:Nat) (x:Raw) (d:Int),Raw.ok x→x.depth<n→1≤d→d≤16→∃v,FitV R v d (Raw.tot x)∧∀k:Json→Option R,jI n x d k=k v:=by
 intro n
 induction n with
 | zero=>intro x d _ h; omega
 | succ n ih =>
  intro x d hx hn hd1 hd2;have e0:∀k:Json→Option R,jI (n+1) x d k=oJ db eI dm (bE (jI n)) x d k:=fun k=>rfl
  have hdep:∀z∈x.items,z.depth<n:=fun z hz=>by have:=rdepth_item hz; omega
  obtain ⟨kd,mt,ex,tx,is⟩:=x;obtain ⟨⟨i1,i2,i3,i4⟩,⟨l1,l2⟩,i5⟩:=hx;simp only at hdep;have htot:Raw.tot ⟨kd,mt,ex,tx,is⟩=Raw.totL is+1:=rfl;obtain ⟨y,y0,y1,hy⟩:=pick04 (R:=R) kd 7 i1 (by omega) (by omega);have hw:IntKind.i64.wrap (1+y)=1+y:=aK (by omega) (by omega);have hq:y=0∨y=1∨y=2∨y=3∨y=4∨y=5∨y=6:=by omega
  have hlp:∀q:Int,q=6∨q=7→∃TW QW,Held q d TW QW (Raw.totL is)∧∀e0,bE (R:=R) (jI n) (Int.natAbs d+Int.natAbs q+Int.natAbs 0+Raw.fu ⟨kd,mt,ex,tx,is⟩+Int.natAbs 0+Int.natAbs 0+Int.natAbs 0+List.length ([]:af)+Int.natAbs q+Int.natAbs 0+Int.natAbs 0+List.length ([]:af)+List.length ([]:List af)+List.length ([]:List Json)+64) d q ((0:Nat):Int) ⟨kd,mt,ex,tx,is⟩ 0 0 0 [] q 0 0 [] [] [] e0=e0 0 0 0 [] q 0 0 [] TW QW:=fun q hq=>by
   refine fit_loop11 (jI n) d ⟨hd1,hd2⟩ q hq ⟨kd,mt,ex,tx,is⟩ l2 i5 (fun ZU z hz=>ih z (d+1) (okL_mem i5 hz) (hdep z hz) (by omega) (by omega)) _ 0 [] [] (by omega) (by simp only[Raw.fu]; omega) (by simp) ⟨rfl,rfl,by simp,?_⟩;rcases hq with rfl|rfl
   ·exact .inr ⟨rfl,rfl,by simp[hZ]⟩
   ·exact .inl ⟨rfl,rfl,rfl,by simp,by simp[hM]⟩
  have R0:∀q:Int,q=1∨q=2∨q=3→FitV R ⟨q,⟨0,0⟩, [], [], []⟩ d (Raw.totL is+1):=fun q hq=>by
   refine ⟨fY.2 (.name q d hd2 hq),rfl,?_⟩;rcases hq with rfl|rfl|rfl
   ·show n9.length+5000≤_;have:n9.length=4:=rfl;omega
   ·show jG.length+5000≤_;have:jG.length=5:=rfl;omega
   ·show sF.length+5000≤_;have:sF.length=4:=rfl;omega
  rw[htot];rcases hq with rfl|rfl|rfl|rfl|rfl|rfl|rfl
  ·refine ⟨_,R0 1 (by omega),fun k => ?_⟩;rw[e0];unfold oJ;rw[hy];rfl
  ·refine ⟨_,R0 2 (by omega),fun k => ?_⟩;rw[e0];unfold oJ;rw[hy];rfl
  ·refine ⟨_,R0 3 (by omega),fun k => ?_⟩;rw[e0];unfold oJ;rw[hy];rfl
  ·obtain ⟨dc,hdc,kR⟩:=fit_ok (R:=R) mt ex i2 i3;refine ⟨⟨4,dc, [], [], []⟩,⟨fY.2 (.num dc d hd2 hdc),rfl,?_⟩,fun k => ?_⟩
   ·show (Am dc).length+5000≤_;have:=ZD hdc;omega
   ·rw[e0];unfold oJ;rw[hy];show eI mt ex _=_;rw[kR];rfl
  ·have hmin:min (tx.length:Int) 20=((min tx.length 20:Nat):Int):=by omega
   obtain ⟨rs,r1,r2,r3,r4⟩:=text_ok2 (R:=R) (tx.take (min tx.length 20)) (fun c hc=>i4 c (List.mem_of_mem_take hc));have hqt:=MW (dV rs);refine ⟨⟨5,⟨0,0⟩,dV rs, [], []⟩,⟨fY.2 (.text _ d hd2 (Bv.2 ⟨rs,r1,rfl⟩)),rM.2 ⟨by simp,by simp,rfl,by simp only; omega,by simp⟩,?_⟩,fun k => ?_⟩
   ·show (RS (dV rs)).length+5000≤_;omega
   ·rw[e0];unfold oJ;rw[hy];show bB (decide ((0:Int)≤(min (tx.length:Int) 20))&&decide ((min (tx.length:Int) 20)≤(tx.length:Int))) (bB (decide ((0:Int)≤(min (tx.length:Int) 20))) (db ((tx.drop 0).take ((min (tx.length:Int) 20).toNat - 0)) _))=_;rw[hmin,ao (by rw[aj (by omega),aj (by omega)]; rfl),ao (aj (by omega)),Int.toNat_natCast,List.drop_zero,Nat.sub_zero,r4];rfl
  ·obtain ⟨TW,QW,hh,kR⟩:=hlp 6 (.inl rfl);refine ⟨_,hh.fit hd2 (Nat.le_refl _),fun k => ?_⟩;rw[e0];unfold oJ;rw[hy];exact kR _
  ·obtain ⟨TW,QW,hh,kR⟩:=hlp 7 (.inr rfl);refine ⟨_,hh.fit hd2 (Nat.le_refl _),fun k => ?_⟩;rw[e0];unfold oJ;rw[hy];exact kR _
theorem jfit {R:Type} (x:Raw) (hx:Raw.ok x) (d:Int) (h1:1≤d) (h2:d≤16):∃v,FitV R v d (Raw.tot x)∧∀k:Json→Option R,kq x d k=k v:=fit_N (x.depth+2) x d hx (by omega) h1 h2
theorem eqs_loop {R:Type} (a b:List af) (hl:a.length=b.length) (ha:a.length≤1099511627776) (k:Bool→Option R):∀(F i:Nat),i≤a.length→a.length - i<F →
  bj F a b (a.length:Int) (i:Int) (k true) k=k (decide (a.drop i=b.drop i)):=by
 intro F
 induction F with
 | zero=>intro i _ h; omega
 | succ F ih =>
  intro i hi hF;show iV (fun x0 x1 x2 x3=>bj F x0 x1 x2 x3 _ _) a b (a.length:Int) (i:Int) _ _=_;unfold iV;by_cases h:i<a.length
  ·have hb:i<b.length:=by omega
   have h1:decide ((i:Int)<(a.length:Int))=true:=by simp; omega
   have h2:(decide ((0:Int)≤(i:Int))&&true)=true:=by simp
   have h3:(decide ((0:Int)≤(i:Int))&&decide ((i:Int)<(b.length:Int)))=true:=by simp; omega
   have hw:IntKind.i64.wrap ((i:Int)+1)=((i+1:Nat):Int):=by rw[aK (by omega) (by omega)]; omega
   have hg:a.getD (i:Int).toNat (Ty.br .str)=a[i]:=getD_at h _;have hg':b.getD (i:Int).toNat (Ty.br .str)=b[i]:=getD_at hb _;rw[h1,cond_true,ao h2,ao h3,hg,hg',hw,List.drop_eq_getElem_cons h,List.drop_eq_getElem_cons hb];by_cases hq:a[i]=b[i]
   ·have e:(a[i]==b[i])=true:=by simpa using hq
    rw[e,Bool.not_true,cond_false];simp only[List.cons.injEq,hq,true_and];exact ih (i+1) (by omega) (by omega)
   ·have e:(a[i]==b[i])=false:=by simpa using hq
    rw[e,Bool.not_false,cond_true];have im:¬(a[i]::a.drop (i+1)=b[i]::b.drop (i+1)):=fun h=>hq (List.cons.inj h).1
    rw[decide_eq_false im]
  ·have h1:decide ((i:Int)<(a.length:Int))=false:=by simp; omega
   rw[h1,cond_false,List.drop_eq_nil_of_le (by omega),List.drop_eq_nil_of_le (by omega)];simp
theorem equals_ok {R:Type} (a b:List af) (ha:a.length≤1099511627776) (k:Bool→Option R):cS a b k=k (decide (a=b)):=by
 have e:cS a b k=bif ((a.length:Int) != (b.length:Int))then (k false)else (bj (List.length a+List.length b+Int.natAbs (a.length:Int)+Int.natAbs 0+64) a b (a.length:Int) 0 (k true) (fun y7=>k y7)):=rfl;rw[e];by_cases hl:a.length=b.length
 ·have h1:((a.length:Int) != (b.length:Int))=false:=by rw[hl]; simp
  have:=eqs_loop a b hl ha k (List.length a+List.length b+Int.natAbs (a.length:Int)+Int.natAbs 0+64) 0 (by omega) (by omega);rw[h1,cond_false];rw[List.drop_zero,List.drop_zero]at this;exact this
 ·have h1:((a.length:Int) != (b.length:Int))=true:=by simp; omega
  have:a≠b:=fun e=>hl (by rw[e])
  rw[h1,cond_true];simp[this]
theorem eqj_loop {R:Type} (f:eX R) (a b:List Json) (hl:a.length=b.length) (ha:a.length≤1099511627776) (hf:∀x∈a,∀y∈b,∃r:Bool,(r=true↔x=y)∧∀k,f x y k=k r):∀(F i:Nat),i≤a.length→a.length - i<F →
  ∃r:Bool,(r=true↔a.drop i=b.drop i)∧∀k:Bool→Option R,aD f F b a (a.length:Int) (i:Int) (k true) k=k r:=by
 intro F
 induction F with
 | zero=>intro i _ h; omega
 | succ F ih =>
  intro i hi hF;by_cases h:i<a.length
  ·have hb:i<b.length:=by omega
   have h1:decide ((i:Int)<(a.length:Int))=true:=by simp; omega
   have h2:(decide ((0:Int)≤(i:Int))&&true)=true:=by simp
   have h3:(decide ((0:Int)≤(i:Int))&&decide ((i:Int)<(b.length:Int)))=true:=by simp; omega
   have hw:IntKind.i64.wrap ((i:Int)+1)=((i+1:Nat):Int):=by rw[aK (by omega) (by omega)]; omega
   have hg:a.getD (i:Int).toNat (Ty.br .json)=a[i]:=getD_at h _;have hg':b.getD (i:Int).toNat (Ty.br .json)=b[i]:=getD_at hb _;obtain ⟨r,hr,hk⟩:=hf a[i] (List.getElem_mem h) b[i] (List.getElem_mem hb);obtain ⟨r2,hr2,M4⟩:=ih (i+1) (by omega) (by omega);refine ⟨r&&r2,?_,fun k => ?_⟩
   ·rw[List.drop_eq_getElem_cons h,List.drop_eq_getElem_cons hb];simp only[Bool.and_eq_true,hr,hr2,List.cons.injEq]
   ·show cY f (fun x0 x1 x2 x3=>aD f F x0 x1 x2 x3 (k true) k) b a (a.length:Int) (i:Int) (k true) k=_;unfold cY;simp only[Json.eta];rw[h1,cond_true,ao h2,ao h3,hg,hg',hk,hw,M4];cases r <;> rfl
  ·refine ⟨true,?_,fun k => ?_⟩
   ·rw[List.drop_eq_nil_of_le (by omega),List.drop_eq_nil_of_le (by omega)];simp
   ·show cY f (fun x0 x1 x2 x3=>aD f F x0 x1 x2 x3 (k true) k) b a (a.length:Int) (i:Int) (k true) k=_;unfold cY;have h1:decide ((i:Int)<(a.length:Int))=false:=by simp; omega
    rw[h1];rfl
theorem equalj_ok {R:Type} (f:eX R) (a b:List Json) (ha:a.length≤1099511627776) (hf:∀x∈a,∀y∈b,∃r:Bool,(r=true↔x=y)∧∀k,f x y k=k r) :
  ∃r:Bool,(r=true↔a=b)∧∀k:Bool→Option R,bz f a b k=k r:=by
 have e:∀k,bz f a b k=bif ((a.length:Int) != (b.length:Int))then (k false)else (aD f (List.length b+List.length a+Int.natAbs (a.length:Int)+Int.natAbs 0+64) b a (a.length:Int) 0 (k true) (fun y8=>k y8)):=fun k=>rfl
 by_cases hl:a.length=b.length
 ·have h1:((a.length:Int) != (b.length:Int))=false:=by rw[hl]; simp
  obtain ⟨r,hr,hk⟩:=eqj_loop f a b hl ha hf (List.length b+List.length a+Int.natAbs (a.length:Int)+Int.natAbs 0+64) 0 (by omega) (by omega);rw[List.drop_zero,List.drop_zero]at hr;refine ⟨r,hr,fun k => ?_⟩;rw[e,h1,cond_false];exact hk k
 ·have h1:((a.length:Int) != (b.length:Int))=true:=by simp; omega
  refine ⟨false,?_,fun k => ?_⟩
  ·constructor
   ·intro h; cases h
   ·rintro rfl; exact (hl rfl).elim
  ·rw[e,h1,cond_true]
theorem jsame_N {R:Type}:∀(n:Nat) (v w:Json),G0 v=true→v.depth<n→∃r:Bool,(r=true↔v=w)∧∀k:Bool→Option R,kA n v w k=k r:=by
 intro n
 induction n with
 | zero=>intro v w _ h; omega
 | succ n ih =>
  intro v w hl hd;obtain ⟨Nu,Ph,hil,_⟩:=rM.1 hl;obtain ⟨r,hr,hk⟩:=equalj_ok (R:=R) (kA n) v.items w.items Ph fun x hx y _=>ih x y (Fi hil hx) (by have:=BH hx; omega)
  have e0:∀k:Bool→Option R,kA (n+1) v w k=I9 (bz (kA n)) cS v w k:=fun k=>rfl
  obtain ⟨k1,⟨m1,x1⟩,t1,ns1,is1⟩:=v;obtain ⟨k2,⟨m2,x2⟩,t2,ns2,is2⟩:=w;refine ⟨(k1==k2)&&((m1==m2&&(x1==x2&&true))&&((t1==t2)&&(decide (ns1=ns2)&&r))),?_,fun k => ?_⟩
  ·simp only[Bool.and_eq_true,beq_iff_eq,decide_eq_true_eq,hr,Json.mk.injEq,cC.mk.injEq];constructor
   ·rintro ⟨h1,⟨h2,h3,_⟩,h4,h5,h6⟩; exact ⟨h1,⟨h2,h3⟩,h4,h5,h6⟩
   ·rintro ⟨h1,⟨h2,h3⟩,h4,h5,h6⟩; exact ⟨h1,⟨h2,h3,trivial⟩,h4,h5,h6⟩
  ·rw[e0];unfold I9;simp only;rw[equals_ok ns1 ns2 Nu];simp only[hk];cases k1==k2 <;> cases (m1==m2&&(x1==x2&&true)) <;> cases t1==t2 <;> cases decide (ns1=ns2) <;> rfl
theorem jsame {R:Type} (v w:Json) (hl:G0 v=true):∃r:Bool,(r=true↔v=w)∧∀k:Bool→Option R,fN v w k=k r:=jsame_N (v.depth+2) v w hl (by omega)
end Go.Proofs.YtmlkkgfenfdndaaGreatDoor
set_option maxRecDepth 100000
namespace Go.Proofs.YtmlkkgfenfdndaaGreatDoor
open Go Go.bb
variable {R:Type}
abbrev bp (R:Type):Type:=Int→(List Token)→Int→Int→(Json→(List Token)→Int→Int→Option R)→Option R
abbrev eD:List dh := [.leaf (.ptr 0 0), .leaf (.int .i64)]
abbrev eE:List aY := [.cells [.sl .token, .int .i64, .int .i64]]
def cL (fn:bp R):oC R eD eE:=fun x y k=>fn x.2.1 y.1.1 y.1.2.1 y.1.2.2.1 (fun q0 q1 q2 q3=>k (.agg [.int .i64 q0.kind, .int .i64 q0.num.au, .int .i64 q0.num.exp, .str q0.text, .sl .str q0.names .no, .sl .json q0.items .no]) [.cells [.sl .token q1 .no, .int .i64 q2, .int .i64 q3]])
def yv (fn:bp R):=aG eD eE (cL fn)
abbrev lP (R:Type):Type:=Nat→Int→Bool→(List Token)→Int→Int→Int→Int→Int→af→Int→Int→Int→af→Nat→(List Json)→((List Token)→Int→Int→Int→Int→Int→af→Int→Int→Int→af→Nat→(List Json)→Option R)→Option R
abbrev lQ (R:Type):Type:=Nat→Int→Bool→(List Token)→Int→Int→Int→Int→Int→af→Int→Int→Int→af→(List af)→Nat→(List Json)→((List Token)→Int→Int→Int→Int→Int→af→Int→Int→Int→af→(List af)→Nat→(List Json)→Option R)→Option R
def jz:Hint := { live := [0,1,4,7,8],own := [],rows := [],cells := [(2,5, .json,true)],drop := [],out := [4,7] }
abbrev fF:Type:=Int×Bool×(List Token)×Int×Int×Int×Int×Int×af×Int×Int×Int×af×Nat×(List Json)
def lB:fF→St:=fun d=>⟨.ptr 0 0 :: .int .i64 d.1::U 2 (.ptr 1 0::U 2 (.ptr 2 0 :: .bool d.2.1::U 184 ([]))), [.cells [.sl .token d.2.2.1 .no, .int .i64 d.2.2.2.1, .int .i64 d.2.2.2.2.1], .cells [.int .i64 d.2.2.2.2.2.1, .int .i64 d.2.2.2.2.2.2.1, .int .i64 d.2.2.2.2.2.2.2.1, .str d.2.2.2.2.2.2.2.2.1, .cG, .cG], .cells [.int .i64 d.2.2.2.2.2.2.2.2.2.1, .int .i64 d.2.2.2.2.2.2.2.2.2.2.1, .int .i64 d.2.2.2.2.2.2.2.2.2.2.2.1, .str d.2.2.2.2.2.2.2.2.2.2.2.2.1, .cG, .row 3 d.2.2.2.2.2.2.2.2.2.2.2.2.2.1], .row .json d.2.2.2.2.2.2.2.2.2.2.2.2.2.2]⟩
def lR (K:Ex→St→Option R) (q0:List Token) (q1:Int) (q2:Int) (q3:Int) (q4:Int) (q5:Int) (q6:af) (q7:Int) (q8:Int) (q9:Int) (q10:af) (q11:Nat) (q12:List Json):Option R:=K (.exit 1) ⟨U 4 (.ptr 1 0::U 2 (.ptr 2 0::U 185 ([]))), [.cells [.sl .token q0 .no, .int .i64 q1, .int .i64 q2], .cells [.int .i64 q3, .int .i64 q4, .int .i64 q5, .str q6, .cG, .cG], .cells [.int .i64 q7, .int .i64 q8, .int .i64 q9, .str q10, .cG, .row 3 q11], .row .json q12]⟩
abbrev gS:List dh := .leaf (.ptr 0 0) :: .leaf (.int .i64)::PU 2 (.leaf (.ptr 1 0)::PU 2 (.leaf (.ptr 2 0) :: .leaf (.bool)::PU 184 ([])))
abbrev gT:List aY := [.cells [.sl .token, .int .i64, .int .i64], .cells [.int .i64, .int .i64, .int .i64, .str, .cG, .cG], .cells [.int .i64, .int .i64, .int .i64, .str, .cG, .row 3], .row .json]
def ui (x:dh.bD gS) (y:aY.bD gT):Nat:=(Int.natAbs x.2.1+List.length y.1.1+Int.natAbs y.1.2.1+Int.natAbs y.1.2.2.1+Int.natAbs y.2.1.1+Int.natAbs y.2.1.2.1+Int.natAbs y.2.1.2.2.1+List.length y.2.1.2.2.2.1+Int.natAbs y.2.2.1.1+Int.natAbs y.2.2.1.2.1+Int.natAbs y.2.2.1.2.2.1+List.length y.2.2.1.2.2.2.1+List.length y.2.2.2.1+64)
def Em (x:dh.bD gS) (y:aY.bD gT):fF:=(x.2.1,(t8 x).1,y.1.1,y.1.2.1,y.1.2.2.1,y.2.1.1,y.2.1.2.1,y.2.1.2.2.1,y.2.1.2.2.2.1,y.2.2.1.1,y.2.2.1.2.1,y.2.2.1.2.2.1,y.2.2.1.2.2.2.1,y.2.2.1.2.2.2.2.2.1,y.2.2.2.1)
def sG (L:lP R):sI R gS gT:=fun x y K=>L (ui x y) x.2.1 ((t8 x).1) y.1.1 y.1.2.1 y.1.2.2.1 y.2.1.1 y.2.1.2.1 y.2.1.2.2.1 y.2.1.2.2.2.1 y.2.2.1.1 y.2.2.1.2.1 y.2.2.1.2.2.1 y.2.2.1.2.2.2.1 y.2.2.1.2.2.2.2.2.1 y.2.2.2.1 (lR K)
def jA:Hint := { live := [0,1,4,10,11],own := [],rows := [],cells := [(2,4, .str,false),(2,5, .json,true)],drop := [],out := [4,10] }
abbrev fG:Type:=Int×Bool×(List Token)×Int×Int×Int×Int×Int×af×Int×Int×Int×af×(List af)×Nat×(List Json)
def lC:fG→St:=fun d=>⟨.ptr 0 0 :: .int .i64 d.1::U 2 (.ptr 1 0::U 5 (.ptr 2 0 :: .bool d.2.1::U 181 ([]))), [.cells [.sl .token d.2.2.1 .no, .int .i64 d.2.2.2.1, .int .i64 d.2.2.2.2.1], .cells [.int .i64 d.2.2.2.2.2.1, .int .i64 d.2.2.2.2.2.2.1, .int .i64 d.2.2.2.2.2.2.2.1, .str d.2.2.2.2.2.2.2.2.1, .cG, .cG], .cells [.int .i64 d.2.2.2.2.2.2.2.2.2.1, .int .i64 d.2.2.2.2.2.2.2.2.2.2.1, .int .i64 d.2.2.2.2.2.2.2.2.2.2.2.1, .str d.2.2.2.2.2.2.2.2.2.2.2.2.1, .sl .str d.2.2.2.2.2.2.2.2.2.2.2.2.2.1 (.own 3), .row 4 d.2.2.2.2.2.2.2.2.2.2.2.2.2.2.1], .tok, .row .json d.2.2.2.2.2.2.2.2.2.2.2.2.2.2.2]⟩
def lS (K:Ex→St→Option R) (q0:List Token) (q1:Int) (q2:Int) (q3:Int) (q4:Int) (q5:Int) (q6:af) (q7:Int) (q8:Int) (q9:Int) (q10:af) (q11:List af) (q12:Nat) (q13:List Json):Option R:=K (.exit 3) ⟨U 4 (.ptr 1 0::U 5 (.ptr 2 0::U 182 ([]))), [.cells [.sl .token q0 .no, .int .i64 q1, .int .i64 q2], .cells [.int .i64 q3, .int .i64 q4, .int .i64 q5, .str q6, .cG, .cG], .cells [.int .i64 q7, .int .i64 q8, .int .i64 q9, .str q10, .sl .str q11 (.own 3), .row 4 q12], .tok, .row .json q13]⟩
abbrev gU:List dh := .leaf (.ptr 0 0) :: .leaf (.int .i64)::PU 2 (.leaf (.ptr 1 0)::PU 5 (.leaf (.ptr 2 0) :: .leaf (.bool)::PU 181 ([])))
abbrev gV:List aY := [.cells [.sl .token, .int .i64, .int .i64], .cells [.int .i64, .int .i64, .int .i64, .str, .cG, .cG], .cells [.int .i64, .int .i64, .int .i64, .str, .Ui .str 3, .row 4], .tok, .row .json]
def uj (x:dh.bD gU) (y:aY.bD gV):Nat:=(Int.natAbs x.2.1+List.length y.1.1+Int.natAbs y.1.2.1+Int.natAbs y.1.2.2.1+Int.natAbs y.2.1.1+Int.natAbs y.2.1.2.1+Int.natAbs y.2.1.2.2.1+List.length y.2.1.2.2.2.1+Int.natAbs y.2.2.1.1+Int.natAbs y.2.2.1.2.1+Int.natAbs y.2.2.1.2.2.1+List.length y.2.2.1.2.2.2.1+List.length y.2.2.1.2.2.2.2.1+List.length y.2.2.2.2.1+64)
def En (x:dh.bD gU) (y:aY.bD gV):fG:=(x.2.1,(t8 x).2.2.2.1,y.1.1,y.1.2.1,y.1.2.2.1,y.2.1.1,y.2.1.2.1,y.2.1.2.2.1,y.2.1.2.2.2.1,y.2.2.1.1,y.2.2.1.2.1,y.2.2.1.2.2.1,y.2.2.1.2.2.2.1,y.2.2.1.2.2.2.2.1,y.2.2.1.2.2.2.2.2.1,y.2.2.2.2.1)
def sH (L:lQ R):sI R gU gV:=fun x y K=>L (uj x y) x.2.1 ((t8 x).2.2.2.1) y.1.1 y.1.2.1 y.1.2.2.1 y.2.1.1 y.2.1.2.1 y.2.1.2.2.1 y.2.1.2.2.2.1 y.2.2.1.1 y.2.2.1.2.1 y.2.2.1.2.2.1 y.2.2.1.2.2.2.1 y.2.2.1.2.2.2.2.1 y.2.2.1.2.2.2.2.2.1 y.2.2.2.2.1 (lS K)
section
variable (aw:kE R) (aJ:lX R) (ag:bp R) (cP:CW R) (aB:lP R) (ax:lQ R)
def eF:List (sS R) := [(85,false,(u6 aw aC)),(86,false,(An aJ aC)),(59,false,(aG eD eE (cL ag) aC)),(83,true,(OY cP aC))]
def uk (cb:Int→Bool→(List Token)→Int→Int→Int→Int→Int→af→Int→Int→Int→af→Nat→(List Json)→Option R) (x11:Int) (NZ:Bool) (I8:List Token) (Mf:Int) (o6:Int) (uJ:Int) (kN:Int) (uB:Int) (E1:af) (Av:Int) (ZT:Int) (x22:Int) (Mk:af) (x24:Nat) (YI:List Json) (e0:(List Token)→Int→Int→Int→Int→Int→af→Int→Int→Int→af→Nat→(List Json)→Option R):Option R :=
 bif (!NZ)then (bif (o6==0)then (ag (IntKind.i64.wrap (x11+1)) I8 Mf o6 (fun BQ JF NY Nz=>bB (decide ((YI.length+1)*88≤140737488355328)) (aw ([44]:af) JF NY Nz (fun Qr Md Xe y34=>bif (!Qr)then (aJ ([93]:af) Md Xe y34 (fun y35 Wg y37=>cb x11 true y35 Wg y37 uJ kN uB E1 Av ZT x22 Mk (YI.length+1) (YI++([(⟨BQ.kind,⟨BQ.num.au,BQ.num.exp⟩,BQ.text,BQ.names,BQ.items⟩:Json)]:List Json))))else (cb x11 NZ Md Xe y34 uJ kN uB E1 Av ZT x22 Mk (YI.length+1) (YI++([(⟨BQ.kind,⟨BQ.num.au,BQ.num.exp⟩,BQ.text,BQ.names,BQ.items⟩:Json)]:List Json)))))))else (e0 I8 Mf o6 uJ kN uB E1 Av ZT x22 Mk x24 YI))else (e0 I8 Mf o6 uJ kN uB E1 Av ZT x22 Mk x24 YI)
def um (K:Ex→St→Option R) (rc:fF→Option R) (d:fF):Option R:=uk aw aJ ag (fun z0 z1 z2 z3 z4 z5 z6 z7 z8 z9 uy pW z12 V7 z14=>rc (z0,z1,z2,z3,z4,z5,z6,z7,z8,z9,uy,pW,z12,V7,z14)) d.1 d.2.1 d.2.2.1 d.2.2.2.1 d.2.2.2.2.1 d.2.2.2.2.2.1 d.2.2.2.2.2.2.1 d.2.2.2.2.2.2.2.1 d.2.2.2.2.2.2.2.2.1 d.2.2.2.2.2.2.2.2.2.1 d.2.2.2.2.2.2.2.2.2.2.1 d.2.2.2.2.2.2.2.2.2.2.2.1 d.2.2.2.2.2.2.2.2.2.2.2.2.1 d.2.2.2.2.2.2.2.2.2.2.2.2.2.1 d.2.2.2.2.2.2.2.2.2.2.2.2.2.2 (lR K)
def jB (cb:Int→Bool→(List Token)→Int→Int→Int→Int→Int→af→Int→Int→Int→af→(List af)→Nat→(List Json)→Option R) (x55:Int) (x56:Bool) (x57:List Token) (x58:Int) (x59:Int) (x60:Int) (x61:Int) (x62:Int) (x63:af) (x64:Int) (x65:Int) (x66:Int) (x67:af) (x68:List af) (x69:Nat) (x70:List Json) (e0:(List Token)→Int→Int→Int→Int→Int→af→Int→Int→Int→af→(List af)→Nat→(List Json)→Option R):Option R :=
 bif (!x56)then (bif (x59==0)then (bB (decide ((0:Int)≤x58)&&decide (x58<x57.length)) (bif ((x57.getD x58.toNat (Ty.br .token)).kind != 2)then (e0 x57 x58 40 x60 x61 x62 x63 x64 x65 x66 x67 x68 x69 x70)else (cP x68 ((x57.getD x58.toNat (Ty.br .token)).text) (fun y72=>bif y72 then (e0 x57 x58 42 x60 x61 x62 x63 x64 x65 x66 x67 x68 x69 x70)else (aJ ([58]:af) x57 (IntKind.i64.wrap (x58+1)) x59 (fun y73 y74 y75=>bB (decide ((x68.length+1)*16≤140737488355328)) (ag (IntKind.i64.wrap (x55+1)) y73 y74 y75 (fun y76 y77 y78 y79=>bB (decide ((x70.length+1)*88≤140737488355328)) (aw ([44]:af) y77 y78 y79 (fun y80 y81 y82 y83=>bif (!y80)then (aJ ([125]:af) y81 y82 y83 (fun y84 y85 y86=>cb x55 true y84 y85 y86 x60 x61 x62 x63 x64 x65 x66 x67 (x68++([(x57.getD x58.toNat (Ty.br .token)).text]:List af)) (x70.length+1) (x70++([(⟨y76.kind,⟨y76.num.au,y76.num.exp⟩,y76.text,y76.names,y76.items⟩:Json)]:List Json))))else (cb x55 x56 y81 y82 y83 x60 x61 x62 x63 x64 x65 x66 x67 (x68++([(x57.getD x58.toNat (Ty.br .token)).text]:List af)) (x70.length+1) (x70++([(⟨y76.kind,⟨y76.num.au,y76.num.exp⟩,y76.text,y76.names,y76.items⟩:Json)]:List Json)))))))))))))else (e0 x57 x58 x59 x60 x61 x62 x63 x64 x65 x66 x67 x68 x69 x70))else (e0 x57 x58 x59 x60 x61 x62 x63 x64 x65 x66 x67 x68 x69 x70)
def uo (K:Ex→St→Option R) (rc:fG→Option R) (d:fG):Option R:=jB aw aJ ag cP (fun z0 z1 z2 z3 z4 z5 z6 z7 z8 z9 uy pW z12 V7 z14 YJ=>rc (z0,z1,z2,z3,z4,z5,z6,z7,z8,z9,uy,pW,z12,V7,z14,YJ)) d.1 d.2.1 d.2.2.1 d.2.2.2.1 d.2.2.2.2.1 d.2.2.2.2.2.1 d.2.2.2.2.2.2.1 d.2.2.2.2.2.2.2.1 d.2.2.2.2.2.2.2.2.1 d.2.2.2.2.2.2.2.2.2.1 d.2.2.2.2.2.2.2.2.2.2.1 d.2.2.2.2.2.2.2.2.2.2.2.1 d.2.2.2.2.2.2.2.2.2.2.2.2.1 d.2.2.2.2.2.2.2.2.2.2.2.2.2.1 d.2.2.2.2.2.2.2.2.2.2.2.2.2.2.1 d.2.2.2.2.2.2.2.2.2.2.2.2.2.2.2 (lS K)
def fe:Nat→Option (Hint×cF R):=fun i=>match i with
 | 22=>some (jz,(cq gS gT (sG aB) gl))
 | 31=>some (jA,(cq gU gV (sH ax) gl))
 | _=>none
theorem BZ (K:Ex→St→Option R) (rc:St→Option R) (d:fF):roundOf (tt.mode [.json]) (cz (eF aw aJ ag cP)) (fe aB ax) 1 ((aA (aQ Tryz.f59)).getD 0 .skip) jz (lB d) rc K=um aw aJ ag K (fun d=>rc (lB d)) d:=by kernel_rfl
theorem B0 (K:Ex→St→Option R) (rc:St→Option R) (d:fG):roundOf (tt.mode [.json]) (cz (eF aw aJ ag cP)) (fe aB ax) 1 ((aA (aQ Tryz.f59)).getD 1 .skip) jA (lC d) rc K=uo aw aJ ag cP K (fun d=>rc (lC d)) d:=by kernel_rfl
def jF (x1:Int) (x2:List Token) (x3:Int) (x4:Int) (k0:Json→(List Token)→Int→Int→Option R):Option R :=
 bif (x4 != 0)then (k0 (⟨0,⟨0,0⟩,([]:af),([]:List af),([]:List Json)⟩:Json) x2 x3 x4)else (bB (decide ((0:Int)≤x3)&&decide (x3<x2.length)) (let j102:=fun (z5:Bool)=>let j101:=bif (decide (x1>(16:Int)))then (k0 (⟨0,⟨0,0⟩,([]:af),([]:List af),([]:List Json)⟩:Json) x2 x3 41)else (bif ((x2.getD x3.toNat (Ty.br .token)).kind==2)then (k0 (⟨5,⟨0,0⟩,(x2.getD x3.toNat (Ty.br .token)).text,([]:List af),([]:List Json)⟩:Json) x2 (IntKind.i64.wrap (x3+1)) x4)else (bif ((x2.getD x3.toNat (Ty.br .token)).kind==3)then (k0 (⟨4,⟨(x2.getD x3.toNat (Ty.br .token)).num.au,(x2.getD x3.toNat (Ty.br .token)).num.exp⟩,([]:af),([]:List af),([]:List Json)⟩:Json) x2 (IntKind.i64.wrap (x3+1)) x4)else (bif ((x2.getD x3.toNat (Ty.br .token)).kind==4)then (k0 (⟨((ma .str (.int .i64) ((x2.getD x3.toNat (Ty.br .token)).text) ([(([110,117,108,108]:af),1),(([102,97,108,115,101]:af),2),(([116,114,117,101]:af),3)]:List (af×Int))):Int),⟨0,0⟩,([]:af),([]:List af),([]:List Json)⟩:Json) x2 (IntKind.i64.wrap (x3+1)) x4)else (bif ((x2.getD x3.toNat (Ty.br .token)).text==([91]:af))then (aw ([93]:af) x2 (IntKind.i64.wrap (x3+1)) x4 (fun y7 y8 y9 o5=>aB (Int.natAbs x1+List.length y8+Int.natAbs y9+Int.natAbs o5+Int.natAbs 0+Int.natAbs 0+Int.natAbs 0+List.length ([]:af)+Int.natAbs 6+Int.natAbs 0+Int.natAbs 0+List.length ([]:af)+List.length ([]:List Json)+64) x1 y7 y8 y9 o5 0 0 0 ([]:af) 6 0 0 ([]:af) 0 ([]:List Json) (fun y38 y39 y40 y41 YH y43 y44 y45 y46 Ux y48 y49 y50=>k0 (⟨y45,⟨y46,Ux⟩,y48,([]:List af),y50⟩:Json) y38 y39 y40)))else (aw ([125]:af) x2 (IntKind.i64.wrap (x3+1)) x4 (fun YK Uy VK VL=>ax (Int.natAbs x1+List.length Uy+Int.natAbs VK+Int.natAbs VL+Int.natAbs 0+Int.natAbs 0+Int.natAbs 0+List.length ([]:af)+Int.natAbs 7+Int.natAbs 0+Int.natAbs 0+List.length ([]:af)+List.length ([]:List af)+List.length ([]:List Json)+64) x1 YK Uy VK VL 0 0 0 ([]:af) 7 0 0 ([]:af) ([]:List af) 0 ([]:List Json) (fun y87 y88 y89 y90 y91 y92 y93 y94 y95 y96 y97 y98 y99 y100=>k0 (⟨y94,⟨y95,y96⟩,y97,y98,y100⟩:Json) y87 y88 y89))))))); bif ((x2.getD x3.toNat (Ty.br .token)).kind==5)then (k0 (⟨0,⟨0,0⟩,([]:af),([]:List af),([]:List Json)⟩:Json) x2 x3 40)else (bif ((x2.getD x3.toNat (Ty.br .token)).kind==1)then (bif (!z5)then (k0 (⟨0,⟨0,0⟩,([]:af),([]:List af),([]:List Json)⟩:Json) x2 x3 40)else (j101))else (j101)); bif ((x2.getD x3.toNat (Ty.br .token)).kind==1)then (bif ((x2.getD x3.toNat (Ty.br .token)).text==([91]:af))then (j102 true)else (j102 ((x2.getD x3.toNat (Ty.br .token)).text==([123]:af))))else (j102 false)))
theorem Io:fC (R:=R) (tt.mode [.json]) (eF aw aJ ag cP) (fe aB ax) false Tryz.f59 eD eE (cL (jF aw aB ax)):=fun x y k=>by kernel_rfl
end
theorem G3 (ag:bp R) (iN:bb.Spec.Ok Tryz.prog 59 (aG eD eE (cL ag) aC)):dy (R:=R) Tryz.prog (eF (R:=R) aw aJ ag cP) := .d (yt R) rfl <| .d (G2 R) rfl <| .f iN rfl <| .c (OZ R) <| .n
def aB (ag:bp R):lP R
 | 0,_,_,_,_,_,_,_,_,_,_,_,_,_,_,_,_=>none
 | n+1,eh,eB,fb,lZ,BR,BS,NG,NH,NI,NJ,yU,FJ,Mr,Ms,UG,e0=>uk aw aJ ag (fun eh eB fb lZ BR BS NG NH NI NJ yU FJ Mr Ms UG=>aB ag n eh eB fb lZ BR BS NG NH NI NJ yU FJ Mr Ms UG e0) eh eB fb lZ BR BS NG NH NI NJ yU FJ Mr Ms UG e0
def ur (ag:bp R) (K:Ex→St→Option R) (n:Nat) (d:fF):Option R:=aB ag n d.1 d.2.1 d.2.2.1 d.2.2.2.1 d.2.2.2.2.1 d.2.2.2.2.2.1 d.2.2.2.2.2.2.1 d.2.2.2.2.2.2.2.1 d.2.2.2.2.2.2.2.2.1 d.2.2.2.2.2.2.2.2.2.1 d.2.2.2.2.2.2.2.2.2.2.1 d.2.2.2.2.2.2.2.2.2.2.2.1 d.2.2.2.2.2.2.2.2.2.2.2.2.1 d.2.2.2.2.2.2.2.2.2.2.2.2.2.1 d.2.2.2.2.2.2.2.2.2.2.2.2.2.2 (lR K)
def ax (ag:bp R):lQ R
 | 0,_,_,_,_,_,_,_,_,_,_,_,_,_,_,_,_,_=>none
 | n+1,eh,eB,fb,lZ,BR,BS,NG,NH,NI,NJ,yU,FJ,Mr,Ms,UG,x15',e0=>jB aw aJ ag cP (fun eh eB fb lZ BR BS NG NH NI NJ yU FJ Mr Ms UG x15'=>ax ag n eh eB fb lZ BR BS NG NH NI NJ yU FJ Mr Ms UG x15' e0) eh eB fb lZ BR BS NG NH NI NJ yU FJ Mr Ms UG x15' e0
def uu (ag:bp R) (K:Ex→St→Option R) (n:Nat) (d:fG):Option R:=ax ag n d.1 d.2.1 d.2.2.1 d.2.2.2.1 d.2.2.2.2.1 d.2.2.2.2.2.1 d.2.2.2.2.2.2.1 d.2.2.2.2.2.2.2.1 d.2.2.2.2.2.2.2.2.1 d.2.2.2.2.2.2.2.2.2.1 d.2.2.2.2.2.2.2.2.2.2.1 d.2.2.2.2.2.2.2.2.2.2.2.1 d.2.2.2.2.2.2.2.2.2.2.2.2.1 d.2.2.2.2.2.2.2.2.2.2.2.2.2.1 d.2.2.2.2.2.2.2.2.2.2.2.2.2.2.1 d.2.2.2.2.2.2.2.2.2.2.2.2.2.2.2 (lS K)
theorem DG (ag:bp R) (other:cF R) (ho:fZ (tt.mode [.json]) (cz (eF (R:=R) aw aJ ag cP)) (fe (R:=R) (aB ag) (ax ag)) 1 ((aA (aQ Tryz.f59)).getD 0 .skip) jz other):fZ (tt.mode [.json]) (cz (eF (R:=R) aw aJ ag cP)) (fe (R:=R) (aB ag) (ax ag)) 1 ((aA (aQ Tryz.f59)).getD 0 .skip) jz (cq gS gT (sG (aB ag)) other) :=
 cx (A:=ur ag) ho (dD lB (um aw aJ ag) (ur ag) (fun _ _=>by kernel_rfl) (BZ aw aJ ag cP (aB ag) (ax ag)) (fun _ _ _=>by kernel_rfl)) ui Em (fun _ _=>by kernel_rfl) (fun _ _ _=>by kernel_rfl)
theorem DH (ag:bp R) (other:cF R) (ho:fZ (tt.mode [.json]) (cz (eF (R:=R) aw aJ ag cP)) (fe (R:=R) (aB ag) (ax ag)) 1 ((aA (aQ Tryz.f59)).getD 1 .skip) jA other):fZ (tt.mode [.json]) (cz (eF (R:=R) aw aJ ag cP)) (fe (R:=R) (aB ag) (ax ag)) 1 ((aA (aQ Tryz.f59)).getD 1 .skip) jA (cq gU gV (sH (ax ag)) other) :=
 cx (A:=uu ag) ho (dD lC (uo aw aJ ag cP) (uu ag) (fun _ _=>by kernel_rfl) (B0 aw aJ ag cP (aB ag) (ax ag)) (fun _ _ _=>by kernel_rfl)) uj En (fun _ _=>by kernel_rfl) (fun _ _ _=>by kernel_rfl)
def qp (ag:bp R):bp R:=fun x1 x2 x3 x4 k0=>jF aw (aB ag) (ax ag) x1 x2 x3 x4 k0
theorem Fk (R:Type) (ag:bp R) (iN:bb.Spec.Ok Tryz.prog 59 (aG eD eE (cL ag) aC)):∀a∈aA (aQ Tryz.f59),gE (tt.mode [.json]) (cz (eF (R:=R) aw aJ ag cP)) (fe (R:=R) (aB ag) (ax ag)) 1 a:=by
 refine eV 2 (by kernel_rfl) fun i hi => ?_
 match i,hi with
 | 0,_=>exact bT (by kernel_rfl) (DG ag _ cQ)
 | 1,_=>exact bT (by kernel_rfl) (DH ag _ cQ)
 | n+2,hi=>omega
theorem Fl (R:Type) (ag:bp R) (iN:bb.Spec.Ok Tryz.prog 59 (aG eD eE (cL ag) aC)):od Tryz.prog 59 (yv (qp ag)):=bS (TT.mode [.json]) mixed (G3 ag iN) rfl rfl rfl rfl (Fk R ag iN) (Io aw aJ ag cP (aB ag) (ax ag))
def bf:Nat→bp R
 | 0,_,_,_,_,_=>none
 | n+1,eh,eB,fb,lZ,k0'=>qp (bf n) eh eB fb lZ k0'
theorem Vl (n:Nat):bf (R:=R) (n+1)=qp (bf n):=by kernel_rfl
theorem FQ (R:Type):∀n,bb.Spec.Ok Tryz.prog 59 (aG eD eE (cL (bf (R:=R) n)) aC) :=
 mW (run:=fun n=>cL (bf (R:=R) n)) (fun x y k=>by kernel_rfl) fun n hyp=>Fl R (bf n) hyp aC (fo _)
def du:bp R:=fun x1 x2 x3 x4 k0=>bf 40 x1 x2 x3 x4 k0
theorem FR (R:Type):cL (R:=R) du=fun x y k=>cL (bf 40) x y k:=by kernel_rfl
theorem FT (R:Type) (other:bb.Spec R) (ho:bb.Spec.Ok Tryz.prog 59 other):bb.Spec.Ok Tryz.prog 59 (aG eD eE (cL du) other) :=
 rP (vE (run:=fun n=>cL (bf (R:=R) n)) (fun x y=>40) ho (FQ R)) (FR R)
variable {R:Type}
abbrev Dq (R:Type):Type:=af→(Json→Int→Int→Option R)→Option R
abbrev Ke:List dh := [.leaf (.str)]
abbrev Kf:List aY := []
def Pl (fn:Dq R):oC R Ke Kf:=fun x y k=>fn x.1 (fun q0 q1 q2=>k (.tuple [.agg [.int .i64 q0.kind, .int .i64 q0.num.au, .int .i64 q0.num.exp, .str q0.text, .sl .str q0.names .no, .sl .json q0.items .no], .int .i64 q1, .int .i64 q2]) [])
def Q0 (fn:Dq R):=aG Ke Kf (Pl fn)
section
variable (du:bp R) (nN:EO R)
def Q1:List (sS R) := [(59,false,(yv du aC)),(58,true,(TO nN aC))]
def EP (x1:af) (k0:Json→Int→Int→Option R):Option R :=
 nN x1 (fun y2 y3 y4=>bif (y3 != 0)then (k0 (⟨0,⟨0,0⟩,([]:af),([]:List af),([]:List Json)⟩:Json) y3 y4)else (du 1 y2 0 0 (fun y5 y6 y7 y8=>let j10:=bif (y8 != 0)then (bB (decide ((0:Int)≤y7)&&decide (y7<y6.length)) (k0 (⟨0,⟨0,0⟩,([]:af),([]:List af),([]:List Json)⟩:Json) y8 ((y6.getD y7.toNat (Ty.br .token)).at_)))else (k0 (⟨y5.kind,⟨y5.num.au,y5.num.exp⟩,y5.text,y5.names,y5.items⟩:Json) 0 0); bif (y8==0)then (bB (decide ((0:Int)≤y7)&&decide (y7<y6.length)) (bif ((y6.getD y7.toNat (Ty.br .token)).kind != 5)then (bB (decide ((0:Int)≤y7)&&decide (y7<y6.length)) (k0 (⟨0,⟨0,0⟩,([]:af),([]:List af),([]:List Json)⟩:Json) 40 ((y6.getD y7.toNat (Ty.br .token)).at_)))else (j10)))else (j10))))
theorem ZE:fC (R:=R) tt (Q1 du nN) AL false Tryz.f36 Ke Kf (Pl (EP du nN)):=fun x y k=>by kernel_rfl
end
theorem WY:dy (R:=R) Tryz.prog (Q1 (R:=R) du nN) := .f (FT R _ (fo _)) rfl <| .c (WW R) <| .n
def gi:Dq R:=fun x1 k0=>EP du nN x1 k0
theorem Vm (R:Type):od Tryz.prog 36 (Q0 (gi (R:=R))):=bS TT mixed (WY (R:=R)) rfl rfl rfl rfl dM (ZE du nN)
abbrev Br (R:Type):Type:=Json→Json→af→Raw→Int→af→(Bool→Option R)→Option R
abbrev wB:List dh := [.agg [.int .i64, .int .i64, .int .i64, .str, .sl .str, .sl .json], .agg [.int .i64, .int .i64, .int .i64, .str, .sl .str, .sl .json], .leaf (.str), .agg [.int .i64, .int .i64, .int .i64, .sl (.int .i64), .sl .raw], .leaf (.int .i64), .leaf (.str)]
abbrev wC:List aY := []
def Bs (fn:Br R):oC R wB wC:=fun x y k=>fn (⟨x.1.1,⟨x.1.2.1,x.1.2.2.1⟩,x.1.2.2.2.1,x.1.2.2.2.2.1,x.1.2.2.2.2.2.1⟩:Json) (⟨x.2.1.1,⟨x.2.1.2.1,x.2.1.2.2.1⟩,x.2.1.2.2.2.1,x.2.1.2.2.2.2.1,x.2.1.2.2.2.2.2.1⟩:Json) x.2.2.1 (⟨x.2.2.2.1.1,x.2.2.2.1.2.1,x.2.2.2.1.2.2.1,x.2.2.2.1.2.2.2.1,x.2.2.2.1.2.2.2.2.1⟩:Raw) x.2.2.2.2.1 x.2.2.2.2.2.1 (fun q0=>k (.bool q0) [])
def TS (fn:Br R):=aG wB wC (Bs fn)
abbrev uv (R:Type):Type:=Nat→Bool→(List af)→Int→Int→(Bool→Option R)→(Bool→Bool→Option R)→Option R
def oA:Hint := { live := [13,104,105,106],own := [],rows := [],cells := [],drop := [],out := [12,13] }
abbrev jC:Type:=Bool×(List af)×Int×Int
def sj:jC→St:=fun d=>⟨U 13 (.bool d.1::U 90 (.sl .str d.2.1 (.own 0) :: .int .i64 d.2.2.1 :: .int .i64 d.2.2.2::U 31 ([]))), [.tok]⟩
def uw (K:Ex→St→Option R) (q0:Bool):Option R:=K (.exit 0) ⟨U 13 (.bool q0::U 124 ([])), []⟩
def ux (K:Ex→St→Option R) (q0:Bool) (q1:Bool):Option R:=K (.ret) ⟨U 12 (.bool q0 :: .bool q1::U 124 ([])), []⟩
abbrev lD:List dh:=PU 13 (.leaf (.bool)::PU 90 (.leaf (.Ui .str 0) :: .leaf (.int .i64) :: .leaf (.int .i64)::PU 31 ([])))
abbrev lE:List aY := [.tok]
def Dr (x:dh.bD lD) (y:aY.bD lE):Nat:=(List.length ((t8 (t8 (t8 (t8 (t8 (t8 (t8 (t8 (t8 (t8 (t8 (t8 (t8 x))))))))))))).1)+Int.natAbs ((t8 (t8 (t8 (t8 (t8 (t8 (t8 (t8 (t8 (t8 (t8 (t8 (t8 x))))))))))))).2.1)+Int.natAbs ((t8 (t8 (t8 (t8 (t8 (t8 (t8 (t8 (t8 (t8 (t8 (t8 (t8 x))))))))))))).2.2.1)+64)
def MX (x:dh.bD lD) (y:aY.bD lE):jC:=((t8 x).2.2.2.2.2.1,(t8 (t8 (t8 (t8 (t8 (t8 (t8 (t8 (t8 (t8 (t8 (t8 (t8 x))))))))))))).1,(t8 (t8 (t8 (t8 (t8 (t8 (t8 (t8 (t8 (t8 (t8 (t8 (t8 x))))))))))))).2.1,(t8 (t8 (t8 (t8 (t8 (t8 (t8 (t8 (t8 (t8 (t8 (t8 (t8 x))))))))))))).2.2.1)
def BJ (L:uv R):sI R lD lE:=fun x y K=>L (Dr x y) ((t8 x).2.2.2.2.2.1) ((t8 (t8 (t8 (t8 (t8 (t8 (t8 (t8 (t8 (t8 (t8 (t8 (t8 x))))))))))))).1) ((t8 (t8 (t8 (t8 (t8 (t8 (t8 (t8 (t8 (t8 (t8 (t8 (t8 x))))))))))))).2.1) ((t8 (t8 (t8 (t8 (t8 (t8 (t8 (t8 (t8 (t8 (t8 (t8 (t8 x))))))))))))).2.2.1) (uw K) (ux K)
section
variable (kq:gP R) (ij:CM R) (dm:zD R) (gi:Dq R) (gJ:C1 R) (dT:xh R) (fy:fO R) (er:Ah R) (dX:zK R) (cW:vG R) (fN:eX R) (bP:uv R)
def nC:List (sS R) := [(16,true,(VM kq aC)),(30,true,(QC ij aC)),(35,true,(LU dm aC)),(36,true,(Q0 gi aC)),(31,true,(QO gJ aC)),(33,true,(J0 dT aC)),(34,true,(Tu fy aC)),(20,true,(Mv er aC)),(17,true,(Mi dX aC)),(32,true,(Gy cW aC)),(21,true,(OL fN aC))]
def oB (cb:Bool→(List af)→Int→Int→Option R) (Av:Bool) (ZT:List af) (x22:Int) (Mk:Int) (e0:Bool→Option R) (e1:Bool→Bool→Option R):Option R :=
 bif (decide (Mk<x22))then (bB (decide ((0:Int)≤Mk)&&decide (Mk<ZT.length)) (er (ZT.getD Mk.toNat (Ty.br .str)) (fun y24 Kg SQ=>gi (ZT.getD Mk.toNat (Ty.br .str)) (fun BQ JF NY=>fy (⟨y24.kind,⟨y24.num.au,y24.num.exp⟩,y24.text,y24.names,y24.items⟩:Json) (⟨BQ.kind,⟨BQ.num.au,BQ.num.exp⟩,BQ.text,BQ.names,BQ.items⟩:Json) (fun Nz=>bif (!Nz)then (e1 false Av)else (bif (Kg != JF)then (e1 false Av)else (bif (SQ != NY)then (e1 false Av)else (cb Av ZT x22 (IntKind.i64.wrap (Mk+1))))))))))else (e0 Av)
def Ds (K:Ex→St→Option R) (rc:jC→Option R) (d:jC):Option R:=oB gi fy er (fun z0 z1 z2 z3=>rc (z0,z1,z2,z3)) d.1 d.2.1 d.2.2.1 d.2.2.2 (uw K) (ux K)
def rN:Nat→Option (Hint×cF R):=fun i=>match i with
 | 12=>some (oA,(cq lD lE (BJ bP) gl))
 | _=>none
theorem IG (K:Ex→St→Option R) (rc:St→Option R) (d:jC):roundOf tt (cz (nC kq ij dm gi gJ dT fy er dX cW fN)) (rN bP) 0 ((aA (aQ Tryz.f8)).getD 0 .skip) oA (sj d) rc K=Ds gi fy er K (fun d=>rc (sj d)) d:=by kernel_rfl
def wD (x1:Json) (x2:Json) (x3:af) (x4:Raw) (x5:Int) (x6:af) (k0:Bool→Option R):Option R :=
 ij (fun y7=>bif (decide ((x3.length:Int)>(3000:Int)))then (k0 y7)else (kq (⟨x4.kind,x4.au,x4.exp,x4.text,x4.items⟩:Raw) 1 (fun y8=>gJ (⟨y8.kind,⟨y8.num.au,y8.num.exp⟩,y8.text,y8.names,y8.items⟩:Json) (fun y9=>bif (decide ((y9.length:Int)>(3000:Int)))then (k0 y7)else (cW (⟨x1.kind,⟨x1.num.au,x1.num.exp⟩,x1.text,x1.names,x1.items⟩:Json) (fun o5=>dT (⟨x1.kind,⟨x1.num.au,x1.num.exp⟩,x1.text,x1.names,x1.items⟩:Json) (fun jf=>bif (!(o5==jf))then (k0 false)else (dX (⟨x1.kind,⟨x1.num.au,x1.num.exp⟩,x1.text,x1.names,x1.items⟩:Json) (fun l9=>gJ (⟨x1.kind,⟨x1.num.au,x1.num.exp⟩,x1.text,x1.names,x1.items⟩:Json) (fun DN=>bif (!(l9==DN))then (k0 false)else (fN (⟨x1.kind,⟨x1.num.au,x1.num.exp⟩,x1.text,x1.names,x1.items⟩:Json) (⟨x2.kind,⟨x2.num.au,x2.num.exp⟩,x2.text,x2.names,x2.items⟩:Json) (fun xy=>fy (⟨x1.kind,⟨x1.num.au,x1.num.exp⟩,x1.text,x1.names,x1.items⟩:Json) (⟨x2.kind,⟨x2.num.au,x2.num.exp⟩,x2.text,x2.names,x2.items⟩:Json) (fun yI=>bif (!(xy==yI))then (k0 false)else (dX (⟨y8.kind,⟨y8.num.au,y8.num.exp⟩,y8.text,y8.names,y8.items⟩:Json) (fun Fp=>bif (!(Fp==y9))then (k0 false)else (cW (⟨y8.kind,⟨y8.num.au,y8.num.exp⟩,y8.text,y8.names,y8.items⟩:Json) (fun KD=>bif (!KD)then (k0 false)else (dm x5 (IntKind.i64.wrap ((y9.length:Int)+1)) (fun Cw=>bB (decide ((0:Int)≤Cw)&&decide (Cw≤y9.length)) (bB (decide ((0:Int)≤Cw)) (bB (decide (((y9.drop 0).take (Cw.toNat - 0)).length+x6.length≤9223372036854775807)) (bB (decide ((0:Int)≤(y9.length:Int))&&decide ((y9.length:Int)≤y9.length)) (bB (decide ((0:Int)≤(min (IntKind.i64.wrap (Cw+(x6.length:Int))) (y9.length:Int)))&&decide ((min (IntKind.i64.wrap (Cw+(x6.length:Int))) (y9.length:Int))≤(y9.length:Int))) (bB (decide ((((y9.drop 0).take (Cw.toNat - 0))++x6).length+((y9.drop (min (IntKind.i64.wrap (Cw+(x6.length:Int))) (y9.length:Int)).toNat).take ((y9.length:Int).toNat - (min (IntKind.i64.wrap (Cw+(x6.length:Int))) (y9.length:Int)).toNat)).length≤9223372036854775807)) (bB (decide ((0:Int)≤Cw)&&decide (Cw≤y9.length)) (bB (decide ((0:Int)≤Cw)) (bB (decide (((y9.drop 0).take (Cw.toNat - 0)).length+x6.length≤9223372036854775807)) (bB (decide ((0:Int)≤(y9.length:Int))&&decide ((y9.length:Int)≤y9.length)) (bB (decide ((0:Int)≤Cw)&&decide (Cw≤(y9.length:Int))) (bB (decide ((((y9.drop 0).take (Cw.toNat - 0))++x6).length+((y9.drop Cw.toNat).take ((y9.length:Int).toNat - Cw.toNat)).length≤9223372036854775807)) (bB (decide ((0:Int)≤Cw)&&decide (Cw≤y9.length)) (bB (decide ((0:Int)≤Cw)) (bP (List.length ([x3,y9,((((y9.drop 0).take (Cw.toNat - 0))++x6)++((y9.drop (min (IntKind.i64.wrap (Cw+(x6.length:Int))) (y9.length:Int)).toNat).take ((y9.length:Int).toNat - (min (IntKind.i64.wrap (Cw+(x6.length:Int))) (y9.length:Int)).toNat))),((((y9.drop 0).take (Cw.toNat - 0))++x6)++((y9.drop Cw.toNat).take ((y9.length:Int).toNat - Cw.toNat))),((y9.drop 0).take (Cw.toNat - 0))]:List af)+Int.natAbs 5+Int.natAbs 0+64) y7 ([x3,y9,((((y9.drop 0).take (Cw.toNat - 0))++x6)++((y9.drop (min (IntKind.i64.wrap (Cw+(x6.length:Int))) (y9.length:Int)).toNat).take ((y9.length:Int).toNat - (min (IntKind.i64.wrap (Cw+(x6.length:Int))) (y9.length:Int)).toNat))),((((y9.drop 0).take (Cw.toNat - 0))++x6)++((y9.drop Cw.toNat).take ((y9.length:Int).toNat - Cw.toNat))),((y9.drop 0).take (Cw.toNat - 0))]:List af) 5 0 (fun Md=>k0 Md) (fun Xe y34=>k0 Xe))))))))))))))))))))))))))))))))))
theorem RW:fC (R:=R) tt (nC kq ij dm gi gJ dT fy er dX cW fN) (rN bP) false Tryz.f8 wB wC (Bs (wD kq ij dm gJ dT fy dX cW fN bP)):=fun x y k=>by kernel_rfl
end
theorem Qa:dy (R:=R) Tryz.prog (nC (R:=R) kq ij dm gi gJ dT fy er dX cW fN) := .p (YT R _ (fo _)) <| .c (UH R) <| .c (M5 R) <| .c (Vm R) <| .c (UW R) <| .c (K6 R) <| .p (WK R _ (fo _)) <| .c (Ni R) <| .c (Nc R) <| .c (Fy R) <| .p (ON R _ (fo _)) <| .n
def bP:uv R
 | 0,_,_,_,_,_,_=>none
 | n+1,eh,eB,fb,lZ,e0,e1=>oB gi fy er (fun eh eB fb lZ=>bP n eh eB fb lZ e0 e1) eh eB fb lZ e0 e1
def Dt (K:Ex→St→Option R) (n:Nat) (d:jC):Option R:=bP n d.1 d.2.1 d.2.2.1 d.2.2.2 (uw K) (ux K)
theorem Lt (other:cF R) (ho:fZ tt (cz (nC (R:=R) kq ij dm gi gJ dT fy er dX cW fN)) (rN (R:=R) bP) 0 ((aA (aQ Tryz.f8)).getD 0 .skip) oA other):fZ tt (cz (nC (R:=R) kq ij dm gi gJ dT fy er dX cW fN)) (rN (R:=R) bP) 0 ((aA (aQ Tryz.f8)).getD 0 .skip) oA (cq lD lE (BJ (bP)) other) :=
 cx (A:=Dt) ho (dD sj (Ds gi fy er) (Dt) (fun _ _=>by kernel_rfl) (IG kq ij dm gi gJ dT fy er dX cW fN bP) (fun _ _ _=>by kernel_rfl)) Dr MX (fun _ _=>by kernel_rfl) (fun _ _ _=>by kernel_rfl)
def vA:Br R:=fun x1 x2 x3 x4 x5 x6 k0=>wD kq ij dm gJ dT fy dX cW fN bP x1 x2 x3 x4 x5 x6 k0
theorem NV (R:Type):∀a∈aA (aQ Tryz.f8),gE tt (cz (nC (R:=R) kq ij dm gi gJ dT fy er dX cW fN)) (rN (R:=R) bP) 0 a:=by
 refine eV 1 (by kernel_rfl) fun i hi => ?_
 match i,hi with
 | 0,_=>exact bT (by kernel_rfl) (Lt _ cQ)
 | n+1,hi=>omega
theorem Pm (R:Type):od Tryz.prog 8 (TS (vA (R:=R))):=bS TT mixed (Qa (R:=R)) rfl rfl rfl rfl (NV R) (RW kq ij dm gi gJ dT fy er dX cW fN bP)
variable {R:Type}
end Go.Proofs.YtmlkkgfenfdndaaGreatDoor
set_option maxRecDepth 100000
namespace Go.Proofs.YtmlkkgfenfdndaaGreatDoor
open Go Go.bb Go.Lib
theorem raw_bulk {x:Raw} (h:∃n,TQ n (Ty.cells .raw x)∧n≤1048576):Raw.ok x∧Raw.tot x≤1048576:=by
 obtain ⟨n,h1,h2⟩:=h;obtain ⟨g1,g2⟩:=wt_raw x n h2 h1;exact ⟨g2,by omega⟩
structure Lone (x:vy):Prop where
 head:∃c u,x.2.1=c::u∧pY c=false
 met:∀r,QT r→tokS (x.2.1++r)=some (x.2.2,r)
 quo:x.2.2.kind=2→fE x.2.2.text=true∧x.2.1=RS x.2.2.text
 own:x.2.2.kind≠2→x.2.2.text=x.2.1
theorem PC {x:vy} (h:∀r,QT r→okW [x] r) (h2:x.2.2.kind=2→fE x.2.2.text=true∧x.2.1=RS x.2.2.text) (h3:x.2.2.kind≠2→x.2.2.text=x.2.1):Lone x:=by
 obtain ⟨_,g2,_⟩:=h [] (.inl rfl);exact ⟨g2,fun r hr=>(h r hr).2.2.1,h2,h3⟩
theorem MY {c:UInt8} (hc:Lj c=true):Lone (sg c):=PC (fun r _=>Fh hc r) (fun h=>by cases h) (fun _=>rfl)
theorem lone_tx {t:af} (ht:fE t=true):Lone (txW t):=PC (fun r _=>Zm ht r) (fun _=>⟨ht,rfl⟩) (fun h=>(h rfl).elim)
mutual
theorem loneJ:∀(v:Json) (d:Int),eH v d=true→∀x∈Bp v,Lone x
 | ⟨k,n,t,ns,is⟩,d,h,x,hx=>by
  have hL:=loneL is;have hO:=loneO ns is;cases fY.1 h with
  | name _ _ hd hk =>
   rcases hk with rfl|rfl|rfl
   ·obtain rfl:=List.mem_singleton.1 hx;exact PC (fun r hr=>Fg (Hb (.inr (.inr rfl))) hr) (fun h=>by cases h) (fun _=>rfl)
   ·obtain rfl:=List.mem_singleton.1 hx;exact PC (fun r hr=>Fg (Hb (.inr (.inl rfl))) hr) (fun h=>by cases h) (fun _=>rfl)
   ·obtain rfl:=List.mem_singleton.1 hx;exact PC (fun r hr=>Fg (Hb (.inl rfl)) hr) (fun h=>by cases h) (fun _=>rfl)
  | num _ _ hd hn =>
   have e:Am n=Wh n:=by unfold Am; rw[GZ.2 hn]; rfl
   have hx':x∈([([],Am n,⟨3,Am n,n,0⟩)]:List vy):=hx;obtain rfl:=List.mem_singleton.1 hx';refine PC (fun r hr => ?_) (fun h=>by cases h) (fun _=>rfl);rw[e];exact Fg (word_num hn) hr
  | text _ _ hd ht =>
   have hx':x∈([txW t]:List vy):=hx;obtain rfl:=List.mem_singleton.1 hx';exact lone_tx ht
  | arr _ _ hd hi =>
   have hx':x∈([sg 91]++(se is true ++ [sg 93]):List vy):=hx;rw[List.mem_append,List.mem_append,List.mem_singleton,List.mem_singleton]at hx';rcases hx' with rfl|hx|rfl
   ·exact MY (by decide)
   ·exact hL true (d+1) hi x hx
   ·exact MY (by decide)
  | obj _ _ _ hd hl hu hi =>
   have hx':x∈([sg 123]++(nM ns is true ++ [sg 125]):List vy):=hx;rw[List.mem_append,List.mem_append,List.mem_singleton,List.mem_singleton]at hx';rcases hx' with rfl|hx|rfl
   ·exact MY (by decide)
   ·exact hO true (d+1) hi hl (fun t ht=>Il ns [] hu t ht) x hx
   ·exact MY (by decide)
theorem loneL:∀(l:List Json) (first:Bool) (d:Int),eS l d=true→∀x∈se l first,Lone x
 | [],_,_,_,x,hx=>by simp[se]at hx
 | y::l,first,d,h,x,hx=>by
  simp only[eS,Bool.and_eq_true]at h;have h1:=loneJ y d h.1;have h2:=loneL l false d h.2;simp only[se,List.mem_append]at hx;rcases hx with hx|hx|hx
  ·cases first
   ·simp at hx; rw[hx]; exact MY (by decide)
   ·simp at hx
  ·exact h1 x hx
  ·exact h2 x hx
theorem loneO:∀(ns:List af) (l:List Json) (first:Bool) (d:Int),eS l d=true→ns.length=l.length→(∀t∈ns,fE t=true)→∀x∈nM ns l first,Lone x
 | _, [],_,_,_,_,_,x,hx=>by simp[nM]at hx
 | [],y::l,_,_,_,hl,_,_,_=>by cases hl
 | n::ns,y::l,first,d,h,hl,hv,x,hx=>by
  simp only[eS,Bool.and_eq_true]at h;have h1:=loneJ y d h.1;have h2:=loneO ns l false d h.2 (by simpa using hl) (fun t ht=>hv t (by simp[ht]));simp only[nM,List.headD_cons,List.tail_cons,List.mem_append,List.mem_cons]at hx;rcases hx with hx|rfl|rfl|hx|hx
  ·cases first
   ·simp at hx; rw[hx]; exact MY (by decide)
   ·simp at hx
  ·exact lone_tx (hv n (by simp))
  ·exact MY (by decide)
  ·exact h1 x hx
  ·exact h2 x hx
end
theorem qb_pos (b:UInt8):1≤(qb b).length:=by unfold qb; (repeat' split) <;> simp
theorem qtS_ge (t:af):t.length≤(RS t).length:=by
 have:∀l:af,l.length≤(l.flatMap qb).length:=by
  intro l
  induction l with
  | nil=>simp
  | cons b l ih =>
   have:=qb_pos b;simp only[List.flatMap_cons,List.length_append,List.length_cons];omega
 have:=this t;unfold RS;simp only[List.length_cons,List.length_append];omega
def Fo (t:Token):Prop:=(t.kind=3→Fm t.num)∧(t.kind=2→fE t.text=true)∧(t.kind=4→Di t.text=true)
theorem ZF {x:af} (h:Di x=true):∃k:Int,(k=1∨k=2∨k=3)∧ma .str (.int .i64) x Ve=k:=by
 unfold Di at h;rw[Bool.or_eq_true,Bool.or_eq_true,beq_iff_eq,beq_iff_eq,beq_iff_eq]at h;rcases h with rfl|rfl|rfl
 ·exact ⟨1, .inl rfl,rfl⟩
 ·exact ⟨2, .inr (.inl rfl),rfl⟩
 ·exact ⟨3, .inr (.inr rfl),rfl⟩
theorem Lu {x:af} {ts r:List Token} (h:∀t∈ts,Fo t) (hs:fT x ts=some r):∀t∈r,Fo t:=by
 cases ts with
 | nil=>cases hs
 | cons t ts =>
  simp only[fT]at hs;split at hs
  ·cases hs; exact fun u hu=>h u (by simp[hu])
  ·cases hs
theorem nameS_ok {ns:List af} {ts:List Token} {p:af×List Token} (h:∀t∈ts,Fo t) (hs:Ij ns ts = .ok p):fE p.1=true∧ns.contains p.1=false∧∀t∈p.2,Fo t:=by
 cases ts with
 | nil=>cases hs
 | cons t ts =>
  simp only[Ij]at hs;split at hs
  ·cases hs
  ·rename_i hk;split at hs
   ·cases hs
   ·rename_i hc;split at hs
    ·rename_i r hr;cases hs;exact ⟨(h t (by simp)).2.1 (by simpa using hk),by simpa using hc,Lu (fun u hu=>h u (by simp[hu])) hr⟩
    ·cases hs
def Sound (f:List Token→Except WU (Json×List Token)) (d:Int):Prop:=∀ts p,(∀t∈ts,Fo t)→f ts = .ok p→eH p.1 d=true∧∀t∈p.2,Fo t
def Inv (obj:Bool) (d:Int) (ns:List af) (is:List Json):Prop:=eS is d=true∧(obj=true→ns.length=is.length∧qi [] ns=true)∧(obj=false→ns = [])
theorem partS_ok {f:List Token→Except WU (Json×List Token)} {d:Int} (hf:Sound f d) {obj:Bool} {ns:List af} {is:List Json} {ts:List Token} {p:(List af×List Json)×List Token} (h:∀t∈ts,Fo t) (hi:Inv obj d ns is) (hs:wA f obj ns is ts = .ok p) :
  Inv obj d p.1.1 p.1.2∧∀t∈p.2,Fo t:=by
 obtain ⟨i1,i2,i3⟩:=hi;cases obj with
 | true =>
  simp only[wA]at hs;split at hs
  ·cases hs
  ·rename_i nm ts1 hn;obtain ⟨g1,g2,g3⟩:=nameS_ok h hn;split at hs
   ·cases hs
   ·rename_i v Lo hv;obtain ⟨k1,k2⟩:=hf _ _ g3 hv;cases hs;obtain ⟨j1,j2⟩:=i2 rfl;refine ⟨⟨by rw[Im,i1,k1]; rfl,fun _=>⟨by simp[j1],?_⟩,fun h=>by cases h⟩,k2⟩;simp only at g1 g2;rw[ZB,j2,g2,g1];rfl
 | false =>
  simp only[wA]at hs;split at hs
  ·cases hs
  ·rename_i v Lo hv;obtain ⟨k1,k2⟩:=hf _ _ h hv;cases hs;exact ⟨⟨by rw[Im,i1,k1]; rfl,(fun h=>by cases h),i3⟩,k2⟩
theorem ZG {f:List Token→Except WU (Json×List Token)} {d:Int} (hf:Sound f d) {cl:af} {obj:Bool}:∀(m:Nat) (ns:List af) (is:List Json) (ts:List Token) (p:(List af×List Json)×List Token),
  (∀t∈ts,Fo t)→Inv obj d ns is→ub f cl obj m ns is ts = .ok p→Inv obj d p.1.1 p.1.2∧∀t∈p.2,Fo t
 | 0,_,_,_,_,_,_,h=>by cases h
 | m+1,ns,is,ts,p,h,hi,hs=>by
  simp only[ub]at hs;split at hs
  ·cases hs
  ·rename_i q Lo hq;obtain ⟨g1,g2⟩:=partS_ok hf h hi hq;split at hs
   ·rename_i r hr;cases hs;exact ⟨g1,Lu g2 hr⟩
   ·split at hs
    ·rename_i r hr;exact ZG hf m _ _ _ _ (Lu g2 hr) g1 hs
    ·cases hs
theorem TU:∀(n:Nat) (d:Int),Sound (uc n d) d
 | 0,_,_,_,_,h=>by cases h
 | _+1,_, [],_,_,h=>by cases h
 | n+1,d,t::r,p,ht,h=>by
  have h0:=ht t (by simp);have hr0:∀u∈r,Fo u:=fun u hu=>ht u (by simp[hu])
  simp only[uc]at h;split at h
  ·cases h
  rename_i ZS;split at h
  ·cases h
  rename_i hd;have hd16:d≤16:=by omega
  split at h
  ·cases He:t.text==([123]:af)with
   | true =>
    rw[He]at h;simp only[if_true]at h;split at h
    ·rename_i r' hr;cases h;exact ⟨fY.2 (.obj [] [] d hd16 rfl rfl rfl),Lu hr0 hr⟩
    ·split at h
     ·cases h
     ·rename_i q r' hq;cases h;obtain ⟨⟨g1,g2,_⟩,g4⟩:=ZG (TU n (d+1)) _ _ _ _ _ hr0 ⟨rfl,fun _=>⟨rfl,rfl⟩,fun _=>rfl⟩ hq;obtain ⟨g5,g6⟩:=g2 rfl;exact ⟨fY.2 (.obj _ _ d hd16 g5 g6 g1),g4⟩
   | false =>
    rw[He]at h;simp only[Bool.false_eq_true,if_false]at h;split at h
    ·rename_i r' hr;cases h;exact ⟨fY.2 (.arr [] d hd16 rfl),Lu hr0 hr⟩
    ·split at h
     ·cases h
     ·rename_i q r' hq;cases h;obtain ⟨⟨g1,_,g3⟩,g4⟩:=ZG (TU n (d+1)) _ _ _ _ _ hr0 ⟨rfl,(fun h=>by cases h),fun _=>rfl⟩ hq;have:=g3 rfl;simp only at this ⊢;rw[this];exact ⟨fY.2 (.arr _ d hd16 g1),g4⟩
  rename_i hop;split at h
  ·rename_i R0;cases h;obtain ⟨k,hk,e⟩:=ZF R0.2;simp only[e];exact ⟨fY.2 (.name k d hd16 hk),hr0⟩
  rename_i R0;split at h
  ·rename_i hk3;cases h;exact ⟨fY.2 (.num _ d hd16 (h0.1 hk3)),hr0⟩
  ·rename_i hk3;cases h;have M4:t.kind=2:=by
    have hst':oz t=true:=by simpa using ZS
    simp only[oz,Bool.or_eq_true,Bool.and_eq_true,beq_iff_eq]at hst';rcases hst' with h|h|h|⟨h,h'⟩
    ·exact h
    ·exact (hk3 h).elim
    ·exact (R0 ⟨h,h0.2.2 h⟩).elim
    ·exact (hop ⟨h,h'⟩).elim
   exact ⟨fY.2 (.text _ d hd16 (h0.2.1 M4)),hr0⟩
theorem finD_fm (neg:Bool) (all:af) (x:Int) (h:∀c∈all,kM c) (ok:(Li neg all x).2=true):Fm (Li neg all x).1:=by
 unfold Li at ok ⊢;by_cases h0:cM (bu all [48]) [48] = []
 ·rw[if_pos h0];exact Fm.mk0
 rw[if_neg h0]at ok ⊢;obtain ⟨f1,f2,f3⟩:=Pc all h h0;have hm:Int.tmod (jc (cM (bu all [48]) [48]) 0:Int) 10≠0:=by rw[Int.tmod_eq_emod_of_nonneg (by omega)]; omega
 cases neg with
 | true =>
  rw[if_pos rfl]at ok ⊢;obtain ⟨e,g⟩:=mkD_fm (tmod_neg hm) ok;rw[e];exact g
 | false =>
  rw[if_neg (by simp)]at ok ⊢;obtain ⟨e,g⟩:=mkD_fm hm ok;rw[e];exact g
theorem tailD_fm (neg:Bool) (all:af) (x:Int) (X:af) (h:∀c∈all,kM c) (ok:(tailD neg all x X).2=true):Fm (tailD neg all x X).1:=by
 unfold tailD at ok ⊢;split
 ·rename_i h1;rw[if_pos h1]at ok;split
  ·rename_i h2;rw[if_pos h2]at ok;exact finD_fm _ _ _ h ok
  ·exact Fm.mk0
 ·rename_i h1;rw[if_neg h1]at ok;split
  ·exact Fm.mk0
  ·rename_i h2;rw[if_neg h2]at ok;split
   ·rename_i h3;rw[if_pos h3]at ok;exact finD_fm _ _ _ h ok
   ·exact Fm.mk0
theorem parseS_fm (s:af) (ok:(qo s).2=true):Fm (qo s).1:=by
 unfold qo at ok ⊢;simp only at ok ⊢;split
 ·exact Fm.mk0
 rename_i h1;rw[if_neg h1]at ok;split
 ·exact Fm.mk0
 rename_i h2;rw[if_neg h2]at ok;split
 ·exact Fm.mk0
 rename_i h3;rw[if_neg h3]at ok;split
 ·rename_i h4;rw[if_pos h4]at ok;exact tailD_fm _ _ _ _ (xo _) ok
 ·rename_i h4;rw[if_neg h4]at ok;split
  ·exact Fm.mk0
  ·rename_i h5;rw[if_neg h5]at ok;exact tailD_fm _ _ _ _ (fun c hc=>(List.mem_append.1 hc).elim (xo _ c) (xo _ c)) ok
theorem uq_len:∀(n:Nat) (s o o' r:af),uq n s o=some (o',r)→o'.length+4*r.length≤o.length+4*s.length
 | 0,_,_,_,_,h=>by cases h
 | n+1,s,o,o',r,h=>by
  simp only[uq]at h;split at h
  ·simp only[Option.some.injEq,Prod.mk.injEq]at h;obtain ⟨rfl,rfl⟩:=h;rw[List.length_drop];omega
  ·split at h
   ·cases h
   ·rename_i c r1 hs;have h1:=uq_len n r1 (o++enc c) o' r h;obtain ⟨hv,hl⟩:=YQ hs;have h2:=(xG hv).2;simp only[List.length_append]at h1;omega
theorem tokS_ok {s r:af} {t:Token} (h:tokS s=some (t,r)):Fo t∧t.text.length≤4*s.length:=by
 cases s with
 | nil=>cases h
 | cons c u =>
  simp only[tokS]at h;split at h
  ·split at h
   ·rename_i hp;simp only[Option.some.injEq,Prod.mk.injEq]at h;rw[←h.1];refine ⟨⟨fun _=>parseS_fm _ hp,(fun h=>by cases h),(fun h=>by cases h)⟩,?_⟩;have:=(List.takeWhile_prefix (l:=c::u) sd).length_le;simp only;omega
   ·cases h
  ·split at h
   ·split at h
    ·rename_i o q hq;simp only[Option.some.injEq,Prod.mk.injEq]at h;rw[←h.1];obtain ⟨_,_,rs,h3,h4⟩:=uqS_sfx hq;refine ⟨⟨(fun h=>by cases h),fun _=>Bv.2 ⟨rs,h3,h4⟩,(fun h=>by cases h)⟩,?_⟩;unfold uqS at hq;split at hq
     ·have:=uq_len _ _ _ _ _ hq;rw[List.length_drop]at this;simp only[List.length_nil,List.length_cons]at this ⊢;omega
     ·cases hq
    ·cases h
   ·split at h
    ·simp only[Option.some.injEq,Prod.mk.injEq]at h;rw[←h.1];exact ⟨⟨(fun h=>by cases h),(fun h=>by cases h),(fun h=>by cases h)⟩,by simp; omega⟩
    ·split at h
     ·rename_i hw;simp only[Option.some.injEq,Prod.mk.injEq]at h;rw[←h.1];refine ⟨⟨(fun h=>by cases h),(fun h=>by cases h),fun _ => ?_⟩,?_⟩
      ·rcases hw with hw|hw|hw <;> simp only[hw] <;> rfl
      ·have:=(List.takeWhile_prefix (l:=c::u) oy).length_le;simp only;omega
     ·cases h
def fineT (t:Token):Prop:=Fo t∧t.text.length≤80000
theorem ZH:∀(n p:Nat) (s:af) (out:List Token),s.length≤20000→(∀t∈out,fineT t)→∀t∈(rL n p s out).1,fineT t
 | 0,_,_,_,_,_=>by intro t ht; cases ht
 | n+1,p,s,out,hs,ho=>by
  simp only[rL];split
  ·intro t ht;rcases List.mem_append.1 ht with ht|ht
   ·exact ho t ht
   ·obtain rfl:=List.mem_singleton.1 ht;exact ⟨⟨(fun h=>by cases h),(fun h=>by cases h),(fun h=>by cases h)⟩,by simp⟩
  ·have hd:=vT pY s;split
   ·intro t ht; cases ht
   ·rename_i t r hr;have h3:=(tokS_sfx hr).2;obtain ⟨g1,g2⟩:=tokS_ok hr;refine ZH n _ r _ (by omega) fun x hx => ?_
    rcases List.mem_append.1 hx with hx|hx
    ·exact ho x hx
    ·obtain rfl:=List.mem_singleton.1 hx;exact ⟨g1,by show t.text.length≤80000; omega⟩
theorem scanS_fine (s:af):∀t∈(l8 s).1,fineT t:=by
 unfold l8;split
 ·intro t ht; cases ht
 ·exact ZH _ _ _ _ (by omega) (by intro t ht; cases ht)
def tokN (t:Token):Nat:=6*t.text.length+70
def tokL:List Token→Nat
 | []=>0
 | t::l=>tokN t+tokL l
theorem tokL_le:∀(l:List Token),(∀t∈l,fineT t)→tokL l≤l.length*480070
 | [],_=>Nat.le_refl _
 | t::l,h=>by
  have h1:=tokL_le l fun x hx=>h x (by simp[hx])
  have h2:=(h t (by simp)).2;simp only[tokL,tokN,List.length_cons];omega
theorem Ip {x:af} {ts r:List Token} (hs:fT x ts=some r):tokL r+70≤tokL ts:=by
 cases ts with
 | nil=>cases hs
 | cons t ts =>
  simp only[fT]at hs;split at hs
  ·cases hs; simp only[tokL,tokN]; omega
  ·cases hs
theorem nameS_size {ns:List af} {ts:List Token} {p:af×List Token} (hs:Ij ns ts = .ok p):(RS p.1).length+tokL p.2+130≤tokL ts:=by
 cases ts with
 | nil=>cases hs
 | cons t ts =>
  simp only[Ij]at hs;split at hs
  ·cases hs
  ·split at hs
   ·cases hs
   ·split at hs
    ·rename_i r hr;cases hs;have h1:=Ip hr;have h2:=MW t.text;simp only[tokL,tokN];omega
    ·cases hs
def Sized (f:List Token→Except WU (Json×List Token)):Prop:=∀ts p,(∀t∈ts,Fo t)→f ts = .ok p→(dY p.1).length+tokL p.2≤tokL ts
def VT (obj:Bool) (ns:List af) (is:List Json):Nat:=if obj then (hM ns is true).length else (hZ is true).length
theorem partS_size {f:List Token→Except WU (Json×List Token)} {d:Int} (hs0:Sound f d) (hf:Sized f) {obj:Bool} {ns:List af} {is:List Json} {ts:List Token} {p:(List af×List Json)×List Token} (h:∀t∈ts,Fo t) (hi:Inv obj d ns is) (hs:wA f obj ns is ts = .ok p) :
  VT obj p.1.1 p.1.2+tokL p.2≤VT obj ns is+1+tokL ts:=by
 obtain ⟨i1,i2,i3⟩:=hi;cases obj with
 | true =>
  simp only[wA]at hs;split at hs
  ·cases hs
  ·rename_i nm ts1 hn;obtain ⟨_,_,g3⟩:=nameS_ok h hn;have g4:=nameS_size hn;split at hs
   ·cases hs
   ·rename_i v Lo hv;have k1:=hf _ _ g3 hv;cases hs;have:=RV ns is nm v true (i2 rfl).1;simp only[VT,if_true]at g4 k1 ⊢;omega
 | false =>
  simp only[wA]at hs;split at hs
  ·cases hs
  ·rename_i v Lo hv;have k1:=hf _ _ h hv;cases hs;have:=RU is v true;simp only[VT,Bool.false_eq_true,if_false]at k1 ⊢;omega
theorem RX {f:List Token→Except WU (Json×List Token)} {d:Int} (hs0:Sound f d) (hf:Sized f) {cl:af} {obj:Bool}:∀(m:Nat) (ns:List af) (is:List Json) (ts:List Token) (p:(List af×List Json)×List Token),
  (∀t∈ts,Fo t)→Inv obj d ns is→ub f cl obj m ns is ts = .ok p→VT obj p.1.1 p.1.2+tokL p.2+60≤VT obj ns is+1+tokL ts
 | 0,_,_,_,_,_,_,h=>by cases h
 | m+1,ns,is,ts,p,h,hi,hs=>by
  simp only[ub]at hs;split at hs
  ·cases hs
  ·rename_i q Lo hq;obtain ⟨g1,g2⟩:=partS_ok hs0 h hi hq;have g3:=partS_size hs0 hf h hi hq;split at hs
   ·rename_i r hr;cases hs;have g4:=Ip hr;simp only at g3 g4 ⊢;omega
   ·split at hs
    ·rename_i r hr;have g4:=Ip hr;have g5:=RX hs0 hf m _ _ _ _ (Lu g2 hr) g1 hs;simp only at g3 g4 g5 ⊢;omega
    ·cases hs
theorem printJ_name {k:Int} (hk:k=1∨k=2∨k=3):(dY ⟨k,⟨0,0⟩, [], [], []⟩).length≤60:=by
 rcases hk with rfl|rfl|rfl <;> decide
theorem Vn:∀(n:Nat) (d:Int),Sized (uc n d)
 | 0,_,_,_,_,h=>by cases h
 | _+1,_, [],_,_,h=>by cases h
 | n+1,d,t::r,p,ht,h=>by
  have h0:=ht t (by simp);have hr0:∀u∈r,Fo u:=fun u hu=>ht u (by simp[hu])
  have et:tokL (t::r)=tokN t+tokL r:=rfl;have en:tokN t=6*t.text.length+70:=rfl;simp only[uc]at h;split at h
  ·cases h
  split at h
  ·cases h
  split at h
  ·cases He:t.text==([123]:af)with
   | true =>
    rw[He]at h;simp only[if_true]at h;split at h
    ·rename_i r' hr;cases h;have:=Ip hr;show 2+tokL r'≤_;omega
    ·split at h
     ·cases h
     ·rename_i q r' hq;cases h;have g:=RX (TU n (d+1)) (Vn n (d+1)) _ _ _ _ _ hr0 ⟨rfl,fun _=>⟨rfl,rfl⟩,fun _=>rfl⟩ hq;have e:dY ⟨7,⟨0,0⟩, [],q.1,q.2⟩=123::(hM q.1 q.2 true ++ [125]):=by simp only[dY]; rfl
      simp only[VT,if_true,hM,List.length_nil]at g;show (dY ⟨7,⟨0,0⟩, [],q.1,q.2⟩).length+tokL r'≤_;rw[e];simp only[List.length_cons,List.length_append,List.length_nil];omega
   | false =>
    rw[He]at h;simp only[Bool.false_eq_true,if_false]at h;split at h
    ·rename_i r' hr;cases h;have:=Ip hr;show 2+tokL r'≤_;omega
    ·split at h
     ·cases h
     ·rename_i q r' hq;cases h;have g:=RX (TU n (d+1)) (Vn n (d+1)) _ _ _ _ _ hr0 ⟨rfl,(fun h=>by cases h),fun _=>rfl⟩ hq;have e:dY ⟨6,⟨0,0⟩, [],q.1,q.2⟩=91::(hZ q.2 true ++ [93]):=by simp only[dY]; rfl
      simp only[VT,Bool.false_eq_true,if_false,hZ,List.length_nil]at g;show (dY ⟨6,⟨0,0⟩, [],q.1,q.2⟩).length+tokL r'≤_;rw[e];simp only[List.length_cons,List.length_append,List.length_nil];omega
  rename_i hop;split at h
  ·rename_i R0;cases h;obtain ⟨k,hk,e⟩:=ZF R0.2;have:=printJ_name hk;simp only[e];omega
  rename_i R0;split at h
  ·rename_i hk3;cases h;have:=ZD (h0.1 hk3);have e:dY ⟨4,t.num, [], [], []⟩=Am t.num:=by simp only[dY]; rfl
   simp only[e];omega
  ·cases h;have:=MW t.text;have e:dY ⟨5,⟨0,0⟩,t.text, [], []⟩=RS t.text:=by simp only[dY]; rfl
   simp only[e];omega
mutual
theorem Vo:∀(v:Json) (d:Int),eH v d=true→(dY v).length≤10000000000→G0 v=true∧1≤(dY v).length
 | ⟨k,n,t,ns,is⟩,d,h,hl=>by
  have hL:=ZI is true;have hO:=ZJ ns is true;cases fY.1 h with
  | name _ _ hd hk=>rcases hk with rfl|rfl|rfl <;> exact ⟨rfl,by decide⟩
  | num _ _ hd hn =>
   refine ⟨rfl,?_⟩;have:=print_ne ⟨4,n, [], [], []⟩ (by rw[fY]; exact .num n 1 (by omega) hn);cases hp:dY ⟨4,n, [], [], []⟩with
   | nil=>exact (this hp).elim
   | cons _ _=>simp
  | text _ _ hd ht =>
   have e:dY ⟨5,⟨0,0⟩,t, [], []⟩=RS t:=by simp only[dY]; rfl
   have:=qtS_ge t;rw[e]at hl ⊢;exact ⟨rM.2 ⟨by simp,by simp,rfl,by simp only; omega,by simp⟩,by simp[RS]⟩
  | arr _ _ hd hi =>
   have e:dY ⟨6,⟨0,0⟩, [], [],is⟩=91::(hZ is true ++ [93]):=by simp only[dY]; rfl
   rw[e]at hl ⊢;simp only[List.length_cons,List.length_append,List.length_nil]at hl;obtain ⟨g1,g2⟩:=hL (d+1) hi (by omega);exact ⟨rM.2 ⟨by simp,by simp only; omega,g1,by simp,by simp⟩,by simp⟩
  | obj _ _ _ hd hlen hu hi =>
   have e:dY ⟨7,⟨0,0⟩, [],ns,is⟩=123::(hM ns is true ++ [125]):=by simp only[dY]; rfl
   rw[e]at hl ⊢;simp only[List.length_cons,List.length_append,List.length_nil]at hl;obtain ⟨g1,g2,g3⟩:=hO (d+1) hi hlen (by omega);exact ⟨rM.2 ⟨by simp only; omega,by simp only; omega,g1,by simp,g3⟩,by simp⟩
theorem ZI:∀(l:List Json) (first:Bool) (d:Int),eS l d=true→(hZ l first).length≤10000000000→P8 l=true∧l.length≤(hZ l first).length
 | [],_,_,_,_=>⟨rfl,by simp⟩
 | x::l,first,d,h,hl=>by
  simp only[eS,Bool.and_eq_true]at h;have h1:=Vo x d h.1;have h2:=ZI l false d h.2;simp only[hZ,List.length_append]at hl ⊢;obtain ⟨a1,a2⟩:=h1 (by omega);obtain ⟨b1,b2⟩:=h2 (by omega);refine ⟨by simp only[P8,a1,b1]; rfl,?_⟩;simp only[List.length_cons];omega
theorem ZJ:∀(ns:List af) (l:List Json) (first:Bool) (d:Int),eS l d=true→ns.length=l.length→(hM ns l first).length≤10000000000→P8 l=true∧l.length≤(hM ns l first).length∧∀n∈ns,n.length≤10000000000
 | ns, [],_,_,_,hlen,_=>by
  obtain rfl:ns = []:=List.eq_nil_of_length_eq_zero hlen;exact ⟨rfl,by simp,by simp⟩
 | [],x::l,_,_,_,hlen,_=>by cases hlen
 | n::ns,x::l,first,d,h,hlen,hl=>by
  simp only[eS,Bool.and_eq_true]at h;have h1:=Vo x d h.1;have h2:=ZJ ns l false d h.2 (by simpa using hlen);simp only[hM,List.length_append,List.headD_cons,List.tail_cons,List.length_cons]at hl ⊢;obtain ⟨a1,a2⟩:=h1 (by omega);obtain ⟨b1,b2,b3⟩:=h2 (by omega);have h3:=qtS_ge n;refine ⟨by simp only[P8,a1,b1]; rfl,by omega,fun m hm => ?_⟩;rcases List.mem_cons.1 hm with rfl|hm
  ·omega
  ·exact b3 m hm
end
theorem parseJ_ok (s:af) (h:(vO s).2.1=0):eH (vO s).1 1=true∧G0 (vO s).1=true∧(dY (vO s).1).length≤10000000000:=by
 unfold vO at h ⊢;by_cases h0:(l8 s).2.1=0;rotate_left
 ·rw[if_pos h0]at h;exact (h0 h).elim
 rw[if_neg (by simpa using h0)]at h ⊢;have hf:=scanS_fine s;have hlen:=Vj s;cases hq:uc 40 1 (l8 s).1 with
 | error b =>
  rw[hq]at h;simp only at h;have hb:b.1≠0:=by
   have hv:=value_ok (R:=Unit) 20002 (by omega) 40 1 (by omega) (by omega) (by omega) (l8 s).1 (Vk s h0) hlen;rw[hq]at hv;exact hv.1.2
  exact (hb h).elim
 | ok p =>
  rw[hq]at h;obtain ⟨v,r⟩:=p;simp only at h ⊢;split
  ·rename_i hk;rw[if_pos hk]at h;cases h
  ·obtain ⟨g1,_⟩:=TU 40 1 _ _ (fun t ht=>(hf t ht).1) hq;have g2:=Vn 40 1 _ _ (fun t ht=>(hf t ht).1) hq;have g3:=tokL_le _ hf;simp only at g1 g2 ⊢;have g4:(dY v).length≤10000000000:=by
    have:(l8 s).1.length*480070≤20002*480070:=Nat.mul_le_mul_right _ hlen;omega
   exact ⟨g1,(Vo v 1 g1 g4).1,g4⟩
theorem parseJ_none (s:af) (h:(vO s).2.1≠0):(vO s).1=⟨0,⟨0,0⟩, [], [], []⟩:=by
 unfold vO at h ⊢;split
 ·rfl
 ·rename_i h0;rw[if_neg h0]at h;split
  ·rfl
  ·rename_i hv;rw[hv]at h;simp only at h ⊢;split
   ·rfl
   ·rename_i hk;rw[if_neg hk]at h;exact (h rfl).elim
abbrev WZ:Json:=⟨0,⟨0,0⟩, [], [], []⟩
theorem AE {T:List Token} {p:Nat} {t:Token} {r:List Token} (h:T.drop p=t::r) (d:Token):T.getD ((p:Int)).toNat d=t∧T.drop (p+1)=r∧p<T.length:=by
 have hp:p<T.length:=by
  rcases Nat.lt_or_ge p T.length with h'|h'
  ·exact h'
  ·rw[List.drop_eq_nil_of_le h']at h; cases h
 rw[List.drop_eq_getElem_cons hp]at h;simp only[List.cons.injEq]at h;refine ⟨?_,h.2,hp⟩;rw[Int.toNat_natCast,List.getD_eq_getElem?_getD,List.getElem?_eq_getElem hp];exact h.1
theorem signS_two {a b:af} (hab:a≠b) {ts r:List Token} (h:fT a ts=some r):fT b ts=none:=by
 cases ts with
 | nil=>cases h
 | cons t ts =>
  simp only[fT]at h ⊢;split at h
  ·rename_i hc;rw[if_neg (fun g=>hab (hc.2.symm.trans g.2))]
  ·cases h
theorem ZK {R:Type} (x:af) {T:List Token} {p:Nat} (hT:T.length≤1000000000) (hn:T.drop p ≠ []) (k:Bool→List Token→Int→Int→Option R) :
  aw x T (p:Int) 0 k=match fT x (T.drop p)with|some _=>k true T ((p+1:Nat):Int) 0|none=>k false T (p:Int) 0:=by
 cases hd:T.drop p with
 | nil=>exact (hn hd).elim
 | cons t r =>
  obtain ⟨h1,h2,h3⟩:=AE hd (Ty.br .token);have c1:(decide ((0:Int)≤(p:Int))&&decide ((p:Int)<(T.length:Int)))=true:=by simp; omega
  have hw:IntKind.i64.wrap ((p:Int)+1)=((p+1:Nat):Int):=by rw[aK (by omega) (by omega)]; omega
  have e0:aw x T (p:Int) 0 k=jy x T (p:Int) 0 k:=rfl;rw[e0];unfold jy;rw[h1,ao c1,ao c1,hw];simp only[fT];by_cases k1:t.kind=1
  ·have b1:(t.kind==1)=true:=by simpa using k1
   by_cases k2:t.text=x
   ·have b2:(t.text==x)=true:=by simpa using k2
    rw[if_pos ⟨k1,k2⟩,b1,b2];rfl
   ·have b2:(t.text==x)=false:=by simpa using k2
    rw[if_neg (fun h=>k2 h.2),b1,b2];rfl
  ·have b1:(t.kind==1)=false:=by simpa using k1
   rw[if_neg (fun h=>k1 h.1),b1];rfl
theorem ris_no {R:Type} (x:af) (T:List Token) (p c:Int) (hc:c≠0) (k:Bool→List Token→Int→Int→Option R):aw x T p c k=k false T p c:=by
 have e0:aw x T p c k=jy x T p c k:=rfl;rw[e0];unfold jy;have:(c==0)=false:=by simpa using hc
 rw[this];rfl
theorem ZL {R:Type} (x:af) {T:List Token} {p:Nat} (hT:T.length≤1000000000) (hn:T.drop p ≠ []) (k:List Token→Int→Int→Option R) :
  aJ x T (p:Int) 0 k=match fT x (T.drop p)with|some _=>k T ((p+1:Nat):Int) 0|none=>k T (p:Int) 40:=by
 have e0:aJ x T (p:Int) 0 k=ig aw x T (p:Int) 0 k:=rfl;rw[e0];unfold ig;rw[ZK x hT hn];cases fT x (T.drop p) <;> rfl
theorem ZM {R:Type} (x:af) (T:List Token) (p c:Int) (hc:c≠0) (k:List Token→Int→Int→Option R):aJ x T p c k=k T p c:=by
 have e0:aJ x T p c k=ig aw x T p c k:=rfl;rw[e0];unfold ig;rw[ris_no x T p c hc];have:(c==0)=false:=by simpa using hc
 rw[this];rfl
theorem has_loop {R:Type} (ns:List af) (x:af) (hl:ns.length≤1099511627776) (k:Bool→Option R):∀(F i:Nat),i≤ns.length→ns.length - i<F→ei F ns x (i:Int) (k false) (fun y=>k y)=k ((ns.drop i).contains x):=by
 intro F
 induction F with
 | zero=>intro i _ h; omega
 | succ F ih =>
  intro i hi hF;show Az (fun x0 x1 x2=>ei F x0 x1 x2 _ _) ns x (i:Int) _ _=_;unfold Az;by_cases h:i<ns.length
  ·have h1:decide ((i:Int)<(ns.length:Int))=true:=by simp; omega
   have c1:(decide ((0:Int)≤(i:Int))&&decide ((i:Int)<(ns.length:Int)))=true:=by simp; omega
   have hw:IntKind.i64.wrap ((i:Int)+1)=((i+1:Nat):Int):=by rw[aK (by omega) (by omega)]; omega
   have hg:ns.getD (i:Int).toNat (Ty.br .str)=ns[i]:=getD_at h _;rw[h1,cond_true,ao (by simpa [h1]using c1),hg,List.drop_eq_getElem_cons h,List.contains_cons];have hsym:(x==ns[i])=(ns[i]==x):=by rw[Bool.eq_iff_iff,beq_iff_eq,beq_iff_eq]; exact eq_comm
   cases hq:ns[i]==x with
   | true=>rw[cond_true,hsym,hq,Bool.true_or]
   | false =>
    rw[cond_false,hsym,hq,Bool.false_or,hw];exact ih (i+1) (by omega) (by omega)
  ·have h1:decide ((i:Int)<(ns.length:Int))=false:=by simp; omega
   rw[h1,cond_false,List.drop_eq_nil_of_le (by omega)];rfl
theorem has_ok {R:Type} (ns:List af) (x:af) (hl:ns.length≤1099511627776) (k:Bool→Option R):cP ns x k=k (ns.contains x):=by
 have:=has_loop ns x hl k (List.length ns+List.length x+Int.natAbs 0+64) 0 (by omega) (by omega);rw[List.drop_zero]at this;exact this
def kindOk (t:Token):Prop:=(t.kind=1∨t.kind=2∨t.kind=3∨t.kind=4∨t.kind=5)∧(t.kind=4→Di t.text=true)
def RokV {R:Type} (ff:bp R) (d:Int) (T:List Token) (p:Nat) (q:Json×List Token):Prop :=
 yf q.2∧∃p':Nat,T.drop p'=q.2∧∀k:Json→List Token→Int→Int→Option R,ff d T (p:Int) 0 k=k q.1 T (p':Int) 0
def RbadV {R:Type} (ff:bp R) (d:Int) (T:List Token) (p:Nat) (b:WU):Prop :=
 (yf b.2∧b.1≠0)∧∃(v:Json) (p':Nat),T.drop p'=b.2∧∀k:Json→List Token→Int→Int→Option R,ff d T (p:Int) 0 k=k v T (p':Int) b.1
def HvalR {R:Type} (ff:bp R) (f:List Token→Except WU (Json×List Token)) (d:Int) (T:List Token):Prop :=
 (∀(p c:Int),c≠0→∀k:Json→List Token→Int→Int→Option R,ff d T p c k=k WZ T p c) ∧
 ∀p:Nat,yf (T.drop p)→Both (RokV ff d T p) (RbadV ff d T p) (f (T.drop p))
section
variable {R:Type} (ff:bp R) (f:List Token→Except WU (Json×List Token)) (hfl:∀ts p,f ts = .ok p→p.2.length<ts.length) (d:Int) (hd:0≤d∧d≤16) (T:List Token) (hT:T.length≤100000000)
 (hv:HvalR ff f (d+1) T) (c1 c2 c3:Int) (c4:af) (c5 c6 c7:Int) (c8:af)
include hfl hd hT hv
theorem rarr_loop:∀(F m:Nat) (is:List Json) (p n:Nat),(T.drop p).length+1<F→(T.drop p).length<m→yf (T.drop p)→is.length+(T.drop p).length≤1000000000 →
  Both (fun q:(List af×List Json)×List Token=>yf q.2∧q.1.1 = []∧∃(p' n':Nat),T.drop p'=q.2∧∀e0,aB ff F d false T (p:Int) 0 c1 c2 c3 c4 c5 c6 c7 c8 n is e0=e0 T (p':Int) 0 c1 c2 c3 c4 c5 c6 c7 c8 n' q.1.2)
   (fun b=>(yf b.2∧b.1≠0)∧∃(p' n':Nat) (QW:List Json),T.drop p'=b.2∧∀e0,aB ff F d false T (p:Int) 0 c1 c2 c3 c4 c5 c6 c7 c8 n is e0=e0 T (p':Int) b.1 c1 c2 c3 c4 c5 c6 c7 c8 n' QW)
   (ub f [93] false m [] is (T.drop p)):=by
 have TN:∀(F:Nat) (p c:Int) (n:Nat) (is:List Json) e0,aB ff (F+1) d true T p c c1 c2 c3 c4 c5 c6 c7 c8 n is e0=e0 T p c c1 c2 c3 c4 c5 c6 c7 c8 n is:=fun F p c n is e0=>rfl
 intro F
 induction F with
 | zero=>intro m is p n h; omega
 | succ F ih =>
  intro m is p n hF hm he Ph;obtain ⟨m,rfl⟩:∃j,m=j+1:=⟨m - 1,by omega⟩;obtain ⟨F,rfl⟩:∃j,F=j+1:=⟨F - 1,by have:0<(T.drop p).length:=List.length_pos_iff.2 he.ne; omega⟩;have hw:IntKind.i64.wrap (d+1)=d+1:=aK (by omega) (by omega);have ck:decide ((is.length+1)*88≤140737488355328)=true:=by rw[decide_eq_true_eq]; omega
  have e1:∀e0,aB ff (F+1+1) d false T (p:Int) 0 c1 c2 c3 c4 c5 c6 c7 c8 n is e0 =
    ff (IntKind.i64.wrap (d+1)) T (p:Int) 0 (fun BQ JF NY Nz=>bB (decide ((is.length+1)*88≤140737488355328)) (aw [44] JF NY Nz (fun Qr Md Xe y34=>bif (!Qr)then (aJ [93] Md Xe y34 (fun y35 Wg y37=>aB ff (F+1) d true y35 Wg y37 c1 c2 c3 c4 c5 c6 c7 c8 (is.length+1) (is ++ [⟨BQ.kind,⟨BQ.num.au,BQ.num.exp⟩,BQ.text,BQ.names,BQ.items⟩]) e0))else aB ff (F+1) d false Md Xe y34 c1 c2 c3 c4 c5 c6 c7 c8 (is.length+1) (is ++ [⟨BQ.kind,⟨BQ.num.au,BQ.num.exp⟩,BQ.text,BQ.names,BQ.items⟩]) e0))):=fun e0=>rfl
  simp only[Json.eta]at e1;have h2:=hv.2 p he;simp only[ub,wA];cases hf:f (T.drop p)with
  | error q =>
   rw[hf]at h2;obtain ⟨⟨g1,g2⟩,v,p',g3,g4⟩:=h2;refine ⟨⟨g1,g2⟩,p',is.length+1,is ++ [v],g3,fun e0 => ?_⟩;rw[e1,hw,g4,ao ck,ris_no _ _ _ _ g2,Bool.not_false,cond_true,ZM _ _ _ _ g2,TN]
  | ok q =>
   obtain ⟨v,Lo⟩:=q;rw[hf]at h2;obtain ⟨g1,p',g3,g4⟩:=h2;have hlen:=hfl _ _ hf;simp only at g1 g3 g4 hlen ⊢;have im:T.drop p' ≠ []:=by rw[g3]; exact g1.ne
   have s1:=fun k:Bool→List Token→Int→Int→Option R=>ZK [44] (p:=p') (by omega) im k
   have s2:=fun k:List Token→Int→Int→Option R=>ZL [93] (p:=p') (by omega) im k
   rw[g3]at s1 s2;cases hs:fT [93] Lo with
   | some r =>
    have ZN:=signS_two (b := [44]) (by decide) hs;rw[ZN]at s1;rw[hs]at s2;simp only at s1 s2;have WT:T.drop (p'+1)=r:=by
     cases Lo with
     | nil=>cases hs
     | cons t u =>
      simp only[fT]at hs;split at hs
      ·cases hs; exact (AE g3 (Ty.br .token)).2.1
      ·cases hs
    refine ⟨qB g1 hs,rfl,p'+1,is.length+1,WT,fun e0 => ?_⟩;rw[e1,hw,g4,ao ck,s1,Bool.not_false,cond_true,s2,TN]
   | none =>
    simp only;cases ZN:fT [44] Lo with
    | none =>
     rw[ZN]at s1;rw[hs]at s2;simp only at s1 s2;refine ⟨⟨g1,by show (_:Int)≠0; simp⟩,p',is.length+1,is ++ [v],g3,fun e0 => ?_⟩;rw[e1,hw,g4,ao ck,s1,Bool.not_false,cond_true,s2,TN]
    | some r =>
     rw[ZN]at s1;simp only at s1;have hl3:=ye ZN;have WT:T.drop (p'+1)=r:=by
      cases Lo with
      | nil=>cases ZN
      | cons t u =>
       simp only[fT]at ZN;split at ZN
       ·cases ZN; exact (AE g3 (Ty.br .token)).2.1
       ·cases ZN
     have hih:=ih m (is ++ [v]) (p'+1) (is.length+1) (by rw[WT]; omega) (by rw[WT]; omega) (by rw[WT]; exact qB g1 ZN) (by rw[WT]; simp; omega);rw[WT]at hih;have e3:∀e0,aB ff (F+1+1) d false T (p:Int) 0 c1 c2 c3 c4 c5 c6 c7 c8 n is e0=aB ff (F+1) d false T ((p'+1:Nat):Int) 0 c1 c2 c3 c4 c5 c6 c7 c8 (is.length+1) (is ++ [v]) e0:=fun e0=>by
      rw[e1,hw,g4,ao ck,s1,Bool.not_true,cond_false]
     simp only[e3];exact hih
theorem robj_loop:∀(F m:Nat) (ns:List af) (is:List Json) (p n:Nat),(T.drop p).length+1<F→(T.drop p).length<m→yf (T.drop p)→is.length+(T.drop p).length≤1000000000→ns.length+(T.drop p).length≤1000000000 →
  Both (fun q:(List af×List Json)×List Token=>yf q.2∧∃(p' n':Nat),T.drop p'=q.2∧∀e0,ax ff F d false T (p:Int) 0 c1 c2 c3 c4 c5 c6 c7 c8 ns n is e0=e0 T (p':Int) 0 c1 c2 c3 c4 c5 c6 c7 c8 q.1.1 n' q.1.2)
   (fun b=>(yf b.2∧b.1≠0)∧∃(p' n':Nat) (TW:List af) (QW:List Json),T.drop p'=b.2∧∀e0,ax ff F d false T (p:Int) 0 c1 c2 c3 c4 c5 c6 c7 c8 ns n is e0=e0 T (p':Int) b.1 c1 c2 c3 c4 c5 c6 c7 c8 TW n' QW)
   (ub f [125] true m ns is (T.drop p)):=by
 have TN:∀(F:Nat) (p c:Int) (ns:List af) (n:Nat) (is:List Json) e0,ax ff (F+1) d true T p c c1 c2 c3 c4 c5 c6 c7 c8 ns n is e0=e0 T p c c1 c2 c3 c4 c5 c6 c7 c8 ns n is:=fun F p c ns n is e0=>rfl
 intro F
 induction F with
 | zero=>intro m ns is p n h; omega
 | succ F ih =>
  intro m ns is p n hF hm he Ph Nu;obtain ⟨m,rfl⟩:∃j,m=j+1:=⟨m - 1,by omega⟩;obtain ⟨F,rfl⟩:∃j,F=j+1:=⟨F - 1,by have:0<(T.drop p).length:=List.length_pos_iff.2 he.ne; omega⟩;have hw:IntKind.i64.wrap (d+1)=d+1:=aK (by omega) (by omega);have ck:decide ((is.length+1)*88≤140737488355328)=true:=by rw[decide_eq_true_eq]; omega
  have ck2:decide ((ns.length+1)*16≤140737488355328)=true:=by rw[decide_eq_true_eq]; omega
  cases hdp:T.drop p with
  | nil=>exact (he.ne hdp).elim
  | cons t ts =>
  rw[hdp]at he hF hm Ph Nu;obtain ⟨h1,h2,h3⟩:=AE hdp (Ty.br .token);have hwp:IntKind.i64.wrap ((p:Int)+1)=((p+1:Nat):Int):=by rw[aK (by omega) (by omega)]; omega
  have cp:(decide ((0:Int)≤(p:Int))&&decide ((p:Int)<(T.length:Int)))=true:=by simp; omega
  have e1:∀e0,ax ff (F+1+1) d false T (p:Int) 0 c1 c2 c3 c4 c5 c6 c7 c8 ns n is e0 =
    (bif (t.kind != 2)then (e0 T (p:Int) 40 c1 c2 c3 c4 c5 c6 c7 c8 ns n is)else (cP ns t.text (fun y72=>bif y72 then (e0 T (p:Int) 42 c1 c2 c3 c4 c5 c6 c7 c8 ns n is)else (aJ [58] T ((p+1:Nat):Int) 0 (fun y73 y74 y75=>ff (d+1) y73 y74 y75 (fun y76 y77 y78 y79=>aw [44] y77 y78 y79 (fun y80 y81 y82 y83=>bif (!y80)then (aJ [125] y81 y82 y83 (fun y84 y85 y86=>ax ff (F+1) d true y84 y85 y86 c1 c2 c3 c4 c5 c6 c7 c8 (ns ++ [t.text]) (is.length+1) (is ++ [y76]) e0))else ax ff (F+1) d false y81 y82 y83 c1 c2 c3 c4 c5 c6 c7 c8 (ns ++ [t.text]) (is.length+1) (is ++ [y76]) e0)))))):Option R):=fun e0=>by
   have e2:ax ff (F+1+1) d false T (p:Int) 0 c1 c2 c3 c4 c5 c6 c7 c8 ns n is e0=jB aw aJ ff cP (fun x0 x1 x2 x3 x4 x5 x6 x7 x8 x9 Gc x11 NZ I8 Mf o6=>ax ff (F+1) x0 x1 x2 x3 x4 x5 x6 x7 x8 x9 Gc x11 NZ I8 Mf o6 e0) d false T (p:Int) 0 c1 c2 c3 c4 c5 c6 c7 c8 ns n is e0:=rfl;rw[e2];unfold jB;simp only[Json.eta];rw[Bool.not_false,cond_true,show ((0:Int)==0)=true from rfl,cond_true,h1,ao cp,hwp];simp only[ao ck2,ao ck,hw]
  simp only[ub,wA,Ij];by_cases hk:t.kind=2;rotate_left
  ·have b1:(t.kind != 2)=true:=by simpa using hk
   rw[if_pos hk];exact ⟨⟨he,by show (_:Int)≠0; simp⟩,p,n,ns,is,hdp,fun e0=>by rw[e1,b1,cond_true]⟩
  have b1:(t.kind != 2)=false:=by simpa using hk
  have he1:=he.tail (by rw[hk]; decide);have hhas:=fun k:Bool→Option R=>has_ok ns t.text (by omega) k
  rw[if_neg (by simp[hk])];cases hc:ns.contains t.text with
  | true =>
   rw[hc]at hhas;rw[if_pos rfl];exact ⟨⟨he,by show (_:Int)≠0; simp⟩,p,n,ns,is,hdp,fun e0=>by rw[e1,b1,cond_false,hhas,cond_true]⟩
  | false =>
  rw[hc]at hhas;rw[if_neg (by simp)];have hne1:T.drop (p+1) ≠ []:=by rw[h2]; exact he1.ne
  have s0:=fun k:List Token→Int→Int→Option R=>ZL [58] (p:=p+1) (by omega) hne1 k
  rw[h2]at s0;cases hcol:fT [58] ts with
  | none =>
   rw[hcol]at s0;simp only at s0;refine ⟨⟨he1,by show (_:Int)≠0; simp⟩,p+1,is.length+1,ns ++ [t.text],is ++ [WZ],h2,fun e0 => ?_⟩;have hc40:(40:Int)≠0:=by decide
   rw[e1,b1,cond_false,hhas,cond_false,s0,hv.1 _ _ hc40,ris_no _ _ _ _ hc40,Bool.not_false,cond_true,ZM _ _ _ _ hc40,TN]
  | some r1 =>
  rw[hcol]at s0;simp only at s0;have hr1:=qB he1 hcol;have hlr:=ye hcol;have hdr1:T.drop (p+1+1)=r1:=by
   cases ts with
   | nil=>cases hcol
   | cons u us =>
    simp only[fT]at hcol;split at hcol
    ·cases hcol; exact (AE h2 (Ty.br .token)).2.1
    ·cases hcol
  have h5:=hv.2 (p+1+1) (by rw[hdr1]; exact hr1);rw[hdr1]at h5;simp only;cases hf:f r1 with
  | error q =>
   rw[hf]at h5;obtain ⟨⟨g1,g2⟩,v,p',g3,g4⟩:=h5;refine ⟨⟨g1,g2⟩,p',is.length+1,ns ++ [t.text],is ++ [v],g3,fun e0 => ?_⟩;rw[e1,b1,cond_false,hhas,cond_false,s0,g4,ris_no _ _ _ _ g2,Bool.not_false,cond_true,ZM _ _ _ _ g2,TN]
  | ok q =>
   obtain ⟨v,Lo⟩:=q;rw[hf]at h5;obtain ⟨g1,p',g3,g4⟩:=h5;have hlen:=hfl _ _ hf;simp only at g1 g3 g4 hlen ⊢;simp only[List.length_cons]at hF hm Ph Nu;have im:T.drop p' ≠ []:=by rw[g3]; exact g1.ne
   have s1:=fun k:Bool→List Token→Int→Int→Option R=>ZK [44] (p:=p') (by omega) im k
   have s2:=fun k:List Token→Int→Int→Option R=>ZL [125] (p:=p') (by omega) im k
   rw[g3]at s1 s2;cases hs:fT [125] Lo with
   | some r =>
    have ZN:=signS_two (b := [44]) (by decide) hs;rw[ZN]at s1;rw[hs]at s2;simp only at s1 s2;have WT:T.drop (p'+1)=r:=by
     cases Lo with
     | nil=>cases hs
     | cons t u =>
      simp only[fT]at hs;split at hs
      ·cases hs; exact (AE g3 (Ty.br .token)).2.1
      ·cases hs
    refine ⟨qB g1 hs,p'+1,is.length+1,WT,fun e0 => ?_⟩;rw[e1,b1,cond_false,hhas,cond_false,s0,g4,s1,Bool.not_false,cond_true,s2,TN]
   | none =>
    simp only;cases ZN:fT [44] Lo with
    | none =>
     rw[ZN]at s1;rw[hs]at s2;simp only at s1 s2;refine ⟨⟨g1,by show (_:Int)≠0; simp⟩,p',is.length+1,ns ++ [t.text],is ++ [v],g3,fun e0 => ?_⟩;rw[e1,b1,cond_false,hhas,cond_false,s0,g4,s1,Bool.not_false,cond_true,s2,TN]
    | some r =>
     rw[ZN]at s1;simp only at s1;have hl3:=ye ZN;have WT:T.drop (p'+1)=r:=by
      cases Lo with
      | nil=>cases ZN
      | cons t u =>
       simp only[fT]at ZN;split at ZN
       ·cases ZN; exact (AE g3 (Ty.br .token)).2.1
       ·cases ZN
     have hih:=ih m (ns ++ [t.text]) (is ++ [v]) (p'+1) (is.length+1) (by rw[WT]; omega) (by rw[WT]; omega) (by rw[WT]; exact qB g1 ZN) (by rw[WT]; simp; omega) (by rw[WT]; simp; omega);rw[WT]at hih;have e3:∀e0,ax ff (F+1+1) d false T (p:Int) 0 c1 c2 c3 c4 c5 c6 c7 c8 ns n is e0=ax ff (F+1) d false T ((p'+1:Nat):Int) 0 c1 c2 c3 c4 c5 c6 c7 c8 (ns ++ [t.text]) (is.length+1) (is ++ [v]) e0:=fun e0=>by
      rw[e1,b1,cond_false,hhas,cond_false,s0,g4,s1,Bool.not_true,cond_false]
     simp only[e3];exact hih
end
theorem rvalue_ok {R:Type} (T:List Token) (hT:T.length≤100000000) (hk:∀t∈T,kindOk t):∀(n:Nat) (d:Int),0≤d→d≤17→17 - d<n→HvalR (R:=R) (bf n) (uc n d) d T:=by
 intro n
 induction n with
 | zero=>intro d h0 h1 h2; omega
 | succ n ih =>
  intro d h0 h1 h2;have e0:∀(p c:Int) (k:Json→List Token→Int→Int→Option R),bf (n+1) d T p c k=jF aw (aB (bf n)) (ax (bf n)) d T p c k:=fun _ _ _=>rfl
  refine ⟨fun p c hc k => ?_,fun p he => ?_⟩
  ·rw[e0];unfold jF;have:(c != 0)=true:=by simpa using hc
   rw[this];rfl
  cases hdp:T.drop p with
  | nil=>exact (he.ne hdp).elim
  | cons t r =>
  rw[hdp]at he;obtain ⟨g1,g2,g3⟩:=AE hdp (Ty.br .token);have hm:t∈T:=by
   have:t∈T.drop p:=by rw[hdp]; simp
   exact List.mem_of_mem_drop this
  obtain ⟨hkd,R0⟩:=hk t hm;have cp:(decide ((0:Int)≤(p:Int))&&decide ((p:Int)<(T.length:Int)))=true:=by simp; omega
  have hwp:IntKind.i64.wrap ((p:Int)+1)=((p+1:Nat):Int):=by rw[aK (by omega) (by omega)]; omega
  have hdl:∀z:Json,(T.drop p).length=r.length+1:=fun _=>by rw[hdp]; rfl
  
  let J:(Json→List Token→Int→Int→Option R)→Option R:=fun k=>bif decide (d>16)then k WZ T (p:Int) 41 else (bif t.kind==2 then k ⟨5,⟨0,0⟩,t.text, [], []⟩ T ((p+1:Nat):Int) 0 else (bif t.kind==3 then k ⟨4,⟨t.num.au,t.num.exp⟩, [], [], []⟩ T ((p+1:Nat):Int) 0 else (bif t.kind==4 then k ⟨ma .str (.int .i64) t.text Ve,⟨0,0⟩, [], [], []⟩ T ((p+1:Nat):Int) 0 else
   (bif t.text==([91]:af)then aw [93] T ((p+1:Nat):Int) 0 (fun y7 y8 y9 o5=>aB (bf n) (Int.natAbs d+List.length y8+Int.natAbs y9+Int.natAbs o5+Int.natAbs 0+Int.natAbs 0+Int.natAbs 0+List.length ([]:af)+Int.natAbs 6+Int.natAbs 0+Int.natAbs 0+List.length ([]:af)+List.length ([]:List Json)+64) d y7 y8 y9 o5 0 0 0 [] 6 0 0 [] 0 [] (fun y38 y39 y40 y41 YH y43 y44 y45 y46 Ux y48 y49 y50=>k ⟨y45,⟨y46,Ux⟩,y48, [],y50⟩ y38 y39 y40))
    else aw [125] T ((p+1:Nat):Int) 0 (fun YK Uy VK VL=>ax (bf n) (Int.natAbs d+List.length Uy+Int.natAbs VK+Int.natAbs VL+Int.natAbs 0+Int.natAbs 0+Int.natAbs 0+List.length ([]:af)+Int.natAbs 7+Int.natAbs 0+Int.natAbs 0+List.length ([]:af)+List.length ([]:List af)+List.length ([]:List Json)+64) d YK Uy VK VL 0 0 0 [] 7 0 0 [] [] 0 [] (fun y87 y88 y89 y90 y91 y92 y93 y94 y95 y96 y97 y98 y99 y100=>k ⟨y94,⟨y95,y96⟩,y97,y98,y100⟩ y87 y88 y89))))))
  have e1:∀k:Json→List Token→Int→Int→Option R,bf (n+1) d T (p:Int) 0 k=bif oz t then J k else k WZ T (p:Int) 40:=fun k=>by
   rw[e0];unfold jF;rw[show ((0:Int) != 0)=false from rfl,cond_false,g1,ao cp,hwp];show (bif (t.kind==1)then (bif (t.text==([91]:af))then (bif (t.kind==5)then k WZ T (p:Int) 40 else (bif (t.kind==1)then (bif (!true)then k WZ T (p:Int) 40 else J k)else J k))else (bif (t.kind==5)then k WZ T (p:Int) 40 else (bif (t.kind==1)then (bif (!(t.text==([123]:af)))then k WZ T (p:Int) 40 else J k)else J k)))else (bif (t.kind==5)then k WZ T (p:Int) 40 else (bif (t.kind==1)then (bif (!false)then k WZ T (p:Int) 40 else J k)else J k)))=_;generalize J k=w;unfold oz DO;rcases hkd with h|h|h|h|h <;> rw[h]
   ·cases t.text==([91]:af) <;> cases t.text==([123]:af) <;> rfl
   ·rfl
   ·rfl
   ·rfl
   ·rfl
  simp only[uc];cases ZS:oz t with
  | false =>
   rw[if_pos rfl];exact ⟨⟨he,by show (_:Int)≠0; simp⟩,WZ,p,hdp,fun k=>by rw[e1,ZS]; rfl⟩
  | true =>
   rw[if_neg (by simp)];have e2:∀k,bf (n+1) d T (p:Int) 0 k=J k:=fun k=>by rw[e1,ZS]; rfl
   by_cases hd:d>16
   ·rw[if_pos hd];have b1:decide (d>16)=true:=by simpa using hd
    exact ⟨⟨he,by show (_:Int)≠0; simp⟩,WZ,p,hdp,fun k=>by rw[e2]; show (bif decide (d>16)then _ else _)=_; rw[b1]; rfl⟩
   rw[if_neg hd];have b1:decide (d>16)=false:=by simpa using hd
   have hk5:t.kind≠5:=by
    intro h5;simp[oz,h5]at ZS
   have her:=he.tail hk5;have hih:=ih (d+1) (by omega) (by omega) (by omega);have hfl:∀ts q,uc n (d+1) ts = .ok q→q.2.length<ts.length:=fun ts q=>Zp n (d+1) ts q
   have hne1:T.drop (p+1) ≠ []:=by rw[g2]; exact her.ne
   by_cases hop:t.kind=1∧DO t.text=true
   ·rw[if_pos hop];obtain ⟨k1,k2⟩:=hop;have hlr:r.length≤T.length:=by
     have:=congrArg List.length g2;rw[List.length_drop]at this;omega
    cases He:t.text==([123]:af)with
    | true =>
     have h91:(t.text==([91]:af))=false:=by
      rw[beq_iff_eq]at He;rw[He]; rfl
     have e3:∀k,bf (n+1) d T (p:Int) 0 k=aw [125] T ((p+1:Nat):Int) 0 (fun YK Uy VK VL=>ax (bf n) (Int.natAbs d+List.length Uy+Int.natAbs VK+Int.natAbs VL+Int.natAbs 0+Int.natAbs 0+Int.natAbs 0+List.length ([]:af)+Int.natAbs 7+Int.natAbs 0+Int.natAbs 0+List.length ([]:af)+List.length ([]:List af)+List.length ([]:List Json)+64) d YK Uy VK VL 0 0 0 [] 7 0 0 [] [] 0 [] (fun y87 y88 y89 y90 y91 y92 y93 y94 y95 y96 y97 y98 y99 y100=>k ⟨y94,⟨y95,y96⟩,y97,y98,y100⟩ y87 y88 y89)):=fun k=>by
      rw[e2];show (bif decide (d>16)then _ else (bif t.kind==2 then _ else (bif t.kind==3 then _ else (bif t.kind==4 then _ else (bif t.text==([91]:af)then _ else _)))))=_;rw[b1,k1,h91];rfl
     simp only[if_true];have s0:=fun k:Bool→List Token→Int→Int→Option R=>ZK [125] (p:=p+1) (by omega) hne1 k
     rw[g2]at s0;cases hs:fT [125] r with
     | some r' =>
      rw[hs]at s0;simp only at s0 ⊢;have WT:T.drop (p+1+1)=r':=by
       cases r with
       | nil=>cases hs
       | cons u us =>
        simp only[fT]at hs;split at hs
        ·cases hs; exact (AE g2 (Ty.br .token)).2.1
        ·cases hs
      refine ⟨qB her hs,p+1+1,WT,fun k => ?_⟩;rw[e3,s0];rfl
     | none =>
      rw[hs]at s0;simp only at s0 ⊢;have hl:=robj_loop (bf n) (uc n (d+1)) hfl d ⟨h0,by omega⟩ T hT hih 0 0 0 [] 7 0 0 [] (Int.natAbs d+List.length T+Int.natAbs ((p+1:Nat):Int)+Int.natAbs 0+Int.natAbs 0+Int.natAbs 0+Int.natAbs 0+List.length ([]:af)+Int.natAbs 7+Int.natAbs 0+Int.natAbs 0+List.length ([]:af)+List.length ([]:List af)+List.length ([]:List Json)+64) (r.length+1) [] [] (p+1) 0 (by rw[g2]; omega) (by rw[g2]; omega) (by rw[g2]; exact her) (by rw[g2]; simp; omega) (by rw[g2]; simp; omega);rw[g2]at hl;cases hq:ub (uc n (d+1)) [125] true (r.length+1) [] [] r with
      | error b =>
       rw[hq]at hl;obtain ⟨a1,p',n',TW,QW,a2,a3⟩:=hl;refine ⟨a1,⟨7,⟨0,0⟩, [],TW,QW⟩,p',a2,fun k => ?_⟩;rw[e3,s0,a3]
      | ok q =>
       rw[hq]at hl;obtain ⟨a1,p',n',a2,a3⟩:=hl;refine ⟨a1,p',a2,fun k => ?_⟩;rw[e3,s0,a3]
    | false =>
     have h91:(t.text==([91]:af))=true:=by
      unfold DO at k2;rw[He,Bool.or_false]at k2;exact k2
     have e3:∀k,bf (n+1) d T (p:Int) 0 k=aw [93] T ((p+1:Nat):Int) 0 (fun y7 y8 y9 o5=>aB (bf n) (Int.natAbs d+List.length y8+Int.natAbs y9+Int.natAbs o5+Int.natAbs 0+Int.natAbs 0+Int.natAbs 0+List.length ([]:af)+Int.natAbs 6+Int.natAbs 0+Int.natAbs 0+List.length ([]:af)+List.length ([]:List Json)+64) d y7 y8 y9 o5 0 0 0 [] 6 0 0 [] 0 [] (fun y38 y39 y40 y41 YH y43 y44 y45 y46 Ux y48 y49 y50=>k ⟨y45,⟨y46,Ux⟩,y48, [],y50⟩ y38 y39 y40)):=fun k=>by
      rw[e2];show (bif decide (d>16)then _ else (bif t.kind==2 then _ else (bif t.kind==3 then _ else (bif t.kind==4 then _ else (bif t.text==([91]:af)then _ else _)))))=_;rw[b1,k1,h91];rfl
     simp only[Bool.false_eq_true,if_false];have s0:=fun k:Bool→List Token→Int→Int→Option R=>ZK [93] (p:=p+1) (by omega) hne1 k
     rw[g2]at s0;cases hs:fT [93] r with
     | some r' =>
      rw[hs]at s0;simp only at s0 ⊢;have WT:T.drop (p+1+1)=r':=by
       cases r with
       | nil=>cases hs
       | cons u us =>
        simp only[fT]at hs;split at hs
        ·cases hs; exact (AE g2 (Ty.br .token)).2.1
        ·cases hs
      refine ⟨qB her hs,p+1+1,WT,fun k => ?_⟩;rw[e3,s0];rfl
     | none =>
      rw[hs]at s0;simp only at s0 ⊢;have hl:=rarr_loop (bf n) (uc n (d+1)) hfl d ⟨h0,by omega⟩ T hT hih 0 0 0 [] 6 0 0 [] (Int.natAbs d+List.length T+Int.natAbs ((p+1:Nat):Int)+Int.natAbs 0+Int.natAbs 0+Int.natAbs 0+Int.natAbs 0+List.length ([]:af)+Int.natAbs 6+Int.natAbs 0+Int.natAbs 0+List.length ([]:af)+List.length ([]:List Json)+64) (r.length+1) [] (p+1) 0 (by rw[g2]; omega) (by rw[g2]; omega) (by rw[g2]; exact her) (by rw[g2]; simp; omega);rw[g2]at hl;cases hq:ub (uc n (d+1)) [93] false (r.length+1) [] [] r with
      | error b =>
       rw[hq]at hl;obtain ⟨a1,p',n',QW,a2,a3⟩:=hl;refine ⟨a1,⟨6,⟨0,0⟩, [], [],QW⟩,p',a2,fun k => ?_⟩;rw[e3,s0,a3]
      | ok q =>
       rw[hq]at hl;obtain ⟨a1,a0,p',n',a2,a3⟩:=hl;refine ⟨a1,p',a2,fun k => ?_⟩;rw[e3,s0,a3,a0]
   ·rw[if_neg hop];have hk1:t.kind≠1:=by
     intro h1';apply hop;refine ⟨h1',?_⟩;simpa [oz,h1']using ZS
    rcases hkd with h|h|h|h|h
    ·exact (hk1 h).elim
    ·rw[if_neg (by rw[h]; simp),if_neg (by rw[h]; simp)];refine ⟨her,p+1,g2,fun k => ?_⟩;rw[e2];show (bif decide (d>16)then _ else (bif t.kind==2 then _ else _))=_;rw[b1,h];rfl
    ·rw[if_neg (by rw[h]; simp),if_pos h];refine ⟨her,p+1,g2,fun k => ?_⟩;rw[e2];show (bif decide (d>16)then _ else (bif t.kind==2 then _ else (bif t.kind==3 then _ else _)))=_;rw[b1,h];rfl
    ·rw[if_pos ⟨h,R0 h⟩];refine ⟨her,p+1,g2,fun k => ?_⟩;rw[e2];show (bif decide (d>16)then _ else (bif t.kind==2 then _ else (bif t.kind==3 then _ else (bif t.kind==4 then _ else _))))=_;rw[b1,h];rfl
    ·exact (hk5 h).elim
theorem tokS_kind {s r:af} {t:Token} (h:tokS s=some (t,r)):t.kind=1∨t.kind=2∨t.kind=3∨t.kind=4∨t.kind=5:=by
 cases s with
 | nil=>cases h
 | cons c u =>
  simp only[tokS]at h;split at h
  ·split at h
   ·simp only[Option.some.injEq,Prod.mk.injEq]at h; rw[←h.1]; simp
   ·cases h
  ·split at h
   ·split at h
    ·simp only[Option.some.injEq,Prod.mk.injEq]at h; rw[←h.1]; simp
    ·cases h
   ·split at h
    ·simp only[Option.some.injEq,Prod.mk.injEq]at h; rw[←h.1]; simp
    ·split at h
     ·simp only[Option.some.injEq,Prod.mk.injEq]at h; rw[←h.1]; simp
     ·cases h
theorem VU:∀(n p:Nat) (s:af) (out:List Token),(∀t∈out,kindOk t)→∀t∈(rL n p s out).1,kindOk t
 | 0,_,_,_,_=>by intro t ht; cases ht
 | n+1,p,s,out,ho=>by
  simp only[rL];split
  ·intro t ht;rcases List.mem_append.1 ht with ht|ht
   ·exact ho t ht
   ·obtain rfl:=List.mem_singleton.1 ht;exact ⟨by simp,fun h=>by cases h⟩
  ·split
   ·intro t ht; cases ht
   ·rename_i t r hr;refine VU n _ r _ fun x hx => ?_
    rcases List.mem_append.1 hx with hx|hx
    ·exact ho x hx
    ·obtain rfl:=List.mem_singleton.1 hx;refine ⟨?_,(tokS_ok hr).1.2.2⟩;show t.kind=1∨t.kind=2∨t.kind=3∨t.kind=4∨t.kind=5;exact tokS_kind hr
theorem scanS_kinds (s:af):∀t∈(l8 s).1,kindOk t:=by
 unfold l8;split
 ·intro t ht; cases ht
 ·exact VU _ _ _ _ (by intro t ht; cases ht)
theorem rparse_ok {R:Type} (s:af) (k:Json→Int→Int→Option R):gi s k=k (vO s).1 (vO s).2.1 (vO s).2.2:=by
 have e0:gi s k=EP du nN s k:=rfl;rw[e0];unfold EP vO;rw[refScan_ok];by_cases h:(l8 s).2.1=0;rotate_left
 ·have e1:((l8 s).2.1 != 0)=true:=by simpa using h
  rw[if_pos h,e1];rfl
 have e1:((l8 s).2.1 != 0)=false:=by simpa using h
 rw[if_neg (by simpa using h),e1,cond_false];have hE:=Vk s h;have hL:=Vj s;have hv:=(rvalue_ok (R:=R) (l8 s).1 (by omega) (scanS_kinds s) 40 1 (by omega) (by omega) (by omega)).2 0 (by rw[List.drop_zero]; exact hE);rw[List.drop_zero]at hv;generalize (l8 s).1=T at hE hL hv;have e2:∀q,du (R:=R) 1 T 0 0 q=bf 40 1 T ((0:Nat):Int) 0 q:=fun q=>rfl
 rw[e2];cases hq:uc 40 1 T with
 | error b =>
  rw[hq]at hv;obtain ⟨⟨g1,g2⟩,v,p',g3,g4⟩:=hv;rw[g4];obtain ⟨c,r⟩:=b;cases r with
  | nil=>exact (g1.ne rfl).elim
  | cons t r =>
   obtain ⟨a1,_,a3⟩:=AE g3 (Ty.br .token);have cp:(decide ((0:Int)≤(p':Int))&&decide ((p':Int)<(T.length:Int)))=true:=by simp; omega
   have e3:(c != 0)=true:=by simpa using g2
   have e4:(c==0)=false:=by simpa using g2
   simp only[e3,e4,cond_true,cond_false,a1,ao cp];rfl
 | ok q =>
  rw[hq]at hv;obtain ⟨g1,p',g3,g4⟩:=hv;rw[g4];obtain ⟨v,r⟩:=q;cases r with
  | nil=>exact (g1.ne rfl).elim
  | cons t r =>
   obtain ⟨a1,_,a3⟩:=AE g3 (Ty.br .token);have cp:(decide ((0:Int)≤(p':Int))&&decide ((p':Int)<(T.length:Int)))=true:=by simp; omega
   have e3:((0:Int) != 0)=false:=rfl;have e4:((0:Int)==0)=true:=rfl;have e5:(t::r).getD 0 (⟨0, [],⟨0,0⟩,0⟩:Token)=t:=rfl;simp only[e3,e4,cond_true,cond_false,a1,ao cp,e5,Json.eta];by_cases hk:t.kind=5
   ·have b1:(t.kind != 5)=false:=by simpa using hk
    rw[b1,if_neg (by simpa using hk)];rfl
   ·have b1:(t.kind != 5)=true:=by simpa using hk
    rw[b1,if_pos hk];rfl
mutual
def i64J:Json→Prop
 | ⟨k,n,t,ns,is⟩=>AN n.au∧AN n.exp∧i64L is
def i64L:List Json→Prop
 | []=>True
 | x::l=>i64J x∧i64L l
end
theorem i64L_mem:∀ {l:List Json} {x:Json},i64L l→x∈l→i64J x
 | y::l,x,h,hx=>by
  rcases List.mem_cons.1 hx with rfl|hx
  ·exact h.1
  ·exact i64L_mem h.2 hx
theorem ZO:∀(l a b:List af),(∀n,a.contains n=b.contains n)→qi a l=qi b l
 | [],_,_,_=>rfl
 | x::l,a,b,h=>by
  simp only[qi];rw[h x,ZO l (x::a) (x::b) fun n=>by rw[List.contains_cons,List.contains_cons,h n]]
theorem rnames_loop {R:Type} (d:Int) (v:Json) (hl:v.names.length≤1099511627776) (hn:∀t∈v.names,t.length≤9000000000000000) (e0:Int→Json→Option R) (e1:Int→Bool→Json→Option R):∀(F i:Nat),i≤v.names.length→v.names.length - i<F →
  bV F d (i:Int) v e0 e1=bif qi (v.names.take i) (v.names.drop i)then e0 d v else e1 d false v:=by
 intro F
 induction F with
 | zero=>intro i _ h; omega
 | succ F ih =>
  intro i hi hF;show uP bU cP (fun x0 x1 x2=>bV F x0 x1 x2 e0 e1) d (i:Int) v e0 e1=_;unfold uP;simp only[Json.eta];by_cases h:i<v.names.length;rotate_left
  ·have h1:decide ((i:Int)<(v.names.length:Int))=false:=by simp; omega
   rw[h1,cond_false,List.drop_eq_nil_of_le (by omega)];rfl
  have h1:decide ((i:Int)<(v.names.length:Int))=true:=by simp; omega
  have hw:IntKind.i64.wrap ((i:Int)+1)=((i+1:Nat):Int):=by rw[aK (by omega) (by omega)]; omega
  have hg:v.names.getD (i:Int).toNat (Ty.br .str)=v.names[i]:=getD_at h _;rw[h1,cond_true,ao (by simp),hg,O8 _ (hn _ (List.getElem_mem h)),ao (by simp; omega),ao (by simp),ao (by simp),List.drop_zero,Nat.sub_zero,Int.toNat_natCast,has_ok _ _ (by rw[List.length_take]; omega),hw,ih (i+1) (by omega) (by omega),List.drop_eq_getElem_cons h];simp only[qi];have hc:qi (v.names.take (i+1)) (v.names.drop (i+1))=qi (v.names[i]::v.names.take i) (v.names.drop (i+1)):=by
   apply ZO;intro n;rw[List.take_succ_eq_append_getElem h,List.contains_append,List.contains_cons,List.contains_cons,List.contains_nil,Bool.or_false,Bool.or_comm]
  rw[hc];cases fE v.names[i] <;> cases (v.names.take i).contains v.names[i] <;> rfl
theorem ritems_loop {R:Type} (f:eR R) (d:Int) (hd:0≤d∧d≤16) (v:Json) (hl:v.items.length≤1099511627776) (hf:∀x∈v.items,∀k:Bool→Option R,f x (d+1) k=k (eH x (d+1))) (e0:Option R) (e1:Bool→Option R):∀(F i:Nat),i≤v.items.length→v.items.length - i<F →
  bK f F d (i:Int) v e0 e1=bif eS (v.items.drop i) (d+1)then e0 else e1 false:=by
 intro F
 induction F with
 | zero=>intro i _ h; omega
 | succ F ih =>
  intro i hi hF;show uQ f (fun x0 x1 x2=>bK f F x0 x1 x2 e0 e1) d (i:Int) v e0 e1=_;unfold uQ;simp only[Json.eta];by_cases h:i<v.items.length;rotate_left
  ·have h1:decide ((i:Int)<(v.items.length:Int))=false:=by simp; omega
   rw[h1,cond_false,List.drop_eq_nil_of_le (by omega)];rfl
  have h1:decide ((i:Int)<(v.items.length:Int))=true:=by simp; omega
  have hw:IntKind.i64.wrap ((i:Int)+1)=((i+1:Nat):Int):=by rw[aK (by omega) (by omega)]; omega
  have hwd:IntKind.i64.wrap (d+1)=d+1:=aK (by omega) (by omega);have hg:v.items.getD (i:Int).toNat (Ty.br .json)=v.items[i]:=getD_at h _;rw[h1,cond_true,ao (by simp),hg,hwd,hf _ (List.getElem_mem h),hw,ih (i+1) (by omega) (by omega),List.drop_eq_getElem_cons h];simp only[eS];cases eH v.items[i] (d+1) <;> rfl
def gateR {R:Type} (b16 n4 z1 n5 z2 n7 p n6 q:Bool) (F J:Option R):Option R :=
 let C:=bif n7 then (bif n6 then (bif q then F else J)else J)else J
 let P:=bif n7 then (bif p then F else C)else C
 let Q:=bif n5 then (bif !z2 then F else P)else P
 bif b16 then F else (bif n4 then (bif !z1 then F else Q)else Q)
theorem gate_eq {R:Type} (b16 n4 z1 n5 z2 n7 p n6 q:Bool) (F J:Option R):gateR b16 n4 z1 n5 z2 n7 p n6 q F J=bif (!b16&&((!n4||z1)&&((!n5||z2)&&((!n7 || !p)&&(!n7 || !n6 || !q)))))then J else F:=by
 cases b16 <;> cases n4 <;> cases z1 <;> cases n5 <;> cases z2 <;> cases n7 <;> cases p <;> cases n6 <;> cases q <;> rfl
def jn27 {R:Type} (f:eR R) (kd n1 n2:Int) (tx:af) (ns:List af) (is:List Json) (d:Int) (k:Bool→Option R):Option R :=
 let j26:=fun (Xd:Int) (z20:Json)=>bK f (Int.natAbs Xd+Int.natAbs 0+Json.fu z20+64) Xd 0 z20 (k true) (fun Kg=>k Kg)
 let j18:=fun (z4:Bool)=>bif z4 then k true else (bif (kd==4)then bY ⟨n1,n2⟩ (fun y5=>k y5)else (bif (kd==5)then bU tx (fun y6=>k y6)else (bif (kd==7)then (bif ((ns.length:Int) != (is.length:Int))then k false else (bV (Int.natAbs d+Int.natAbs 0+Json.fu ⟨kd,⟨n1,n2⟩,tx,ns,is⟩+64) d 0 ⟨kd,⟨n1,n2⟩,tx,ns,is⟩ (fun DN xy=>j26 DN ⟨xy.kind,⟨xy.num.au,xy.num.exp⟩,xy.text,xy.names,xy.items⟩) (fun yI Fp KD=>k Fp)))else (bif (kd==6)then j26 d ⟨kd,⟨n1,n2⟩,tx,ns,is⟩else k false))))
 bif (kd==1)then j18 (kd==1)else (bif (kd==2)then j18 (kd==2)else j18 (kd==3))
theorem rright_N {R:Type}:∀(n:Nat) (v:Json) (d:Int),G0 v=true→i64J v→v.depth<n→0≤d→d≤17→∀k:Bool→Option R,fA n v d k=k (eH v d):=by
 intro n
 induction n with
 | zero=>intro v d _ _ h; omega
 | succ n ih =>
  intro v d hv hi hn hd0 hd1 k;have hdep:∀y∈v.items,y.depth<n:=fun y hy=>by have:=BH hy; omega
  obtain ⟨Nu,Ph,hil,htx,Vu⟩:=rM.1 hv;obtain ⟨kd,⟨n1,n2⟩,tx,ns,is⟩:=v;obtain ⟨i1,i2,i3⟩:=hi;simp only at Nu Ph hil htx Vu i1 i2 hdep;have e:fA (n+1) ⟨kd,⟨n1,n2⟩,tx,ns,is⟩ d k=gateR (decide (d>16)) (kd != 4) (n1==0&&(n2==0&&true)) (kd != 5) (tx==([]:af)) (kd != 7) (decide ((ns.length:Int)>0)) (kd != 6) (decide ((is.length:Int)>0)) (k false) (jn27 (fA n) kd n1 n2 tx ns is d k):=rfl;rw[e,gate_eq];have g1:(!decide (d>16))=decide (d≤16):=by
   by_cases h:d≤16
   ·rw[aj h,aE (by omega)]; rfl
   ·rw[aE h,aj (by omega)]; rfl
  have g2:(!(kd != 4)||(n1==0&&(n2==0&&true)))=(kd==4||(n1==0&&n2==0)):=by simp[bne]
  have g3:(!(kd != 5)||(tx==([]:af)))=(kd==5||tx.isEmpty):=by cases tx <;> simp[bne]
  have g4:(!(kd != 7) || !decide ((ns.length:Int)>0))=(kd==7||ns.isEmpty):=by
   cases ns with
   | nil=>simp[bne]
   | cons _ _=>rw[aj (by simp only[List.length_cons]; omega)]; simp[bne]
  have g5:(!(kd != 7) || !(kd != 6) || !decide ((is.length:Int)>0))=(kd==6||kd==7||is.isEmpty):=by
   cases is with
   | nil=>simp[bne]
   | cons _ _=>rw[aj (by simp only[List.length_cons]; omega)]; simp[bne,Bool.or_comm]
  rw[g1,g2,g3,g4,g5];simp only[eH];by_cases ZU:d≤16;rotate_left
  ·rw[aE ZU]; rfl
  rw[aj ZU];cases ha:(kd==4||(n1==0&&n2==0))with
  | false=>simp
  | true =>
  cases hb:(kd==5||tx.isEmpty)with
  | false=>simp
  | true =>
  cases hc:(kd==7||ns.isEmpty)with
  | false=>simp
  | true =>
  cases hd:(kd==6||kd==7||is.isEmpty)with
  | false=>simp
  | true =>
  simp only[Bool.true_and,Bool.and_true,cond_true];have hit:∀e1:Bool→Option R,∀F:Nat,is.length<F→bK (fA n) F d 0 ⟨kd,⟨n1,n2⟩,tx,ns,is⟩ (k true) e1=bif eS is (d+1)then k true else e1 false:=fun e1 F hF =>
   ritems_loop (fA n) d ⟨hd0,ZU⟩ ⟨kd,⟨n1,n2⟩,tx,ns,is⟩ Ph (fun x hx k=>ih x (d+1) (Fi hil hx) (i64L_mem i3 hx) (hdep x hx) (by omega) (by omega) k) (k true) e1 F 0 (by simp) (by simp only; omega)
  have hk:kd=1∨kd=2∨kd=3∨kd=4∨kd=5∨kd=6∨kd=7∨(kd≠1∧kd≠2∧kd≠3∧kd≠4∧kd≠5∧kd≠6∧kd≠7):=by omega
  rcases hk with rfl|rfl|rfl|rfl|rfl|rfl|rfl|⟨h1,h2,h3,h4,h5,h6,h7⟩
  ·have:is = []:=by simpa using hd
   subst this;rfl
  ·have:is = []:=by simpa using hd
   subst this;rfl
  ·have:is = []:=by simpa using hd
   subst this;rfl
  ·show bY ⟨n1,n2⟩ (fun y5=>k y5)=_;rw[TL _ i1 i2];rfl
  ·show bU tx (fun y6=>k y6)=_;rw[O8 _ (by omega)];rfl
  ·show bK (fA n) (Int.natAbs d+Int.natAbs 0+Json.fu ⟨6,⟨n1,n2⟩,tx,ns,is⟩+64) d 0 ⟨6,⟨n1,n2⟩,tx,ns,is⟩ (k true) (fun Kg=>k Kg)=k (eS is (d+1));rw[hit _ _ (by simp only[Json.fu]; omega)];cases eS is (d+1) <;> rfl
  ·show (bif ((ns.length:Int) != (is.length:Int))then k false else (bV (Int.natAbs d+Int.natAbs 0+Json.fu ⟨7,⟨n1,n2⟩,tx,ns,is⟩+64) d ((0:Nat):Int) ⟨7,⟨n1,n2⟩,tx,ns,is⟩ (fun DN xy=>bK (fA n) (Int.natAbs DN+Int.natAbs 0+Json.fu ⟨xy.kind,⟨xy.num.au,xy.num.exp⟩,xy.text,xy.names,xy.items⟩+64) DN 0 ⟨xy.kind,⟨xy.num.au,xy.num.exp⟩,xy.text,xy.names,xy.items⟩ (k true) (fun Kg=>k Kg)) (fun yI Fp KD=>k Fp)))=k (decide (ns.length=is.length)&&qi [] ns&&eS is (d+1));by_cases hlen:ns.length=is.length
   ·have b1:((ns.length:Int) != (is.length:Int))=false:=by simp[hlen]
    rw[b1,cond_false,rnames_loop d ⟨7,⟨n1,n2⟩,tx,ns,is⟩ Nu (fun t ht=>by have:=Vu t ht; omega) _ _ _ 0 (by simp) (by simp only[Json.fu]; omega),aj hlen];simp only[List.take_zero,List.drop_zero,Bool.true_and];cases qi [] ns with
    | false=>rfl
    | true =>
     simp only[cond_true,Bool.true_and];rw[hit _ _ (by simp only[Json.fu]; omega)];cases eS is (d+1) <;> rfl
   ·have b1:((ns.length:Int) != (is.length:Int))=true:=by simp; omega
    rw[b1,aE hlen];rfl
  ·have c1:(kd==1)=false:=by simpa using h1
   have c2:(kd==2)=false:=by simpa using h2
   have c3:(kd==3)=false:=by simpa using h3
   have c4:(kd==4)=false:=by simpa using h4
   have c5:(kd==5)=false:=by simpa using h5
   have c6:(kd==6)=false:=by simpa using h6
   have c7:(kd==7)=false:=by simpa using h7
   unfold jn27;simp only[c1,c2,c3,c4,c5,c6,c7,cond_false];have:(decide (1≤kd)&&decide (kd≤7))=false:=by
    by_cases h:1≤kd
    ·rw[aj h,aE (by omega)]; rfl
    ·rw[aE h]; rfl
   rw[this];rfl
theorem rright {R:Type} (v:Json) (hv:G0 v=true) (hi:i64J v) (k:Bool→Option R):dT v k=k (eH v 1):=by
 have e:dT v k=fA (v.depth+2) v 1 (fun y2=>k y2):=by
  obtain ⟨kd,⟨n1,n2⟩,tx,ns,is⟩:=v;rfl
 rw[e];exact rright_N (v.depth+2) v 1 hv hi (by omega) (by omega) (by omega) k
theorem rquote {R:Type} (t:af) (hv:fE t=true) (ht:t.length≤20000000000) (k:af→Bool→Option R):dU t k=k (RS t) true:=by
 obtain ⟨rs,hr,rfl⟩:=Bv.1 hv;have hc:=HC rs hr;rw[refQuote_ok rs hr (by omega),TM hr]
theorem rest_step (v:Json) (i:Nat) (h:i<v.items.length) (h7:v.kind=7→v.names.length=v.items.length∧∀t∈v.names,fE t=true∧t.length≤20000000000) :
  nB v i=(if i=0 then []else [44])++((if v.kind=7 then RS (v.names.getD i []) ++ [58]else [])++(dY v.items[i]++nB v (i+1))):=by
 unfold nB;rw[List.drop_eq_getElem_cons h];by_cases ZV:v.kind=7
 ·rw[if_pos ZV,if_pos ZV,if_pos ZV];have hn:=(h7 ZV).1;have hni:i<v.names.length:=by omega
  rw[List.drop_eq_getElem_cons hni];simp only[hM,List.headD_cons,List.tail_cons];have:v.names.getD i []=v.names[i]:=getD_at hni _;rw[this];by_cases h0:i=0
  ·subst h0; simp
  ·have e1:(i==0)=false:=by simpa using h0
   have e2:(i+1==0)=false:=rfl;rw[e1,e2];simp[h0]
 ·rw[if_neg ZV,if_neg ZV,if_neg ZV];simp only[hZ];by_cases h0:i=0
  ·subst h0; simp
  ·have e1:(i==0)=false:=by simpa using h0
   have e2:(i+1==0)=false:=rfl;rw[e1,e2];simp[h0]
theorem rprint_loop {R:Type} (f:fK R) (v:Json) (hl:v.items.length≤1099511627776) (h7:v.kind=7→v.names.length=v.items.length∧∀t∈v.names,fE t=true∧t.length≤20000000000)
  (hf:∀x∈v.items,(dY x).length≤100000000000→∀k:af→Option R,f x k=k (dY x)) (e0:af→Json→Option R):∀(F i:Nat) (s:af),i≤v.items.length→v.items.length - i<F→(s++nB v i).length≤100000000000 →
  bO f F s (i:Int) v e0=e0 (s++nB v i) v:=by
 intro F
 induction F with
 | zero=>intro i s _ h; omega
 | succ F ih =>
  intro i s hi hF hb;show uT dU f (fun x0 x1 x2=>bO f F x0 x1 x2 e0) s (i:Int) v e0=_;unfold uT;simp only[Json.eta];by_cases h:i<v.items.length;rotate_left
  ·have h1:decide ((i:Int)<(v.items.length:Int))=false:=by simp; omega
   rw[h1,cond_false];have hd:v.items.drop i = []:=List.drop_eq_nil_of_le (by omega);have:nB v i = []:=by
    unfold nB;rw[hd];split
    ·cases v.names.drop i <;> rfl
    ·rfl
   rw[this,List.append_nil]
  have h1:decide ((i:Int)<(v.items.length:Int))=true:=by simp; omega
  have hw:IntKind.i64.wrap ((i:Int)+1)=((i+1:Nat):Int):=by rw[aK (by omega) (by omega)]; omega
  have hg:v.items.getD (i:Int).toNat (Ty.br .json)=v.items[i]:=getD_at h _;have hr:nB v i=(if i=0 then []else [44])++((if v.kind=7 then RS (v.names.getD i []) ++ [58]else [])++(dY v.items[i]++nB v (i+1))):=rest_step v i h h7;rw[hr]at hb ⊢;simp only[List.length_append]at hb;have kR:∀z:af,z.length+(dY v.items[i]).length+(nB v (i+1)).length≤100000000000→(bB (decide ((0:Int)≤(i:Int))&&decide ((i:Int)<(v.items.length:Int))) (f v.items[i] (fun l9=>bB (decide (z.length+l9.length≤9223372036854775807)) (bO f F (z++l9) (((i+1:Nat):Int)) v e0))))=e0 (z++(dY v.items[i]++nB v (i+1))) v:=fun z hz=>by
   rw[ao (by simp; omega),hf _ (List.getElem_mem h) (by omega),ao (aj (by omega)),ih (i+1) _ (by omega) (by omega) (by simp only[List.length_append]; omega),List.append_assoc]
  have key:∀z:af,z.length+(if v.kind=7 then RS (v.names.getD i []) ++ [58]else []).length+(dY v.items[i]).length+(nB v (i+1)).length≤100000000000 →
    (bif (v.kind==7)then (bB (decide ((0:Int)≤(i:Int))&&decide ((i:Int)<(v.names.length:Int))) (dU (v.names.getD (i:Int).toNat (Ty.br .str)) (fun y9 o5=>bB (decide (z.length+y9.length≤9223372036854775807)) (bB (decide ((z++y9).length+1≤9223372036854775807)) (bB (decide ((0:Int)≤(i:Int))&&decide ((i:Int)<(v.items.length:Int))) (f v.items[i] (fun l9=>bB (decide (((z++y9)++([58]:af)).length+l9.length≤9223372036854775807)) (bO f F (((z++y9)++([58]:af))++l9) (((i+1:Nat):Int)) v e0))))))))else
     (bB (decide ((0:Int)≤(i:Int))&&decide ((i:Int)<(v.items.length:Int))) (f v.items[i] (fun l9=>bB (decide (z.length+l9.length≤9223372036854775807)) (bO f F (z++l9) (((i+1:Nat):Int)) v e0)))))=e0 (z++((if v.kind=7 then RS (v.names.getD i []) ++ [58]else [])++(dY v.items[i]++nB v (i+1)))) v:=fun z hz=>by
   by_cases hk:v.kind=7
   ·have b1:(v.kind==7)=true:=by simpa using hk
    obtain ⟨n1,n2⟩:=h7 hk;have hni:i<v.names.length:=by omega
    have hgn:v.names.getD (i:Int).toNat (Ty.br .str)=v.names[i]:=getD_at hni _;have hgn2:v.names.getD i []=v.names[i]:=by rw[List.getD_eq_getElem?_getD,List.getElem?_eq_getElem hni]; rfl
    obtain ⟨q1,q2⟩:=n2 _ (List.getElem_mem hni);rw[if_pos hk,hgn2]at hz ⊢;simp only[List.length_append,List.length_cons,List.length_nil]at hz;rw[b1,cond_true,ao (by simp; omega),hgn,rquote _ q1 q2,ao (aj (by omega)),ao (aj (by simp only[List.length_append]; omega)),kR _ (by simp only[List.length_append,List.length_cons,List.length_nil]; omega)];simp only[List.append_assoc]
   ·have b1:(v.kind==7)=false:=by simpa using hk
    rw[if_neg hk]at hz ⊢;simp only[List.length_nil]at hz;rw[b1,cond_false,kR _ (by omega),List.nil_append]
  rw[h1,cond_true,hw,hg];by_cases h0:i=0
  ·have b0:decide ((i:Int)>0)=false:=by simp; omega
   rw[if_pos h0]at hb ⊢;simp only[List.length_nil]at hb;rw[b0,cond_false,List.nil_append];have:=key s (by omega);rw[h1]at this;exact this
  ·have b0:decide ((i:Int)>0)=true:=by simp; omega
   rw[if_neg h0]at hb ⊢;simp only[List.length_cons,List.length_nil]at hb;rw[b0,cond_true,ao (aj (by omega))];have:=key (s ++ [44]) (by simp only[List.length_append,List.length_cons,List.length_nil]; omega);rw[h1]at this;refine Eq.trans this ?_;rw[List.append_assoc]
theorem rprint_N {R:Type}:∀(n:Nat) (v:Json) (d:Int),eH v d=true→G0 v=true→v.depth<n→(dY v).length≤100000000000→∀k:af→Option R,fB n v k=k (dY v):=by
 intro n
 induction n with
 | zero=>intro v d _ _ h; omega
 | succ n ih =>
  intro v d hr hl hn hb k;obtain ⟨Nu,Ph,hil,htx,Vu⟩:=rM.1 hl;have e0:fB (n+1) v k=J5 dU gI (bO (fB n)) v k:=rfl;rw[e0];have DP:∀(e:af→Json→Option R) (F:Nat) (s':af),(v.kind=7→v.names.length=v.items.length∧∀t∈v.names,fE t=true∧t.length≤20000000000)→eS v.items (d+1)=true→v.items.length<F→(s'++nB v 0).length≤100000000000 →
    bO (fB n) F s' 0 v e=e (s'++nB v 0) v:=fun e F s' h7 hi hF qq =>
   rprint_loop (fB n) v Ph h7 (fun x hx hb k=>ih x (d+1) (MP hi hx) (Fi hil hx) (by have:=BH hx; omega) hb k) e F 0 s' (by omega) (by omega) qq
  cases fY.1 hr with
  | name kd _ hd hk=>rcases hk with rfl|rfl|rfl <;> rfl
  | num nm _ hd R0 =>
   show gI ⟨nm.au,nm.exp⟩ (fun y2=>k y2)=k (Am nm);have e:Am nm=Wh nm:=by unfold Am; rw[GZ.2 R0]; rfl
   rw[e];exact refPrint_ok R0 _
  | text t _ hd ht =>
   show dU t (fun y3 y4=>k y3)=k (RS t);rw[rquote t ht (by simp only at htx; omega)]
  | arr is _ hd hi =>
   have Vx:(91::(hZ is true ++ [93]):af).length≤100000000000:=hb;simp only[List.length_append,List.length_cons,List.length_nil]at Vx;show bO (fB n) (List.length ([]:af)+Int.natAbs 0+Json.fu ⟨6,⟨0,0⟩, [], [],is⟩+64) [] 0 ⟨6,⟨0,0⟩, [], [],is⟩ (fun yI Fp=>bif (Fp.kind==7)then (bB (decide (1+yI.length≤9223372036854775807)) (bB (decide ((([123]:af)++yI).length+1≤9223372036854775807)) (k ((([123]:af)++yI)++([125]:af)))))else (bB (decide (1+yI.length≤9223372036854775807)) (bB (decide ((([91]:af)++yI).length+1≤9223372036854775807)) (k ((([91]:af)++yI)++([93]:af))))))=k (91::(hZ is true ++ [93]));have hz:nB ⟨6,⟨0,0⟩, [], [],is⟩ 0=hZ is true:=rfl
   rw[hz]at DP;rw[DP _ _ _ (fun h=>by cases h) hi (by simp only[Json.fu]; omega) (by rw[List.nil_append]; omega)];show bB (decide (1+(hZ is true).length≤9223372036854775807)) (bB (decide ((([91]:af)++hZ is true).length+1≤9223372036854775807)) (k ((([91]:af)++hZ is true)++([93]:af))))=_;rw[ao (aj (by omega)),ao (aj (by simp only[List.length_append,List.length_cons,List.length_nil]; omega))];rfl
  | obj ns is _ hd hlen hu hi =>
   have Vx:(123::(hM ns is true ++ [125]):af).length≤100000000000:=hb;simp only[List.length_append,List.length_cons,List.length_nil]at Vx;show bO (fB n) (List.length ([]:af)+Int.natAbs 0+Json.fu ⟨7,⟨0,0⟩, [],ns,is⟩+64) [] 0 ⟨7,⟨0,0⟩, [],ns,is⟩ (fun yI Fp=>bif (Fp.kind==7)then (bB (decide (1+yI.length≤9223372036854775807)) (bB (decide ((([123]:af)++yI).length+1≤9223372036854775807)) (k ((([123]:af)++yI)++([125]:af)))))else (bB (decide (1+yI.length≤9223372036854775807)) (bB (decide ((([91]:af)++yI).length+1≤9223372036854775807)) (k ((([91]:af)++yI)++([93]:af))))))=k (123::(hM ns is true ++ [125]))
   have hz:nB ⟨7,⟨0,0⟩, [],ns,is⟩ 0=hM ns is true:=rfl;rw[hz]at DP;rw[DP _ _ _ (fun _=>⟨hlen,fun t ht=>⟨Il ns [] hu t ht,by have:=Vu t ht; omega⟩⟩) hi (by simp only[Json.fu]; omega) (by rw[List.nil_append]; omega)];show bB (decide (1+(hM ns is true).length≤9223372036854775807)) (bB (decide ((([123]:af)++hM ns is true).length+1≤9223372036854775807)) (k ((([123]:af)++hM ns is true)++([125]:af))))=_;rw[ao (aj (by omega)),ao (aj (by simp only[List.length_append,List.length_cons,List.length_nil]; omega))];rfl
theorem rprint {R:Type} (v:Json) (hl:G0 v=true) (hi:i64J v) (hb:eH v 1=true→(dY v).length≤100000000000) (k:af→Option R):gJ v k=k (if eH v 1 then dY v else []):=by
 have e:gJ v k=dT v (fun y2=>bif (!y2)then (k ([]:af))else (fB (v.depth+2) v (fun y3=>k y3))):=by
  obtain ⟨kd,⟨n1,n2⟩,tx,ns,is⟩:=v;rfl
 rw[e,rright v hl hi];cases hr:eH v 1 with
 | false=>rfl
 | true =>
  rw[Bool.not_true,cond_false,rprint_N (v.depth+2) v 1 hr hl (by omega) (hb hr)];rfl
theorem same4_names {R:Type} (a b:Json) (ha:a.names.length≤1099511627776) (hl:a.names.length=b.names.length) (e0:Bool→Json→Json→Option R) (e1:Json→Json→Option R):∀(n i:Nat),i≤a.names.length→a.names.length - i<n →
  cD n (i:Int) a b e1 e0=bif decide (a.names.drop i=b.names.drop i)then e1 a b else e0 false a b:=by
 intro n
 induction n with
 | zero=>intro i _ h; omega
 | succ n ih =>
  intro i hi hn;show xZ (fun x1 x2 x3=>cD n x1 x2 x3 e1 e0) _ _ _ e1 e0=_;unfold xZ;simp only[Json.eta];by_cases h:i<a.names.length
  ·have h1:decide ((i:Int)<(a.names.length:Int))=true:=by simp; omega
   have h2:(decide ((0:Int)≤(i:Int))&&true)=true:=by simp
   have h2':(decide ((0:Int)≤(i:Int))&&decide ((i:Int)<b.names.length))=true:=by simp; omega
   have hw:IntKind.i64.wrap ((i:Int)+1)=((i+1:Nat):Int):=by rw[aK (by omega) (by omega)]; omega
   have hg:a.names.getD (i:Int).toNat (Ty.br .str)=a.names[i]:=getD_at h _;have hg':b.names.getD (i:Int).toNat (Ty.br .str)=b.names[i]:=getD_at (by omega) _;have e1':=ih (i+1) (by omega) (by omega);rw[h1,cond_true,ao h2,ao h2',hg,hg',hw];simp only[e1'];rw[List.drop_eq_getElem_cons h,List.drop_eq_getElem_cons (show i<b.names.length by omega)];by_cases hq:a.names[i]=b.names[i]
   ·have hqt:(a.names[i]==b.names[i])=true:=by simpa using hq
    simp only[hqt,Bool.not_true,cond_false,List.cons.injEq];simp only[hq,true_and]
   ·have hqf:(a.names[i]==b.names[i])=false:=by simpa using hq
    simp only[hqf,Bool.not_false,cond_true,List.cons.injEq,hq,false_and,decide_false,cond_false]
  ·have h1:decide ((i:Int)<(a.names.length:Int))=false:=by simp; omega
   rw[h1,cond_false,List.drop_eq_nil_of_le (by omega),List.drop_eq_nil_of_le (by omega)];simp
theorem VV {R:Type} (f:fO R) (a b:Json) (ha:a.items.length≤1099511627776) (hl:a.items.length=b.items.length) (hf:∀x∈a.items,∀y∈b.items,∃r:Bool,(r=true↔x=y)∧∀k,f x y k=k r)
  (e0:Bool→Option R) (e1:Option R):∀(n i:Nat),i≤a.items.length→a.items.length - i<n →
  ∃r:Bool,(r=true↔a.items.drop i=b.items.drop i)∧cu f n (i:Int) a b e1 e0=bif r then e1 else e0 false:=by
 intro n
 induction n with
 | zero=>intro i _ h; omega
 | succ n ih =>
  intro i hi hn;by_cases h:i<a.items.length
  ·have h1:decide ((i:Int)<(a.items.length:Int))=true:=by simp; omega
   have h2:(decide ((0:Int)≤(i:Int))&&true)=true:=by simp
   have h2':(decide ((0:Int)≤(i:Int))&&decide ((i:Int)<b.items.length))=true:=by simp; omega
   have hw:IntKind.i64.wrap ((i:Int)+1)=((i+1:Nat):Int):=by rw[aK (by omega) (by omega)]; omega
   have hg:a.items.getD (i:Int).toNat (Ty.br .json)=a.items[i]:=getD_at h _;have hg':b.items.getD (i:Int).toNat (Ty.br .json)=b.items[i]:=getD_at (by omega) _;obtain ⟨r,hr,hk⟩:=hf a.items[i] (List.getElem_mem h) b.items[i] (List.getElem_mem (by omega));obtain ⟨r2,hr2,M4⟩:=ih (i+1) (by omega) (by omega);refine ⟨r&&r2,?_,?_⟩
   ·rw[List.drop_eq_getElem_cons h,List.drop_eq_getElem_cons (show i<b.items.length by omega)];simp only[Bool.and_eq_true,hr,hr2,List.cons.injEq]
   ·show oY f (fun x1 x2 x3=>cu f n x1 x2 x3 e1 e0) _ _ _ e1 e0=_;unfold oY;simp only[Json.eta];rw[h1,cond_true,ao h2,ao h2',hg,hg',hk,hw,M4];cases r <;> cases r2 <;> rfl
  ·refine ⟨true,?_,?_⟩
   ·rw[List.drop_eq_nil_of_le (by omega),List.drop_eq_nil_of_le (by omega)];simp
   ·show oY f (fun x1 x2 x3=>cu f n x1 x2 x3 e1 e0) _ _ _ e1 e0=_;unfold oY;have h1:decide ((i:Int)<(a.items.length:Int))=false:=by simp; omega
    rw[h1];rfl
theorem same4_N {R:Type}:∀(n:Nat) (a b:Json),G0 a=true→a.depth<n→∃r:Bool,(r=true↔a=b)∧∀k:Bool→Option R,fL n a b k=k r:=by
 intro n
 induction n with
 | zero=>intro a b _ h; omega
 | succ n ih =>
  intro a b ha0 hd;obtain ⟨han,hai,haL,_⟩:=rM.1 ha0;have no:(∀k:Bool→Option R,fL (n+1) a b k=k false)→a≠b→∃r:Bool,(r=true↔a=b)∧∀k:Bool→Option R,fL (n+1) a b k=k r :=
   fun h1 h2=>⟨false,by simp[h2],h1⟩
  have he:∀k:Bool→Option R,fL (n+1) a b k=ox cD (cu (fL n)) a b k:=fun k=>rfl
  by_cases h1:a.kind=b.kind
  ·by_cases h2:a.num=b.num
   ·by_cases h3:a.text=b.text
    ·by_cases h4:a.names.length=b.names.length
     ·by_cases h5:a.items.length=b.items.length
      ·obtain ⟨r,hr,hk⟩:∃r:Bool,(r=true↔a.items.drop 0=b.items.drop 0)∧∀e0 e1,cu (R:=R) (fL n) (Int.natAbs 0+Json.fu a+Json.fu b+64) ((0:Nat):Int) a b e1 e0=bif r then e1 else e0 false:=by
        have hf:∀x∈a.items,∀y∈b.items,∃r:Bool,(r=true↔x=y)∧∀k:Bool→Option R,fL n x y k=k r:=fun x hx y hy=>ih x y (Fi haL hx) (by have:=BH hx; omega)
        have hfu:a.items.length - 0<Int.natAbs 0+Json.fu a+Json.fu b+64:=by unfold Json.fu; omega
        by_cases hq:a.items.drop 0=b.items.drop 0
        ·refine ⟨true,by simp[hq],fun e0 e1 => ?_⟩;obtain ⟨r,hr,hk⟩:=VV (fL n) a b hai h5 hf e0 e1 _ 0 (by omega) hfu;rw[hr.2 hq]at hk;exact hk
        ·refine ⟨false,by simpa using hq,fun e0 e1 => ?_⟩;obtain ⟨r,hr,hk⟩:=VV (fL n) a b hai h5 hf e0 e1 _ 0 (by omega) hfu;have:r=false:=by
          cases r with
          | false=>rfl
          | true=>exact (hq (hr.1 rfl)).elim
         rw[this]at hk;exact hk
       refine ⟨decide (a.names.drop 0=b.names.drop 0)&&r,?_,fun k => ?_⟩
       ·simp only[Bool.and_eq_true,decide_eq_true_eq,hr,List.drop_zero];constructor
        ·rintro ⟨q1,q2⟩
         cases a; cases b;simp_all
        ·rintro rfl; exact ⟨rfl,rfl⟩
       ·rw[he];unfold ox;simp only[Json.eta];have c1:(a.kind != b.kind)=false:=by simp[h1]
        have c2:(!(a.num.au==b.num.au&&(a.num.exp==b.num.exp&&true)))=false:=by simp[h2]
        have c3:(!(a.text==b.text))=false:=by simp[h3]
        have c4:((a.names.length:Int) != (b.names.length:Int))=false:=by simp[h4]
        have c5:((a.items.length:Int) != (b.items.length:Int))=false:=by simp[h5]
        rw[c1,c2,c3,c4,c5];simp only[cond_false];refine (same4_names a b han h4 _ _ _ 0 (by omega) (by unfold Json.fu; omega)).trans ?_;have:=hk (fun yI=>k yI) (k true);rw[show ((0:Nat):Int)=0 from rfl]at this;rw[this];cases decide (a.names.drop 0=b.names.drop 0) <;> cases r <;> rfl
      ·refine no (fun k => ?_) (fun e=>h5 (by rw[e]));rw[he];unfold ox;have c1:(a.kind != b.kind)=false:=by simp[h1]
       have c2:(!(a.num.au==b.num.au&&(a.num.exp==b.num.exp&&true)))=false:=by simp[h2]
       have c3:(!(a.text==b.text))=false:=by simp[h3]
       have c4:((a.names.length:Int) != (b.names.length:Int))=false:=by simp[h4]
       have c5:((a.items.length:Int) != (b.items.length:Int))=true:=by simp; omega
       rw[c1,c2,c3,c4,c5];rfl
     ·refine no (fun k => ?_) (fun e=>h4 (by rw[e]));rw[he];unfold ox;have c1:(a.kind != b.kind)=false:=by simp[h1]
      have c2:(!(a.num.au==b.num.au&&(a.num.exp==b.num.exp&&true)))=false:=by simp[h2]
      have c3:(!(a.text==b.text))=false:=by simp[h3]
      have c4:((a.names.length:Int) != (b.names.length:Int))=true:=by simp; omega
      rw[c1,c2,c3,c4];rfl
    ·refine no (fun k => ?_) (fun e=>h3 (by rw[e]));rw[he];unfold ox;have c1:(a.kind != b.kind)=false:=by simp[h1]
     have c2:(!(a.num.au==b.num.au&&(a.num.exp==b.num.exp&&true)))=false:=by simp[h2]
     have c3:(!(a.text==b.text))=true:=by simp[h3]
     rw[c1,c2,c3];rfl
   ·refine no (fun k => ?_) (fun e=>h2 (by rw[e]));rw[he];unfold ox;have c1:(a.kind != b.kind)=false:=by simp[h1]
    have c2:(!(a.num.au==b.num.au&&(a.num.exp==b.num.exp&&true)))=true:=by
     have:¬(a.num.au=b.num.au∧a.num.exp=b.num.exp):=fun ⟨q1,q2⟩=>h2 (by cases hq:a.num; cases hp:b.num; simp_all)
     simp only[Bool.and_true,Bool.not_eq_true',Bool.and_eq_false_imp,beq_iff_eq,beq_eq_false_iff_ne];exact fun q1 q2=>this ⟨q1,q2⟩
    rw[c1,c2];rfl
  ·refine no (fun k => ?_) (fun e=>h1 (by rw[e]));rw[he];unfold ox;have c1:(a.kind != b.kind)=true:=by simp[h1]
   rw[c1];rfl
theorem same4 {R:Type} (a b:Json) (ha:G0 a=true):∃r:Bool,(r=true↔a=b)∧∀k:Bool→Option R,fy a b k=k r:=same4_N (a.depth+2) a b ha (by omega)
theorem same4_refl {R:Type} (a:Json) (ha:G0 a=true) (k:Bool→Option R):fy a a k=k true:=by
 obtain ⟨r,hr,hk⟩:=same4 (R:=R) a a ha;rw[hk,hr.2 rfl]
theorem wt_str {s:af} (h:∃n,Wt n (.str s)∧n≤1048576):s.length≤1048576:=by
 obtain ⟨n,h,hn⟩:=h;cases h with
 | str h=>omega
theorem wt_i64 {z:Int} (h:∃n,Wt n (.int .i64 z)∧n≤1048576):AN z:=by
 obtain ⟨n,h,hn⟩:=h;cases h with
 | int h1 hk=>exact L5.1 hk
theorem parse_len (s:af):G0 (vO s).1=true:=by
 by_cases h:(vO s).2.1=0
 ·exact (parseJ_ok s h).2.1
 ·rw[parseJ_none s h]; rfl
theorem wt_strs:∀(l:List (Ty.den .str)) (m:Nat),WX m (l.map (Ty.cells .str))→l.length≤m∧∀t∈(l:List af),t.length≤m
 | [],_,_=>⟨Nat.zero_le _,fun t h=>by cases h⟩
 | x::l,_, .cons h t=>by
  obtain ⟨h1,h2⟩:=wt_strs l _ t;have h':TQ _ [V.str x]:=h;cases h' with
  | cons a b =>
   cases a with
   | str hx =>
    have hx':List.length (x:af)+1≤_:=hx;refine ⟨by simp only[List.length_cons]; omega,fun u hu => ?_⟩;rcases List.mem_cons.1 hu with hu|hu
    ·have:List.length u=List.length (x:af):=congrArg List.length hu;omega
    ·have:=h2 u hu; omega
def sumS:List af→Nat
 | []=>0
 | t::l=>t.length+1+sumS l
theorem wt_sum:∀(l:List (Ty.den .str)) (m:Nat),WX m (l.map (Ty.cells .str))→sumS l≤m
 | [],_,_=>Nat.zero_le _
 | x::l,_, .cons h t=>by
  have h1:=wt_sum l _ t;have h':TQ _ [V.str x]:=h;cases h' with
  | cons a b =>
   cases a with
   | str hx =>
    have hx':List.length (x:af)+1≤_:=hx;show List.length (x:af)+1+sumS l≤_;omega
theorem prtA_any (d:cC):(Am d).length≤60:=by
 cases h:fmB d with
 | true=>exact ZD (GZ.1 h)
 | false=>unfold Am; rw[h]; simp
mutual
theorem wt_json:∀(v:Json) (n:Nat),n≤1048576→TQ n (Ty.cells .json v)→G0 v=true∧i64J v∧(dY v).length+50≤100*n
 | ⟨k,⟨m,e⟩,t,ns,is⟩,n,hn,h=>by
  have hL:=wt_jsonL is;have hO:=wt_jsonO is ns;have h':TQ n [.int .i64 k, .int .i64 m, .int .i64 e, .str t, .sl .str ns .no, .sl .json is .no]:=h;cases h' with
  | cons a1 h'=>cases h' with
   | cons a2 h'=>cases h' with
    | cons a3 h'=>cases h' with
     | cons a4 h'=>cases h' with
      | cons a5 h'=>cases h' with
       | cons a6 h' =>
        cases h';cases a1 with|int p1 k1 =>
        cases a2 with|int p2 k2 =>
        cases a3 with|int p3 k3 =>
        cases a4 with|str p4 =>
        cases a5 with|sl p5 w5 =>
        cases a6 with|sl p6 w6 =>
        obtain ⟨s1,s2⟩:=wt_strs ns _ w5;have s3:=wt_sum ns _ w5;have s1':List.length (α:=af) ns≤_:=s1;have s2':∀t∈ns,List.length t≤_:=s2;obtain ⟨l1,l2,l3,l4⟩:=hL _ (by omega) w6;have l5:=hO true _ (by omega) w6;have l4':=l4 true;refine ⟨rM.2 ⟨by simp only; omega,by simp only; omega,l1,by simp only; omega,fun u hu=>by have:=s2' u hu; omega⟩,⟨L5.1 k2,L5.1 k3,l2⟩,?_⟩;have hq:=MW t;have hp:=prtA_any ⟨m,e⟩;have n1:n9.length=4:=rfl;have n2:jG.length=5:=rfl;have n3:sF.length=4:=rfl;simp only[dY];split
        ·omega
        split
        ·omega
        split
        ·omega
        split
        ·omega
        split
        ·omega
        split
        ·simp only[List.length_cons,List.length_append,List.length_nil]; omega
        ·simp only[List.length_cons,List.length_append,List.length_nil]; omega
theorem wt_jsonL:∀(l:List Json) (n:Nat),n≤1048576→WX n (l.map (Ty.cells .json))→P8 l=true∧i64L l∧l.length≤n∧∀b:Bool,(hZ l b).length≤100*n
 | [],n,_,_=>⟨rfl,trivial,Nat.zero_le _,fun _=>by simp[hZ]⟩
 | x::l,_,hn, .cons h t=>by
  obtain ⟨a1,a2,a3⟩:=wt_json x _ (by omega) h;obtain ⟨b1,b2,b3,b4⟩:=wt_jsonL l _ (by omega) t;refine ⟨by simp only[P8,a1,b1]; rfl,⟨a2,b2⟩,by simp only[List.length_cons]; omega,fun b => ?_⟩;have b5:=b4 false;simp only[hZ,List.length_append];have:(if b=true then ([]:af)else [44]).length≤1:=by cases b <;> simp
  omega
theorem wt_jsonO:∀(l:List Json) (ns:List af) (b:Bool) (n:Nat),n≤1048576→WX n (l.map (Ty.cells .json))→(hM ns l b).length≤100*n+6*sumS ns
 | [],ns,_,n,_,_=>by simp[hM]
 | x::l,ns,b,_,hn, .cons h t=>by
  obtain ⟨a1,a2,a3⟩:=wt_json x _ (by omega) h;have b5:=wt_jsonO l ns.tail false _ (by omega) t;simp only[hM,List.length_append,List.length_cons];have:(if b=true then ([]:af)else [44]).length≤1:=by cases b <;> simp
  cases ns with
  | nil =>
   have hq:=MW [];simp only[List.headD_nil,List.tail_nil,sumS,List.length_nil]at b5 hq ⊢;omega
  | cons u ns =>
   have hq:=MW u;simp only[List.headD_cons,List.tail_cons,sumS]at b5 ⊢;omega
end
mutual
theorem right_i64:∀(v:Json) (d:Int),eH v d=true→i64J v
 | ⟨k,⟨m,e⟩,t,ns,is⟩,d,h=>by
  have hL:=ZP is;have z:AN 0:=by unfold AN; omega
  cases fY.1 h with
  | name _ _ hd hk=>exact ⟨z,z,trivial⟩
  | num _ _ hd hn =>
   have:=hn.bounds;simp only at this;exact ⟨by show AN m; unfold AN; omega,by show AN e; unfold AN; omega,trivial⟩
  | text _ _ hd ht=>exact ⟨z,z,trivial⟩
  | arr _ _ hd hi=>exact ⟨z,z,hL _ hi⟩
  | obj _ _ _ hd hl hu hi=>exact ⟨z,z,hL _ hi⟩
theorem ZP:∀(l:List Json) (d:Int),eS l d=true→i64L l
 | [],_,_=>trivial
 | x::l,d,h=>by
  simp only[eS,Bool.and_eq_true]at h;exact ⟨right_i64 x d h.1,ZP l d h.2⟩
end
theorem tellsj_loop {R:Type} (l:List af) (hl:l.length≤1000) (ok:Bool) (e0:Bool→Option R) (e1:Bool→Bool→Option R):∀(F i:Nat),i≤l.length→l.length - i<F →
  bP F ok l (l.length:Int) (i:Int) e0 e1=e0 ok:=by
 intro F
 induction F with
 | zero=>intro i _ h; omega
 | succ F ih =>
  intro i hi hF;show oB gi fy er (fun eh eB fb lZ=>bP F eh eB fb lZ e0 e1) ok l (l.length:Int) (i:Int) e0 e1=_;unfold oB;simp only[Json.eta];by_cases h:i<l.length;rotate_left
  ·have h1:decide ((i:Int)<(l.length:Int))=false:=by simp; omega
   rw[h1];rfl
  have h1:decide ((i:Int)<(l.length:Int))=true:=by simp; omega
  have hw:IntKind.i64.wrap ((i:Int)+1)=((i+1:Nat):Int):=by rw[aK (by omega) (by omega)]; omega
  have hg:l.getD (i:Int).toNat (Ty.br .str)=l[i]:=getD_at h _;have b1:∀v:Int,(v != v)=false:=fun v=>by simp
  rw[h1,cond_true,ao (by simp),hg,jparse_ok,rparse_ok,same4_refl _ (parse_len _),Bool.not_true,cond_false,b1,cond_false,b1,cond_false,hw];exact ih (i+1) (by omega) (by omega)
theorem ZQ {R:Type} (a b:Json) (s:af) (x:Raw) (c:Int) (more:af) (ha:∃n,TQ n (Ty.cells .json a)∧n≤1048576) (hb:∃n,TQ n (Ty.cells .json b)∧n≤1048576) (h1:∃n,Wt n (.str s)∧n≤1048576) (h2:∃n,TQ n (Ty.cells .raw x)∧n≤1048576)
  (h3:∃n,Wt n (.int .i64 c)∧n≤1048576) (h4:∃n,Wt n (.str more)∧n≤1048576) (k:Bool→Option R):vA a b s x c more k=k true:=by
 obtain ⟨na,ha,hna⟩:=ha;obtain ⟨a1,a2,a3⟩:=wt_json a na hna ha;obtain ⟨o1,t1⟩:=raw_bulk h2;have hm:=wt_str h4;obtain ⟨v,hv,rv⟩:=jfit (R:=R) x o1 1 (by omega) (by omega);have e:vA a b s x c more k=wD kq ij dm gJ dT fy dX cW fN bP a b s x c more k:=rfl;rw[e];unfold wD;simp only[Raw.eta,Json.eta];have sL:=hv.size;have pv:=fun q:af→Option R=>Zx v hv.right hv.len (by omega) q
 have rp:=fun q:af→Option R=>rprint v hv.len (right_i64 v 1 hv.right) (fun _=>by omega) q
 rw[hv.right]at rp;simp only[if_true]at rp;have pa:∀q:af→Option R,dX a q=q (if eH a 1 then dY a else []):=fun q=>by
  cases hr:eH a 1 with
  | true=>rw[Zx a hr a1 (by omega)]; rfl
  | false=>rw[print_wrong a hr a1]; rfl
 have ra:=fun q:af→Option R=>rprint a a1 a2 (fun _=>by omega) q
 have b0:∀v:Bool,(v==v)=true:=fun v=>by simp
 have bs:∀v:af,(v==v)=true:=fun v=>by simp
 rw[awake04];by_cases hs:s.length>3000
 ·have e1:decide ((s.length:Int)>3000)=true:=by simp; omega
  rw[e1];rfl
 have e1:decide ((s.length:Int)>3000)=false:=by simp; omega
 rw[e1,cond_false,rv,rp];by_cases ht:(dY v).length>3000
 ·have e2:decide (((dY v).length:Int)>3000)=true:=by simp; omega
  rw[e2];rfl
 have e2:decide (((dY v).length:Int)>3000)=false:=by simp; omega
 obtain ⟨r1,q1,q2⟩:=jsame (R:=R) a b a1;obtain ⟨r2,q3,q4⟩:=same4 (R:=R) a b a1;have hrr:r1=r2:=by rw[Bool.eq_iff_iff,q1,q3]
 rw[e2,cond_false,MQ a a1,rright a a1 a2,b0,Bool.not_true,cond_false,pa,ra,bs,Bool.not_true,cond_false,q2,q4,hrr,b0,Bool.not_true,cond_false,pv,bs,Bool.not_true,cond_false,MQ v hv.len,hv.right,Bool.not_true,cond_false];generalize dY v=t at ht;have hw0:IntKind.i64.wrap ((t.length:Int)+1)=(t.length:Int)+1:=aK (by omega) (by omega);rw[hw0];obtain ⟨y,y0,y1,hy⟩:=pick04 (R:=R) c ((t.length:Int)+1) (wt_i64 h3) (by omega) (by omega);rw[hy];have hw:IntKind.i64.wrap (y+(more.length:Int))=y+(more.length:Int):=aK (by omega) (by omega);simp only[hw]
 iterate 14 rw[ao (by simp only[Bool.and_eq_true,decide_eq_true_eq,List.length_append,List.length_take,List.length_drop]; omega)]
 have key:∀(a b c d e:af) (F:Nat) (e1:Bool→Bool→Option R),5<F→bP F true [a,b,c,d,e] 5 0 (fun Kg=>k Kg) e1=k true:=fun a b c d e F e1 hF=>tellsj_loop [a,b,c,d,e] (by simp) true (fun Kg=>k Kg) e1 F 0 (by simp) (by simp only[List.length_cons,List.length_nil]; omega)
 exact key _ _ _ _ _ _ _ (by simp only[List.length_cons,List.length_nil]; omega)
end Go.Proofs.YtmlkkgfenfdndaaGreatDoor
end
