/-
  JsonWords, part 8 of 9.
-/
import Derived.Test.YtmlkkgfenfdndaaGreatDoorJsonWordsB7
set_option linter.unusedSimpArgs false
set_option linter.unnecessarySimpa false
set_option linter.unusedVariables false
set_option linter.unusedSectionVars false
noncomputable section
set_option maxRecDepth 100000
namespace Go.Proofs.YtmlkkgfenfdndaaGreatDoor
open Go Go.aG Go.Lib
def lO {R:Type} (k0:dH→Bool→Option R) (z40:ah) (z41:Int) (z42:Int) (z43:ah) (z44:Int) (z45:dH):Option R :=
 bif (z41 != (z40.length:Int))then (k0 (⟨0,0⟩:dH) false)else (bj (Int.natAbs z42+List.length z43+Int.natAbs z44+dH.fu z45+64) z42 z43 z44 z45 (fun ZZ VV WT WU=>aX (Int.natAbs ZZ+List.length VV+Int.natAbs WT+dH.fu WU+64) ZZ VV WT WU (fun y60 y61 y62 y63=>bif (decide ((y61.length:Int)>(17:Int)))then (k0 (⟨0,0⟩:dH) false)else (bf (Int.natAbs y60+List.length y61+Int.natAbs y62+Int.natAbs 0+Int.natAbs 0+dH.fu y63+64) y60 y61 y62 0 0 y63 (fun y70 y71 y72 y73=>cH (IntKind.i64.wrap (y70*y72)) y71 (fun y74 y75=>k0 y74 y75))))))
def nZ {R:Type} (k0:dH→Bool→Option R) (x1:ah) (z4:Int) (sn:ah) (z12:Int) (VU:Int) (z16:Bool):Option R :=
 bT x1 VU (fun Iv=>bif (Iv==0)then (k0 (⟨0,0⟩:dH) false)else (bh (List.length x1+Int.natAbs VU+Int.natAbs z4+Int.natAbs Iv+List.length sn+Int.natAbs z12+Int.natAbs 0+Int.natAbs VU+dH.fu (⟨0,0⟩:dH)+64) x1 VU z4 Iv sn z12 z16 0 VU (⟨0,0⟩:dH) (fun I8 RN Si S9 Sj Vu WS VT Sk=>bif WS then (lO k0 I8 (IntKind.i64.wrap (RN+S9)) Si Sj (IntKind.i64.wrap (Vu+(IntKind.i64.wrap (0 - VT)))) Sk)else (lO k0 I8 (IntKind.i64.wrap (RN+S9)) Si Sj (IntKind.i64.wrap (Vu+VT)) Sk))))
def lP {R:Type} (k0:dH→Bool→Option R) (x1:ah) (z4:Int) (uO:Int) (sn:ah) (z12:Int) (VP:Bool):Option R :=
 bif VP then (bif (decide ((IntKind.i64.wrap (uO+1))<(x1.length:Int)))then (cu (decide ((0:Int)≤(IntKind.i64.wrap (uO+1)))&&decide ((IntKind.i64.wrap (uO+1))<x1.length)) (bif (((x1.getD ((IntKind.i64.wrap (uO+1)).toNat) 0).toNat:Int)==43)then (cu (decide ((0:Int)≤(IntKind.i64.wrap (uO+1)))&&decide ((IntKind.i64.wrap (uO+1))<x1.length)) (nZ k0 x1 z4 sn z12 (IntKind.i64.wrap ((IntKind.i64.wrap (uO+1))+1)) (((x1.getD ((IntKind.i64.wrap (uO+1)).toNat) 0).toNat:Int)==45)))else (cu (decide ((0:Int)≤(IntKind.i64.wrap (uO+1)))&&decide ((IntKind.i64.wrap (uO+1))<x1.length)) (bif (((x1.getD ((IntKind.i64.wrap (uO+1)).toNat) 0).toNat:Int)==45)then (cu (decide ((0:Int)≤(IntKind.i64.wrap (uO+1)))&&decide ((IntKind.i64.wrap (uO+1))<x1.length)) (nZ k0 x1 z4 sn z12 (IntKind.i64.wrap ((IntKind.i64.wrap (uO+1))+1)) (((x1.getD ((IntKind.i64.wrap (uO+1)).toNat) 0).toNat:Int)==45)))else (nZ k0 x1 z4 sn z12 (IntKind.i64.wrap (uO+1)) false)))))else (nZ k0 x1 z4 sn z12 (IntKind.i64.wrap (uO+1)) false))else (lO k0 x1 uO z4 sn z12 (⟨0,0⟩:dH))
def tu {R:Type} (k0:dH→Bool→Option R) (x1:ah) (z4:Int) (uO:Int) (sn:ah) (z12:Int):Option R :=
 bif (decide (uO<(x1.length:Int)))then (cu (decide ((0:Int)≤uO)&&decide (uO<x1.length)) (bif (((x1.getD uO.toNat 0).toNat:Int)==101)then (lP k0 x1 z4 uO sn z12 true)else (cu (decide ((0:Int)≤uO)&&decide (uO<x1.length)) (lP k0 x1 z4 uO sn z12 (((x1.getD uO.toNat 0).toNat:Int)==69)))))else (lP k0 x1 z4 uO sn z12 false)
def vd {R:Type} (k0:dH→Bool→Option R) (x1:ah) (z3:Int) (z4:Int) (y5:Int) (z7:Bool):Option R :=
 bif z7 then (bT x1 (IntKind.i64.wrap ((IntKind.i64.wrap (z3+y5))+1)) (fun y8=>bif (y8==0)then (k0 (⟨0,0⟩:dH) false)else (cu (decide ((0:Int)≤(IntKind.i64.wrap ((IntKind.i64.wrap ((IntKind.i64.wrap (z3+y5))+1))+y8)))&&decide ((IntKind.i64.wrap ((IntKind.i64.wrap ((IntKind.i64.wrap (z3+y5))+1))+y8))≤x1.length)) (cu (decide ((0:Int)≤(IntKind.i64.wrap ((IntKind.i64.wrap (z3+y5))+1)))&&decide ((IntKind.i64.wrap ((IntKind.i64.wrap (z3+y5))+1))≤(IntKind.i64.wrap ((IntKind.i64.wrap ((IntKind.i64.wrap (z3+y5))+1))+y8)))) (cu (decide (((x1.drop z3.toNat).take ((IntKind.i64.wrap (z3+y5)).toNat - z3.toNat)).length+((x1.drop (IntKind.i64.wrap ((IntKind.i64.wrap (z3+y5))+1)).toNat).take ((IntKind.i64.wrap ((IntKind.i64.wrap ((IntKind.i64.wrap (z3+y5))+1))+y8)).toNat - (IntKind.i64.wrap ((IntKind.i64.wrap (z3+y5))+1)).toNat)).length≤9223372036854775807)) (tu k0 x1 z4 (IntKind.i64.wrap ((IntKind.i64.wrap ((IntKind.i64.wrap (z3+y5))+1))+y8)) (((x1.drop z3.toNat).take ((IntKind.i64.wrap (z3+y5)).toNat - z3.toNat))++((x1.drop (IntKind.i64.wrap ((IntKind.i64.wrap (z3+y5))+1)).toNat).take ((IntKind.i64.wrap ((IntKind.i64.wrap ((IntKind.i64.wrap (z3+y5))+1))+y8)).toNat - (IntKind.i64.wrap ((IntKind.i64.wrap (z3+y5))+1)).toNat))) (IntKind.i64.wrap (0 - y8))))))))else (tu k0 x1 z4 (IntKind.i64.wrap (z3+y5)) ((x1.drop z3.toNat).take ((IntKind.i64.wrap (z3+y5)).toNat - z3.toNat)) 0)
def Da {R:Type} (k0:dH→Bool→Option R) (x1:ah) (z3:Int) (z4:Int) (y5:Int):Option R :=
 cu (decide ((0:Int)≤(IntKind.i64.wrap (z3+y5)))&&decide ((IntKind.i64.wrap (z3+y5))≤x1.length)) (cu (decide ((0:Int)≤z3)&&decide (z3≤(IntKind.i64.wrap (z3+y5)))) (bif (decide ((IntKind.i64.wrap (z3+y5))<(x1.length:Int)))then (cu (decide ((0:Int)≤(IntKind.i64.wrap (z3+y5)))&&decide ((IntKind.i64.wrap (z3+y5))<x1.length)) (vd k0 x1 z3 z4 y5 (((x1.getD ((IntKind.i64.wrap (z3+y5)).toNat) 0).toNat:Int)==46)))else (vd k0 x1 z3 z4 y5 false)))
def p9 {R:Type} (k0:dH→Bool→Option R) (x1:ah) (z3:Int) (z4:Int):Option R :=
 bT x1 z3 (fun y5=>bif (y5==0)then (k0 (⟨0,0⟩:dH) false)else (bif (decide (y5>(1:Int)))then (cu (decide ((0:Int)≤z3)&&decide (z3<x1.length)) (bif (((x1.getD z3.toNat 0).toNat:Int)==48)then (k0 (⟨0,0⟩:dH) false)else (Da k0 x1 z3 z4 y5)))else (Da k0 x1 z3 z4 y5)))
theorem SE {R:Type} (x1:ah) (k0:dH→Bool→Option R):Dx cH bT bh bj aX bf x1 k0 =
 bif (decide ((x1.length:Int)>(400:Int)))then (k0 (⟨0,0⟩:dH) false)else (bif (decide ((0:Int)<(x1.length:Int)))then (cu (decide ((0:Int)<x1.length)) (bif (((x1.getD 0 0).toNat:Int)==45)then (p9 k0 x1 1 (-1))else (p9 k0 x1 0 1)))else (p9 k0 x1 0 1)):=rfl
theorem refMake_end {R:Type} (u x:Int) (k:dH→Bool→Option R) :
  (bif (decide (u>(1000000000000000:Int)))then (k (⟨0,0⟩:dH) false)else (bif (decide (u<(-1000000000000000:Int)))then (k (⟨0,0⟩:dH) false)else (bif (decide (x>(9:Int)))then (k (⟨0,0⟩:dH) false)else (bif (decide (x<(-9:Int)))then (k (⟨0,0⟩:dH) false)else (k (⟨u,x⟩:dH) true)))))=k (Ql u x).1 (Ql u x).2:=by
 unfold Ql
 by_cases h1:u>1000000000000000
 ·rw[aB h1,if_neg (by omega)]; rfl
 ·rw[aV h1,cond_false]
  by_cases h2:u < -1000000000000000
  ·rw[aB h2,if_neg (by omega)]; rfl
  ·rw[aV h2,cond_false]
   by_cases h3:x>9
   ·rw[aB h3,if_neg (by omega)]; rfl
   ·rw[aV h3,cond_false]
    by_cases h4:x < -9
    ·rw[aB h4,if_neg (by omega)]; rfl
    ·rw[aV h4,cond_false,if_pos (by omega)]
theorem Yt {R:Type} (k:dH→Bool→Option R):∀(j n:Nat) (u x:Int) (d:dH),j<n→Int.tmod u 10≠0→G3 (u*10 ^ j)→G3 x →
  cA n (u*10 ^ j) x d (fun y6 y7 y8=>bif (decide (y6>(1000000000000000:Int)))then (k (⟨0,0⟩:dH) false)else (bif (decide (y6<(-1000000000000000:Int)))then (k (⟨0,0⟩:dH) false)else (bif (decide (y7>(9:Int)))then (k (⟨0,0⟩:dH) false)else (bif (decide (y7<(-9:Int)))then (k (⟨0,0⟩:dH) false)else (k (⟨y6,y7⟩:dH) true))))) (fun y9 rI rq qV=>k qV rq)=k (Ql u (x+j)).1 (Ql u (x+j)).2:=by
 intro j
 induction j with
 | zero =>
  intro n u x d hn hu hb hx
  obtain ⟨m,rfl⟩:∃m,n=m+1:=⟨n - 1,by omega⟩
  rw[cA]
  unfold xh
  have e1:u*10 ^ 0=u:=by simp
  have e2:(Int.tmod u 10==0)=false:=by rw[beq_eq_false_iff_ne]; exact hu
  have e3:x+((0:Nat):Int)=x:=by omega
  rw[e1,e2,cond_false,e3]
  exact refMake_end u x k
 | succ j ih =>
  intro n u x d hn hu hb hx
  obtain ⟨m,rfl⟩:∃m,n=m+1:=⟨n - 1,by omega⟩
  rw[cA]
  unfold xh
  have ep:u*10 ^ (j+1)=u*10 ^ j*10:=by rw[Int.pow_succ,Int.mul_assoc]
  unfold G3 at hb hx
  rw[ep]at hb ⊢
  have e1:(Int.tmod (u*10 ^ j*10) 10==0)=true:=by rw[Int.mul_tmod_left]; rfl
  have e2:Int.tdiv (u*10 ^ j*10) 10=u*10 ^ j:=Int.mul_tdiv_cancel _ (by omega)
  rw[e1,cond_true,e2,bw (n:=u*10 ^ j) (by omega) (by omega)]
  by_cases hx2:x>1099511627776
  ·rw[aB hx2,cond_true]
   unfold Ql
   rw[if_neg (by omega)]
  ·rw[aV hx2,cond_false,bw (n:=x+1) (by omega) (by omega)]
   refine (ih m u (x+1) d (by omega) hu (by unfold G3; omega) (by unfold G3; omega)).trans ?_
   have:x+1+(j:Int)=x+((j+1:Nat):Int):=by omega
   rw[this]
theorem refMake_ok {R:Type} (u:Int) (j:Nat) (x:Int) (hu:Int.tmod u 10≠0) (hb:G3 (u*10 ^ j)) (hx:G3 x) (k:dH→Bool→Option R):cH (u*10 ^ j) x k=k (Ql u (x+j)).1 (Ql u (x+j)).2:=by
 have e:cH (u*10 ^ j) x k=Bz cA (u*10 ^ j) x k:=rfl
 rw[e]
 unfold Bz
 have hu0:u≠0:=by rintro rfl; exact hu rfl
 have ha:=Om u j
 have h64:=Uy hu0 hb
 have h0:(u*10 ^ j==0)=false:=by rw[beq_eq_false_iff_ne]; omega
 rw[h0,cond_false]
 exact Yt k j _ u x _ (by omega) hu hb hx
theorem Yu {R:Type} (x:Int) (k:dH→Bool→Option R):cH 0 x k=k ⟨0,0⟩ true:=by
 have e:cH 0 x k=Bz cA 0 x k:=rfl
 rw[e]
 rfl
theorem take_len (s:ah):s.take (takeD s).length=takeD s:=by
 have e:takeD s++iv s=s:=List.takeWhile_append_dropWhile
 have:=List.take_left (l₁:=takeD s) (l₂:=iv s)
 rw[e]at this
 exact this
theorem UQ (s:ah):s.drop (takeD s).length=iv s:=by
 have e:takeD s++iv s=s:=List.takeWhile_append_dropWhile
 have:=List.drop_left (l₁:=takeD s) (l₂:=iv s)
 rw[e]at this
 exact this
theorem dig_at (t:ah) (j:Nat) (h1:j≤(takeD t).length) (h2:j<t.length):me (t.getD j 0)↔j<(takeD t).length:=by
 constructor
 ·intro h
  rcases Nat.lt_or_ge j (takeD t).length with h3|h3
  ·exact h3
  ·exfalso
   have hj:j=(takeD t).length:=by omega
   have hd:iv t=t.drop j:=by rw[hj,UQ]
   exact Z7 t _ _ (hd.trans (drop_cons h2)) h
 ·intro h
  have e:takeD t++iv t=t:=List.takeWhile_append_dropWhile
  have e2:=GN (s:=takeD t) (t:=iv t) h
  rw[e]at e2
  rw[e2]
  apply wQ t
  rw[getD_at h]
  exact List.getElem_mem h
theorem refDig_loop {R:Type} (s:ah) (i:Nat) (hs:s.length≤4000000000) (e0:Int→Option R):∀(n j:Nat),(takeD (s.drop i)).length - j<n→j≤(takeD (s.drop i)).length→i≤s.length →
  cx n s (i:Int) (j:Int) e0=e0 ((takeD (s.drop i)).length:Int):=by
 intro n
 induction n with
 | zero=>intro j h; omega
 | succ n ih =>
  intro j h1 h2 h3
  rw[cx]
  unfold zY
  have hl:=Fg (s.drop i)
  rw[List.length_drop]at hl
  rw[bw (n:=(i:Int)+(j:Int)) (by omega) (by omega)]
  by_cases hi:i+j<s.length
  ·have hd:=dig_at (s.drop i) j h2 (by rw[List.length_drop]; omega)
   rw[F0]at hd
   have e1:((i:Int)+(j:Int)).toNat=i+j:=by omega
   rw[aB (show (i:Int)+(j:Int)<(s.length:Int) by omega),cond_true,e1]
   simp only[aB (show (0:Int)≤(i:Int)+(j:Int) by omega),Bool.and_self,aS rfl]
   unfold me at hd
   by_cases hj:j<(takeD (s.drop i)).length
   ·have:=hd.2 hj
    rw[aB (show ((s.getD (i+j) 0).toNat:Int)≥48 by omega),cond_true,aB (show ((s.getD (i+j) 0).toNat:Int)≤57 by omega),cond_true,bw (n:=(j:Int)+1) (by omega) (by omega)]
    exact ih (j+1) (by omega) (by omega) h3
   ·have hn:¬(48≤(s.getD (i+j) 0).toNat∧(s.getD (i+j) 0).toNat≤57):=fun h=>hj (hd.1 h)
    have ej:j=(takeD (s.drop i)).length:=by omega
    by_cases g:(48:Int)≤((s.getD (i+j) 0).toNat:Int)
    ·rw[aB (show ((s.getD (i+j) 0).toNat:Int)≥48 from g),cond_true,aV (show ¬((s.getD (i+j) 0).toNat:Int)≤57 by omega),cond_false,←ej]
    ·rw[aV (show ¬((s.getD (i+j) 0).toNat:Int)≥48 from g),cond_false,←ej]
  ·rw[aV (by omega),cond_false]
   have:j=(takeD (s.drop i)).length:=by omega
   rw[←this]
theorem Jw {R:Type} (s:ah) (i:Nat) (hs:s.length≤4000000000) (hi:i≤s.length) (k:Int→Option R):bT s (i:Int) k=k ((takeD (s.drop i)).length:Int):=by
 have hl:=Fg (s.drop i)
 rw[List.length_drop]at hl
 exact refDig_loop s i hs (fun y=>k y) (List.length s+Int.natAbs (i:Int)+Int.natAbs 0+64) 0 (by omega) (by omega) hi
def LZ:ah→ah
 | b::c::t=>if b.toNat=48 then LZ (c::t)else b::c::t
 | s=>s
theorem W1:∀s:ah,s ≠ []→(bB s [48] = []∧LZ s = [48])∨(bB s [48] ≠ []∧LZ s=bB s [48])
 | [],h=>(h rfl).elim
 | [b],_=>by
  by_cases hb:b=48
  ·subst hb; exact .inl ⟨rfl,rfl⟩
  ·have:bB [b] [48] = [b]:=by unfold bB; simp[List.dropWhile_cons,hb]
   exact .inr ⟨by rw[this]; simp,by rw[this]; rfl⟩
 | b::c::t,_=>by
  by_cases hb:b=48
  ·subst hb
   have e1:LZ (48::c::t)=LZ (c::t):=rfl
   have e2:bB (48::c::t) [48]=bB (c::t) [48]:=rfl
   rw[e1,e2]
   exact W1 (c::t) (by simp)
  ·have hn:b.toNat≠48:=fun h=>hb (UInt8.toNat_inj.1 h)
   have:bB (b::c::t) [48]=b::c::t:=by unfold bB; simp[List.dropWhile_cons,hb]
   refine .inr ⟨by rw[this]; simp,?_⟩
   rw[this]
   unfold LZ
   rw[if_neg hn]
theorem ref41 {R:Type} (sg x:Int) (d:dH) (e0:Int→ah→Int→dH→Option R):∀(n:Nat) (a:ah),a.length<n→a.length≤2000 →
  bj n sg a x d e0=e0 sg (LZ a) x d:=by
 intro n
 induction n with
 | zero=>intro a h; omega
 | succ n ih =>
  intro a h hl
  rw[bj]
  unfold Ag
  match a,h,hl with
  | [],_,_=>rfl
  | [b],_,_=>rfl
  | b::c::t,h,hl =>
   simp only[List.length_cons]at h hl
   have hlen:(b::c::t:ah).length=t.length+2:=rfl
   have hg:(b::c::t:ah).getD 0 0=b:=rfl
   have q48:((b.toNat:Int)==48)=decide (b.toNat=48):=Q2 _ 48
   rw[hlen,hg,q48,aB (show ((t.length+2:Nat):Int)>1 by omega),cond_true,aS (aB (by omega))]
   unfold LZ
   by_cases hb:b.toNat=48
   ·rw[aB hb,cond_true,if_pos hb,aS (by rw[aB (by omega),aB (by omega)]; rfl),aS (aB (by omega))]
    have e:((b::c::t:ah).drop 1).take (((t.length+2:Nat):Int).toNat - 1)=c::t:=by
     rw[Int.toNat_natCast]
     show (c::t).take (t.length+1)=c::t
     exact List.take_length (l:=c::t)
    rw[e]
    exact ih (c::t) (by simp only[List.length_cons]; omega) (by simp only[List.length_cons]; omega)
   ·rw[aV hb,cond_false,if_neg hb]
theorem W2 (l:ah) (b:UInt8):(l ++ [b]).getD l.length 0=b:=ZR (s:=l) (t := [])
theorem ref43 {R:Type} (sg:Int) (d:dH) (l:ah) (b:UInt8) (hb:b≠48) (hl:l.length≤2000) (e0:Int→ah→Int→dH→Option R):∀(m n:Nat) (x:Int),m<n→m≤2000 → -4000000000≤x→x+m≤4000000000 →
  aX n sg (l ++ [b]++ij m) x d e0=e0 sg (l ++ [b]) (x+m) d:=by
 intro m
 induction m with
 | zero =>
  intro n x h1 h2 h3 h4
  obtain ⟨n,rfl⟩:∃q,n=q+1:=⟨n - 1,by omega⟩
  rw[aX]
  unfold uy
  have e0':l ++ [b]++ij 0=l ++ [b]:=by simp[ij]
  have ex:x+((0:Nat):Int)=x:=by omega
  have hlen:(l ++ [b]).length=l.length+1:=by simp
  rw[e0',ex,hlen,bw (n:=((l.length+1:Nat):Int) - 1) (by omega) (by omega)]
  have en:(((l.length+1:Nat):Int) - 1).toNat=l.length:=by omega
  rw[en,W2]
  have hn:b.toNat≠48:=fun h=>hb (UInt8.toNat_inj.1 h)
  have q48:((b.toNat:Int)==48)=false:=by rw[beq_eq_false_iff_ne]; omega
  rw[q48,aS (by rw[aB (by omega),aB (by omega)]; rfl)]
  simp only[cond_false,Bool.cond_self]
 | succ m ih =>
  intro n x h1 h2 h3 h4
  obtain ⟨n,rfl⟩:∃q,n=q+1:=⟨n - 1,by omega⟩
  rw[aX]
  unfold uy
  have e1:l ++ [b]++ij (m+1)=(l ++ [b]++ij m) ++ [48]:=by rw[List.append_assoc (l ++ [b]),zeros_snoc]
  have hlen:(l ++ [b]++ij (m+1)).length=l.length+1+(m+1):=by rw[List.length_append,List.length_append,xf]; rfl
  have Wj:(l ++ [b]++ij m).length=l.length+1+m:=by rw[List.length_append,List.length_append,xf]; rfl
  rw[hlen,bw (n:=((l.length+1+(m+1):Nat):Int) - 1) (by omega) (by omega)]
  have en:(((l.length+1+(m+1):Nat):Int) - 1).toNat=(l ++ [b]++ij m).length:=by omega
  rw[en,e1,W2]
  have q48:(((48:UInt8).toNat:Int)==48)=true:=rfl
  rw[q48,aB (show ((l.length+1+(m+1):Nat):Int)>1 by omega),cond_true,aS (by rw[aB (by omega),aB (by omega)]; rfl),cond_true,aS (by rw[aB (by omega),aB (by omega)]; rfl),aS (aB (by omega)),bw (n:=x+1) (by omega) (by omega),List.drop_zero,Nat.sub_zero,List.take_left]
  refine (ih n (x+1) (by omega) (by omega) (by omega) (by omega)).trans ?_
  have:x+1+(m:Int)=x+((m+1:Nat):Int):=by omega
  rw[this]
theorem W3 (a:ah) (j:Nat) (hj:j<a.length):jL (a.take (j+1)) 0=10*jL (a.take j) 0+((a.getD j 0).toNat - 48):=by
 rw[List.take_succ_eq_append_getElem hj,UN,getD_at hj]
 rfl
theorem ref50 {R:Type} (sg x:Int) (a:ah) (d:dH) (ha:∀c∈a,me c) (hl:a.length≤17) (e0:Int→Int→Int→dH→Option R):∀(n j:Nat),a.length - j<n→j≤a.length →
  bf n sg a x (jL (a.take j) 0:Int) (j:Int) d e0=e0 sg x (jL a 0:Int) d:=by
 intro n
 induction n with
 | zero=>intro j h; omega
 | succ n ih =>
  intro j h1 h2
  rw[bf]
  unfold An
  by_cases hj:j<a.length
  ·have hd:=ha (a.getD j 0) (by rw[getD_at hj]; exact List.getElem_mem hj)
   unfold me at hd
   have hv:=Tc (a.take j) 0 fun c hc=>ha c (List.mem_of_mem_take hc)
   have hp:(10:Nat) ^ (a.take j).length≤10 ^ 16:=Nat.pow_le_pow_right (by omega) (by rw[List.length_take]; omega)
   have e16:(10:Nat) ^ 16=10000000000000000:=rfl
   have w8:=UK (a:=(a.getD j 0).toNat) (b:=48) hd.1 (by have:=UInt8.toNat_lt (a.getD j 0); omega)
   have c48:((48:Nat):Int)=48:=rfl
   rw[c48]at w8
   rw[aB (show (j:Int)<(a.length:Int) by omega),cond_true,aS (by rw[aB (show (0:Int)≤(j:Int) by omega)]; rfl),Int.toNat_natCast,w8,bw (n:=10*(jL (a.take j) 0:Int)) (by omega) (by omega),bw (n:=(((a.getD j 0).toNat - 48:Nat):Int)) (by omega) (by omega),bw (n:=(j:Int)+1) (by omega) (by omega)]
   have e:=W3 a j hj
   rw[bw (n:=10*(jL (a.take j) 0:Int)+(((a.getD j 0).toNat - 48:Nat):Int)) (by omega) (by omega)]
   have e2:10*(jL (a.take j) 0:Int)+(((a.getD j 0).toNat - 48:Nat):Int)=(jL (a.take (j+1)) 0:Int):=by omega
   rw[e2]
   exact ih (j+1) (by omega) (by omega)
  ·rw[aV (show ¬(j:Int)<(a.length:Int) by omega),cond_false,List.take_of_length_le (by omega)]
theorem Q9 {R:Type} (k:dH→Bool→Option R) (s:ah) (i:Nat) (sg:Int) (hsg:sg=1∨sg = -1) (all:ah) (x:Int) (d:dH) (ha:∀c∈all,me c) (h0:all ≠ []) (hl:all.length≤900) (hx : -2000000≤x∧x≤2000000) :
  lO k s (i:Int) sg all x d=if i=s.length then k (Ib (decide (sg = -1)) all x).1 (Ib (decide (sg = -1)) all x).2 else k ⟨0,0⟩ false:=by
 unfold lO
 by_cases hi:i=s.length
 ·have e1:((i:Int) != (s.length:Int))=false:=by rw[hi]; simp
  rw[e1,cond_false,if_pos hi,ref41 _ _ _ _ _ _ (by omega) (by omega)]
  unfold Ib
  have htl:(bB all [48]).length≤all.length:=vH _ _
  rcases W1 all h0 with ⟨t1,t2⟩|⟨t1,t2⟩
  ·rw[t2,t1]
   have r1:aX (R:=R) (Int.natAbs sg+List.length ([48]:ah)+Int.natAbs x+dH.fu d+64) sg [48] x d=fun e0=>e0 sg [48] x d:=by
    funext e0
    rw[show Int.natAbs sg+List.length ([48]:ah)+Int.natAbs x+dH.fu d+64=(Int.natAbs sg+List.length ([48]:ah)+Int.natAbs x+dH.fu d+63)+1 by omega,aX]
    rfl
   rw[r1]
   have r2:∀(n:Nat) (h:2≤n) (e0:Int→Int→Int→dH→Option R),bf n sg [48] x 0 0 d e0=e0 sg x 0 d:=fun n h e0=>ref50 sg x [48] d (by intro c hc; simp at hc; subst hc; unfold me; decide) (by simp) e0 n 0 (by simp; omega) (by simp)
   have hlen:decide (((([48]:ah)).length:Int)>17)=false:=rfl
   simp only[hlen,cond_false]
   rw[r2 _ (by omega)]
   have w0:IntKind.i64.wrap (sg*0)=0:=by rw[Int.mul_zero]; decide
   rw[w0,Yu]
   rfl
  ·rw[t2]
   obtain ⟨m,hm⟩:=Mo (bB all [48])
   have ju:cS (bB all [48]) [48] ≠ []:=by
    intro e
    rw[e,List.nil_append]at hm
    cases m with
    | zero=>exact t1 hm
    | succ m=>exact UO all 48 (ij m) (by rw[hm]; rfl) rfl
   obtain ⟨f1,f2,f3⟩:=LX all ha ju
   rw[if_neg ju]
   rcases RR (bB all [48])with e|⟨l,b,e,hb⟩
   ·exact (ju e).elim
   generalize cS (bB all [48]) [48]=sh at *
   have hlen:(bB all [48]).length=sh.length+m:=by have:=congrArg List.length hm; rw[List.length_append,xf]at this; exact this
   have hsl:sh.length=l.length+1:=by rw[e]; simp
   rw[hm,e,ref43 _ _ l b hb (by omega) _ _ _ _ (by rw[←e,←hm]; omega) (by omega) (by omega) (by omega),←e]
   have hxx:x+(((sh++ij m).length:Int) - (sh.length:Int))=x+m:=by rw[List.length_append,xf]; omega
   rw[hxx]
   have hsn:(decide (sg = -1)=true→sg = -1)∧(decide (sg = -1)=false→sg=1):=by
    rcases hsg with h|h <;> subst h <;> decide
   by_cases h17:sh.length≤17
   ·rw[aV (show ¬(sh.length:Int)>17 by omega),cond_false]
    have key:=ref50 (R:=R) sg (x+m) sh d f1 h17 (fun y70 y71 y72 y73=>cH (IntKind.i64.wrap (y70*y72)) y71 (fun y74 y75=>k y74 y75)) (Int.natAbs sg+List.length sh+Int.natAbs (x+m)+Int.natAbs 0+Int.natAbs 0+dH.fu d+64) 0 (by omega) (by omega)
    have v0:jL (sh.take 0) 0=0:=rfl
    rw[v0]at key
    refine key.trans ?_
    have hv:=Tc sh 0 f1
    have hp:(10:Nat) ^ sh.length≤10 ^ 17:=Nat.pow_le_pow_right (by omega) h17
    have e17:(10:Nat) ^ 17=100000000000000000:=rfl
    have hm10:Int.tmod (jL sh 0:Int) 10≠0:=by rw[Int.tmod_eq_emod_of_nonneg (by omega)]; omega
    have unit:∀u:Int,Int.tmod u 10≠0→G3 u→cH u (x+m) (fun y74 y75=>k y74 y75)=k (Ql u (x+m)).1 (Ql u (x+m)).2:=fun u h1 h2=>by
     have:=refMake_ok (R:=R) u 0 (x+m) h1 (by simpa using h2) (by unfold G3; omega) k
     simpa using this
    cases hd:decide (sg = -1)with
    | true =>
     have:=hsn.1 hd
     subst this
     have en:(-1:Int)*(jL sh 0:Int) = -(jL sh 0:Int):=by omega
     rw[en,bw (by omega) (by omega),if_pos rfl]
     exact unit _ (tmod_neg hm10) (by unfold G3; omega)
    | false =>
     have:=hsn.2 hd
     subst this
     rw[Int.one_mul,bw (by omega) (by omega),if_neg (by simp)]
     exact unit _ hm10 (by unfold G3; omega)
   ·rw[aB (show (sh.length:Int)>17 by omega),cond_true]
    have hp:(10:Nat) ^ 17≤10 ^ (sh.length - 1):=Nat.pow_le_pow_right (by omega) (by omega)
    have e17:(10:Nat) ^ 17=100000000000000000:=rfl
    rw[mkD_far _ (by split <;> omega)]
 ·have e1:((i:Int) != (s.length:Int))=true:=by rw[bne_iff_ne]; omega
  rw[e1,cond_true,if_neg hi]
theorem getD_take (s:ah) (i j:Nat) (hj:j<(takeD (s.drop i)).length):s.getD (i+j) 0=(takeD (s.drop i)).getD j 0:=by
 have e:takeD (s.drop i)++iv (s.drop i)=s.drop i:=List.takeWhile_append_dropWhile
 have e2:=GN (s:=takeD (s.drop i)) (t:=iv (s.drop i)) hj
 rw[e,F0]at e2
 exact e2
theorem ref32 {R:Type} (s:ah) (i:Nat) (hs:s.length≤4000000000) (hi:i≤s.length) (sg:Int) (all:ah) (x:Int) (mi:Bool) (d:dH) (e0:ah→Int→Int→Int→ah→Int→Bool→Int→dH→Option R):∀(n j:Nat),(takeD (s.drop i)).length - j<n→j≤(takeD (s.drop i)).length →
  bh n s (i:Int) sg ((takeD (s.drop i)).length:Int) all x mi ((min (jL ((takeD (s.drop i)).take j) 0) 100000:Nat):Int) ((i+j:Nat):Int) d e0 =
   e0 s (i:Int) sg ((takeD (s.drop i)).length:Int) all x mi ((min (jL (takeD (s.drop i)) 0) 100000:Nat):Int) d:=by
 intro n
 induction n with
 | zero=>intro j h; omega
 | succ n ih =>
  intro j h1 h2
  rw[bh]
  unfold Ac
  have hl:=Fg (s.drop i)
  rw[List.length_drop]at hl
  rw[bw (n:=(i:Int)+((takeD (s.drop i)).length:Int)) (by omega) (by omega)]
  by_cases hj:j<(takeD (s.drop i)).length
  ·have hd:=wQ (s.drop i) ((takeD (s.drop i)).getD j 0) (by rw[getD_at hj]; exact List.getElem_mem hj)
   have hv:=W3 (takeD (s.drop i)) j hj
   have hg:=getD_take s i j hj
   unfold me at hd
   rw[aB (show ((i+j:Nat):Int)<(i:Int)+((takeD (s.drop i)).length:Int) by omega),cond_true,aS (by rw[aB (by omega),aB (by omega)]; rfl),Int.toNat_natCast,hg]
   generalize (takeD (s.drop i)).getD j 0=b at *
   have w8:=UK (a:=b.toNat) (b:=48) hd.1 (by have:=UInt8.toNat_lt b; omega)
   have c48:((48:Nat):Int)=48:=rfl
   rw[c48]at w8
   generalize jL ((takeD (s.drop i)).take j) 0=v at *
   rw[w8,bw (n:=10*((min v 100000:Nat):Int)) (by omega) (by omega),bw (n:=((b.toNat - 48:Nat):Int)) (by omega) (by omega),bw (n:=((i+j:Nat):Int)+1) (by omega) (by omega),bw (n:=10*((min v 100000:Nat):Int)+((b.toNat - 48:Nat):Int)) (by omega) (by omega)]
   have e1:min (10*((min v 100000:Nat):Int)+((b.toNat - 48:Nat):Int)) 100000=((min (jL ((takeD (s.drop i)).take (j+1)) 0) 100000:Nat):Int):=by rw[hv]; omega
   have e2:((i+j:Nat):Int)+1=((i+(j+1):Nat):Int):=by omega
   rw[e1,e2]
   exact ih (j+1) (by omega) (by omega)
  ·rw[aV (show ¬((i+j:Nat):Int)<(i:Int)+((takeD (s.drop i)).length:Int) by omega),cond_false,List.take_of_length_le (by omega)]
theorem Td {u x:Int} (h:x < -9∨9<x):Ql u x=(⟨0,0⟩,false):=by
 unfold Ql
 rw[if_neg (by omega)]
theorem finD_clip (neg:Bool) (all:ah) (hl:all.length≤900) (x:Int) (hx : -1000≤x∧x≤1000) (v:Nat) (mi:Bool) :
  Ib neg all (x+(if mi then -((min v 100000:Nat):Int)else ((min v 100000:Nat):Int)))=Ib neg all (x+(if mi then -(min (v:Int) 1000000)else min (v:Int) 1000000)):=by
 by_cases hv:v≤100000
 ·have e:((min v 100000:Nat):Int)=min (v:Int) 1000000:=by omega
  rw[e]
 ·unfold Ib
  have h1:(bB all [48]).length≤all.length:=vH _ _
  obtain ⟨m,hm⟩:=Mo (bB all [48])
  have hlen:(bB all [48]).length=(cS (bB all [48]) [48]).length+m:=by have:=congrArg List.length hm; rw[List.length_append,xf]at this; exact this
  split
  ·rfl
  ·cases mi with
   | true=>rw[if_pos rfl,if_pos rfl,Td (by omega),Td (by omega)]
   | false=>rw[if_neg (show ¬(false=true) by simp),if_neg (show ¬(false=true) by simp),Td (by omega),Td (by omega)]
theorem drop_nil {s:ah} {i:Nat} (hi:i≤s.length):iv (s.drop i) = []↔i+(takeD (s.drop i)).length=s.length:=by
 have e:takeD (s.drop i)++iv (s.drop i)=s.drop i:=List.takeWhile_append_dropWhile
 have hl:=congrArg List.length e
 rw[List.length_append,List.length_drop]at hl
 constructor
 ·intro h; rw[h]at hl; simp at hl; omega
 ·intro h; exact List.eq_nil_of_length_eq_zero (by omega)
def outD {R:Type} (k:dH→Bool→Option R) (r:dH × Bool):Option R:=k r.1 r.2
section
variable {R:Type} (k:dH→Bool→Option R) (s:ah) (hs:s.length≤4000000000) (sg:Int) (hsg:sg=1∨sg = -1) (all:ah) (x:Int) (ha:∀c∈all,me c) (h0:all ≠ []) (hl:all.length≤900) (hx : -1000≤x∧x≤0)
include hs hsg ha h0 hl hx
theorem ref38 (i:Nat) (hi:i≤s.length) (mi:Bool):nZ k s sg all x (i:Int) mi =
  if takeD (s.drop i) = []then k ⟨0,0⟩ false else if iv (s.drop i) = []then outD k (Ib (decide (sg = -1)) all (x+(if mi then -(min (jL (takeD (s.drop i)) 0:Int) 1000000)else min (jL (takeD (s.drop i)) 0:Int) 1000000)))else k ⟨0,0⟩ false:=by
 unfold nZ
 have hdl:=Fg (s.drop i)
 rw[List.length_drop]at hdl
 rw[Jw s i hs hi]
 by_cases hD:takeD (s.drop i) = []
 ·rw[if_pos hD,hD]
  rfl
 ·have ju:(((takeD (s.drop i)).length:Int)==0)=false:=by
   rw[beq_eq_false_iff_ne]
   intro h
   exact hD (List.eq_nil_of_length_eq_zero (by omega))
  rw[ju,cond_false,if_neg hD]
  have key:=ref32 (R:=R) s i hs hi sg all x mi (⟨0,0⟩:dH) (fun I8 RN Si S9 Sj Vu WS VT Sk=>bif WS then (lO k I8 (IntKind.i64.wrap (RN+S9)) Si Sj (IntKind.i64.wrap (Vu+(IntKind.i64.wrap (0 - VT)))) Sk)else (lO k I8 (IntKind.i64.wrap (RN+S9)) Si Sj (IntKind.i64.wrap (Vu+VT)) Sk)) (List.length s+Int.natAbs (i:Int)+Int.natAbs sg+Int.natAbs ((takeD (s.drop i)).length:Int)+List.length all+Int.natAbs x+Int.natAbs 0+Int.natAbs (i:Int)+dH.fu (⟨0,0⟩:dH)+64) 0 (by omega) (by omega)
  have v0:((min (jL ((takeD (s.drop i)).take 0) 0) 100000:Nat):Int)=0:=rfl
  rw[v0,Nat.add_zero]at key
  refine key.trans ?_
  have w1:IntKind.i64.wrap ((i:Int)+((takeD (s.drop i)).length:Int))=((i+(takeD (s.drop i)).length:Nat):Int):=by rw[bw (by omega) (by omega)]; omega
  have hclip:=finD_clip (decide (sg = -1)) all hl x (by omega) (jL (takeD (s.drop i)) 0) mi
  have hdn:=drop_nil hi
  cases mi with
  | true =>
   simp only[cond_true]
   rw[w1,bw (n:=0 - ((min (jL (takeD (s.drop i)) 0) 100000:Nat):Int)) (by omega) (by omega),bw (n:=x+(0 - ((min (jL (takeD (s.drop i)) 0) 100000:Nat):Int))) (by omega) (by omega),Q9 k s _ sg hsg all _ _ ha h0 hl (by omega)]
   have e1:x+(0 - ((min (jL (takeD (s.drop i)) 0) 100000:Nat):Int))=x+(if true=true then -((min (jL (takeD (s.drop i)) 0) 100000:Nat):Int)else ((min (jL (takeD (s.drop i)) 0) 100000:Nat):Int)):=by rw[if_pos rfl]; omega
   rw[e1,hclip]
   by_cases hn:iv (s.drop i) = []
   ·rw[if_pos hn,if_pos (hdn.1 hn)]; rfl
   ·rw[if_neg hn,if_neg (fun h=>hn (hdn.2 h))]
  | false =>
   simp only[cond_false]
   rw[w1,bw (n:=x+((min (jL (takeD (s.drop i)) 0) 100000:Nat):Int)) (by omega) (by omega),Q9 k s _ sg hsg all _ _ ha h0 hl (by omega)]
   have e1:x+((min (jL (takeD (s.drop i)) 0) 100000:Nat):Int)=x+(if false=true then -((min (jL (takeD (s.drop i)) 0) 100000:Nat):Int)else ((min (jL (takeD (s.drop i)) 0) 100000:Nat):Int)):=by rw[if_neg (by simp)]
   rw[e1,hclip]
   by_cases hn:iv (s.drop i) = []
   ·rw[if_pos hn,if_pos (hdn.1 hn)]; rfl
   ·rw[if_neg hn,if_neg (fun h=>hn (hdn.2 h))]
theorem ref39 (i:Nat) (hi:i<s.length):lP k s sg (i:Int) all x true =
  if (Hn (s.drop (i+1))).2.1=false then k ⟨0,0⟩ false else if (Hn (s.drop (i+1))).2.2 = []then outD k (Ib (decide (sg = -1)) all (x+(Hn (s.drop (i+1))).1))else k ⟨0,0⟩ false:=by
 unfold lP
 have w1:IntKind.i64.wrap ((i:Int)+1)=((i+1:Nat):Int):=by rw[bw (by omega) (by omega)]; omega
 have w2:IntKind.i64.wrap (((i+1:Nat):Int)+1)=((i+1+1:Nat):Int):=by rw[bw (by omega) (by omega)]; omega
 rw[cond_true,w1,w2]
 -- one sign or none
 have fin:∀(j:Nat) (mi:Bool) (q1:Nat),j≤s.length→gh [43,45] (s.drop (i+1))=(q1,s.drop j)→(mi=true↔q1=45)→nZ k s sg all x (j:Int) mi =
   if (Hn (s.drop (i+1))).2.1=false then k ⟨0,0⟩ false else if (Hn (s.drop (i+1))).2.2 = []then outD k (Ib (decide (sg = -1)) all (x+(Hn (s.drop (i+1))).1))else k ⟨0,0⟩ false:=by
  intro j mi q1 hj hq hmi
  rw[ref38 k s hs sg hsg all x ha h0 hl hx j hj mi]
  unfold Hn
  rw[hq]
  simp only
  by_cases hD:takeD (s.drop j) = []
  ·rw[if_pos hD,hD,if_pos (by rfl)]
  ·have ju:(takeD (s.drop j)==([]:ah))=false:=by rw[beq_eq_false_iff_ne]; exact hD
   rw[if_neg hD,ju,if_neg (show ¬((!false)=false) by decide)]
   have:(if mi=true then -(min (jL (takeD (s.drop j)) 0:Int) 1000000)else min (jL (takeD (s.drop j)) 0:Int) 1000000)=(if q1=45 then -(min (jL (takeD (s.drop j)) 0:Int) 1000000)else min (jL (takeD (s.drop j)) 0:Int) 1000000):=by
    by_cases h:mi=true
    ·rw[if_pos h,if_pos (hmi.1 h)]
    ·rw[if_neg h,if_neg (fun g=>h (hmi.2 g))]
   rw[this]
 by_cases h1:i+1<s.length
 ·have hd:=drop_cons h1
  rw[aB (show ((i+1:Nat):Int)<(s.length:Int) by omega),cond_true,Int.toNat_natCast]
  simp only[aB (show (0:Int)≤((i+1:Nat):Int) by omega),Bool.and_true,aS rfl]
  generalize s.getD (i+1) 0=b at *
  have q43:((b.toNat:Int)==43)=decide (b.toNat=43):=Q2 _ 43
  have q45:((b.toNat:Int)==45)=decide (b.toNat=45):=Q2 _ 45
  rw[q43,q45]
  have hg:gh [43,45] (s.drop (i+1))=if ([43,45]:ah).contains b then (b.toNat,s.drop (i+1+1))else (0,s.drop (i+1)):=by rw[hd]; rfl
  by_cases g43:b.toNat=43
  ·have hb:b=43:=UInt8.toNat_inj.1 g43
   rw[aB g43,cond_true]
   rw[hb,if_pos (by rfl)]at hg
   exact fin _ _ _ (by omega) hg (by rw[hb]; simp)
  ·rw[aV g43,cond_false]
   by_cases g45:b.toNat=45
   ·have hb:b=45:=UInt8.toNat_inj.1 g45
    rw[aB g45,cond_true]
    rw[hb,if_pos (by rfl)]at hg
    exact fin _ _ _ (by omega) hg (by simp)
   ·rw[aV g45,cond_false]
    have hc:([43,45]:ah).contains b=false:=by
     have h1:b≠43:=fun h=>g43 (by rw[h]; rfl)
     have h2:b≠45:=fun h=>g45 (by rw[h]; rfl)
     simp[h1,h2]
    rw[hc,if_neg (by simp)]at hg
    exact fin _ _ _ (by omega) hg (by simp)
 ·rw[aV (show ¬((i+1:Nat):Int)<(s.length:Int) by omega),cond_false]
  refine fin _ _ 0 (by omega) ?_ (by simp)
  rw[List.drop_of_length_le (by omega)]
  rfl
theorem ref77 (i:Nat) (hi:i≤s.length):tu k s sg (i:Int) all x=outD k (tailD (decide (sg = -1)) all x (s.drop i)):=by
 unfold tu
 have no:lP k s sg (i:Int) all x false=if i=s.length then outD k (Ib (decide (sg = -1)) all x)else k ⟨0,0⟩ false:=by
  have e:lP k s sg (i:Int) all x false=lO k s (i:Int) sg all x (⟨0,0⟩:dH):=rfl
  rw[e,Q9 k s i sg hsg all x _ ha h0 hl (by omega)]
  rfl
 unfold tailD
 by_cases h1:i<s.length
 ·have hd:=drop_cons h1
  rw[aB (show (i:Int)<(s.length:Int) by omega),cond_true,Int.toNat_natCast]
  simp only[aB (show (0:Int)≤(i:Int) by omega),Bool.and_true,aS rfl]
  have hg:gh [101,69] (s.drop i)=if ([101,69]:ah).contains (s.getD i 0)then ((s.getD i 0).toNat,s.drop (i+1))else (0,s.drop i):=by rw[hd]; rfl
  generalize s.getD i 0=b at *
  have q1:((b.toNat:Int)==101)=decide (b.toNat=101):=Q2 _ 101
  have q2:((b.toNat:Int)==69)=decide (b.toNat=69):=Q2 _ 69
  rw[q1,q2]
  have yes:([101,69]:ah).contains b=true→b.toNat≠0→lP k s sg (i:Int) all x true=outD k (if (gh [101,69] (s.drop i)).1=0 then (if (gh [101,69] (s.drop i)).2 = []then Ib (decide (sg = -1)) all x else Yp)
    else if (Hn (gh [101,69] (s.drop i)).2).2.1=false then Yp else if (Hn (gh [101,69] (s.drop i)).2).2.2 = []then Ib (decide (sg = -1)) all (x+(Hn (gh [101,69] (s.drop i)).2).1)else Yp):=by
   intro hc hb
   rw[ref39 k s hs sg hsg all x ha h0 hl hx i h1,hg,hc,if_pos rfl]
   simp only
   rw[if_neg hb]
   split
   ·rfl
   ·split <;> rfl
  by_cases g1:b.toNat=101
  ·have hb:b=101:=UInt8.toNat_inj.1 g1
   rw[aB g1,cond_true]
   exact yes (by rw[hb]; rfl) (by omega)
  ·rw[aV g1,cond_false]
   by_cases g2:b.toNat=69
   ·have hb:b=69:=UInt8.toNat_inj.1 g2
    rw[aB g2]
    exact yes (by rw[hb]; rfl) (by omega)
   ·rw[aV g2,no,if_neg (by omega)]
    have hc:([101,69]:ah).contains b=false:=by
     have h1:b≠101:=fun h=>g1 (by rw[h]; rfl)
     have h2:b≠69:=fun h=>g2 (by rw[h]; rfl)
     simp[h1,h2]
    rw[hg,hc,if_neg (show ¬(false=true) by simp),if_pos (show ((0:Nat),s.drop i).1=0 from rfl),if_neg (show ¬((0:Nat),s.drop i).2 = [] by rw[hd]; simp)]
    rfl
 ·have hi2:i=s.length:=by omega
  rw[aV (show ¬(i:Int)<(s.length:Int) by omega),cond_false,no,if_pos hi2,List.drop_of_length_le (by omega)]
  rfl
end
theorem ref79 {R:Type} (k:dH→Bool→Option R) (s:ah) (hs:s.length≤400) (sg:Int) (hsg:sg=1∨sg = -1) (i:Nat) (hi:i≤s.length):p9 k s (i:Int) sg =
  outD k (if takeD (s.drop i) = []then Yp else if 1<(takeD (s.drop i)).length∧((takeD (s.drop i)).getD 0 0).toNat=48 then Yp
   else if (gh [46] (iv (s.drop i))).1=0 then tailD (decide (sg = -1)) (takeD (s.drop i)) 0 (gh [46] (iv (s.drop i))).2
   else if takeD (gh [46] (iv (s.drop i))).2 = []then Yp
   else tailD (decide (sg = -1)) (takeD (s.drop i)++takeD (gh [46] (iv (s.drop i))).2) (-((takeD (gh [46] (iv (s.drop i))).2).length:Int)) (iv (gh [46] (iv (s.drop i))).2)):=by
 unfold p9
 have hdl:=Fg (s.drop i)
 rw[List.length_drop]at hdl
 rw[Jw s i (by omega) hi]
 have hI:=wQ (s.drop i)
 have htk:=take_len (s.drop i)
 have SF:=UQ (s.drop i)
 have hg0:takeD (s.drop i) ≠ []→s.getD i 0=(takeD (s.drop i)).getD 0 0:=fun h=>by
  have:=getD_take s i 0 (by cases hT:takeD (s.drop i)with|nil=>exact (h hT).elim|cons _ _=>simp)
  simpa using this
 rw[List.drop_drop]at SF
 generalize hIe:takeD (s.drop i)=I at *
 by_cases h0:I = []
 ·rw[if_pos h0,h0]
  rfl
 have N0:1≤I.length:=by cases I with|nil=>exact (h0 rfl).elim|cons _ _=>simp
 have ju:((I.length:Int)==0)=false:=by rw[beq_eq_false_iff_ne]; omega
 rw[ju,cond_false,if_neg h0,Int.toNat_natCast,hg0 h0]
 have q48:(((I.getD 0 0).toNat:Int)==48)=decide ((I.getD 0 0).toNat=48):=Q2 _ 48
 rw[q48,aS (by rw[aB (by omega),aB (by omega)]; rfl)]
 by_cases Yc:1<I.length∧(I.getD 0 0).toNat=48
 ·rw[if_pos Yc,aB (show (I.length:Int)>1 by omega),aB Yc.2]
  rfl
 rw[if_neg Yc]
 have cut:∀y:Option R,(bif decide ((I.length:Int)>1)then (bif decide ((I.getD 0 0).toNat=48)then k ⟨0,0⟩ false else y)else y)=y:=fun y=>by
  by_cases h1:1<I.length
  ·rw[aB (show (I.length:Int)>1 by omega),aV (fun h=>Yc ⟨h1,h⟩)]; rfl
  ·rw[aV (show ¬(I.length:Int)>1 by omega)]; rfl
 rw[cut]
 unfold Da
 have w1:IntKind.i64.wrap ((i:Int)+(I.length:Int))=((i+I.length:Nat):Int):=by rw[bw (by omega) (by omega)]; omega
 rw[w1,aS (by rw[aB (by omega),aB (by omega)]; rfl),aS (by rw[aB (by omega),aB (by omega)]; rfl)]
 have hsub:((s.drop i).take (((i+I.length:Nat):Int).toNat - i))=I:=by
  rw[Int.toNat_natCast,Nat.add_sub_cancel_left]; exact htk
 have nodot:(gh [46] (iv (s.drop i))).1=0→(gh [46] (iv (s.drop i))).2=s.drop (i+I.length)→vd k s (i:Int) sg (I.length:Int) false=outD k (tailD (decide (sg = -1)) I 0 (gh [46] (iv (s.drop i))).2):=by
  intro g1 g2
  have e:vd k s (i:Int) sg (I.length:Int) false=tu k s sg (IntKind.i64.wrap ((i:Int)+(I.length:Int))) ((s.drop i).take ((IntKind.i64.wrap ((i:Int)+(I.length:Int))).toNat - i)) 0:=rfl
  rw[e,w1,hsub,g2]
  exact ref77 k s (by omega) sg hsg I 0 hI h0 (by omega) (by omega) _ (by omega)
 by_cases h1:i+I.length<s.length
 ·have hd:=drop_cons h1
  rw[aB (show ((i+I.length:Nat):Int)<(s.length:Int) by omega),cond_true,aS (by rw[aB (show (0:Int)≤((i+I.length:Nat):Int) by omega)]; rfl),Int.toNat_natCast]
  have q46:(((s.getD (i+I.length) 0).toNat:Int)==46)=decide ((s.getD (i+I.length) 0).toNat=46):=Q2 _ 46
  rw[q46]
  by_cases g:(s.getD (i+I.length) 0).toNat=46
  ·have hb:s.getD (i+I.length) 0=46:=UInt8.toNat_inj.1 g
   have O7:gh [46] (iv (s.drop i))=(46,s.drop (i+I.length+1)):=by rw[←SF,hd,hb]; rfl
   rw[aB g,O7]
   simp only
   rw[if_neg (by omega)]
   have w2:IntKind.i64.wrap (((i+I.length:Nat):Int)+1)=((i+I.length+1:Nat):Int):=by rw[bw (by omega) (by omega)]; omega
   unfold vd
   rw[cond_true,w1,w2,Jw s _ (by omega) (by omega)]
   have hfl:=Fg (s.drop (i+I.length+1))
   rw[List.length_drop]at hfl
   have hF:=wQ (s.drop (i+I.length+1))
   have htk2:=take_len (s.drop (i+I.length+1))
   have hdr2:=UQ (s.drop (i+I.length+1))
   rw[List.drop_drop]at hdr2
   generalize takeD (s.drop (i+I.length+1))=F at *
   by_cases hF0:F = []
   ·rw[if_pos hF0,hF0]
    rfl
   have hne2:((F.length:Int)==0)=false:=by
    rw[beq_eq_false_iff_ne]
    intro h
    exact hF0 (List.eq_nil_of_length_eq_zero (by omega))
   have w3:IntKind.i64.wrap (((i+I.length+1:Nat):Int)+(F.length:Int))=((i+I.length+1+F.length:Nat):Int):=by rw[bw (by omega) (by omega)]; omega
   have hsub2:((s.drop (i+I.length+1)).take (((i+I.length+1+F.length:Nat):Int).toNat - (i+I.length+1)))=F:=by
    rw[Int.toNat_natCast,Nat.add_sub_cancel_left]; exact htk2
   rw[hne2,cond_false,if_neg hF0,w3,aS (by rw[aB (by omega),aB (by omega)]; rfl),aS (by rw[aB (by omega),aB (by omega)]; rfl)]
   rw[Int.toNat_natCast i,hsub,Int.toNat_natCast (i+I.length+1),hsub2,aS (aB (by omega)),bw (n:=0 - (F.length:Int)) (by omega) (by omega)]
   have e0:(0:Int) - (F.length:Int) = -(F.length:Int):=by omega
   rw[e0,←hdr2]
   exact ref77 k s (by omega) sg hsg (I++F) (-(F.length:Int)) (fun c hc=>(List.mem_append.1 hc).elim (hI c) (hF c)) (by simp[h0]) (by rw[List.length_append]; omega) (by omega) _ (by omega)
  ·have hb:([46]:ah).contains (s.getD (i+I.length) 0)=false:=by
    have:s.getD (i+I.length) 0≠46:=fun h=>g (by rw[h]; rfl)
    simp only[List.contains_cons,List.contains_nil,Bool.or_false,beq_eq_false_iff_ne]
    exact this
   have O7:gh [46] (iv (s.drop i))=(0,s.drop (i+I.length)):=by
    rw[←SF,hd]
    show (if ([46]:ah).contains (s.getD (i+I.length) 0)then _ else _)=_
    rw[hb]; rfl
   rw[aV g,if_pos (by rw[O7])]
   exact nodot (by rw[O7]) (by rw[O7])
 ·have O7:gh [46] (iv (s.drop i))=(0,s.drop (i+I.length)):=by
   rw[←SF,List.drop_of_length_le (by omega)]
   rfl
  rw[aV (show ¬((i+I.length:Nat):Int)<(s.length:Int) by omega),cond_false,if_pos (by rw[O7])]
  exact nodot (by rw[O7]) (by rw[O7])
theorem refParse_ok {R:Type} (s:ah) (k:dH→Bool→Option R):jY s k=k (qY s).1 (qY s).2:=by
 have e:jY s k=Dx cH bT bh bj aX bf s k:=rfl
 rw[e,SE]
 unfold qY
 simp only
 by_cases h400:400<s.length
 ·rw[aB (show (s.length:Int)>400 by omega),cond_true,if_pos h400]
  rfl
 rw[aV (show ¬(s.length:Int)>400 by omega),cond_false,if_neg h400]
 have plain:∀q:Nat × ah,q=(0,s)→p9 k s 0 1=k (if takeD q.2 = []then Yp else if 1<(takeD q.2).length∧((takeD q.2).getD 0 0).toNat=48 then Yp
   else if (gh [46] (iv q.2)).1=0 then tailD (q.1 != 0) (takeD q.2) 0 (gh [46] (iv q.2)).2
   else if takeD (gh [46] (iv q.2)).2 = []then Yp
   else tailD (q.1 != 0) (takeD q.2++takeD (gh [46] (iv q.2)).2) (-((takeD (gh [46] (iv q.2)).2).length:Int)) (iv (gh [46] (iv q.2)).2)).1 (if takeD q.2 = []then Yp else if 1<(takeD q.2).length∧((takeD q.2).getD 0 0).toNat=48 then Yp
   else if (gh [46] (iv q.2)).1=0 then tailD (q.1 != 0) (takeD q.2) 0 (gh [46] (iv q.2)).2
   else if takeD (gh [46] (iv q.2)).2 = []then Yp
   else tailD (q.1 != 0) (takeD q.2++takeD (gh [46] (iv q.2)).2) (-((takeD (gh [46] (iv q.2)).2).length:Int)) (iv (gh [46] (iv q.2)).2)).2:=by
  rintro q rfl
  exact ref79 k s (by omega) 1 (.inl rfl) 0 (by omega)
 by_cases h1:0<s.length
 ·rw[aB (show (0:Int)<(s.length:Int) by omega),cond_true,aS rfl]
  have hd:=drop_cons h1
  rw[List.drop_zero]at hd
  have q45:(((s.getD 0 0).toNat:Int)==45)=decide ((s.getD 0 0).toNat=45):=Q2 _ 45
  rw[q45]
  by_cases g:(s.getD 0 0).toNat=45
  ·have hb:s.getD 0 0=45:=UInt8.toNat_inj.1 g
   have hq:gh [45] s=(45,s.drop 1):=by
    conv=>lhs; rw[hd,hb]
    rfl
   rw[aB g,cond_true,hq]
   exact ref79 k s (by omega) (-1) (.inr rfl) 1 (by omega)
  ·have hq:gh [45] s=(0,s):=by
    have hc:([45]:ah).contains (s.getD 0 0)=false:=by
     have:s.getD 0 0≠45:=fun h=>g (by rw[h]; rfl)
     simp only[List.contains_cons,List.contains_nil,Bool.or_false,beq_eq_false_iff_ne]
     exact this
    conv=>lhs; rw[hd]
    show (if ([45]:ah).contains (s.getD 0 0)then _ else (0,_))=_
    rw[hc]
    simp only[Bool.false_eq_true,if_false]
    rw[←hd]
   rw[aV g,cond_false]
   exact plain _ hq
 ·have hn:s = []:=List.eq_nil_of_length_eq_zero (by omega)
  subst hn
  exact plain _ rfl
def fmB (d:dH):Bool:=(d.aF==0&&d.exp==0)||(Int.tmod d.aF 10 != 0&&(decide (-1000000000000000≤d.aF)&&decide (d.aF≤1000000000000000)&&(decide (-9≤d.exp)&&decide (d.exp≤9))))
theorem Mq {d:dH}:fmB d=true↔Fm d:=by
 unfold fmB Fm
 simp[and_assoc]
def Jx (d:dH):ah:=if fmB d then WR d else []
def EW:List ah→List ah→Bool
 | _, []=>true
 | seen,n::l => !seen.contains n&&pd n&&EW (n::seen) l
mutual
def uB:Json→Int→Bool
 | ⟨k,n,t,ns,is⟩,d=>decide (d≤16)&&(decide (1≤k)&&decide (k≤7))&&(k==4||(n.aF==0&&n.exp==0))&&(k==5||t.isEmpty)&&(k==7||ns.isEmpty)&&(k==6||k==7||is.isEmpty) &&
   (if k=4 then fmB n else if k=5 then pd t else if k=7 then decide (ns.length=is.length)&&EW [] ns&&mc is (d+1)else mc is (d+1))
def mc:List Json→Int→Bool
 | [],_=>true
 | x::l,d=>uB x d&&mc l d
end
inductive Ra:Json→Int→Prop where
 | name (k:Int) (d:Int) (hd:d≤16) (hk:k=1∨k=2∨k=3):Ra ⟨k,⟨0,0⟩, [], [], []⟩ d
 | num (n:dH) (d:Int) (hd:d≤16) (hn:Fm n):Ra ⟨4,n, [], [], []⟩ d
 | text (t:ah) (d:Int) (hd:d≤16) (ht:pd t=true):Ra ⟨5,⟨0,0⟩,t, [], []⟩ d
 | arr (is:List Json) (d:Int) (hd:d≤16) (hi:mc is (d+1)=true):Ra ⟨6,⟨0,0⟩, [], [],is⟩ d
 | obj (ns:List ah) (is:List Json) (d:Int) (hd:d≤16) (hl:ns.length=is.length) (hu:EW [] ns=true) (hi:mc is (d+1)=true):Ra ⟨7,⟨0,0⟩, [],ns,is⟩ d
theorem mI {v:Json} {d:Int}:uB v d=true↔Ra v d:=by
 obtain ⟨k,⟨m,e⟩,t,ns,is⟩:=v
 constructor
 ·intro h
  simp only[uB,Bool.and_eq_true,Bool.or_eq_true,decide_eq_true_eq,beq_iff_eq,List.isEmpty_iff]at h
  obtain ⟨⟨⟨⟨⟨⟨hd,hk1,KX⟩,hn⟩,ht⟩,WG⟩,his⟩,hx⟩:=h
  have hk:k=1∨k=2∨k=3∨k=4∨k=5∨k=6∨k=7:=by omega
  rcases hk with rfl|rfl|rfl|rfl|rfl|rfl|rfl
  ·simp at hn ht WG his
   obtain ⟨rfl,rfl⟩:=hn
   subst ht WG his
   exact .name 1 d hd (by omega)
  ·simp at hn ht WG his
   obtain ⟨rfl,rfl⟩:=hn
   subst ht WG his
   exact .name 2 d hd (by omega)
  ·simp at hn ht WG his
   obtain ⟨rfl,rfl⟩:=hn
   subst ht WG his
   exact .name 3 d hd (by omega)
  ·simp at ht WG his hx
   subst ht WG his
   exact .num _ d hd (Mq.1 hx)
  ·simp at hn WG his hx
   obtain ⟨rfl,rfl⟩:=hn
   subst WG his
   exact .text t d hd hx
  ·simp at hn ht WG hx
   obtain ⟨rfl,rfl⟩:=hn
   subst ht WG
   exact .arr is d hd hx
  ·simp at hn ht hx
   obtain ⟨rfl,rfl⟩:=hn
   subst ht
   exact .obj ns is d hd hx.1.1 hx.1.2 hx.2
 ·intro h
  cases h with
  | name _ _ hd hk=>rcases hk with rfl|rfl|rfl <;> simp[uB,mc,hd]
  | num _ _ hd hn=>simp[uB,hd,Mq.2 hn]
  | text _ _ hd ht=>simp[uB,hd,ht]
  | arr _ _ hd hi=>simp[uB,hd,hi]
  | obj _ _ _ hd hl hu hi=>simp[uB,hd,hl,hu,hi]
def qtS (t:ah):ah:=34::(t.flatMap qb ++ [34])
theorem qtS_enc {rs:List Nat} (hr:∀c∈rs,vr c):qtS (eD rs)=qt rs:=by unfold qtS qt; rw[qb_encL rs hr]
mutual
def kH:Json→ah
 | ⟨k,n,t,ns,is⟩=>if k=1 then va else if k=2 then o4 else if k=3 then AG else if k=4 then Jx n else if k=5 then qtS t else if k=7 then 123::(tz ns is true ++ [125])else 91::(uC is true ++ [93])
def uC:List Json→Bool→ah
 | [],_ => []
 | x::l,first=>(if first then []else [44])++(kH x++uC l false)
def tz:List ah→List Json→Bool→ah
 | _, [],_ => []
 | ns,x::l,first=>(if first then []else [44])++(qtS (ns.headD [])++(58::(kH x++tz ns.tail l false)))
end
def txW (t:ah):vb:=([],qtS t,⟨2,t,⟨0,0⟩,0⟩)
mutual
def Ar:Json→List vb
 | ⟨k,n,t,ns,is⟩=>if k=1 then [([],va,⟨4,va,⟨0,0⟩,0⟩)]else if k=2 then [([],o4,⟨4,o4,⟨0,0⟩,0⟩)]else if k=3 then [([],AG,⟨4,AG,⟨0,0⟩,0⟩)]
   else if k=4 then [([],Jx n,⟨3,Jx n,n,0⟩)]else if k=5 then [txW t]else if k=7 then sg 123::(o5 ns is true ++ [sg 125])else sg 91::(sE is true ++ [sg 93])
def sE:List Json→Bool→List vb
 | [],_ => []
 | x::l,first=>(if first then []else [sg 44])++(Ar x++sE l false)
def o5:List ah→List Json→Bool→List vb
 | _, [],_ => []
 | ns,x::l,first=>(if first then []else [sg 44])++(txW (ns.headD [])::sg 58::(Ar x++o5 ns.tail l false))
end
mutual
theorem Rb:∀(v:Json) (z:ah),DW (Ar v) z=kH v++z
 | ⟨k,n,t,ns,is⟩,z=>by
  have hL:=UR is true
  have hO:=US ns is true
  simp only[Ar,kH]
  split
  ·simp[DW]
  split
  ·simp[DW]
  split
  ·simp[DW]
  split
  ·simp[DW]
  split
  ·simp[DW,txW]
  split
  ·simp only[DW,sg,DX,hO]; simp[DW,sg]
  ·simp only[DW,sg,DX,hL]; simp[DW,sg]
theorem UR:∀(l:List Json) (first:Bool) (z:ah),DW (sE l first) z=uC l first++z
 | [],_,z=>rfl
 | x::l,first,z=>by
  have h1:=Rb x
  have h2:=UR l false
  simp only[sE,uC]
  rw[DX,DX,h1,h2]
  cases first <;> simp[DW,sg]
theorem US:∀(ns:List ah) (l:List Json) (first:Bool) (z:ah),DW (o5 ns l first) z=tz ns l first++z
 | ns, [],_,z=>by simp[o5,tz,DW]
 | ns,x::l,first,z=>by
  have h1:=Rb x
  have h2:=US ns.tail l false
  simp only[o5,tz]
  rw[DX]
  simp only[DW,txW,sg,DX,h1,h2]
  cases first <;> simp[DW,sg]
end
theorem UT {t:ah} (ht:pd t=true) (z:ah):okW [txW t] z:=by
 obtain ⟨rs,hr,rfl⟩:=WL.1 ht
 have e:=qtS_enc hr
 have hw:=word_text hr
 refine ⟨by simp[txW],by simp only[txW,e]; exact hw.1,?_,trivial⟩
 show tokS (qtS (eD rs)++z)=some (⟨2,eD rs,⟨0,0⟩,0⟩,z)
 have e2:qt rs=34::(Vv rs ++ [34]):=by unfold qt; simp
 have hu:=uqS_qt rs hr z
 have e3:qt rs++z=34::(Vv rs ++ [34]++z):=by rw[e2]; rfl
 rw[e,e3]
 rw[e3]at hu
 simp only[tokS]
 rw[if_neg (by decide),if_pos (by decide),hu]
mutual
theorem UU:∀(v:Json) (d:Int),uB v d=true→∀z,NF z→okW (Ar v) z
 | ⟨k,n,t,ns,is⟩,d,h,z,hz=>by
  have hL:=W4 is
  have hO:=W5 ns is
  cases mI.1 h with
  | name _ _ hd hk =>
   rcases hk with rfl|rfl|rfl
   ·exact DY (FF (.inr (.inr rfl))) hz
   ·exact DY (FF (.inr (.inl rfl))) hz
   ·exact DY (FF (.inl rfl)) hz
  | num _ _ hd hn =>
   have e:Jx n=WR n:=by unfold Jx; rw[Mq.2 hn]; rfl
   show okW [([],Jx n,⟨3,Jx n,n,0⟩)] z
   rw[e]
   exact DY (aaf hn) hz
  | text _ _ hd ht=>exact UT ht z
  | arr _ _ hd hi =>
   show okW ([sg 91]++(sE is true ++ [sg 93])) z
   rw[BR,BR]
   exact ⟨DZ (by decide) _,hL true (d+1) hi _ (Mp (by decide) _),DZ (by decide) _⟩
  | obj _ _ _ hd hl hu hi =>
   show okW ([sg 123]++(o5 ns is true ++ [sg 125])) z
   rw[BR,BR]
   exact ⟨DZ (by decide) _,hO true (d+1) hi hl [] hu _ (Mp (by decide) _),DZ (by decide) _⟩
theorem W4:∀(l:List Json) (first:Bool) (d:Int),mc l d=true→∀z,NF z→okW (sE l first) z
 | [],_,_,_,_,_=>trivial
 | x::l,first,d,h,z,hz=>by
  simp only[mc,Bool.and_eq_true]at h
  have h1:=UU x d h.1
  have h2:=W4 l false d h.2 z hz
  simp only[sE]
  rw[BR,BR]
  refine ⟨?_,h1 _ ?_,h2⟩
  ·cases first
   ·exact DZ (by decide) _
   ·trivial
  ·cases l with
   | nil=>exact hz
   | cons y l =>
    simp only[sE]
    exact Mp (c:=44) (by decide) _
theorem W5:∀(ns:List ah) (l:List Json) (first:Bool) (d:Int),mc l d=true→ns.length=l.length→∀seen,EW seen ns=true→∀z,NF z→okW (o5 ns l first) z
 | ns, [],_,_,_,_,_,_,_,_=>by simp[o5,okW]
 | [],_::_,_,_,_,hl,_,_,_,_=>by simp at hl
 | n::ns,x::l,first,d,h,hl,seen,hu,z,hz=>by
  simp only[mc,Bool.and_eq_true]at h
  simp only[EW,Bool.and_eq_true]at hu
  have h1:=UU x d h.1
  have h2:=W5 ns l false d h.2 (by simpa using hl) _ hu.2 z hz
  simp only[o5,List.headD_cons,List.tail_cons]
  show okW ((if first=true then []else [sg 44])++([txW n]++([sg 58]++(Ar x++o5 ns l false)))) z
  rw[BR,BR,BR,BR]
  refine ⟨?_,UT hu.1.2 _,DZ (by decide) _,h1 _ ?_,h2⟩
  ·cases first
   ·exact DZ (by decide) _
   ·trivial
  ·cases l with
   | nil=>simp only[o5,DW]; exact hz
   | cons y l =>
    simp only[o5]
    exact Mp (c:=44) (by decide) _
end
mutual
def SG:Json→Bool
 | ⟨_,_,t,ns,is⟩=>decide (ns.length≤1099511627776)&&decide (is.length≤1099511627776)&&SH is&&(decide (t.length≤10000000000)&&ns.all fun n=>decide (n.length≤10000000000))
def SH:List Json→Bool
 | []=>true
 | x::l=>SG x&&SH l
end
theorem lenL_mem:∀ {l:List Json} {x:Json},SH l=true→x∈l→SG x=true
 | y::l,x,h,hx=>by
  simp only[SH,Bool.and_eq_true]at h
  rcases List.mem_cons.1 hx with rfl|hx
  ·exact h.1
  ·exact lenL_mem h.2 hx
theorem L0 {v:Json}:SG v=true↔v.names.length≤1099511627776∧v.items.length≤1099511627776∧SH v.items=true∧v.text.length≤10000000000∧∀n∈v.names,n.length≤10000000000:=by
 obtain ⟨k,n,t,ns,is⟩:=v
 simp[SG,and_assoc]
theorem jdepthL_mem {l:List Json} {y:Json} (h:y∈l):y.depth≤Json.Lf l:=by
 induction l with
 | nil=>cases h
 | cons a l ih =>
  simp only[Json.Lf]
  rcases List.mem_cons.1 h with rfl|h
  ·exact Nat.le_max_left _ _
  ·exact Nat.le_trans (ih h) (Nat.le_max_right _ _)
theorem jdepth_eq (x:Json):x.depth=Json.Lf x.items+1:=by cases x; simp[Json.depth]
theorem jdepth_item {x y:Json} (h:y∈x.items):y.depth<x.depth:=by rw[jdepth_eq x]; exact Nat.lt_succ_of_le (jdepthL_mem h)
end Go.Proofs.YtmlkkgfenfdndaaGreatDoor
/-
 Functions of the program as pure Lean functions, and the ties; printed by wip/tools/emit.py.
-/
set_option maxRecDepth 100000
namespace Go.Proofs.YtmlkkgfenfdndaaGreatDoor
open Go Go.aG
/-! ### humpyard/lexer.Scan -/
abbrev vq (R:Type):Type:=ah→((List Token)→Int→Int→Option R)→Option R
abbrev Jy:List bE := [.leaf (.str)]
abbrev Jz:List aA := []
def NH {R:Type} (fn:vq R):bE.au Jy→aA.au Jz→(V→aO→Option R)→Option R:=fun x y k=>fn x.1 (fun q0 q1 q2=>k (.tuple [.sl .token q0 .no, .int .i64 q1, .int .i64 q2]) [])
def P1 {R:Type} (fn:vq R):aG.Spec R→aG.Spec R:=bm Jy Jz (NH fn)
abbrev oR (R:Type):Type:=Nat→ah→(List Token)→Int→((List Token)→Int→Int→Option R)→(Int→Int→Option R)→Option R
def xp {R:Type} (gb:pN R) (cv:jA R):List (wv R) := [(48,true,(PC gb bb)),(47,true,(Hb cv bb))]
theorem UW {R:Type}:ff (R:=R) Tryz.prog (xp gb cv) := .p (Sp R _ (aM _)) <| .p (HY R _ (aM _)) <| .n
def Db {R:Type} (gb:pN R) (cv:jA R) (dq:ah→(List Token)→Int→Option R) (x2:ah) (x3:List Token) (x4:Int) (e0:(List Token)→Int→Int→Option R) (e1:Int→Int→Option R):Option R :=
 cu (decide ((0:Int)≤(x2.length:Int))&&decide ((x2.length:Int)≤x2.length)) (cu (decide ((0:Int)≤x4)&&decide (x4≤(x2.length:Int))) (cv ((x2.drop x4.toNat).take ((x2.length:Int).toNat - x4.toNat)) ([32,9,10,13]:ah) (fun y5=>bif ((IntKind.i64.wrap (x4+(y5.length:Int)))==(x2.length:Int))then (cu (decide ((x3.length+1)*48≤140737488355328)) (e0 (x3++([(⟨5,([]:ah),⟨0,0⟩,(IntKind.i64.wrap (x4+(y5.length:Int)))⟩:Token)]:List Token)) 0 0))else (cu (decide ((0:Int)≤(x2.length:Int))&&decide ((x2.length:Int)≤x2.length)) (cu (decide ((0:Int)≤(IntKind.i64.wrap (x4+(y5.length:Int))))&&decide ((IntKind.i64.wrap (x4+(y5.length:Int)))≤(x2.length:Int))) (gb ((x2.drop (IntKind.i64.wrap (x4+(y5.length:Int))).toNat).take ((x2.length:Int).toNat - (IntKind.i64.wrap (x4+(y5.length:Int))).toNat)) (fun y6 y7=>bif (y7==0)then (e1 30 (IntKind.i64.wrap (x4+(y5.length:Int))))else (cu (decide ((x3.length+1)*48≤140737488355328)) (dq x2 (x3++([(⟨y6.kind,y6.text,⟨y6.num.aF,y6.num.exp⟩,(IntKind.i64.wrap (x4+(y5.length:Int)))⟩:Token)]:List Token)) (IntKind.i64.wrap ((IntKind.i64.wrap (x4+(y5.length:Int)))+y7)))))))))))
def cM {R:Type}:oR R
 | 0,_,_,_,_,_=>none
 | n+1,hY,hZ,iB,e0,e1=>Db gb cv (fun hY hZ iB=>cM n hY hZ iB e0 e1) hY hZ iB e0 e1
def xq:Hint := { live := [0,2,4],own := [(2, .token)],rows := [],cells := [],drop := [],out := [2,3,4] }
abbrev lQ:Type:=ah × (List Token) × Int
def uD:lQ→St:=fun d=>⟨.str d.1 :: .undef :: .sl .token d.2.1 (.own 0) :: .undef :: .int .i64 d.2.2::U 40 ([]), [.tok]⟩
def BS {R:Type} (K:Ex→St→Option R) (q0:List Token) (q1:Int) (q2:Int):Option R:=K (.ret) ⟨U 2 (.sl .token q0 (.own 0) :: .int .i64 q1 :: .int .i64 q2::U 40 ([])), [.tok]⟩
def BT {R:Type} (K:Ex→St→Option R) (q0:Int) (q1:Int):Option R:=K (.ret) ⟨U 2 (.cV :: .int .i64 q0 :: .int .i64 q1::U 40 ([])), []⟩
def Dc {R:Type} (gb:pN R) (cv:jA R) (K:Ex→St→Option R) (rc:lQ→Option R) (d:lQ):Option R:=Db gb cv (fun z0 z1 z2=>rc (z0,z1,z2)) d.1 d.2.1 d.2.2 (BS K) (BT K)
def qa {R:Type} (K:Ex→St→Option R) (n:Nat) (d:lQ):Option R:=cM n d.1 d.2.1 d.2.2 (BS K) (BT K)
abbrev lR:List bE := .leaf (.str) :: .leaf (.undef) :: .leaf (.Vt .token 0) :: .leaf (.undef) :: .leaf (.int .i64)::PU 40 ([])
abbrev lS:List aA := [.tok]
def Dd (x:bE.au lR) (y:aA.au lS):Nat:=(List.length x.1+List.length x.2.2.1+Int.natAbs x.2.2.2.2.1+64)
def De (x:bE.au lR) (y:aA.au lS):lQ:=(x.1,x.2.2.1,x.2.2.2.2.1)
def BU {R:Type} (L:oR R):bE.au lR→aA.au lS→(Ex→St→Option R)→Option R:=fun x y K=>L (Dd x y) x.1 x.2.2.1 x.2.2.2.2.1 (BS K) (BT K)
def BV (R:Type) (cM:oR R):Nat→Option (Hint × dC R):=fun i=>match i with
 | 3=>some (xq,(dx lR lS (BU cM) j7))
 | _=>none
theorem M1 {R:Type} (gb:pN R) (cv:jA R) (cM:oR R) (K:Ex→St→Option R) (rc:St→Option R) (d:lQ):roundOf tt (dM (xp gb cv)) (BV R cM) 0 ((aT (aI Tryz.f25)).getD 0 .skip) xq (uD d) rc K=Dc gb cv K (fun d=>rc (uD d)) d:=by kernel_rfl
theorem KR {R:Type} (K:Ex→St→Option R) (n:Nat) (d:lQ):qa K (n+1) d=Dc gb cv K (qa K n) d:=by kernel_rfl
theorem KS {R:Type} (K:Ex→St→Option R) (d:lQ):qa K 0 d=none:=by kernel_rfl
theorem M3 (x:bE.au lR) (y:aA.au lS):(⟨bE.eD lR x,aA.eD lS y⟩:St)=uD (De x y):=by kernel_rfl
theorem M4 {R:Type} (x:bE.au lR) (y:aA.au lS) (K:Ex→St→Option R):BU (cM) x y K=qa K (Dd x y) (De x y):=by kernel_rfl
theorem P2 {R:Type} (other:dC R) (ho:jt tt (dM (xp gb cv)) (BV R cM) 0 ((aT (aI Tryz.f25)).getD 0 .skip) xq other):jt tt (dM (xp gb cv)) (BV R cM) 0 ((aT (aI Tryz.f25)).getD 0 .skip) xq (dx lR lS (BU (cM)) other) :=
 dL (A:=qa) ho (fw uD (Dc gb cv) (qa) (KS) (M1 gb cv cM) (KR)) Dd De M3 (M4)
def Fh {R:Type} (cM:oR R) (x1:ah) (k0:(List Token)→Int→Int→Option R):Option R :=
 bif (decide ((x1.length:Int)>(20000:Int)))then (k0 ([]:List Token) 30 0)else (cM (List.length x1+List.length ([]:List Token)+Int.natAbs 0+64) x1 ([]:List Token) 0 (fun y8 y9 rI=>k0 y8 y9 rI) (fun rq qV=>k0 ([]:List Token) rq qV))
def mJ {R:Type}:vq R:=fun x1 k0=>Fh cM x1 k0
theorem V2 {R:Type} (gb:pN R) (cv:jA R) (cM:oR R):gS (R:=R) tt (xp gb cv) (BV R cM) false Tryz.f25 (aI Tryz.f25) Jy Jz (NH (Fh cM)):=fun x y k=>by kernel_rfl
theorem Rc (R:Type):∀a∈aT (aI Tryz.f25),jn tt (dM (xp gb cv)) (BV R cM) 0 a:=by
 refine gR 1 (by kernel_rfl) fun i hi => ?_
 match i,hi with
 | 0,_=>exact cW (by kernel_rfl) (P2 _ eN)
 | n+1,hi=>omega
theorem SI (R:Type):sM Tryz.prog 25 (P1 (mJ (R:=R))):=cC TT mixed (UW (R:=R)) rfl rfl rfl rfl (Rc R) (V2 gb cv cM)
/-! ### (*humpyard/json.parser).fail -/
abbrev bZ (R:Type):Type:=Int→(List Token)→Int→((List Token)→Int→Option R)→Option R
abbrev tA:List bE := [.leaf (.ptr 0 0), .leaf (.int .i64)]
abbrev tB:List aA := [.cells [.sl .token, .int .i64]]
def yY {R:Type} (fn:bZ R):bE.au tA→aA.au tB→(V→aO→Option R)→Option R:=fun x y k=>fn x.2.1 y.1.1 y.1.2.1 (fun q0 q1=>k (.tuple []) [.cells [.sl .token q0 .no, .int .i64 q1]])
def lT {R:Type} (fn:bZ R):aG.Spec R→aG.Spec R:=bm tA tB (yY fn)
def AH {R:Type} (x1:Int) (x2:List Token) (x3:Int) (k0:(List Token)→Int→Option R):Option R :=
 bif (x3==0)then (k0 x2 x1)else (k0 x2 x3)
def ao {R:Type}:bZ R:=fun x1 x2 x3 k0=>AH x1 x2 x3 k0
theorem Hq {R:Type}:gS (R:=R) (tt.mode [.json]) [] Ca false Tryz.f43 (aI Tryz.f43) tA tB (yY AH):=fun x y k=>by kernel_rfl
theorem mK (R:Type):sM Tryz.prog 43 (lT (ao (R:=R))):=cC (TT.mode [.json]) mixed .n rfl rfl rfl rfl eS (Hq)
/-! ### (*humpyard/json.parser).sign -/
abbrev dv (R:Type):Type:=ah→(List Token)→Int→(Bool→(List Token)→Int→Option R)→Option R
abbrev tC:List bE := [.leaf (.ptr 0 0), .leaf (.str)]
abbrev tD:List aA := [.cells [.sl .token, .int .i64]]
def yZ {R:Type} (fn:dv R):bE.au tC→aA.au tD→(V→aO→Option R)→Option R:=fun x y k=>fn x.2.1 y.1.1 y.1.2.1 (fun q0 q1 q2=>k (.bool q0) [.cells [.sl .token q1 .no, .int .i64 q2]])
def tE {R:Type} (fn:dv R):aG.Spec R→aG.Spec R:=bm tC tD (yZ fn)
def AI {R:Type} (x1:ah) (x2:List Token) (x3:Int) (k0:Bool→(List Token)→Int→Option R):Option R :=
 cu (decide ((0:Int)<x2.length)) (bif (x3 != 0)then (k0 false x2 x3)else (bif ((x2.getD 0 (Ty.bU .token)).kind != 1)then (k0 false x2 x3)else (bif (!((x2.getD 0 (Ty.bU .token)).text==x1))then (k0 false x2 x3)else (cu (decide ((1:Int)≤x2.length)) (k0 true (x2.drop 1) x3)))))
def aw {R:Type}:dv R:=fun x1 x2 x3 k0=>AI x1 x2 x3 k0
theorem Hr {R:Type}:gS (R:=R) (tt.mode [.json]) [] Ca false Tryz.f122 (aI Tryz.f122) tC tD (yZ AI):=fun x y k=>by kernel_rfl
theorem wR (R:Type):sM Tryz.prog 122 (tE (aw (R:=R))):=cC (TT.mode [.json]) mixed .n rfl rfl rfl rfl eS (Hr)
/-! ### slices.Index[[]string,string] -/
abbrev gp (R:Type):Type:=(List ah)→ah→(Int→Option R)→Option R
abbrev pv:List bE := [.leaf (.sl .str), .leaf (.str)]
abbrev pw:List aA := []
def ve {R:Type} (fn:gp R):bE.au pv→aA.au pw→(V→aO→Option R)→Option R:=fun x y k=>fn x.1 x.2.1 (fun q0=>k (.int .i64 q0) [])
def vR {R:Type} (fn:gp R):aG.Spec R→aG.Spec R:=bm pv pw (ve fn)
abbrev fE (R:Type):Type:=Nat→(List ah)→ah→Int→Int→(Option R)→(Int→Option R)→Option R
def jv {R:Type} (dq:(List ah)→ah→Int→Int→Option R) (x3:List ah) (x4:ah) (x5:Int) (x6:Int) (e0:Option R) (e1:Int→Option R):Option R :=
 bif (decide (x6<x5))then (cu (decide ((0:Int)≤x6)&&decide (x6<x3.length)) (bif (x4==(x3.getD x6.toNat (Ty.bU .str)))then (e1 x6)else (dq x3 x4 x5 (IntKind.i64.wrap (x6+1)))))else (e0)
def bk {R:Type}:fE R
 | 0,_,_,_,_,_,_=>none
 | n+1,hY,hZ,iB,ql,e0,e1=>jv (fun hY hZ iB ql=>bk n hY hZ iB ql e0 e1) hY hZ iB ql e0 e1
def jx:Hint := { live := [0,1,7,8],own := [],rows := [],cells := [],drop := [],out := [4] }
abbrev dS:Type:=(List ah) × ah × Int × Int
def iK:dS→St:=fun d=>⟨.sl .str d.1 .no :: .str d.2.1::U 5 (.int .i64 d.2.2.1 :: .int .i64 d.2.2.2::U 10 ([])), []⟩
def mL {R:Type} (K:Ex→St→Option R):Option R:=K (.exit 0) ⟨U 19 ([]), []⟩
def mM {R:Type} (K:Ex→St→Option R) (q0:Int):Option R:=K (.ret) ⟨U 4 (.int .i64 q0::U 14 ([])), []⟩
def nq {R:Type} (K:Ex→St→Option R) (rc:dS→Option R) (d:dS):Option R:=jv (fun z0 z1 z2 z3=>rc (z0,z1,z2,z3)) d.1 d.2.1 d.2.2.1 d.2.2.2 (mL K) (mM K)
def fQ {R:Type} (K:Ex→St→Option R) (n:Nat) (d:dS):Option R:=bk n d.1 d.2.1 d.2.2.1 d.2.2.2 (mL K) (mM K)
abbrev dT:List bE := .leaf (.sl .str) :: .leaf (.str)::PU 5 (.leaf (.int .i64) :: .leaf (.int .i64)::PU 10 ([]))
abbrev dU:List aA := []
def nr (x:bE.au dT) (y:aA.au dU):Nat:=(List.length x.1+List.length x.2.1+Int.natAbs x.2.2.2.2.2.2.2.1+Int.natAbs x.2.2.2.2.2.2.2.2.1+64)
def nt (x:bE.au dT) (y:aA.au dU):dS:=(x.1,x.2.1,x.2.2.2.2.2.2.2.1,x.2.2.2.2.2.2.2.2.1)
def mN {R:Type} (L:fE R):bE.au dT→aA.au dU→(Ex→St→Option R)→Option R:=fun x y K=>L (nr x y) x.1 x.2.1 x.2.2.2.2.2.2.2.1 x.2.2.2.2.2.2.2.2.1 (mL K) (mM K)
def jh (R:Type) (bk:fE R):Nat→Option (Hint × dC R):=fun i=>match i with
 | 2=>some (jx,(dx dT dU (mN bk) j7))
 | _=>none
theorem As {R:Type} (bk:fE R) (K:Ex→St→Option R) (rc:St→Option R) (d:dS):roundOf tt (dM []) (jh R bk) 0 ((aT (aI Tryz.f142)).getD 0 .skip) jx (iK d) rc K=nq K (fun d=>rc (iK d)) d:=by kernel_rfl
theorem yC {R:Type} (K:Ex→St→Option R) (n:Nat) (d:dS):fQ K (n+1) d=nq K (fQ K n) d:=by kernel_rfl
theorem yD {R:Type} (K:Ex→St→Option R) (d:dS):fQ K 0 d=none:=by kernel_rfl
theorem Au (x:bE.au dT) (y:aA.au dU):(⟨bE.eD dT x,aA.eD dU y⟩:St)=iK (nt x y):=by kernel_rfl
theorem Av {R:Type} (x:bE.au dT) (y:aA.au dU) (K:Ex→St→Option R):mN (bk) x y K=fQ K (nr x y) (nt x y):=by kernel_rfl
theorem BW {R:Type} (other:dC R) (ho:jt tt (dM []) (jh R bk) 0 ((aT (aI Tryz.f142)).getD 0 .skip) jx other):jt tt (dM []) (jh R bk) 0 ((aT (aI Tryz.f142)).getD 0 .skip) jx (dx dT dU (mN (bk)) other) :=
 dL (A:=fQ) ho (fw iK (nq) (fQ) (yD) (As bk) (yC)) nr nt Au (Av)
def vS {R:Type} (bk:fE R) (x1:List ah) (x2:ah) (k0:Int→Option R):Option R :=
 bk (List.length x1+List.length x2+Int.natAbs (x1.length:Int)+Int.natAbs 0+64) x1 x2 (x1.length:Int) 0 (k0 (-1)) (fun y7=>k0 y7)
def dD {R:Type}:gp R:=fun x1 x2 k0=>vS bk x1 x2 k0
theorem Ew {R:Type} (bk:fE R):gS (R:=R) tt [] (jh R bk) false Tryz.f142 (aI Tryz.f142) pv pw (ve (vS bk)):=fun x y k=>by kernel_rfl
theorem Cg (R:Type):∀a∈aT (aI Tryz.f142),jn tt (dM []) (jh R bk) 0 a:=by
 refine gR 1 (by kernel_rfl) fun i hi => ?_
 match i,hi with
 | 0,_=>exact cW (by kernel_rfl) (BW _ eN)
 | n+1,hi=>omega
theorem Df (R:Type):sM Tryz.prog 142 (vR (dD (R:=R))):=cC TT mixed .n rfl rfl rfl rfl (Cg R) (Ew bk)
/-! ### slices.Contains[[]string,string] -/
abbrev fR (R:Type):Type:=(List ah)→ah→(Bool→Option R)→Option R
abbrev n0:List bE := [.leaf (.sl .str), .leaf (.str)]
abbrev n7:List aA := []
def sS {R:Type} (fn:fR R):bE.au n0→aA.au n7→(V→aO→Option R)→Option R:=fun x y k=>fn x.1 x.2.1 (fun q0=>k (.bool q0) [])
def tF {R:Type} (fn:fR R):aG.Spec R→aG.Spec R:=bm n0 n7 (sS fn)
def tG {R:Type} (dD:gp R):List (wv R) := [(142,true,(vR dD bb))]
theorem BX {R:Type}:ff (R:=R) Tryz.prog (tG dD) := .p (Df R _ (aM _)) <| .n
def tH {R:Type} (dD:gp R) (x1:List ah) (x2:ah) (k0:Bool→Option R):Option R :=
 dD x1 x2 (fun y3=>k0 (decide (y3≥(0:Int))))
def ct {R:Type}:fR R:=fun x1 x2 k0=>tH dD x1 x2 k0
theorem Ch {R:Type} (dD:gp R):gS (R:=R) tt (tG dD) Ca false Tryz.f123 (aI Tryz.f123) n0 n7 (sS (tH dD)):=fun x y k=>by kernel_rfl
theorem AZ (R:Type):sM Tryz.prog 123 (tF (ct (R:=R))):=cC TT mixed (BX (R:=R)) rfl rfl rfl rfl eS (Ch dD)
/-! ### (*humpyard/json.parser).name -/
abbrev iM (R:Type):Type:=(List ah)→(List Token)→Int→(ah→(List Token)→Int→Option R)→Option R
abbrev tI:List bE := [.leaf (.ptr 0 0), .leaf (.Vt .str 1)]
abbrev tJ:List aA := [.cells [.sl .token, .int .i64], .tok]
def za {R:Type} (fn:iM R):bE.au tI→aA.au tJ→(V→aO→Option R)→Option R:=fun x y k=>fn x.2.1 y.1.1 y.1.2.1 (fun q0 q1 q2=>k (.str q0) [.cells [.sl .token q1 .no, .int .i64 q2], .tok])
def AJ {R:Type} (fn:iM R):aG.Spec R→aG.Spec R:=bm tI tJ (za fn)
def AK {R:Type} (ao:bZ R) (aw:dv R) (ct:fR R):List (wv R) := [(43,false,(lT ao bb)),(122,false,(tE aw bb)),(123,true,(tF ct bb))]
theorem Gt {R:Type}:ff (R:=R) Tryz.prog (AK ao aw ct) := .f (mK R _ (aM _)) rfl <| .f (wR R _ (aM _)) rfl <| .p (AZ R _ (aM _)) <| .n
def AL {R:Type} (ao:bZ R) (aw:dv R) (ct:fR R) (x1:List ah) (x2:List Token) (x3:Int) (k0:ah→(List Token)→Int→Option R):Option R :=
 cu (decide ((0:Int)<x2.length)) (bif ((x2.getD 0 (Ty.bU .token)).kind != 2)then (ao 40 x2 x3 (fun y4 y5=>k0 ((x2.getD 0 (Ty.bU .token)).text) y4 y5))else (ct x1 ((x2.getD 0 (Ty.bU .token)).text) (fun y6=>bif y6 then (ao 42 x2 x3 (fun y7 y8=>k0 ((x2.getD 0 (Ty.bU .token)).text) y7 y8))else (cu (decide ((1:Int)≤x2.length)) (aw ([58]:ah) (x2.drop 1) x3 (fun y9 rI rq=>bif (!y9)then (ao 40 rI rq (fun qV G8=>k0 ((x2.getD 0 (Ty.bU .token)).text) qV G8))else (k0 ((x2.getD 0 (Ty.bU .token)).text) rI rq)))))))
def dd {R:Type}:iM R:=fun x1 x2 x3 k0=>AL ao aw ct x1 x2 x3 k0
theorem Hs {R:Type} (ao:bZ R) (aw:dv R) (ct:fR R):gS (R:=R) (tt.mode [.json]) (AK ao aw ct) Ca false Tryz.f90 (aI Tryz.f90) tI tJ (za (AL ao aw ct)):=fun x y k=>by kernel_rfl
theorem F5 (R:Type):sM Tryz.prog 90 (AJ (dd (R:=R))):=cC (TT.mode [.json]) mixed (Gt (R:=R)) rfl rfl rfl rfl eS (Hs ao aw ct)
end Go.Proofs.YtmlkkgfenfdndaaGreatDoor
set_option maxRecDepth 100000
namespace Go.Proofs.YtmlkkgfenfdndaaGreatDoor
open Go Go.aG Go.Lib
theorem xr (p:UInt8→Bool) (s:ah):(s.takeWhile p).length+(s.dropWhile p).length=s.length:=by
 have:=congrArg List.length (List.takeWhile_append_dropWhile (p:=p) (l:=s))
 rwa [List.length_append]at this
theorem take_tw (p:UInt8→Bool) (s:ah):s.take (s.takeWhile p).length=s.takeWhile p:=by
 have:=List.take_left (l₁:=s.takeWhile p) (l₂:=s.dropWhile p)
 rwa [List.takeWhile_append_dropWhile]at this
theorem drop_tw (p:UInt8→Bool) (s:ah):s.drop (s.takeWhile p).length=s.dropWhile p:=by
 have:=List.drop_left (l₁:=s.takeWhile p) (l₂:=s.dropWhile p)
 rwa [List.takeWhile_append_dropWhile]at this
theorem UX {R:Type} (s cs:ah) (hs:s.length≤4000000000) (h1:xC cs=true) (h2:cs.length<4294967281) (k:ah→Option R):cv s cs k=k (s.takeWhile (cs.contains ·)):=by
 have e:cv s cs k=Dv s cs k:=rfl
 rw[e]
 unfold Dv
 have hl:=xr (cs.contains ·) s
 have ht:(bB s cs).length=(s.dropWhile (cs.contains ·)).length:=rfl
 have hw:IntKind.i64.wrap ((s.length:Int) - ((bB s cs).length:Int))=((s.takeWhile (cs.contains ·)).length:Int):=by rw[ht,bw (by omega) (by omega)]; omega
 rw[hw,h1,aS (by rw[aB h2]; rfl),aS (by rw[aB (by omega),aB (by omega)]; rfl),aS (aB (by omega)),List.drop_zero,Nat.sub_zero,Int.toNat_natCast,take_tw]
theorem sign_has (c:UInt8):decide (Dt sigS (c.toNat:Int)≥0)=Ic c:=by
 have hi:Dt sigS (c.toNat:Int)=Go.Lib.indexByte sigS c:=by
  unfold Dt
  rw[Int.toNat_natCast]
  simp
 have h:=Tb c sigS
 rw[hi]
 unfold Ic
 cases hc:sigS.contains c with
 | true =>
  apply aB
  have:¬Go.Lib.indexByte sigS c<0:=fun g=>by rw[h.1 g]at hc; cases hc
  omega
 | false =>
  apply aV
  have:=h.2 hc
  omega
theorem next_ok {R:Type} (s:ah) (hs:s.length≤4000000000) (h0:s ≠ []) (k:Token→Int→Option R) :
  gb s k=match tokS s with|some (t,r)=>k t ((s.length - r.length:Nat):Int)|none=>k ⟨0, [],⟨0,0⟩,0⟩ 0:=by
 have e:gb s k=E7 fV eL cv s k:=rfl
 rw[e]
 unfold E7
 cases s with
 | nil=>exact (h0 rfl).elim
 | cons c u =>
  have hlen:(c::u:ah).length=u.length+1:=rfl
  have hg:(c::u:ah).getD 0 0=c:=rfl
  simp only[List.length_cons]at hs
  rw[hg,aS (aB (by rw[hlen]; omega))]
  simp only
  have q45:((c.toNat:Int)==45)=decide (c.toNat=45):=Q2 _ 45
  have q34:((c.toNat:Int)==34)=decide (c.toNat=34):=Q2 _ 34
  have l48:decide ((c.toNat:Int)≥48)=decide (48≤c.toNat):=by
   by_cases h:48≤c.toNat
   ·rw[aB h,aB (by omega)]
   ·rw[aV h,aV (by omega)]
  have l57:decide ((c.toNat:Int)≤57)=decide (c.toNat≤57):=by
   by_cases h:c.toNat≤57
   ·rw[aB h,aB (by omega)]
   ·rw[aV h,aV (by omega)]
  have hsg:decide (Dt ([123,125,91,93,44,58]:ah) (c.toNat:Int)≥0)=Ic c:=sign_has c
  have kY:∀p:UInt8→Bool,((c::u).takeWhile p).length≤(c::u).length:=fun p=>by have:=xr p (c::u); omega
  have num:∀k:Token→Int→Option R,cv (c::u) ([48,49,50,51,52,53,54,55,56,57,43,45,46,101,69]:ah) (fun y6=>eL y6 (fun y7 y8=>bif (!y8)then (k (⟨0,([]:ah),⟨0,0⟩,0⟩:Token) 0)else (k (⟨3,y6,⟨y7.aF,y7.exp⟩,0⟩:Token) (y6.length:Int)))) =
    (if (qY ((c::u).takeWhile sD)).2 then k ⟨3,(c::u).takeWhile sD,(qY ((c::u).takeWhile sD)).1,0⟩ (((c::u).length - ((c::u).dropWhile sD).length:Nat):Int)else k ⟨0, [],⟨0,0⟩,0⟩ 0):=fun k=>by
   rw[UX _ _ (by rw[hlen]; omega) rfl (by decide)]
   have e:(c::u).takeWhile (fun x=>List.contains [48,49,50,51,52,53,54,55,56,57,43,45,46,101,69] x)=(c::u).takeWhile sD:=rfl
   have hl:=kY sD
   have hd:=xr sD (c::u)
   rw[e,WY _ (by omega)]
   have el:(c::u).length - ((c::u).dropWhile sD).length=((c::u).takeWhile sD).length:=by omega
   rw[el]
   cases (qY ((c::u).takeWhile sD)).2 <;> rfl
  have txt:∀k:Token→Int→Option R,fV (c::u) (fun DM HF Iv=>bif (!Iv)then (k (⟨0,([]:ah),⟨0,0⟩,0⟩:Token) 0)else (k (⟨2,DM,⟨0,0⟩,0⟩:Token) HF)) =
    match Z4 (c::u)with|some (o,r)=>k ⟨2,o,⟨0,0⟩,0⟩ (((c::u).length - r.length:Nat):Int)|none=>k ⟨0, [],⟨0,0⟩,0⟩ 0:=fun k=>by
   rw[unquote_ok _ (by rw[hlen]; omega)]
   cases hu:Z4 (c::u)with
   | none=>rfl
   | some p =>
    obtain ⟨o,r⟩:=p
    obtain ⟨_,hr,_⟩:=Yq hu
    simp only[Bool.not_true,cond_false]
    rw[bw (by omega) (by omega)]
    congr 1
    omega
  have nam:∀k:Token→Int→Option R,cv (c::u) ([97,98,99,100,101,102,103,104,105,106,107,108,109,110,111,112,113,114,115,116,117,118,119,120,121,122]:ah) (fun CK=>bif (CK==([116,114,117,101]:ah))then (k (⟨4,CK,⟨0,0⟩,0⟩:Token) (CK.length:Int))else (bif (CK==([102,97,108,115,101]:ah))then (k (⟨4,CK,⟨0,0⟩,0⟩:Token) (CK.length:Int))else (bif (!(CK==([110,117,108,108]:ah)))then (k (⟨0,([]:ah),⟨0,0⟩,0⟩:Token) 0)else (k (⟨4,CK,⟨0,0⟩,0⟩:Token) (CK.length:Int))))) =
    (if (c::u).takeWhile pr=AG∨(c::u).takeWhile pr=o4∨(c::u).takeWhile pr=va then k ⟨4,(c::u).takeWhile pr,⟨0,0⟩,0⟩ (((c::u).length - ((c::u).dropWhile pr).length:Nat):Int)else k ⟨0, [],⟨0,0⟩,0⟩ 0):=fun k=>by
   rw[UX _ _ (by rw[hlen]; omega) rfl (by decide)]
   have e:(c::u).takeWhile (fun x=>List.contains [97,98,99,100,101,102,103,104,105,106,107,108,109,110,111,112,113,114,115,116,117,118,119,120,121,122] x)=(c::u).takeWhile pr:=rfl
   have hd:=xr pr (c::u)
   have el:(c::u).length - ((c::u).dropWhile pr).length=((c::u).takeWhile pr).length:=by omega
   rw[e,el]
   generalize (c::u).takeWhile pr=w
   have eq:∀a:ah,(w==a)=decide (w=a):=fun a=>by
    by_cases h:w=a
    ·rw[aB h]; exact beq_iff_eq.2 h
    ·rw[aV h]; exact beq_eq_false_iff_ne.2 h
   rw[eq,eq,eq]
   by_cases h1:w=AG
   ·rw[aB (show w = [116,114,117,101]from h1),if_pos (.inl h1)]; rfl
   ·by_cases h2:w=o4
    ·rw[aV (show ¬w = [116,114,117,101]from h1),aB (show w = [102,97,108,115,101]from h2),if_pos (.inr (.inl h2))]; rfl
    ·by_cases h3:w=va
     ·rw[aV (show ¬w = [116,114,117,101]from h1),aV (show ¬w = [102,97,108,115,101]from h2),aB (show w = [110,117,108,108]from h3),if_pos (.inr (.inr h3))]; rfl
     ·rw[aV (show ¬w = [116,114,117,101]from h1),aV (show ¬w = [102,97,108,115,101]from h2),aV (show ¬w = [110,117,108,108]from h3),if_neg (by rintro (h|h|h); exact h1 h; exact h2 h; exact h3 h)]; rfl
  have sgn1:∀k:Token→Int→Option R,cu (decide ((1:Int)≤((c::u:ah).length:Int))) (k (⟨1,(((c::u:ah).drop 0).take (1 - 0)),⟨0,0⟩,0⟩:Token) 1)=k ⟨1, [c],⟨0,0⟩,0⟩ (((c::u).length - u.length:Nat):Int):=fun k=>by
   have e1:(c::u).length - u.length=1:=by rw[hlen]; omega
   rw[aS (aB (by rw[hlen]; omega)),e1]
   rfl
  simp only[tokS]
  rw[q45,q34,l48,l57,hsg]
  by_cases h45:c.toNat=45
  ·rw[aB h45,cond_true,if_pos (.inl h45)]
   refine (num k).trans ?_
   split <;> rfl
  ·rw[aV h45,cond_false]
   have rest:¬(48≤c.toNat∧c.toNat≤57)→(bif decide (c.toNat=34)then fV (c::u) (fun DM HF Iv=>bif (!Iv)then (k (⟨0,([]:ah),⟨0,0⟩,0⟩:Token) 0)else (k (⟨2,DM,⟨0,0⟩,0⟩:Token) HF))else (bif Ic c then cu (decide ((1:Int)≤((c::u:ah).length:Int))) (k (⟨1,(((c::u:ah).drop 0).take (1 - 0)),⟨0,0⟩,0⟩:Token) 1)else cv (c::u) ([97,98,99,100,101,102,103,104,105,106,107,108,109,110,111,112,113,114,115,116,117,118,119,120,121,122]:ah) (fun CK=>bif (CK==([116,114,117,101]:ah))then (k (⟨4,CK,⟨0,0⟩,0⟩:Token) (CK.length:Int))else (bif (CK==([102,97,108,115,101]:ah))then (k (⟨4,CK,⟨0,0⟩,0⟩:Token) (CK.length:Int))else (bif (!(CK==([110,117,108,108]:ah)))then (k (⟨0,([]:ah),⟨0,0⟩,0⟩:Token) 0)else (k (⟨4,CK,⟨0,0⟩,0⟩:Token) (CK.length:Int))))))) =
     match (if c.toNat=45∨(48≤c.toNat∧c.toNat≤57)then (if (qY ((c::u).takeWhile sD)).2 then some (⟨3,(c::u).takeWhile sD,(qY ((c::u).takeWhile sD)).1,0⟩,(c::u).dropWhile sD)else none)else if c.toNat=34 then (match Z4 (c::u)with|some (o,r)=>some (⟨2,o,⟨0,0⟩,0⟩,r)|none=>none)else if Ic c then some ((⟨1, [c],⟨0,0⟩,0⟩:Token),u)else if (c::u).takeWhile pr=AG∨(c::u).takeWhile pr=o4∨(c::u).takeWhile pr=va then some (⟨4,(c::u).takeWhile pr,⟨0,0⟩,0⟩,(c::u).dropWhile pr)else none)with
     | some (t,r)=>k t (((c::u).length - r.length:Nat):Int)|none=>k ⟨0, [],⟨0,0⟩,0⟩ 0:=by
    intro hd
    rw[if_neg (by rintro (h|h); exact h45 h; exact hd h)]
    by_cases J4:c.toNat=34
    ·rw[aB J4,cond_true,if_pos J4,txt]
     cases Z4 (c::u)with
     | none=>rfl
     | some p=>rfl
    ·rw[aV J4,cond_false,if_neg J4]
     cases hs':Ic c with
     | true=>rw[cond_true,sgn1,if_pos rfl]
     | false =>
      rw[cond_false,nam,if_neg (show ¬(false=true) by simp)]
      split <;> rfl
   by_cases Yc:48≤c.toNat
   ·rw[aB Yc,cond_true]
    by_cases h57:c.toNat≤57
    ·rw[aB h57,cond_true,if_pos (.inr ⟨Yc,h57⟩)]
     refine (num k).trans ?_
     split <;> rfl
    ·rw[aV h57,cond_false]
     exact rest (fun h=>h57 h.2)
   ·rw[aV Yc,cond_false]
    exact rest (fun h=>Yc h.1)
theorem scan_loop {R:Type} (s:ah) (hs:s.length≤20000) (e0:List Token→Int→Int→Option R) (e1:Int→Int→Option R) (hz:∀a b,e0 [] a b=e1 a b):∀(n p:Nat) (out:List Token),s.length - p<n→p≤s.length→out.length≤p →
  cM n s out (p:Int) e0 e1=e0 (r4 n p (s.drop p) out).1 (r4 n p (s.drop p) out).2.1 (r4 n p (s.drop p) out).2.2:=by
 intro n
 induction n with
 | zero=>intro p out h; omega
 | succ n ih =>
  intro p out h1 h2 h3
  rw[cM]
  unfold Db
  have hsub:∀q:Nat,(s.drop q).take ((s.length:Int).toNat - q)=s.drop q:=fun q=>List.take_of_length_le (by rw[List.length_drop,Int.toNat_natCast]; exact Nat.le_refl _)
  have hl:=xr qJ (s.drop p)
  rw[List.length_drop]at hl
  have hdl:(s.drop p).length=s.length - p:=List.length_drop
  rw[aS (by rw[aB (by omega),aB (by omega)]; rfl),aS (by rw[aB (by omega),aB (by omega)]; rfl),Int.toNat_natCast p,hsub,UX _ _ (by omega) rfl (by decide)]
  have eb:(s.drop p).takeWhile (fun x=>List.contains [32,9,10,13] x)=(s.drop p).takeWhile qJ:=rfl
  rw[eb]
  have hdd:s.drop (p+((s.drop p).takeWhile qJ).length)=(s.drop p).dropWhile qJ:=by rw[←drop_tw qJ (s.drop p),List.drop_drop]
  have hw:IntKind.i64.wrap ((p:Int)+(((s.drop p).takeWhile qJ).length:Int))=((p+((s.drop p).takeWhile qJ).length:Nat):Int):=by rw[bw (by omega) (by omega)]; omega
  rw[hw]
  simp only[r4]
  generalize hq:p+((s.drop p).takeWhile qJ).length=q at *
  by_cases P3:(s.drop p).dropWhile qJ = []
  ·have hqe:q=s.length:=by rw[P3]at hl; simp at hl; omega
   have e1':(((q:Nat):Int)==(s.length:Int))=true:=by rw[hqe]; simp
   rw[e1',cond_true,aS (aB (by omega)),if_pos P3]
  ·have N0:0<((s.drop p).dropWhile qJ).length:=List.length_pos_iff.2 P3
   have e1':(((q:Nat):Int)==(s.length:Int))=false:=by rw[beq_eq_false_iff_ne]; omega
   rw[e1',cond_false,aS (by rw[aB (by omega),aB (by omega)]; rfl),aS (by rw[aB (by omega),aB (by omega)]; rfl),Int.toNat_natCast q,hsub,hdd,next_ok _ (by omega) P3,if_neg P3]
   cases ht:tokS ((s.drop p).dropWhile qJ)with
   | none =>
    have e0':((0:Int)==0)=true:=rfl
    simp only
    rw[e0',cond_true,hz]
   | some x =>
    obtain ⟨t,r⟩:=x
    obtain ⟨f1,f2⟩:=tokS_sfx ht
    have hn:((((s.drop p).dropWhile qJ).length - r.length:Nat):Int)≠0:=by omega
    simp only
    rw[beq_eq_false_iff_ne.2 hn,cond_false,aS (aB (by omega))]
    have hq2:IntKind.i64.wrap (((q:Nat):Int)+((((s.drop p).dropWhile qJ).length - r.length:Nat):Int))=((p+((s.drop p).length - r.length):Nat):Int):=by rw[bw (by omega) (by omega)]; omega
    rw[hq2]
    have hr:s.drop (p+((s.drop p).length - r.length))=r:=by
     have:=aae (f1.trans (List.dropWhile_suffix qJ))
     rw[←List.drop_drop,←this]
    have key:=ih (p+((s.drop p).length - r.length)) (out ++ [Yr t ((q:Nat):Int)]) (by omega) (by omega) (by simp; omega)
    rw[hr]at key
    exact key
theorem scan_ok {R:Type} (s:ah) (k:List Token→Int→Int→Option R):mJ s k=k (nH s).1 (nH s).2.1 (nH s).2.2:=by
 have e:mJ s k=Fh cM s k:=rfl
 rw[e]
 unfold Fh nH
 by_cases h:20000<s.length
 ·rw[aB (show (s.length:Int)>20000 by omega),cond_true,if_pos h]
 ·rw[aV (show ¬(s.length:Int)>20000 by omega),cond_false,if_neg h]
  have key:=scan_loop (R:=R) s (by omega) (fun y8 y9 rI=>k y8 y9 rI) (fun rq qV=>k [] rq qV) (fun _ _=>rfl) (List.length s+List.length ([]:List Token)+Int.natAbs 0+64) 0 [] (by omega) (by omega) (by simp)
  rw[List.drop_zero,Jv _ (s.length+1) 0 s [] (by omega) (by omega)]at key
  exact key
end Go.Proofs.YtmlkkgfenfdndaaGreatDoor
/-
 Functions of the program as pure Lean functions, and the ties; printed by wip/tools/emit.py.
-/
set_option maxRecDepth 100000
namespace Go.Proofs.YtmlkkgfenfdndaaGreatDoor
open Go Go.aG
/-! ### (*humpyard/json.parser).value -/
abbrev aC (R:Type):Type:=Int→(List Token)→Int→(Json→(List Token)→Int→Option R)→Option R
abbrev cy:List bE := [.leaf (.ptr 0 0), .leaf (.int .i64)]
abbrev cz:List aA := [.cells [.sl .token, .int .i64]]
def bM {R:Type} (fn:aC R):bE.au cy→aA.au cz→(V→aO→Option R)→Option R:=fun x y k=>fn x.2.1 y.1.1 y.1.2.1 (fun q0 q1 q2=>k (.agg [.int .i64 q0.kind, .int .i64 q0.num.aF, .int .i64 q0.num.exp, .str q0.text, .sl .str q0.names .no, .sl .json q0.items .no]) [.cells [.sl .token q1 .no, .int .i64 q2]])
def zc {R:Type} (fn:aC R):aG.Spec R→aG.Spec R:=bm cy cz (bM fn)
/-! ### (*humpyard/json.parser).parts$1 -/
abbrev eZ (R:Type):Type:=Bool→Int→Int→Int→ah→(List ah)→Nat→Int→(List Json)→(List Token)→Int→(Bool→Int→Int→Int→ah→(List ah)→Nat→Int→(List Token)→Int→(List Json)→Option R)→(Bool→Int→Int→Int→ah→(List ah)→Nat→Int→(List Json)→(List Token)→Int→Option R)→(Bool→Int→Int→Int→ah→(List ah)→Nat→Int→(List Token)→Int→(List Json)→Option R)→(Bool→Int→Int→Int→ah→(List ah)→Nat→Int→(List Json)→(List Token)→Int→Option R)→Option R
abbrev qy:List bE := [.leaf (.ptr 0 0), .leaf (.ptr 1 0), .leaf (.ptr 2 0), .leaf (.ptr 3 0)]
abbrev qz:List aA := [.cells [.bool], .cells [.int .i64, .int .i64, .int .i64, .str, .Vt .str 4, .row 5], .cells [.ptr 6 0], .cells [.int .i64], .tok, .row .json, .cells [.sl .token, .int .i64]]
def vT {R:Type} (fn:eZ R):bE.au qy→aA.au qz→(V→aO→Option R)→Option R:=fun x y k=>fn y.1.1 y.2.1.1 y.2.1.2.1 y.2.1.2.2.1 y.2.1.2.2.2.1 y.2.1.2.2.2.2.1 y.2.1.2.2.2.2.2.1 y.2.2.2.1.1 y.2.2.2.2.2.1 y.2.2.2.2.2.2.1.1 y.2.2.2.2.2.2.1.2.1 (fun q0 q1 q2 q3 q4 q5 q6 q7 q8 q9 q10=>k (.tuple []) [.cells [.bool q0], .cells [.int .i64 q1, .int .i64 q2, .int .i64 q3, .str q4, .sl .str q5 (.own 7), .row 8 q6], .cells [.ptr 6 0], .cells [.int .i64 q7], .dead, .dead, .cells [.sl .token q8 .no, .int .i64 q9], .tok, .row .json q10]) (fun q0 q1 q2 q3 q4 q5 q6 q7 q8 q9 q10=>k (.tuple []) [.cells [.bool q0], .cells [.int .i64 q1, .int .i64 q2, .int .i64 q3, .str q4, .sl .str q5 (.own 7), .row 5 q6], .cells [.ptr 6 0], .cells [.int .i64 q7], .dead, .row .json q8, .cells [.sl .token q9 .no, .int .i64 q10], .tok]) (fun q0 q1 q2 q3 q4 q5 q6 q7 q8 q9 q10=>k (.tuple []) [.cells [.bool q0], .cells [.int .i64 q1, .int .i64 q2, .int .i64 q3, .str q4, .sl .str q5 (.own 4), .row 7 q6], .cells [.ptr 6 0], .cells [.int .i64 q7], .tok, .dead, .cells [.sl .token q8 .no, .int .i64 q9], .row .json q10]) (fun q0 q1 q2 q3 q4 q5 q6 q7 q8 q9 q10=>k (.tuple []) [.cells [.bool q0], .cells [.int .i64 q1, .int .i64 q2, .int .i64 q3, .str q4, .sl .str q5 (.own 4), .row 5 q6], .cells [.ptr 6 0], .cells [.int .i64 q7], .tok, .row .json q8, .cells [.sl .token q9 .no, .int .i64 q10]])
def wS {R:Type} (fn:eZ R):aG.Spec R→aG.Spec R:=bm qy qz (vT fn)
def wT {R:Type} (dd:iM R) (af:aC R):List (wv R) := [(90,false,(AJ dd bb)),(42,false,(bm cy cz (bM af) bb))]
theorem Ey {R:Type} (af:aC R) (bP:aG.Spec.Ok Tryz.prog 42 (bm cy cz (bM af) bb)):ff (R:=R) Tryz.prog (wT dd af) := .f (F5 R _ (aM _)) rfl <| .f bP rfl <| .n
def fp {R:Type} (dd:iM R) (af:aC R) (x1:Bool) (x2:Int) (x3:Int) (x4:Int) (x5:ah) (x6:List ah) (x7:Nat) (x8:Int) (x9:List Json) (x10:List Token) (x11:Int) (k0:Bool→Int→Int→Int→ah→(List ah)→Nat→Int→(List Token)→Int→(List Json)→Option R) (k1:Bool→Int→Int→Int→ah→(List ah)→Nat→Int→(List Json)→(List Token)→Int→Option R) (k2:Bool→Int→Int→Int→ah→(List ah)→Nat→Int→(List Token)→Int→(List Json)→Option R) (k3:Bool→Int→Int→Int→ah→(List ah)→Nat→Int→(List Json)→(List Token)→Int→Option R):Option R :=
 bif x1 then (dd x6 x10 x11 (fun qV G8 KZ=>cu (decide ((x6.length+1)*16≤140737488355328)) (bif (KZ==0)then (af (IntKind.i64.wrap (x8+1)) G8 KZ (fun DM HF Iv=>cu (decide ((x9.length+1)*88≤140737488355328)) (cu (decide ((0:Int)≤(x7:Int))&&decide ((x7:Int)<(x9.length+1))) (cu (decide ((x7:Int).toNat<(x9++([(⟨0,⟨0,0⟩,([]:ah),([]:List ah),([]:List Json)⟩:Json)]:List Json)).length)) (k0 x1 x2 x3 x4 x5 (x6++([qV]:List ah)) (x9.length+1) x8 HF Iv ((x9++([(⟨0,⟨0,0⟩,([]:ah),([]:List ah),([]:List Json)⟩:Json)]:List Json)).set ((x7:Int).toNat) (⟨DM.kind,⟨DM.num.aF,DM.num.exp⟩,DM.text,DM.names,DM.items⟩:Json)))))))else (k1 x1 x2 x3 x4 x5 (x6++([qV]:List ah)) x7 x8 x9 G8 KZ))))else (bif (x11==0)then (af (IntKind.i64.wrap (x8+1)) x10 x11 (fun Iu UA Nv=>cu (decide ((x9.length+1)*88≤140737488355328)) (cu (decide ((0:Int)≤(x7:Int))&&decide ((x7:Int)<(x9.length+1))) (cu (decide ((x7:Int).toNat<(x9++([(⟨0,⟨0,0⟩,([]:ah),([]:List ah),([]:List Json)⟩:Json)]:List Json)).length)) (k2 x1 x2 x3 x4 x5 x6 (x9.length+1) x8 UA Nv ((x9++([(⟨0,⟨0,0⟩,([]:ah),([]:List ah),([]:List Json)⟩:Json)]:List Json)).set ((x7:Int).toNat) (⟨Iu.kind,⟨Iu.num.aF,Iu.num.exp⟩,Iu.text,Iu.names,Iu.items⟩:Json)))))))else (k3 x1 x2 x3 x4 x5 x6 x7 x8 x9 x10 x11))
def bp {R:Type} (af:aC R):eZ R:=fun x1 x2 x3 x4 x5 x6 x7 x8 x9 x10 x11 k0 k1 k2 k3=>fp dd af x1 x2 x3 x4 x5 x6 x7 x8 x9 x10 x11 k0 k1 k2 k3
theorem Fi {R:Type} (dd:iM R) (af:aC R):gS (R:=R) (tt.mode [.json]) (wT dd af) Ca false Tryz.f89 (aI Tryz.f89) qy qz (vT (fp dd af)):=fun x y k=>by kernel_rfl
theorem D0 (R:Type) (af:aC R) (bP:aG.Spec.Ok Tryz.prog 42 (bm cy cz (bM af) bb)):sM Tryz.prog 89 (wS (bp af)):=cC (TT.mode [.json]) mixed (Ey af bP) rfl rfl rfl rfl eS (Fi dd af)
/-! ### (*humpyard/json.parser).list -/
abbrev iN (R:Type):Type:=ah→(List Token)→Int→Bool→Int→Int→Int→ah→Int→((List Token)→Int→Bool→Int→Int→Int→ah→Int→Option R)→((List Token)→Int→Bool→Int→Int→Int→ah→(List ah)→Nat→Int→(List Json)→Option R)→Option R
abbrev tK:List bE := [.leaf (.ptr 0 0), .leaf (.str), .func 89 [] [.ptr 1 0, .ptr 2 0, .ptr 3 0, .ptr 4 0]]
abbrev tL:List aA := [.cells [.sl .token, .int .i64], .cells [.bool], .cells [.int .i64, .int .i64, .int .i64, .str, .cV, .cV], .cells [.ptr 0 0], .cells [.int .i64]]
def zd {R:Type} (fn:iN R):bE.au tK→aA.au tL→(V→aO→Option R)→Option R:=fun x y k=>fn x.2.1 y.1.1 y.1.2.1 y.2.1.1 y.2.2.1.1 y.2.2.1.2.1 y.2.2.1.2.2.1 y.2.2.1.2.2.2.1 y.2.2.2.2.1.1 (fun q0 q1 q2 q3 q4 q5 q6 q7=>k (.tuple []) [.cells [.sl .token q0 .no, .int .i64 q1], .cells [.bool q2], .cells [.int .i64 q3, .int .i64 q4, .int .i64 q5, .str q6, .cV, .cV], .cells [.ptr 0 0], .cells [.int .i64 q7]]) (fun q0 q1 q2 q3 q4 q5 q6 q7 q8 q9 q10=>k (.tuple []) [.cells [.sl .token q0 .no, .int .i64 q1], .cells [.bool q2], .cells [.int .i64 q3, .int .i64 q4, .int .i64 q5, .str q6, .sl .str q7 (.own 5), .row 6 q8], .cells [.ptr 0 0], .cells [.int .i64 q9], .tok, .row .json q10])
def AM {R:Type} (fn:iN R):aG.Spec R→aG.Spec R:=bm tK tL (zd fn)
abbrev gq (R:Type):Type:=Nat→ah→(List Token)→Int→Bool→Int→Int→Int→ah→(List ah)→Nat→Int→(List Json)→((List Token)→Int→Bool→Int→Int→Int→ah→(List ah)→Nat→Int→(List Json)→Option R)→Option R
def jr {R:Type} (ao:bZ R) (bp:eZ R) (aw:dv R):List (wv R) := [(43,false,(lT ao bb)),(89,false,(wS bp bb)),(122,false,(tE aw bb))]
theorem Gu {R:Type} (af:aC R) (bP:aG.Spec.Ok Tryz.prog 42 (bm cy cz (bM af) bb)):ff (R:=R) Tryz.prog (jr ao (bp af) aw) := .f (mK R _ (aM _)) rfl <| .f (D0 R af bP _ (aM _)) rfl <| .f (wR R _ (aM _)) rfl <| .n
def px {R:Type} (ao:bZ R) (bp:eZ R) (aw:dv R) (dq:ah→(List Token)→Int→Bool→Int→Int→Int→ah→(List ah)→Nat→Int→(List Json)→Option R) (Kr:ah) (NA:List Token) (rW:Int) (wk:Bool) (nG:Int) (wb:Int) (Gg:Int) (EM:ah) (x21:List ah) (x22:Nat) (x23:Int) (x24:List Json) (e0:(List Token)→Int→Bool→Int→Int→Int→ah→(List ah)→Nat→Int→(List Json)→Option R):Option R :=
 bp wk nG wb Gg EM x21 x22 x23 x24 NA rW (fun Qk Sh D5 I8 RN Si S9 Sj Vu WS VT=>bif (WS != 0)then (e0 Vu WS Qk Sh D5 I8 RN Si S9 Sj VT)else (aw Kr Vu WS (fun y69 y70 y71=>bif y69 then (e0 y70 y71 Qk Sh D5 I8 RN Si S9 Sj VT)else (aw ([44]:ah) y70 y71 (fun y75 YM y77=>bif (!y75)then (ao 40 YM y77 (fun y78 y79=>e0 y78 y79 Qk Sh D5 I8 RN Si S9 Sj VT))else (dq Kr YM y77 Qk Sh D5 I8 RN Si S9 Sj VT)))))) (fun Sk X6 X7 YK YL y41 y42 y43 y44 y45 y46=>bif (y46 != 0)then (e0 y45 y46 Sk X6 X7 YK YL y41 y42 y43 y44)else (aw Kr y45 y46 (fun y80 y81 y82=>bif y80 then (e0 y81 y82 Sk X6 X7 YK YL y41 y42 y43 y44)else (aw ([44]:ah) y81 y82 (fun y86 y87 y88=>bif (!y86)then (ao 40 y87 y88 (fun y89 y90=>e0 y89 y90 Sk X6 X7 YK YL y41 y42 y43 y44))else (dq Kr y87 y88 Sk X6 X7 YK YL y41 y42 y43 y44)))))) (fun y47 y48 y49 y50 ZZ VV WT WU y55 y56 y57=>bif (y56 != 0)then (e0 y55 y56 y47 y48 y49 y50 ZZ VV WT WU y57)else (aw Kr y55 y56 (fun y91 y92 y93=>bif y91 then (e0 y92 y93 y47 y48 y49 y50 ZZ VV WT WU y57)else (aw ([44]:ah) y92 y93 (fun y97 y98 y99=>bif (!y97)then (ao 40 y98 y99 (fun y100 y101=>e0 y100 y101 y47 y48 y49 y50 ZZ VV WT WU y57))else (dq Kr y98 y99 y47 y48 y49 y50 ZZ VV WT WU y57)))))) (fun y58 y59 y60 y61 y62 y63 y64 y65 y66 y67 y68=>bif (y68 != 0)then (e0 y67 y68 y58 y59 y60 y61 y62 y63 y64 y65 y66)else (aw Kr y67 y68 (fun y102 y103 y104=>bif y102 then (e0 y103 y104 y58 y59 y60 y61 y62 y63 y64 y65 y66)else (aw ([44]:ah) y103 y104 (fun y108 y109 y110=>bif (!y108)then (ao 40 y109 y110 (fun y111 y112=>e0 y111 y112 y58 y59 y60 y61 y62 y63 y64 y65 y66))else (dq Kr y109 y110 y58 y59 y60 y61 y62 y63 y64 y65 y66))))))
def aR {R:Type} (af:aC R):gq R
 | 0,_,_,_,_,_,_,_,_,_,_,_,_,_=>none
 | n+1,hY,hZ,iB,ql,E3,He,Sl,Sm,Sn,So,Hf,Rd,e0=>px ao (bp af) aw (fun hY hZ iB ql E3 He Sl Sm Sn So Hf Rd=>aR af n hY hZ iB ql E3 He Sl Sm Sn So Hf Rd e0) hY hZ iB ql E3 He Sl Sm Sn So Hf Rd e0
def l7:Hint := { live := [0,1,2],own := [],rows := [],cells := [(2,4, .str,false),(2,5, .json,true)],drop := [],out := [] }
abbrev e7:Type:=ah × (List Token) × Int × Bool × Int × Int × Int × ah × (List ah) × Nat × Int × (List Json)
def kO:e7→St:=fun d=>⟨.ptr 0 0 :: .str d.1 :: .func 89 [] [.ptr 1 0, .ptr 2 0, .ptr 3 0, .ptr 4 0]::U 23 ([]), [.cells [.sl .token d.2.1 .no, .int .i64 d.2.2.1], .cells [.bool d.2.2.2.1], .cells [.int .i64 d.2.2.2.2.1, .int .i64 d.2.2.2.2.2.1, .int .i64 d.2.2.2.2.2.2.1, .str d.2.2.2.2.2.2.2.1, .sl .str d.2.2.2.2.2.2.2.2.1 (.own 5), .row 6 d.2.2.2.2.2.2.2.2.2.1], .cells [.ptr 0 0], .cells [.int .i64 d.2.2.2.2.2.2.2.2.2.2.1], .tok, .row .json d.2.2.2.2.2.2.2.2.2.2.2]⟩
def o6 {R:Type} (K:Ex→St→Option R) (q0:List Token) (q1:Int) (q2:Bool) (q3:Int) (q4:Int) (q5:Int) (q6:ah) (q7:List ah) (q8:Nat) (q9:Int) (q10:List Json):Option R:=K (.ret) ⟨U 26 ([]), [.cells [.sl .token q0 .no, .int .i64 q1], .cells [.bool q2], .cells [.int .i64 q3, .int .i64 q4, .int .i64 q5, .str q6, .sl .str q7 (.own 5), .row 6 q8], .cells [.ptr 0 0], .cells [.int .i64 q9], .tok, .row .json q10]⟩
def py {R:Type} (ao:bZ R) (bp:eZ R) (aw:dv R) (K:Ex→St→Option R) (rc:e7→Option R) (d:e7):Option R:=px ao bp aw (fun z0 z1 z2 z3 z4 z5 z6 z7 z8 z9 uO sn=>rc (z0,z1,z2,z3,z4,z5,z6,z7,z8,z9,uO,sn)) d.1 d.2.1 d.2.2.1 d.2.2.2.1 d.2.2.2.2.1 d.2.2.2.2.2.1 d.2.2.2.2.2.2.1 d.2.2.2.2.2.2.2.1 d.2.2.2.2.2.2.2.2.1 d.2.2.2.2.2.2.2.2.2.1 d.2.2.2.2.2.2.2.2.2.2.1 d.2.2.2.2.2.2.2.2.2.2.2 (o6 K)
def gQ {R:Type} (af:aC R) (K:Ex→St→Option R) (n:Nat) (d:e7):Option R:=aR af n d.1 d.2.1 d.2.2.1 d.2.2.2.1 d.2.2.2.2.1 d.2.2.2.2.2.1 d.2.2.2.2.2.2.1 d.2.2.2.2.2.2.2.1 d.2.2.2.2.2.2.2.2.1 d.2.2.2.2.2.2.2.2.2.1 d.2.2.2.2.2.2.2.2.2.2.1 d.2.2.2.2.2.2.2.2.2.2.2 (o6 K)
abbrev e9:List bE := .leaf (.ptr 0 0) :: .leaf (.str) :: .func 89 [] [.ptr 1 0, .ptr 2 0, .ptr 3 0, .ptr 4 0]::PU 23 ([])
abbrev fa:List aA := [.cells [.sl .token, .int .i64], .cells [.bool], .cells [.int .i64, .int .i64, .int .i64, .str, .Vt .str 5, .row 6], .cells [.ptr 0 0], .cells [.int .i64], .tok, .row .json]
def pz (x:bE.au e9) (y:aA.au fa):Nat:=(List.length x.2.1+List.length y.1.1+Int.natAbs y.1.2.1+Int.natAbs y.2.2.1.1+Int.natAbs y.2.2.1.2.1+Int.natAbs y.2.2.1.2.2.1+List.length y.2.2.1.2.2.2.1+List.length y.2.2.1.2.2.2.2.1+Int.natAbs y.2.2.2.2.1.1+List.length y.2.2.2.2.2.2.1+64)
def pA (x:bE.au e9) (y:aA.au fa):e7:=(x.2.1,y.1.1,y.1.2.1,y.2.1.1,y.2.2.1.1,y.2.2.1.2.1,y.2.2.1.2.2.1,y.2.2.1.2.2.2.1,y.2.2.1.2.2.2.2.1,y.2.2.1.2.2.2.2.2.1,y.2.2.2.2.1.1,y.2.2.2.2.2.2.1)
def o7 {R:Type} (L:gq R):bE.au e9→aA.au fa→(Ex→St→Option R)→Option R:=fun x y K=>L (pz x y) x.2.1 y.1.1 y.1.2.1 y.2.1.1 y.2.2.1.1 y.2.2.1.2.1 y.2.2.1.2.2.1 y.2.2.1.2.2.2.1 y.2.2.1.2.2.2.2.1 y.2.2.1.2.2.2.2.2.1 y.2.2.2.2.1.1 y.2.2.2.2.2.2.1 (o6 K)
def lU (R:Type) (aR:gq R):Nat→Option (Hint × dC R):=fun i=>match i with
 | 1=>some (l7,(dx e9 fa (o7 aR) j7))
 | _=>none
theorem Dg {R:Type} (ao:bZ R) (bp:eZ R) (aw:dv R) (aR:gq R) (K:Ex→St→Option R) (rc:St→Option R) (d:e7):roundOf (tt.mode [.json]) (dM (jr ao bp aw)) (lU R aR) 5 ((aT (aI Tryz.f88)).getD 0 .skip) l7 (kO d) rc K=py ao bp aw K (fun d=>rc (kO d)) d:=by kernel_rfl
theorem BY {R:Type} (af:aC R) (K:Ex→St→Option R) (n:Nat) (d:e7):gQ af K (n+1) d=py ao (bp af) aw K (gQ af K n) d:=by kernel_rfl
theorem BZ {R:Type} (af:aC R) (K:Ex→St→Option R) (d:e7):gQ af K 0 d=none:=by kernel_rfl
theorem Dh (x:bE.au e9) (y:aA.au fa):(⟨bE.eD e9 x,aA.eD fa y⟩:St)=kO (pA x y):=by kernel_rfl
theorem Di {R:Type} (af:aC R) (x:bE.au e9) (y:aA.au fa) (K:Ex→St→Option R):o7 (aR af) x y K=gQ af K (pz x y) (pA x y):=by kernel_rfl
theorem Ez {R:Type} (af:aC R) (other:dC R) (ho:jt (tt.mode [.json]) (dM (jr ao (bp af) aw)) (lU R (aR af)) 5 ((aT (aI Tryz.f88)).getD 0 .skip) l7 other):jt (tt.mode [.json]) (dM (jr ao (bp af) aw)) (lU R (aR af)) 5 ((aT (aI Tryz.f88)).getD 0 .skip) l7 (dx e9 fa (o7 (aR af)) other) :=
 dL (A:=gQ af) ho (fw kO (py ao (bp af) aw) (gQ af) (BZ af) (Dg ao (bp af) aw (aR af)) (BY af)) pz pA Dh (Di af)
def AN {R:Type} (aw:dv R) (aR:gq R) (x1:ah) (x2:List Token) (x3:Int) (x4:Bool) (x5:Int) (x6:Int) (x7:Int) (x8:ah) (x9:Int) (k0:(List Token)→Int→Bool→Int→Int→Int→ah→Int→Option R) (k1:(List Token)→Int→Bool→Int→Int→Int→ah→(List ah)→Nat→Int→(List Json)→Option R):Option R :=
 aw x1 x2 x3 (fun rI rq qV=>bif rI then (k0 rq qV x4 x5 x6 x7 x8 x9)else (aR (List.length x1+List.length rq+Int.natAbs qV+Int.natAbs x5+Int.natAbs x6+Int.natAbs x7+List.length x8+List.length ([]:List ah)+Int.natAbs x9+List.length ([]:List Json)+64) x1 rq qV x4 x5 x6 x7 x8 ([]:List ah) 0 x9 ([]:List Json) (fun y113 y114 y115 y116 y117 y118 y119 y120 y121 y122 y123=>k1 y113 y114 y115 y116 y117 y118 y119 y120 y121 y122 y123)))
def bY {R:Type} (af:aC R):iN R:=fun x1 x2 x3 x4 x5 x6 x7 x8 x9 k0 k1=>AN aw (aR af) x1 x2 x3 x4 x5 x6 x7 x8 x9 k0 k1
theorem Ht {R:Type} (ao:bZ R) (bp:eZ R) (aw:dv R) (aR:gq R):gS (R:=R) (tt.mode [.json]) (jr ao bp aw) (lU R aR) false Tryz.f88 (aI Tryz.f88) tK tL (zd (AN aw aR)):=fun x y k=>by kernel_rfl
theorem Fj (R:Type) (af:aC R) (bP:aG.Spec.Ok Tryz.prog 42 (bm cy cz (bM af) bb)):∀a∈aT (aI Tryz.f88),jn (tt.mode [.json]) (dM (jr ao (bp af) aw)) (lU R (aR af)) 5 a:=by
 refine gR 1 (by kernel_rfl) fun i hi => ?_
 match i,hi with
 | 0,_=>exact cW (by kernel_rfl) (Ez af _ eN)
 | n+1,hi=>omega
theorem F6 (R:Type) (af:aC R) (bP:aG.Spec.Ok Tryz.prog 42 (bm cy cz (bM af) bb)):sM Tryz.prog 88 (AM (bY af)):=cC (TT.mode [.json]) mixed (Gu af bP) rfl rfl rfl rfl (Fj R af bP) (Ht ao (bp af) aw (aR af))
/-! ### (*humpyard/json.parser).parts -/
abbrev iA (R:Type):Type:=Bool→Int→(List Token)→Int→(Json→(List Token)→Int→Option R)→Option R
abbrev sF:List bE := [.leaf (.ptr 0 0), .leaf (.bool), .leaf (.int .i64)]
abbrev sG:List aA := [.cells [.sl .token, .int .i64]]
def xJ {R:Type} (fn:iA R):bE.au sF→aA.au sG→(V→aO→Option R)→Option R:=fun x y k=>fn x.2.1 x.2.2.1 y.1.1 y.1.2.1 (fun q0 q1 q2=>k (.agg [.int .i64 q0.kind, .int .i64 q0.num.aF, .int .i64 q0.num.exp, .str q0.text, .sl .str q0.names .no, .sl .json q0.items .no]) [.cells [.sl .token q1 .no, .int .i64 q2]])
def ze {R:Type} (fn:iA R):aG.Spec R→aG.Spec R:=bm sF sG (xJ fn)
def zf {R:Type} (bY:iN R):List (wv R) := [(88,false,(AM bY bb))]
theorem F7 {R:Type} (af:aC R) (bP:aG.Spec.Ok Tryz.prog 42 (bm cy cz (bM af) bb)):ff (R:=R) Tryz.prog (zf (bY af)) := .f (F6 R af bP _ (aM _)) rfl <| .n
def zg {R:Type} (bY:iN R) (x1:Bool) (x2:Int) (x3:List Token) (x4:Int) (k0:Json→(List Token)→Int→Option R):Option R :=
 bif x1 then (bY ([125]:ah) x3 x4 x1 7 0 0 ([]:ah) x2 (fun y5 y6 y7 y8 y9 rI rq qV=>k0 (⟨y8,⟨y9,rI⟩,rq,([]:List ah),([]:List Json)⟩:Json) y5 y6) (fun G8 KZ DM HF Iv Iu UA Nv CK y22 Ya=>k0 (⟨HF,⟨Iv,Iu⟩,UA,Nv,Ya⟩:Json) G8 KZ))else (bY ([93]:ah) x3 x4 x1 6 0 0 ([]:ah) x2 (fun y24 Qk Sh D5 I8 RN Si S9=>k0 (⟨D5,⟨I8,RN⟩,Si,([]:List ah),([]:List Json)⟩:Json) y24 Qk) (fun Sj Vu WS VT Sk X6 X7 YK YL y41 y42=>k0 (⟨VT,⟨Sk,X6⟩,X7,YK,y42⟩:Json) Sj Vu))
def cO {R:Type} (af:aC R):iA R:=fun x1 x2 x3 x4 k0=>zg (bY af) x1 x2 x3 x4 k0
theorem Gv {R:Type} (bY:iN R):gS (R:=R) (tt.mode [.json]) (zf bY) Ca false Tryz.f64 (aI Tryz.f64) sF sG (xJ (zg bY)):=fun x y k=>by kernel_rfl
theorem Fk (R:Type) (af:aC R) (bP:aG.Spec.Ok Tryz.prog 42 (bm cy cz (bM af) bb)):sM Tryz.prog 64 (ze (cO af)):=cC (TT.mode [.json]) mixed (F7 af bP) rfl rfl rfl rfl eS (Gv (bY af))
def zh {R:Type} (ao:bZ R) (cO:iA R):List (wv R) := [(43,false,(lT ao bb)),(64,false,(ze cO bb))]
theorem F8 {R:Type} (af:aC R) (bP:aG.Spec.Ok Tryz.prog 42 (bm cy cz (bM af) bb)):ff (R:=R) Tryz.prog (zh ao (cO af)) := .f (mK R _ (aM _)) rfl <| .f (Fk R af bP _ (aM _)) rfl <| .n
def zi {R:Type} (ao:bZ R) (cO:iA R) (x1:Int) (x2:List Token) (x3:Int) (k0:Json→(List Token)→Int→Option R):Option R :=
 cu (decide ((0:Int)<x2.length)) (let j20:=fun (z4:Bool)=>let j19:=fun (z9:List Token) (uO:Int)=>bif (uO != 0)then (k0 (⟨0,⟨0,0⟩,([]:ah),([]:List ah),([]:List Json)⟩:Json) z9 uO)else (cu (decide ((1:Int)≤z9.length)) (let j18:=bif ((x2.getD 0 (Ty.bU .token)).kind==3)then (k0 (⟨4,⟨(x2.getD 0 (Ty.bU .token)).num.aF,(x2.getD 0 (Ty.bU .token)).num.exp⟩,([]:ah),([]:List ah),([]:List Json)⟩:Json) (z9.drop 1) uO)else (k0 (⟨5,⟨0,0⟩,(x2.getD 0 (Ty.bU .token)).text,([]:List ah),([]:List Json)⟩:Json) (z9.drop 1) uO); let j17:=fun (sn:Bool)=>bif sn then (bif ((x2.getD 0 (Ty.bU .token)).kind==1)then (cO ((x2.getD 0 (Ty.bU .token)).text==([123]:ah)) x1 (z9.drop 1) uO (fun qV G8 KZ=>k0 (⟨qV.kind,⟨qV.num.aF,qV.num.exp⟩,qV.text,qV.names,qV.items⟩:Json) G8 KZ))else (j18))else (let j16:=fun (VU:Bool)=>bif VU then (bif ((x2.getD 0 (Ty.bU .token)).kind==4)then (k0 (⟨((sf .str (.int .i64) ((x2.getD 0 (Ty.bU .token)).text) ([(([110,117,108,108]:ah),1),(([102,97,108,115,101]:ah),2),(([116,114,117,101]:ah),3)]:List (ah × Int))):Int),⟨0,0⟩,([]:ah),([]:List ah),([]:List Json)⟩:Json) (z9.drop 1) uO)else (j18))else (j18); bif ((x2.getD 0 (Ty.bU .token)).text==([110,117,108,108]:ah))then (j16 ((x2.getD 0 (Ty.bU .token)).text==([110,117,108,108]:ah)))else (bif ((x2.getD 0 (Ty.bU .token)).text==([102,97,108,115,101]:ah))then (j16 ((x2.getD 0 (Ty.bU .token)).text==([102,97,108,115,101]:ah)))else (j16 ((x2.getD 0 (Ty.bU .token)).text==([116,114,117,101]:ah))))); bif ((x2.getD 0 (Ty.bU .token)).text==([91]:ah))then (j17 ((x2.getD 0 (Ty.bU .token)).text==([91]:ah)))else (j17 ((x2.getD 0 (Ty.bU .token)).text==([123]:ah))))); bif (!z4)then (ao 40 x2 x3 (fun y5 y6=>j19 y5 y6))else (bif (decide (x1>(16:Int)))then (ao 41 x2 x3 (fun y7 y8=>j19 y7 y8))else (j19 x2 x3)); bif ((x2.getD 0 (Ty.bU .token)).kind==2)then (j20 true)else (bif ((x2.getD 0 (Ty.bU .token)).kind==3)then (j20 true)else (bif ((x2.getD 0 (Ty.bU .token)).kind==4)then (j20 true)else (bif ((x2.getD 0 (Ty.bU .token)).kind==1)then (bif ((x2.getD 0 (Ty.bU .token)).text==([91]:ah))then (j20 true)else (j20 ((x2.getD 0 (Ty.bU .token)).text==([123]:ah))))else (j20 false)))))
def sH {R:Type} (af:aC R):aC R:=fun x1 x2 x3 k0=>zi ao (cO af) x1 x2 x3 k0
theorem Gw {R:Type} (ao:bZ R) (cO:iA R):gS (R:=R) (tt.mode [.json]) (zh ao cO) Ca false Tryz.f42 (aI Tryz.f42) cy cz (bM (zi ao cO)):=fun x y k=>by kernel_rfl
theorem EA (R:Type) (af:aC R) (bP:aG.Spec.Ok Tryz.prog 42 (bm cy cz (bM af) bb)):sM Tryz.prog 42 (zc (sH af)):=cC (TT.mode [.json]) mixed (F8 af bP) rfl rfl rfl rfl eS (Gw ao (cO af))
def bI {R:Type}:Nat→aC R
 | 0,_,_,_,_=>none
 | n+1,hY,hZ,iB,k0'=>sH (bI n) hY hZ iB k0'
theorem RS {R:Type} (n:Nat):bI (R:=R) (n+1)=sH (bI n):=by kernel_rfl
theorem Fl (R:Type):∀n,aG.Spec.Ok Tryz.prog 42 (bm cy cz (bM (bI (R:=R) n)) bb) :=
 wu (run:=fun n=>bM (bI (R:=R) n)) (fun x y k=>by kernel_rfl) fun n hyp=>EA R (bI n) hyp bb (aM _)
def dk {R:Type}:aC R:=fun x1 x2 x3 k0=>bI 40 x1 x2 x3 k0
theorem Fo (R:Type):bM (R:=R) dk=fun x y k=>bM (bI 40) x y k:=by kernel_rfl
theorem Fp (R:Type) (other:aG.Spec R) (ho:aG.Spec.Ok Tryz.prog 42 other):aG.Spec.Ok Tryz.prog 42 (bm cy cz (bM dk) other) :=
 CA (FC (run:=fun n=>bM (bI (R:=R) n)) (fun x y=>40) ho (Fl R)) (Fo R)
end Go.Proofs.YtmlkkgfenfdndaaGreatDoor
/-
 Functions of the program as pure Lean functions, and the ties; printed by wip/tools/emit.py.
-/
set_option maxRecDepth 100000
namespace Go.Proofs.YtmlkkgfenfdndaaGreatDoor
open Go Go.aG
end Go.Proofs.YtmlkkgfenfdndaaGreatDoor
/-
 Functions of the program as pure Lean functions, and the ties; printed by wip/tools/emit.py.
-/
set_option maxRecDepth 100000
namespace Go.Proofs.YtmlkkgfenfdndaaGreatDoor
open Go Go.aG
/-! ### humpyard/json.write -/
abbrev n8 (R:Type):Type:=Json→((List Int)→Option R)→Option R
abbrev B0:List bE := [.leaf (.ptr 0 0), .agg [.int .i64, .int .i64, .int .i64, .str, .sl .str, .sl .json]]
abbrev B1:List aA := [.oG (.cV)]
def F9 {R:Type} (fn:n8 R):bE.au B0→aA.au B1→(V→aO→Option R)→Option R:=fun x y k=>fn (⟨x.2.1.1,⟨x.2.1.2.1,x.2.1.2.2.1⟩,x.2.1.2.2.2.1,x.2.1.2.2.2.2.1,x.2.1.2.2.2.2.2.1⟩:Json) (fun q0=>k (.tuple []) [.oG (.sl (.int .u8) q0 (.own 1)), .tok])
def GV {R:Type} (fn:n8 R):aG.Spec R→aG.Spec R:=bm B0 B1 (F9 fn)
abbrev js (R:Type):Type:=Nat→ah→(List Json)→Int→Int→(List Int)→Json→(ah→(List Int)→Option R)→Option R
def oS {R:Type} (bC:fA R) (ak:bD R) (ae:aY R) (aj:bG R) (cF:bS R) (dO:jG R) (aU:dP R):List (wv R) := [(46,true,(zw bC bb)),(50,false,(jc ae (jb ak bb))),(52,false,(iF aj bb)),(38,false,(GR cF bb)),(61,false,(yn aU (ER dO bb)))]
theorem M5 {R:Type}:ff (R:=R) Tryz.prog (oS bC ak ae aj cF dO aU) := .p (zR R _ (aM _)) <| .f (kU R _ (kT R _ (aM _))) rfl <| .f (ki R _ (aM _)) rfl <| .f (LK R _ (aM _)) rfl <| .f (Bs R _ (Ji R _ (aM _))) rfl <| .n
def B2 {R:Type} (ae:aY R) (cF:bS R) (aU:dP R) (dq:ah→(List Json)→Int→Int→(List Int)→Json→Option R) (NA:ah) (rW:List Json) (wk:Int) (nG:Int) (wb:List Int) (Gg:Json) (e0:ah→(List Int)→Option R):Option R :=
 bif (decide (nG<wk))then (cu (decide ((0:Int)≤nG)&&decide (nG<rW.length)) (bif (decide (nG>(0:Int)))then (ae 44 wb (fun Nv=>bif (Gg.kind==7)then (cu (decide ((0:Int)≤nG)&&decide (nG<Gg.names.length)) (aU (Gg.names.getD nG.toNat (Ty.bU .str)) Nv (fun CK=>ae 58 CK (fun y22=>cF (⟨(rW.getD nG.toNat (Ty.bU .json)).kind,⟨(rW.getD nG.toNat (Ty.bU .json)).num.aF,(rW.getD nG.toNat (Ty.bU .json)).num.exp⟩,(rW.getD nG.toNat (Ty.bU .json)).text,(rW.getD nG.toNat (Ty.bU .json)).names,(rW.getD nG.toNat (Ty.bU .json)).items⟩:Json) y22 (fun Ya=>dq NA rW wk (IntKind.i64.wrap (nG+1)) Ya (⟨Gg.kind,⟨Gg.num.aF,Gg.num.exp⟩,Gg.text,Gg.names,Gg.items⟩:Json))))))else (cF (⟨(rW.getD nG.toNat (Ty.bU .json)).kind,⟨(rW.getD nG.toNat (Ty.bU .json)).num.aF,(rW.getD nG.toNat (Ty.bU .json)).num.exp⟩,(rW.getD nG.toNat (Ty.bU .json)).text,(rW.getD nG.toNat (Ty.bU .json)).names,(rW.getD nG.toNat (Ty.bU .json)).items⟩:Json) Nv (fun y24=>dq NA rW wk (IntKind.i64.wrap (nG+1)) y24 (⟨Gg.kind,⟨Gg.num.aF,Gg.num.exp⟩,Gg.text,Gg.names,Gg.items⟩:Json)))))else (bif (Gg.kind==7)then (cu (decide ((0:Int)≤nG)&&decide (nG<Gg.names.length)) (aU (Gg.names.getD nG.toNat (Ty.bU .str)) wb (fun Qk=>ae 58 Qk (fun Sh=>cF (⟨(rW.getD nG.toNat (Ty.bU .json)).kind,⟨(rW.getD nG.toNat (Ty.bU .json)).num.aF,(rW.getD nG.toNat (Ty.bU .json)).num.exp⟩,(rW.getD nG.toNat (Ty.bU .json)).text,(rW.getD nG.toNat (Ty.bU .json)).names,(rW.getD nG.toNat (Ty.bU .json)).items⟩:Json) Sh (fun D5=>dq NA rW wk (IntKind.i64.wrap (nG+1)) D5 (⟨Gg.kind,⟨Gg.num.aF,Gg.num.exp⟩,Gg.text,Gg.names,Gg.items⟩:Json))))))else (cF (⟨(rW.getD nG.toNat (Ty.bU .json)).kind,⟨(rW.getD nG.toNat (Ty.bU .json)).num.aF,(rW.getD nG.toNat (Ty.bU .json)).num.exp⟩,(rW.getD nG.toNat (Ty.bU .json)).text,(rW.getD nG.toNat (Ty.bU .json)).names,(rW.getD nG.toNat (Ty.bU .json)).items⟩:Json) wb (fun I8=>dq NA rW wk (IntKind.i64.wrap (nG+1)) I8 (⟨Gg.kind,⟨Gg.num.aF,Gg.num.exp⟩,Gg.text,Gg.names,Gg.items⟩:Json))))))else (e0 NA wb)
def bX {R:Type}:js R
 | 0,_,_,_,_,_,_,_=>none
 | n+1,hY,hZ,iB,ql,E3,He,e0=>B2 ae cF aU (fun hY hZ iB ql E3 He=>bX n hY hZ iB ql E3 He e0) hY hZ iB ql E3 He e0
def pB:Hint := { live := [2,3,4,5,43,44,45],own := [],rows := [],cells := [],drop := [],out := [2,5] }
abbrev gG:Type:=ah × (List Json) × Int × Int × (List Int) × Json
def ou:gG→St:=fun d=>⟨U 2 (.ptr 1 0 :: .ptr 2 0 :: .func 61 [] [.ptr 1 0] :: .str d.1::U 37 (.sl .json d.2.1 .no :: .int .i64 d.2.2.1 :: .int .i64 d.2.2.2.1::U 28 ([]))), [.oG (.sl (.int .u8) d.2.2.2.2.1 (.own 3)), .cells [.ptr 0 0], .cells [.int .i64 d.2.2.2.2.2.kind, .int .i64 d.2.2.2.2.2.num.aF, .int .i64 d.2.2.2.2.2.num.exp, .str d.2.2.2.2.2.text, .sl .str d.2.2.2.2.2.names .no, .sl .json d.2.2.2.2.2.items .no], .tok]⟩
def tM {R:Type} (K:Ex→St→Option R) (q0:ah) (q1:List Int):Option R:=K (.exit 1) ⟨U 2 (.ptr 1 0::U 2 (.str q0::U 68 ([]))), [.oG (.sl (.int .u8) q1 (.own 2)), .cells [.ptr 0 0], .tok]⟩
def uE {R:Type} (ae:aY R) (cF:bS R) (aU:dP R) (K:Ex→St→Option R) (rc:gG→Option R) (d:gG):Option R:=B2 ae cF aU (fun z0 z1 z2 z3 z4 z5=>rc (z0,z1,z2,z3,z4,z5)) d.1 d.2.1 d.2.2.1 d.2.2.2.1 d.2.2.2.2.1 d.2.2.2.2.2 (tM K)
def ko {R:Type} (K:Ex→St→Option R) (n:Nat) (d:gG):Option R:=bX n d.1 d.2.1 d.2.2.1 d.2.2.2.1 d.2.2.2.2.1 d.2.2.2.2.2 (tM K)
abbrev gH:List bE:=PU 2 (.leaf (.ptr 1 0) :: .leaf (.ptr 2 0) :: .func 61 [] [.ptr 1 0] :: .leaf (.str)::PU 37 (.leaf (.sl .json) :: .leaf (.int .i64) :: .leaf (.int .i64)::PU 28 ([])))
abbrev gI:List aA := [.oG (.Vt (.int .u8) 3), .cells [.ptr 0 0], .cells [.int .i64, .int .i64, .int .i64, .str, .sl .str, .sl .json], .tok]
def uF (x:bE.au gH) (y:aA.au gI):Nat:=(List.length x.2.2.2.2.2.1+List.length x.2.2.2.2.2.2.2.2.2.2.2.2.2.2.2.2.2.2.2.2.2.2.2.2.2.2.2.2.2.2.2.2.2.2.2.2.2.2.2.2.2.2.2.1+Int.natAbs x.2.2.2.2.2.2.2.2.2.2.2.2.2.2.2.2.2.2.2.2.2.2.2.2.2.2.2.2.2.2.2.2.2.2.2.2.2.2.2.2.2.2.2.2.1+Int.natAbs x.2.2.2.2.2.2.2.2.2.2.2.2.2.2.2.2.2.2.2.2.2.2.2.2.2.2.2.2.2.2.2.2.2.2.2.2.2.2.2.2.2.2.2.2.2.1+List.length y.1+Json.fu (⟨y.2.2.1.1,⟨y.2.2.1.2.1,y.2.2.1.2.2.1⟩,y.2.2.1.2.2.2.1,y.2.2.1.2.2.2.2.1,y.2.2.1.2.2.2.2.2.1⟩:Json)+64)
def uG (x:bE.au gH) (y:aA.au gI):gG:=(x.2.2.2.2.2.1,x.2.2.2.2.2.2.2.2.2.2.2.2.2.2.2.2.2.2.2.2.2.2.2.2.2.2.2.2.2.2.2.2.2.2.2.2.2.2.2.2.2.2.2.1,x.2.2.2.2.2.2.2.2.2.2.2.2.2.2.2.2.2.2.2.2.2.2.2.2.2.2.2.2.2.2.2.2.2.2.2.2.2.2.2.2.2.2.2.2.1,x.2.2.2.2.2.2.2.2.2.2.2.2.2.2.2.2.2.2.2.2.2.2.2.2.2.2.2.2.2.2.2.2.2.2.2.2.2.2.2.2.2.2.2.2.2.1,y.1,(⟨y.2.2.1.1,⟨y.2.2.1.2.1,y.2.2.1.2.2.1⟩,y.2.2.1.2.2.2.1,y.2.2.1.2.2.2.2.1,y.2.2.1.2.2.2.2.2.1⟩:Json))
def tN {R:Type} (L:js R):bE.au gH→aA.au gI→(Ex→St→Option R)→Option R:=fun x y K=>L (uF x y) x.2.2.2.2.2.1 x.2.2.2.2.2.2.2.2.2.2.2.2.2.2.2.2.2.2.2.2.2.2.2.2.2.2.2.2.2.2.2.2.2.2.2.2.2.2.2.2.2.2.2.1 x.2.2.2.2.2.2.2.2.2.2.2.2.2.2.2.2.2.2.2.2.2.2.2.2.2.2.2.2.2.2.2.2.2.2.2.2.2.2.2.2.2.2.2.2.1 x.2.2.2.2.2.2.2.2.2.2.2.2.2.2.2.2.2.2.2.2.2.2.2.2.2.2.2.2.2.2.2.2.2.2.2.2.2.2.2.2.2.2.2.2.2.1 y.1 (⟨y.2.2.1.1,⟨y.2.2.1.2.1,y.2.2.1.2.2.1⟩,y.2.2.1.2.2.2.1,y.2.2.1.2.2.2.2.1,y.2.2.1.2.2.2.2.2.1⟩:Json) (tM K)
def r9 (R:Type) (bX:js R):Nat→Option (Hint × dC R):=fun i=>match i with
 | 18=>some (pB,(dx gH gI (tN bX) j7))
 | _=>none
theorem Gx {R:Type} (bC:fA R) (ak:bD R) (ae:aY R) (aj:bG R) (cF:bS R) (dO:jG R) (aU:dP R) (bX:js R) (K:Ex→St→Option R) (rc:St→Option R) (d:gG):roundOf tt (dM (oS bC ak ae aj cF dO aU)) (r9 R bX) 1 ((aT (aI Tryz.f38)).getD 0 .skip) pB (ou d) rc K=uE ae cF aU K (fun d=>rc (ou d)) d:=by kernel_rfl
theorem Fq {R:Type} (K:Ex→St→Option R) (n:Nat) (d:gG):ko K (n+1) d=uE ae cF aU K (ko K n) d:=by kernel_rfl
theorem Fs {R:Type} (K:Ex→St→Option R) (d:gG):ko K 0 d=none:=by kernel_rfl
theorem Gy (x:bE.au gH) (y:aA.au gI):(⟨bE.eD gH x,aA.eD gI y⟩:St)=ou (uG x y):=by kernel_rfl
theorem Gz {R:Type} (x:bE.au gH) (y:aA.au gI) (K:Ex→St→Option R):tN (bX) x y K=ko K (uF x y) (uG x y):=by kernel_rfl
theorem Io {R:Type} (other:dC R) (ho:jt tt (dM (oS bC ak ae aj cF dO aU)) (r9 R bX) 1 ((aT (aI Tryz.f38)).getD 0 .skip) pB other):jt tt (dM (oS bC ak ae aj cF dO aU)) (r9 R bX) 1 ((aT (aI Tryz.f38)).getD 0 .skip) pB (dx gH gI (tN (bX)) other) :=
 dL (A:=ko) ho (fw ou (uE ae cF aU) (ko) (Fs) (Gx bC ak ae aj cF dO aU bX) (Fq)) uF uG Gy (Gz)
def GW {R:Type} (bC:fA R) (ak:bD R) (ae:aY R) (aj:bG R) (dO:jG R) (bX:js R) (x1:Json) (k0:(List Int)→Option R):Option R :=
 let j32:=fun (z12:ah)=>cu (decide ((0:Int)<z12.length)) (ak ((z12.getD 0 0).toNat:Int) (fun G8=>bX (List.length z12+List.length x1.items+Int.natAbs (x1.items.length:Int)+Int.natAbs 0+List.length G8+Json.fu (⟨x1.kind,⟨x1.num.aF,x1.num.exp⟩,x1.text,x1.names,x1.items⟩:Json)+64) z12 x1.items (x1.items.length:Int) 0 G8 (⟨x1.kind,⟨x1.num.aF,x1.num.exp⟩,x1.text,x1.names,x1.items⟩:Json) (fun RN Si=>cu (decide ((1:Int)<RN.length)) (ae ((RN.getD 1 0).toNat:Int) Si (fun S9=>k0 S9))))); bif (x1.kind==1)then (aj ([110,117,108,108]:ah) (fun y2 y3=>k0 y3))else (bif (x1.kind==2)then (aj ([102,97,108,115,101]:ah) (fun y4 y5=>k0 y5))else (bif (x1.kind==3)then (aj ([116,114,117,101]:ah) (fun y6 y7=>k0 y7))else (bif (x1.kind==4)then (bC x1.num (fun y8=>aj y8 (fun y9 rI=>k0 rI)))else (bif (x1.kind==5)then (dO x1.text (fun rq=>k0 rq))else (bif (x1.kind==7)then (j32 ([123,125]:ah))else (j32 ([91,93]:ah)))))))
def iI {R:Type}:n8 R:=fun x1 k0=>GW bC ak ae aj dO bX x1 k0
theorem OC {R:Type} (bC:fA R) (ak:bD R) (ae:aY R) (aj:bG R) (cF:bS R) (dO:jG R) (aU:dP R) (bX:js R):gS (R:=R) tt (oS bC ak ae aj cF dO aU) (r9 R bX) false Tryz.f38 (aI Tryz.f38) B0 B1 (F9 (GW bC ak ae aj dO bX)):=fun x y k=>by kernel_rfl
theorem KT (R:Type):∀a∈aT (aI Tryz.f38),jn tt (dM (oS bC ak ae aj cF dO aU)) (r9 R bX) 1 a:=by
 refine gR 1 (by kernel_rfl) fun i hi => ?_
 match i,hi with
 | 0,_=>exact cW (by kernel_rfl) (Io _ eN)
 | n+1,hi=>omega
theorem L1 (R:Type):sM Tryz.prog 38 (GV (iI (R:=R))):=cC TT mixed (M5 (R:=R)) rfl rfl rfl rfl (KT R) (OC bC ak ae aj cF dO aU bX)
/-! ### humpyard/json.Print -/
abbrev vu (R:Type):Type:=Json→(ah→Option R)→Option R
abbrev JA:List bE := [.agg [.int .i64, .int .i64, .int .i64, .str, .sl .str, .sl .json]]
abbrev JB:List aA := []
def NI {R:Type} (fn:vu R):bE.au JA→aA.au JB→(V→aO→Option R)→Option R:=fun x y k=>fn (⟨x.1.1,⟨x.1.2.1,x.1.2.2.1⟩,x.1.2.2.2.1,x.1.2.2.2.2.1,x.1.2.2.2.2.2.1⟩:Json) (fun q0=>k (.str q0) [])
def P4 {R:Type} (fn:vu R):aG.Spec R→aG.Spec R:=bm JA JB (NI fn)
def P5 {R:Type} (gL:om R) (iI:n8 R):List (wv R) := [(39,false,(IS R)),(32,true,(I7 gL bb)),(38,false,(GV iI bb))]
theorem UY {R:Type}:ff (R:=R) Tryz.prog (P5 gL iI) := .s (S8) Mk <| .p (JX R _ (aM _)) <| .f (L1 R _ (aM _)) rfl <| .n
def P6 {R:Type} (gL:om R) (iI:n8 R) (x1:Json) (k0:ah→Option R):Option R :=
 gL (⟨x1.kind,⟨x1.num.aF,x1.num.exp⟩,x1.text,x1.names,x1.items⟩:Json) (fun y2=>bif (!y2)then (k0 ([]:ah))else (iI (⟨x1.kind,⟨x1.num.aF,x1.num.exp⟩,x1.text,x1.names,x1.items⟩:Json) (fun y3=>k0 (Gk y3))))
def qA {R:Type}:vu R:=fun x1 k0=>P6 gL iI x1 k0
theorem V3 {R:Type} (gL:om R) (iI:n8 R):gS (R:=R) tt (P5 gL iI) Ca false Tryz.f17 (aI Tryz.f17) JA JB (NI (P6 gL iI)):=fun x y k=>by kernel_rfl
theorem SJ (R:Type):sM Tryz.prog 17 (P4 (qA (R:=R))):=cC TT mixed (UY (R:=R)) rfl rfl rfl rfl eS (V3 gL iI)
end Go.Proofs.YtmlkkgfenfdndaaGreatDoor
/-
 Functions of the program as pure Lean functions, and the ties; printed by wip/tools/emit.py.
-/
set_option maxRecDepth 100000
namespace Go.Proofs.YtmlkkgfenfdndaaGreatDoor
open Go Go.aG
/-! ### humpyard/json.Parse -/
abbrev mg (R:Type):Type:=ah→(Json→Int→Int→Option R)→Option R
abbrev JC:List bE := [.leaf (.str)]
abbrev JD:List aA := []
def NJ {R:Type} (fn:mg R):bE.au JC→aA.au JD→(V→aO→Option R)→Option R:=fun x y k=>fn x.1 (fun q0 q1 q2=>k (.tuple [.agg [.int .i64 q0.kind, .int .i64 q0.num.aF, .int .i64 q0.num.exp, .str q0.text, .sl .str q0.names .no, .sl .json q0.items .no], .int .i64 q1, .int .i64 q2]) [])
def JE {R:Type} (fn:mg R):aG.Spec R→aG.Spec R:=bm JC JD (NJ fn)
def P7 {R:Type} (ao:bZ R) (dk:aC R) (mJ:vq R):List (wv R) := [(43,false,(lT ao bb)),(42,false,(zc dk bb)),(25,true,(P1 mJ bb))]
theorem UZ {R:Type}:ff (R:=R) Tryz.prog (P7 ao dk mJ) := .f (mK R _ (aM _)) rfl <| .f (Fp R _ (aM _)) rfl <| .p (SI R _ (aM _)) <| .n
def Ft {R:Type} (ao:bZ R) (dk:aC R) (mJ:vq R) (x1:ah) (k0:Json→Int→Int→Option R):Option R :=
 mJ x1 (fun y2 y3 y4=>bif (y3 != 0)then (k0 (⟨0,⟨0,0⟩,([]:ah),([]:List ah),([]:List Json)⟩:Json) y3 y4)else (dk 1 y2 0 (fun y5 y6 y7=>let j12:=fun (uO:List Token) (sn:Int)=>bif (sn != 0)then (cu (decide ((0:Int)<uO.length)) (k0 (⟨0,⟨0,0⟩,([]:ah),([]:List ah),([]:List Json)⟩:Json) sn ((uO.getD 0 (Ty.bU .token)).at_)))else (k0 (⟨y5.kind,⟨y5.num.aF,y5.num.exp⟩,y5.text,y5.names,y5.items⟩:Json) 0 0); cu (decide ((0:Int)<y6.length)) (bif ((y6.getD 0 (Ty.bU .token)).kind != 5)then (ao 40 y6 y7 (fun y8 y9=>j12 y8 y9))else (j12 y6 y7)))))
def eh {R:Type}:mg R:=fun x1 k0=>Ft ao dk mJ x1 k0
theorem V4 {R:Type} (ao:bZ R) (dk:aC R) (mJ:vq R):gS (R:=R) tt (P7 ao dk mJ) Ca false Tryz.f20 (aI Tryz.f20) JC JD (NJ (Ft ao dk mJ)):=fun x y k=>by kernel_rfl
theorem J8 (R:Type):sM Tryz.prog 20 (JE (eh (R:=R))):=cC TT mixed (UZ (R:=R)) rfl rfl rfl rfl eS (V4 ao dk mJ)
/-! ### slices.Equal[[]string,string] -/
abbrev gu (R:Type):Type:=(List ah)→(List ah)→(Bool→Option R)→Option R
abbrev pC:List bE := [.leaf (.sl .str), .leaf (.sl .str)]
abbrev pD:List aA := []
def vf {R:Type} (fn:gu R):bE.au pC→aA.au pD→(V→aO→Option R)→Option R:=fun x y k=>fn x.1 x.2.1 (fun q0=>k (.bool q0) [])
def vU {R:Type} (fn:gu R):aG.Spec R→aG.Spec R:=bm pC pD (vf fn)
abbrev fF (R:Type):Type:=Nat→(List ah)→(List ah)→Int→Int→(Option R)→(Bool→Option R)→Option R
def sT {R:Type} (dq:(List ah)→(List ah)→Int→Int→Option R) (x3:List ah) (x4:List ah) (x5:Int) (x6:Int) (e0:Option R) (e1:Bool→Option R):Option R :=
 bif (decide (x6<x5))then (cu (decide ((0:Int)≤x6)&&decide (x6<x3.length)) (cu (decide ((0:Int)≤x6)&&decide (x6<x4.length)) (bif (!((x3.getD x6.toNat (Ty.bU .str))==(x4.getD x6.toNat (Ty.bU .str))))then (e1 false)else (dq x3 x4 x5 (IntKind.i64.wrap (x6+1))))))else (e0)
def bq {R:Type}:fF R
 | 0,_,_,_,_,_,_=>none
 | n+1,hY,hZ,iB,ql,e0,e1=>sT (fun hY hZ iB ql=>bq n hY hZ iB ql e0 e1) hY hZ iB ql e0 e1
def jy:Hint := { live := [0,1,12,13],own := [],rows := [],cells := [],drop := [],out := [4] }
abbrev dV:Type:=(List ah) × (List ah) × Int × Int
def iL:dV→St:=fun d=>⟨.sl .str d.1 .no :: .sl .str d.2.1 .no::U 10 (.int .i64 d.2.2.1 :: .int .i64 d.2.2.2::U 12 ([])), []⟩
def mO {R:Type} (K:Ex→St→Option R):Option R:=K (.exit 0) ⟨U 26 ([]), []⟩
def mP {R:Type} (K:Ex→St→Option R) (q0:Bool):Option R:=K (.ret) ⟨U 4 (.bool q0::U 21 ([])), []⟩
def nu {R:Type} (K:Ex→St→Option R) (rc:dV→Option R) (d:dV):Option R:=sT (fun z0 z1 z2 z3=>rc (z0,z1,z2,z3)) d.1 d.2.1 d.2.2.1 d.2.2.2 (mO K) (mP K)
def fS {R:Type} (K:Ex→St→Option R) (n:Nat) (d:dV):Option R:=bq n d.1 d.2.1 d.2.2.1 d.2.2.2 (mO K) (mP K)
abbrev dW:List bE := .leaf (.sl .str) :: .leaf (.sl .str)::PU 10 (.leaf (.int .i64) :: .leaf (.int .i64)::PU 12 ([]))
abbrev dX:List aA := []
def nv (x:bE.au dW) (y:aA.au dX):Nat:=(List.length x.1+List.length x.2.1+Int.natAbs x.2.2.2.2.2.2.2.2.2.2.2.2.1+Int.natAbs x.2.2.2.2.2.2.2.2.2.2.2.2.2.1+64)
def nA (x:bE.au dW) (y:aA.au dX):dV:=(x.1,x.2.1,x.2.2.2.2.2.2.2.2.2.2.2.2.1,x.2.2.2.2.2.2.2.2.2.2.2.2.2.1)
def mQ {R:Type} (L:fF R):bE.au dW→aA.au dX→(Ex→St→Option R)→Option R:=fun x y K=>L (nv x y) x.1 x.2.1 x.2.2.2.2.2.2.2.2.2.2.2.2.1 x.2.2.2.2.2.2.2.2.2.2.2.2.2.1 (mO K) (mP K)
def ji (R:Type) (bq:fF R):Nat→Option (Hint × dC R):=fun i=>match i with
 | 4=>some (jy,(dx dW dX (mQ bq) j7))
 | _=>none
theorem Aw {R:Type} (bq:fF R) (K:Ex→St→Option R) (rc:St→Option R) (d:dV):roundOf tt (dM []) (ji R bq) 0 ((aT (aI Tryz.f44)).getD 0 .skip) jy (iL d) rc K=nu K (fun d=>rc (iL d)) d:=by kernel_rfl
theorem yE {R:Type} (K:Ex→St→Option R) (n:Nat) (d:dV):fS K (n+1) d=nu K (fS K n) d:=by kernel_rfl
theorem yF {R:Type} (K:Ex→St→Option R) (d:dV):fS K 0 d=none:=by kernel_rfl
theorem Ax (x:bE.au dW) (y:aA.au dX):(⟨bE.eD dW x,aA.eD dX y⟩:St)=iL (nA x y):=by kernel_rfl
theorem Ay {R:Type} (x:bE.au dW) (y:aA.au dX) (K:Ex→St→Option R):mQ (bq) x y K=fS K (nv x y) (nA x y):=by kernel_rfl
theorem B3 {R:Type} (other:dC R) (ho:jt tt (dM []) (ji R bq) 0 ((aT (aI Tryz.f44)).getD 0 .skip) jy other):jt tt (dM []) (ji R bq) 0 ((aT (aI Tryz.f44)).getD 0 .skip) jy (dx dW dX (mQ (bq)) other) :=
 dL (A:=fS) ho (fw iL (nu) (fS) (yF) (Aw bq) (yE)) nv nA Ax (Ay)
def vV {R:Type} (bq:fF R) (x1:List ah) (x2:List ah) (k0:Bool→Option R):Option R :=
 bif ((x1.length:Int) != (x2.length:Int))then (k0 false)else (bq (List.length x1+List.length x2+Int.natAbs (x1.length:Int)+Int.natAbs 0+64) x1 x2 (x1.length:Int) 0 (k0 true) (fun y7=>k0 y7))
def dE {R:Type}:gu R:=fun x1 x2 k0=>vV bq x1 x2 k0
theorem EB {R:Type} (bq:fF R):gS (R:=R) tt [] (ji R bq) false Tryz.f44 (aI Tryz.f44) pC pD (vf (vV bq)):=fun x y k=>by kernel_rfl
theorem Ci (R:Type):∀a∈aT (aI Tryz.f44),jn tt (dM []) (ji R bq) 0 a:=by
 refine gR 1 (by kernel_rfl) fun i hi => ?_
 match i,hi with
 | 0,_=>exact cW (by kernel_rfl) (B3 _ eN)
 | n+1,hi=>omega
theorem Dj (R:Type):sM Tryz.prog 44 (vU (dE (R:=R))):=cC TT mixed .n rfl rfl rfl rfl (Ci R) (EB bq)
/-! ### humpyard/json.Same -/
abbrev dQ (R:Type):Type:=Json→Json→(Bool→Option R)→Option R
abbrev oD:List bE := [.agg [.int .i64, .int .i64, .int .i64, .str, .sl .str, .sl .json], .agg [.int .i64, .int .i64, .int .i64, .str, .sl .str, .sl .json]]
abbrev oE:List aA := []
def jj {R:Type} (fn:dQ R):bE.au oD→aA.au oE→(V→aO→Option R)→Option R:=fun x y k=>fn (⟨x.1.1,⟨x.1.2.1,x.1.2.2.1⟩,x.1.2.2.2.1,x.1.2.2.2.2.1,x.1.2.2.2.2.2.1⟩:Json) (⟨x.2.1.1,⟨x.2.1.2.1,x.2.1.2.2.1⟩,x.2.1.2.2.2.1,x.2.1.2.2.2.2.1,x.2.1.2.2.2.2.2.1⟩:Json) (fun q0=>k (.bool q0) [])
def RT {R:Type} (fn:dQ R):aG.Spec R→aG.Spec R:=bm oD oE (jj fn)
/-! ### slices.EqualFunc[[]humpyard/api.Json,[]humpyard/api.Json,humpyard/api.Json,humpyard/api.Json] -/
abbrev dJ (R:Type):Type:=(List Json)→(List Json)→(Bool→Option R)→Option R
abbrev iX:List bE := [.leaf (.sl .json), .leaf (.sl .json), .leaf (.fn 21)]
abbrev iY:List aA := []
def nh {R:Type} (fn:dJ R):bE.au iX→aA.au iY→(V→aO→Option R)→Option R:=fun x y k=>fn x.1 x.2.1 (fun q0=>k (.bool q0) [])
def nI {R:Type} (fn:dJ R):aG.Spec R→aG.Spec R:=bm iX iY (nh fn)
abbrev de (R:Type):Type:=Nat→(List Json)→(List Json)→Int→Int→(Option R)→(Bool→Option R)→Option R
def dR {R:Type} (aQ:dQ R):List (wv R) := [(21,true,(bm oD oE (jj aQ) bb))]
theorem uH {R:Type} (aQ:dQ R) (ov:aG.Spec.Ok Tryz.prog 21 (bm oD oE (jj aQ) bb)):ff (R:=R) Tryz.prog (dR aQ) := .p ov <| .n
def lV {R:Type} (aQ:dQ R) (dq:(List Json)→(List Json)→Int→Int→Option R) (x3:List Json) (x4:List Json) (x5:Int) (x6:Int) (e0:Option R) (e1:Bool→Option R):Option R :=
 bif (decide (x6<x5))then (cu (decide ((0:Int)≤x6)&&decide (x6<x4.length)) (cu (decide ((0:Int)≤x6)&&decide (x6<x3.length)) (aQ (⟨(x4.getD x6.toNat (Ty.bU .json)).kind,⟨(x4.getD x6.toNat (Ty.bU .json)).num.aF,(x4.getD x6.toNat (Ty.bU .json)).num.exp⟩,(x4.getD x6.toNat (Ty.bU .json)).text,(x4.getD x6.toNat (Ty.bU .json)).names,(x4.getD x6.toNat (Ty.bU .json)).items⟩:Json) (⟨(x3.getD x6.toNat (Ty.bU .json)).kind,⟨(x3.getD x6.toNat (Ty.bU .json)).num.aF,(x3.getD x6.toNat (Ty.bU .json)).num.exp⟩,(x3.getD x6.toNat (Ty.bU .json)).text,(x3.getD x6.toNat (Ty.bU .json)).names,(x3.getD x6.toNat (Ty.bU .json)).items⟩:Json) (fun y7=>bif (!y7)then (e1 false)else (dq x3 x4 x5 (IntKind.i64.wrap (x6+1)))))))else (e0)
def aK {R:Type} (aQ:dQ R):de R
 | 0,_,_,_,_,_,_=>none
 | n+1,hY,hZ,iB,ql,e0,e1=>lV aQ (fun hY hZ iB ql=>aK aQ n hY hZ iB ql e0 e1) hY hZ iB ql e0 e1
def fG:Hint := { live := [1,2,15,16,17],own := [],rows := [],cells := [],drop := [],out := [6] }
abbrev cd:Type:=(List Json) × (List Json) × Int × Int
def fe:cd→St:=fun d=>⟨.undef :: .sl .json d.1 .no :: .func 21 [] []::U 12 (.sl .json d.2.1 .no :: .int .i64 d.2.2.1 :: .int .i64 d.2.2.2::U 14 ([])), []⟩
def gU {R:Type} (K:Ex→St→Option R):Option R:=K (.exit 0) ⟨U 32 ([]), []⟩
def gV {R:Type} (K:Ex→St→Option R) (q0:Bool):Option R:=K (.ret) ⟨U 6 (.bool q0::U 25 ([])), []⟩
def ib {R:Type} (aQ:dQ R) (K:Ex→St→Option R) (rc:cd→Option R) (d:cd):Option R:=lV aQ (fun z0 z1 z2 z3=>rc (z0,z1,z2,z3)) d.1 d.2.1 d.2.2.1 d.2.2.2 (gU K) (gV K)
def dp {R:Type} (aQ:dQ R) (K:Ex→St→Option R) (n:Nat) (d:cd):Option R:=aK aQ n d.1 d.2.1 d.2.2.1 d.2.2.2 (gU K) (gV K)
abbrev cf:List bE := .leaf (.undef) :: .leaf (.sl .json) :: .leaf (.fn 21)::PU 12 (.leaf (.sl .json) :: .leaf (.int .i64) :: .leaf (.int .i64)::PU 14 ([]))
abbrev cg:List aA := []
def ic (x:bE.au cf) (y:aA.au cg):Nat:=(List.length x.2.1+List.length x.2.2.2.2.2.2.2.2.2.2.2.2.2.2.2.1+Int.natAbs x.2.2.2.2.2.2.2.2.2.2.2.2.2.2.2.2.1+Int.natAbs x.2.2.2.2.2.2.2.2.2.2.2.2.2.2.2.2.2.1+64)
def ie (x:bE.au cf) (y:aA.au cg):cd:=(x.2.1,x.2.2.2.2.2.2.2.2.2.2.2.2.2.2.2.1,x.2.2.2.2.2.2.2.2.2.2.2.2.2.2.2.2.1,x.2.2.2.2.2.2.2.2.2.2.2.2.2.2.2.2.2.1)
def gW {R:Type} (L:de R):bE.au cf→aA.au cg→(Ex→St→Option R)→Option R:=fun x y K=>L (ic x y) x.2.1 x.2.2.2.2.2.2.2.2.2.2.2.2.2.2.2.1 x.2.2.2.2.2.2.2.2.2.2.2.2.2.2.2.2.1 x.2.2.2.2.2.2.2.2.2.2.2.2.2.2.2.2.2.1 (gU K) (gV K)
def eY (R:Type) (aK:de R):Nat→Option (Hint × dC R):=fun i=>match i with
 | 4=>some (fG,(dx cf cg (gW aK) j7))
 | _=>none
theorem sa {R:Type} (aQ:dQ R) (aK:de R) (K:Ex→St→Option R) (rc:St→Option R) (d:cd):roundOf tt (dM (dR aQ)) (eY R aK) 0 ((aT (aI Tryz.f45)).getD 0 .skip) fG (fe d) rc K=ib aQ K (fun d=>rc (fe d)) d:=by kernel_rfl
theorem qK {R:Type} (aQ:dQ R) (K:Ex→St→Option R) (n:Nat) (d:cd):dp aQ K (n+1) d=ib aQ K (dp aQ K n) d:=by kernel_rfl
theorem qL {R:Type} (aQ:dQ R) (K:Ex→St→Option R) (d:cd):dp aQ K 0 d=none:=by kernel_rfl
theorem sb (x:bE.au cf) (y:aA.au cg):(⟨bE.eD cf x,aA.eD cg y⟩:St)=fe (ie x y):=by kernel_rfl
theorem sc {R:Type} (aQ:dQ R) (x:bE.au cf) (y:aA.au cg) (K:Ex→St→Option R):gW (aK aQ) x y K=dp aQ K (ic x y) (ie x y):=by kernel_rfl
theorem sU {R:Type} (aQ:dQ R) (other:dC R) (ho:jt tt (dM (dR aQ)) (eY R (aK aQ)) 0 ((aT (aI Tryz.f45)).getD 0 .skip) fG other):jt tt (dM (dR aQ)) (eY R (aK aQ)) 0 ((aT (aI Tryz.f45)).getD 0 .skip) fG (dx cf cg (gW (aK aQ)) other) :=
 dL (A:=dp aQ) ho (fw fe (ib aQ) (dp aQ) (qL aQ) (sa aQ (aK aQ)) (qK aQ)) ic ie sb (sc aQ)
def nJ {R:Type} (aK:de R) (x1:List Json) (x2:List Json) (k0:Bool→Option R):Option R :=
 bif ((x1.length:Int) != (x2.length:Int))then (k0 false)else (aK (List.length x2+List.length x1+Int.natAbs (x1.length:Int)+Int.natAbs 0+64) x2 x1 (x1.length:Int) 0 (k0 true) (fun y8=>k0 y8))
def bQ {R:Type} (aQ:dQ R):dJ R:=fun x1 x2 k0=>nJ (aK aQ) x1 x2 k0
theorem vg {R:Type} (aQ:dQ R) (aK:de R):gS (R:=R) tt (dR aQ) (eY R aK) false Tryz.f45 (aI Tryz.f45) iX iY (nh (nJ aK)):=fun x y k=>by kernel_rfl
theorem tO (R:Type) (aQ:dQ R) (ov:aG.Spec.Ok Tryz.prog 21 (bm oD oE (jj aQ) bb)):∀a∈aT (aI Tryz.f45),jn tt (dM (dR aQ)) (eY R (aK aQ)) 0 a:=by
 refine gR 1 (by kernel_rfl) fun i hi => ?_
 match i,hi with
 | 0,_=>exact cW (by kernel_rfl) (sU aQ _ eN)
 | n+1,hi=>omega
theorem tU (R:Type) (aQ:dQ R) (ov:aG.Spec.Ok Tryz.prog 21 (bm oD oE (jj aQ) bb)):sM Tryz.prog 45 (nI (bQ aQ)):=cC TT mixed (uH aQ ov) rfl rfl rfl rfl (tO R aQ ov) (vg aQ (aK aQ))
def RU {R:Type} (bQ:dJ R) (dE:gu R):List (wv R) := [(45,true,(nI bQ bb)),(44,true,(vU dE bb))]
theorem V5 {R:Type} (aQ:dQ R) (ov:aG.Spec.Ok Tryz.prog 21 (bm oD oE (jj aQ) bb)):ff (R:=R) Tryz.prog (RU (bQ aQ) dE) := .p (tU R aQ ov _ (aM _)) <| .p (Dj R _ (aM _)) <| .n
def RV {R:Type} (bQ:dJ R) (dE:gu R) (x1:Json) (x2:Json) (k0:Bool→Option R):Option R :=
 bif (x1.kind==x2.kind)then (bif (x1.num.aF==x2.num.aF&&(x1.num.exp==x2.num.exp&&true))then (bif (x1.text==x2.text)then (dE x1.names x2.names (fun y3=>bif y3 then (bQ x1.items x2.items (fun y4=>k0 y4))else (k0 false)))else (k0 false))else (k0 false))else (k0 false)
def L5 {R:Type} (aQ:dQ R):dQ R:=fun x1 x2 k0=>RV (bQ aQ) dE x1 x2 k0
theorem Yv {R:Type} (bQ:dJ R) (dE:gu R):gS (R:=R) tt (RU bQ dE) Ca false Tryz.f21 (aI Tryz.f21) oD oE (jj (RV bQ dE)):=fun x y k=>by kernel_rfl
theorem SK (R:Type) (aQ:dQ R) (ov:aG.Spec.Ok Tryz.prog 21 (bm oD oE (jj aQ) bb)):sM Tryz.prog 21 (RT (L5 aQ)):=cC TT mixed (V5 aQ ov) rfl rfl rfl rfl eS (Yv (bQ aQ) dE)
def sd {R:Type}:Nat→dQ R
 | 0,_,_,_=>none
 | n+1,hY,hZ,k0'=>L5 (sd n) hY hZ k0'
theorem json_Same_N_succ {R:Type} (n:Nat):sd (R:=R) (n+1)=L5 (sd n):=by kernel_rfl
theorem U0 (R:Type):∀n,aG.Spec.Ok Tryz.prog 21 (bm oD oE (jj (sd (R:=R) n)) bb) :=
 wu (run:=fun n=>jj (sd (R:=R) n)) (fun x y k=>by kernel_rfl) fun n hyp=>SK R (sd n) hyp bb (aM _)
def qd {R:Type}:dQ R:=fun x1 x2 k0=>sd (Json.depth x1+2) x1 x2 k0
theorem U1 (R:Type):jj (R:=R) qd=fun x y k=>jj (sd (Json.depth (⟨x.1.1,⟨x.1.2.1,x.1.2.2.1⟩,x.1.2.2.2.1,x.1.2.2.2.2.1,x.1.2.2.2.2.2.1⟩:Json)+2)) x y k:=by kernel_rfl
theorem U2 (R:Type) (other:aG.Spec R) (ho:aG.Spec.Ok Tryz.prog 21 other):aG.Spec.Ok Tryz.prog 21 (bm oD oE (jj qd) other) :=
 CA (FC (run:=fun n=>jj (sd (R:=R) n)) (fun x y=>(Json.depth (⟨x.1.1,⟨x.1.2.1,x.1.2.2.1⟩,x.1.2.2.2.1,x.1.2.2.2.2.1,x.1.2.2.2.2.2.1⟩:Json)+2)) ho (U0 R)) (U1 R)
end Go.Proofs.YtmlkkgfenfdndaaGreatDoor
set_option maxRecDepth 100000
namespace Go.Proofs.YtmlkkgfenfdndaaGreatDoor
open Go Go.aG Go.Lib
abbrev SL:=Int × List Token
def gi (x:ah):List Token→Option (List Token)
  | t::r=>if t.kind=1∧t.text=x then some r else none
  | []=>none
def Ga (ns:List ah):List Token→Except SL (ah × List Token)
  | t::r =>
    if t.kind≠2 then .error (40,t::r)else if ns.contains t.text then .error (42,t::r)else
      match gi [58] r with
      | some r' => .ok (t.text,r')
      | none => .error (40,r)
  | [] => .error (0, [])
def vW (f:List Token→Except SL (Json × List Token)) (obj:Bool) (ns:List ah) (is:List Json) (ts:List Token):Except SL ((List ah × List Json) × List Token) :=
  match obj with
  | true =>
    (match Ga ns ts with
     | .error b => .error b
     | .ok (nm,ts1)=>(match f ts1 with | .error b => .error b | .ok (v,Ip) => .ok ((ns ++ [nm],is ++ [v]),Ip)))
  | false=>(match f ts with | .error b => .error b | .ok (v,Ip) => .ok ((ns,is ++ [v]),Ip))
def tP (f:List Token→Except SL (Json × List Token)) (cl:ah) (obj:Bool):Nat→List ah→List Json→List Token→Except SL ((List ah × List Json) × List Token)
  | 0,_,_,ts => .error (0,ts)
  | m+1,ns,is,ts =>
    match vW f obj ns is ts with
    | .error b => .error b
    | .ok (p,Ip) =>
      match gi cl Ip with
      | some r => .ok (p,r)
      | none =>
        match gi [44] Ip with
        | some r=>tP f cl obj m p.1 p.2 r
        | none => .error (40,Ip)
def B4 (t:ah):Bool:=t==va||(t==o4||t==AG)
def Re:List (ah × Int) := [(va,1),(o4,2),(AG,3)]
def Cp (t:ah):Bool:=t == [91]||t == [123]
def pE (t:Token):Bool:=t.kind==2||(t.kind==3||(t.kind==4||(t.kind==1&&Cp t.text)))
def tQ:Nat→Int→List Token→Except SL (Json × List Token)
  | 0,_,ts => .error (0,ts)
  | _+1,_, [] => .error (0, [])
  | n+1,d,t::r =>
    if pE t=false then .error (40,t::r)else
    if d>16 then .error (41,t::r)else
    if t.kind=1∧Cp t.text=true then
      let obj:=t.text == [123]
      let k:Int:=if obj then 7 else 6
      let cl:ah:=if obj then [125]else [93]
      match gi cl r with
      | some r' => .ok (⟨k,⟨0,0⟩, [], [], []⟩,r')
      | none =>
        match tP (tQ n (d+1)) cl obj (r.length+1) [] [] r with
        | .error b => .error b
        | .ok (p,r') => .ok (⟨k,⟨0,0⟩, [],p.1,p.2⟩,r')
    else if t.kind=4∧B4 t.text=true then .ok (⟨sf .str (.int .i64) t.text Re,⟨0,0⟩, [], [], []⟩,r)
    else if t.kind=3 then .ok (⟨4,t.num, [], [], []⟩,r)
    else .ok (⟨5,⟨0,0⟩,t.text, [], []⟩,r)
theorem xu {x:ah} {ts r:List Token} (h:gi x ts=some r):r.length<ts.length:=by
  cases ts with
  | nil=>cases h
  | cons t ts =>
    simp only[gi]at h
    split at h
    · cases h; simp
    · cases h
theorem W6 {ns:List ah} {ts:List Token} {p:ah × List Token} (h:Ga ns ts = .ok p):p.2.length<ts.length:=by
  cases ts with
  | nil=>cases h
  | cons t ts =>
    simp only[Ga]at h
    split at h
    · cases h
    · split at h
      · cases h
      · split at h
        · rename_i r hr
          have:=xu hr
          cases h
          simp; omega
        · cases h
theorem Rf {f:List Token→Except SL (Json × List Token)} (hf:∀ts p,f ts = .ok p→p.2.length<ts.length) {obj:Bool} {ns:List ah} {is:List Json} {ts:List Token} {p:(List ah × List Json) × List Token} (h:vW f obj ns is ts = .ok p) :
    p.2.length<ts.length:=by
  cases obj with
  | true =>
    simp only[vW]at h
    split at h
    · cases h
    · rename_i nm ts1 hn
      have h1:=W6 hn
      split at h
      · cases h
      · rename_i v Ip hv
        have h2:=hf _ _ hv
        cases h
        simp only at h1 h2 ⊢
        omega
  | false =>
    simp only[vW]at h
    split at h
    · cases h
    · rename_i v Ip hv
      have h2:=hf _ _ hv
      cases h
      exact h2
theorem W7 {f:List Token→Except SL (Json × List Token)} (hf:∀ts p,f ts = .ok p→p.2.length<ts.length) {cl:ah} {obj:Bool}:∀(m:Nat) (ns:List ah) (is:List Json) (ts:List Token) (p:(List ah × List Json) × List Token),
    tP f cl obj m ns is ts = .ok p→p.2.length<ts.length
  | 0,_,_,_,_,h=>by cases h
  | m+1,ns,is,ts,p,h=>by
    simp only[tP]at h
    split at h
    · cases h
    · rename_i q Ip hq
      have h1:=Rf hf hq
      split at h
      · rename_i r hr
        have h2:=xu hr
        cases h
        simp only at h1 h2 ⊢
        omega
      · split at h
        · rename_i r hr
          have h2:=xu hr
          have h3:=W7 hf m _ _ _ _ h
          simp only at h1 h2 h3 ⊢
          omega
        · cases h
theorem U3:∀(n:Nat) (d:Int) (ts:List Token) (p:Json × List Token),tQ n d ts = .ok p→p.2.length<ts.length
  | 0,_,_,_,h=>by cases h
  | _+1,_, [],_,h=>by cases h
  | n+1,d,t::r,p,h=>by
    simp only[tQ]at h
    split at h
    · cases h
    split at h
    · cases h
    split at h
    · split at h
      · rename_i r' hr
        have:=xu hr
        cases h
        simp; omega
      · split at h
        · cases h
        · rename_i q r' hq
          have:=W7 (fun ts p=>U3 n (d+1) ts p) _ _ _ _ _ hq
          cases h
          simp only[List.length_cons]at this ⊢
          omega
    split at h
    · cases h; simp
    split at h
    · cases h; simp
    · cases h; simp
theorem U4 {f:List Token→Except SL (Json × List Token)} (hf:∀ts p,f ts = .ok p→p.2.length<ts.length) {cl:ah} {obj:Bool}:∀(m m':Nat) (ns:List ah) (is:List Json) (ts:List Token),ts.length<m→ts.length<m' →
    tP f cl obj m ns is ts=tP f cl obj m' ns is ts
  | 0,_,_,_,_,h,_=>by omega
  | _+1,0,_,_,_,_,h=>by omega
  | m+1,m'+1,ns,is,ts,h,h'=>by
    simp only[tP]
    cases hq:vW f obj ns is ts with
    | error b=>rfl
    | ok q =>
      obtain ⟨p,Ip⟩:=q
      have h1:=Rf hf hq
      simp only
      cases gi cl Ip with
      | some r=>rfl
      | none =>
        simp only
        cases hr:gi [44] Ip with
        | none=>rfl
        | some r =>
          have h2:=xu hr
          simp only at h1 h2 ⊢
          exact U4 hf m m' _ _ _ (by omega) (by omega)
def Yw {α:Type} (P:α→Prop) (Q:SL→Prop):Except SL α→Prop
 | .ok p=>P p
 | .error b=>Q b
def xw (ts:List Token):Prop:=∃e,ts.getLast? = some e∧e.kind=5
theorem xw.ne {ts:List Token} (h:xw ts):ts ≠ []:=by
 rintro rfl
 obtain ⟨e,h,_⟩:=h
 cases h
theorem xw.tail {t:Token} {r:List Token} (h:xw (t::r)) (ht:t.kind≠5):xw r:=by
 obtain ⟨e,h1,h2⟩:=h
 cases r with
 | nil =>
  simp at h1
  subst h1
  exact (ht h2).elim
 | cons u r=>exact ⟨e,by simpa [List.getLast?_cons_cons]using h1,h2⟩
theorem rG {x:ah} {ts r:List Token} (he:xw ts) (h:gi x ts=some r):xw r:=by
 cases ts with
 | nil=>cases h
 | cons t ts =>
  simp only[gi]at h
  split at h
  ·rename_i hc
   cases h
   exact he.tail (by rw[hc.1]; decide)
  ·cases h
theorem nameS_end {ns:List ah} {ts:List Token} (he:xw ts):Yw (fun p:ah × List Token=>xw p.2) (fun b=>xw b.2∧b.1≠0) (Ga ns ts):=by
 cases ts with
 | nil=>exact (he.ne rfl).elim
 | cons t ts =>
  simp only[Ga]
  by_cases hk:t.kind=2
  ·rw[if_neg (by simp[hk])]
   have h1:=he.tail (by rw[hk]; decide)
   by_cases hc:ns.contains t.text=true
   ·rw[if_pos hc]
    exact ⟨he,by show (_:Int)≠0; simp⟩
   ·rw[if_neg hc]
    cases hr:gi [58] ts with
    | some r=>exact rG h1 hr
    | none=>exact ⟨h1,by show (_:Int)≠0; simp⟩
  ·rw[if_pos hk]
   exact ⟨he,by show (_:Int)≠0; simp⟩
theorem Dy {t:Token} {r:List Token}:decide ((0:Int)<((t::r).length:Int))=true:=by rw[decide_eq_true_eq,List.length_cons]; omega
theorem Te {t:Token} {r:List Token}:decide ((1:Int)≤((t::r).length:Int))=true:=by rw[decide_eq_true_eq,List.length_cons]; omega
theorem L6 {R:Type} (x:ah) {ts:List Token} (hn:ts ≠ []) (k:Bool→List Token→Int→Option R):aw x ts 0 k=match gi x ts with|some r=>k true r 0|none=>k false ts 0:=by
 cases ts with
 | nil=>exact (hn rfl).elim
 | cons t r =>
  have e0:aw x (t::r) 0 k=cu (decide ((0:Int)<((t::r).length:Int))) (bif (t.kind != 1)then (k false (t::r) 0)else (bif (!(t.text==x))then (k false (t::r) 0)else (cu (decide ((1:Int)≤((t::r).length:Int))) (k true r 0)))):=rfl
  rw[e0,aS Dy]
  simp only[gi]
  by_cases h1:t.kind=1
  ·by_cases h2:t.text=x
   ·rw[if_pos ⟨h1,h2⟩]
    have e1:(t.kind != 1)=false:=by simp[h1]
    have e2:(!(t.text==x))=false:=by simp[h2]
    rw[e1,e2,aS Te]
    rfl
   ·rw[if_neg (fun h=>h2 h.2)]
    have e1:(t.kind != 1)=false:=by simp[h1]
    have e2:(!(t.text==x))=true:=by simp[h2]
    rw[e1,e2]
    rfl
  ·rw[if_neg (fun h=>h1 h.1)]
   have e1:(t.kind != 1)=true:=by simp[h1]
   rw[e1]
   rfl
theorem index_loop {R:Type} (ns:List ah) (x:ah) (hl:ns.length≤1099511627776) (k:Bool→Option R):∀(F i:Nat),i≤ns.length→ns.length - i<F →
  bk F ns x (ns.length:Int) (i:Int) (k (decide ((-1:Int)≥0))) (fun y=>k (decide (y≥0)))=k ((ns.drop i).contains x):=by
 intro F
 induction F with
 | zero=>intro i _ h; omega
 | succ F ih =>
  intro i hi hF
  show jv (fun x0 x1 x2 x3=>bk F x0 x1 x2 x3 _ _) ns x (ns.length:Int) (i:Int) _ _=_
  unfold jv
  by_cases h:i<ns.length
  ·have h1:decide ((i:Int)<(ns.length:Int))=true:=by simp; omega
   have h2:(decide ((0:Int)≤(i:Int))&&true)=true:=by simp
   have hw:IntKind.i64.wrap ((i:Int)+1)=((i+1:Nat):Int):=by rw[bw (by omega) (by omega)]; omega
   have hg:ns.getD (i:Int).toNat (Ty.bU .str)=ns[i]:=getD_at h _
   have hj:(decide ((i:Int)≥0))=true:=by simp
   rw[h1,cond_true,aS h2,hg,List.drop_eq_getElem_cons h,List.contains_cons]
   cases hq:x==ns[i]with
   | true =>
    rw[cond_true,Bool.true_or]
    show k (decide ((i:Int)≥0))=k true
    rw[hj]
   | false =>
    rw[cond_false,Bool.false_or,hw]
    exact ih (i+1) (by omega) (by omega)
  ·have h1:decide ((i:Int)<(ns.length:Int))=false:=by simp; omega
   rw[h1,cond_false,List.drop_eq_nil_of_le (by omega)]
   rfl
theorem JF {R:Type} (ns:List ah) (x:ah) (hl:ns.length≤1099511627776) (k:Bool→Option R):ct ns x k=k (ns.contains x):=by
 have:=index_loop ns x hl k (List.length ns+List.length x+Int.natAbs (ns.length:Int)+Int.natAbs 0+64) 0 (by omega) (by omega)
 rw[List.drop_zero]at this
 exact this
theorem name_ok {R:Type} (ns:List ah) (hl:ns.length≤1099511627776) {ts:List Token} (he:xw ts):Yw (fun p:ah × List Token=>∀k:ah→List Token→Int→Option R,dd ns ts 0 k=k p.1 p.2 0)
  (fun b=>∃nm,∀k:ah→List Token→Int→Option R,dd ns ts 0 k=k nm b.2 b.1) (Ga ns ts):=by
 cases ts with
 | nil=>exact (he.ne rfl).elim
 | cons t r =>
  have e0:∀k:ah→List Token→Int→Option R,dd ns (t::r) 0 k=cu (decide ((0:Int)<((t::r).length:Int))) (bif (t.kind != 2)then (k t.text (t::r) 40)else (ct ns t.text (fun y6=>bif y6 then (k t.text (t::r) 42)else (cu (decide ((1:Int)≤((t::r).length:Int))) (aw [58] r 0 (fun y9 rI rq=>bif (!y9)then (ao 40 rI rq (fun qV G8=>k t.text qV G8))else (k t.text rI rq))))))):=fun k=>rfl
  simp only[Ga]
  by_cases hk:t.kind=2
  ·have e1:(t.kind != 2)=false:=by simp[hk]
   have hr:=he.tail (by rw[hk]; decide)
   rw[if_neg (by simp[hk])]
   cases hc:ns.contains t.text with
   | true =>
    rw[if_pos rfl]
    refine ⟨t.text,fun k => ?_⟩
    rw[e0,aS Dy,e1,cond_false,JF ns _ hl,hc]
    rfl
   | false =>
    rw[if_neg (by simp)]
    have hs:=fun k:Bool→List Token→Int→Option R=>L6 [58] hr.ne k
    cases hq:gi [58] r with
    | some r' =>
     rw[hq]at hs
     intro k
     rw[e0,aS Dy,e1,cond_false,JF ns _ hl,hc,cond_false,aS Te]
     exact hs _
    | none =>
     rw[hq]at hs
     refine ⟨t.text,fun k => ?_⟩
     rw[e0,aS Dy,e1,cond_false,JF ns _ hl,hc,cond_false,aS Te]
     exact hs _
  ·have e1:(t.kind != 2)=true:=by simp[hk]
   rw[if_pos hk]
   refine ⟨t.text,fun k => ?_⟩
   rw[e0,aS Dy,e1]
   rfl
def Hval {R:Type} (gX:aC R) (f:List Token→Except SL (Json × List Token)) (d:Int) (B:Nat):Prop :=
 ∀ts,xw ts→ts.length≤B→Yw (fun p:Json × List Token=>xw p.2∧∀k:Json→List Token→Int→Option R,gX d ts 0 k=k p.1 p.2 0)
  (fun b=>(xw b.2∧b.1≠0)∧∃v,∀k:Json→List Token→Int→Option R,gX d ts 0 k=k v b.2 b.1) (f ts)
theorem Tf {α:Type} (l:List α) (a b:α):(l ++ [a]).set ((l.length:Int)).toNat b=l ++ [b]:=by
 rw[Int.toNat_natCast,List.set_append_right _ _ (Nat.le_refl _),Nat.sub_self]
 rfl
abbrev PartG (R:Type):=Bool→Int→Int→Int→ah→List ah→Nat→Int→List Json→List Token→Int→Option R
theorem parts_ok {R:Type} (gX:aC R) (f:List Token→Except SL (Json × List Token)) (d:Int) (hd:0≤d∧d≤16) (B:Nat) (hv:Hval gX f (d+1) B) (obj:Bool) (kd a b:Int) (tx:ah) (ns:List ah) (is:List Json) (ts:List Token)
  (he:xw ts) (hB:ts.length≤B) (WG:ns.length≤1000000000) (his:is.length≤1000000000) :
  Yw (fun p:(List ah × List Json) × List Token=>xw p.2∧∀G:PartG R,bp gX obj kd a b tx ns is.length d is ts 0 (fun a1 a2 a3 a4 a5 a6 a7 a8 t e i=>G a1 a2 a3 a4 a5 a6 a7 a8 i t e) G (fun a1 a2 a3 a4 a5 a6 a7 a8 t e i=>G a1 a2 a3 a4 a5 a6 a7 a8 i t e) G=G obj kd a b tx p.1.1 p.1.2.length d p.1.2 p.2 0)
   (fun q=>(xw q.2∧q.1≠0)∧∃ns' n' is',∀G:PartG R,bp gX obj kd a b tx ns is.length d is ts 0 (fun a1 a2 a3 a4 a5 a6 a7 a8 t e i=>G a1 a2 a3 a4 a5 a6 a7 a8 i t e) G (fun a1 a2 a3 a4 a5 a6 a7 a8 t e i=>G a1 a2 a3 a4 a5 a6 a7 a8 i t e) G=G obj kd a b tx ns' n' d is' q.2 q.1)
   (vW f obj ns is ts):=by
 have e0:∀k0 k1 k2 k3,bp gX obj kd a b tx ns is.length d is ts 0 k0 k1 k2 k3=fp dd gX obj kd a b tx ns is.length d is ts 0 k0 k1 k2 k3:=fun _ _ _ _=>rfl
 have c1:decide ((ns.length+1)*16≤140737488355328)=true:=by rw[decide_eq_true_eq]; omega
 have c2:decide ((is.length+1)*88≤140737488355328)=true:=by rw[decide_eq_true_eq]; omega
 have hw:IntKind.i64.wrap (d+1)=d+1:=bw (by omega) (by omega)
 have ju:∀c:Int,c≠0→(c==0)=false:=fun c hc=>by simpa using hc
 cases obj with
 | true =>
  have hn:=name_ok (R:=R) ns (by omega) he
  have hnE:=nameS_end (ns:=ns) he
  have hnL:=fun p=>W6 (ns:=ns) (ts:=ts) (p:=p)
  simp only[vW]
  cases hq:Ga ns ts with
  | error q =>
   rw[hq]at hn hnE
   obtain ⟨nm,hn⟩:=hn
   refine ⟨hnE,ns ++ [nm],is.length,is,fun G => ?_⟩
   rw[e0]
   unfold fp
   rw[cond_true,hn,aS c1,ju _ hnE.2]
   rfl
  | ok q =>
   obtain ⟨nm,ts1⟩:=q
   rw[hq]at hn hnE hnL
   have hl1:=hnL _ rfl
   have h2:=hv ts1 hnE (by simp only at hl1; omega)
   simp only
   cases hf:f ts1 with
   | error q =>
    rw[hf]at h2
    obtain ⟨h2,v,h3⟩:=h2
    refine ⟨h2,ns ++ [nm],is.length+1,is ++ [v],fun G => ?_⟩
    rw[e0]
    unfold fp
    rw[cond_true,hn,aS c1]
    show (gX (IntKind.i64.wrap (d+1)) ts1 0 _)=_
    rw[hw,h3,aS c2,aS (by simp; omega),aS (by simp),Tf,Json.eta]
   | ok q =>
    obtain ⟨v,Ip⟩:=q
    rw[hf]at h2
    obtain ⟨h2,h3⟩:=h2
    refine ⟨h2,fun G => ?_⟩
    rw[e0]
    unfold fp
    rw[cond_true,hn,aS c1]
    show (gX (IntKind.i64.wrap (d+1)) ts1 0 _)=_
    rw[hw,h3,aS c2,aS (by simp; omega),aS (by simp),Tf,Json.eta]
    simp only[List.length_append,List.length_cons,List.length_nil]
 | false =>
  have h2:=hv ts he hB
  simp only[vW]
  cases hf:f ts with
  | error q =>
   rw[hf]at h2
   obtain ⟨h2,v,h3⟩:=h2
   refine ⟨h2,ns,is.length+1,is ++ [v],fun G => ?_⟩
   rw[e0]
   unfold fp
   show (gX (IntKind.i64.wrap (d+1)) ts 0 _)=_
   rw[hw,h3,aS c2,aS (by simp; omega),aS (by simp),Tf,Json.eta]
  | ok q =>
   obtain ⟨v,Ip⟩:=q
   rw[hf]at h2
   obtain ⟨h2,h3⟩:=h2
   refine ⟨h2,fun G => ?_⟩
   rw[e0]
   unfold fp
   show (gX (IntKind.i64.wrap (d+1)) ts 0 _)=_
   rw[hw,h3,aS c2,aS (by simp; omega),aS (by simp),Tf,Json.eta]
   simp only[List.length_append,List.length_cons,List.length_nil]
theorem partS_out {f:List Token→Except SL (Json × List Token)} {obj:Bool} {ns:List ah} {is:List Json} {ts:List Token} {p:(List ah × List Json) × List Token} (h:vW f obj ns is ts = .ok p) :
  p.1.1.length≤ns.length+1∧p.1.2.length=is.length+1:=by
 cases obj with
 | true =>
  simp only[vW]at h
  split at h
  ·cases h
  ·split at h
   ·cases h
   ·cases h; simp
 | false =>
  simp only[vW]at h
  split at h
  ·cases h
  ·cases h; simp
theorem loop_ok {R:Type} (gX:aC R) (f:List Token→Except SL (Json × List Token)) (hfl:∀ts p,f ts = .ok p→p.2.length<ts.length) (d:Int) (hd:0≤d∧d≤16) (B:Nat) (hBB:B≤100000000) (hv:Hval gX f (d+1) B) (obj:Bool) (kd a b:Int) (tx cl:ah) :
  ∀(F:Nat) (ns:List ah) (is:List Json) (ts:List Token),ts.length<F→xw ts→ts.length≤B→ns.length+ts.length≤1000000000→is.length+ts.length≤1000000000 →
  Yw (fun p:(List ah × List Json) × List Token=>xw p.2∧∀e0,aR gX F cl ts 0 obj kd a b tx ns is.length d is e0=e0 p.2 0 obj kd a b tx p.1.1 p.1.2.length d p.1.2)
   (fun q=>(xw q.2∧q.1≠0)∧∃ns' n' is',∀e0,aR gX F cl ts 0 obj kd a b tx ns is.length d is e0=e0 q.2 q.1 obj kd a b tx ns' n' d is')
   (tP f cl obj F ns is ts):=by
 intro F
 induction F with
 | zero=>intro ns is ts h; omega
 | succ F ih =>
  intro ns is ts hF he hB WG his
  have e1:∀e0,aR gX (F+1) cl ts 0 obj kd a b tx ns is.length d is e0=px ao (bp gX) aw (fun hY hZ iB ql E3 He Sl Sm Sn So Hf Rd=>aR gX F hY hZ iB ql E3 He Sl Sm Sn So Hf Rd e0) cl ts 0 obj kd a b tx ns is.length d is e0:=fun e0=>rfl
  let G:(List Token→Int→Bool→Int→Int→Int→ah→List ah→Nat→Int→List Json→Option R)→PartG R:=fun e0 Sk X6 X7 YK YL y41 y42 y43 y44 y45 y46 =>
   bif (y46 != 0)then (e0 y45 y46 Sk X6 X7 YK YL y41 y42 y43 y44)else (aw cl y45 y46 (fun y80 y81 y82=>bif y80 then (e0 y81 y82 Sk X6 X7 YK YL y41 y42 y43 y44)else (aw [44] y81 y82 (fun y86 y87 y88=>bif (!y86)then (ao 40 y87 y88 (fun y89 y90=>e0 y89 y90 Sk X6 X7 YK YL y41 y42 y43 y44))else (aR gX F cl y87 y88 Sk X6 X7 YK YL y41 y42 y43 y44 e0)))))
  have e2:∀e0,aR gX (F+1) cl ts 0 obj kd a b tx ns is.length d is e0=bp gX obj kd a b tx ns is.length d is ts 0 (fun a1 a2 a3 a4 a5 a6 a7 a8 t e i=>G e0 a1 a2 a3 a4 a5 a6 a7 a8 i t e) (G e0) (fun a1 a2 a3 a4 a5 a6 a7 a8 t e i=>G e0 a1 a2 a3 a4 a5 a6 a7 a8 i t e) (G e0):=fun e0=>rfl
  have hp:=parts_ok gX f d hd B hv obj kd a b tx ns is ts he hB (by omega) (by omega)
  simp only[tP]
  cases hq:vW f obj ns is ts with
  | error q =>
   rw[hq]at hp
   obtain ⟨h1,ns',n',is',h2⟩:=hp
   refine ⟨h1,ns',n',is',fun e0 => ?_⟩
   rw[e2,h2]
   show (bif (q.1 != 0)then _ else _)=_
   have:(q.1 != 0)=true:=by simpa using h1.2
   rw[this,cond_true]
  | ok q =>
   obtain ⟨⟨ns1,is1⟩,Ip⟩:=q
   rw[hq]at hp
   obtain ⟨h1,h2⟩:=hp
   have hlen:=Rf hfl hq
   have hout:=partS_out hq
   simp only at h1 h2 hlen hout ⊢
   have s1:=fun k:Bool→List Token→Int→Option R=>L6 cl h1.ne k
   cases hs:gi cl Ip with
   | some r =>
    rw[hs]at s1
    refine ⟨rG h1 hs,fun e0 => ?_⟩
    rw[e2,h2]
    show aw cl Ip 0 _=_
    rw[s1]
    rfl
   | none =>
    rw[hs]at s1
    have s2:=fun k:Bool→List Token→Int→Option R=>L6 [44] h1.ne k
    simp only
    cases hs2:gi [44] Ip with
    | none =>
     rw[hs2]at s2
     refine ⟨⟨h1,by show (_:Int)≠0; simp⟩,ns1,is1.length,is1,fun e0 => ?_⟩
     rw[e2,h2]
     show aw cl Ip 0 _=_
     rw[s1]
     show aw [44] Ip 0 _=_
     rw[s2]
     rfl
    | some r =>
     rw[hs2]at s2
     have hl3:=xu hs2
     have hih:=ih ns1 is1 r (by omega) (rG h1 hs2) (by omega) (by omega) (by omega)
     have e3:∀e0,aR gX (F+1) cl ts 0 obj kd a b tx ns is.length d is e0=aR gX F cl r 0 obj kd a b tx ns1 is1.length d is1 e0:=fun e0=>by
      rw[e2,h2]
      show aw cl Ip 0 _=_
      rw[s1]
      show aw [44] Ip 0 _=_
      rw[s2]
      rfl
     simp only[e3]
     exact hih
theorem list_ok {R:Type} (gX:aC R) (f:List Token→Except SL (Json × List Token)) (hfl:∀ts p,f ts = .ok p→p.2.length<ts.length) (d:Int) (hd:0≤d∧d≤16) (B:Nat) (hBB:B≤100000000) (hv:Hval gX f (d+1) B) (obj:Bool) (kd a b:Int) (tx cl:ah)
  (r:List Token) (he:xw r) (hB:r.length≤B) (hs:gi cl r=none) :
  Yw (fun p:(List ah × List Json) × List Token=>xw p.2∧∀K0 (K:Json→List Token→Int→Option R),bY gX cl r 0 obj kd a b tx d K0 (fun G8 KZ DM HF Iv Iu UA Nv CK y22 Ya=>K ⟨HF,⟨Iv,Iu⟩,UA,Nv,Ya⟩ G8 KZ)=K ⟨kd,⟨a,b⟩,tx,p.1.1,p.1.2⟩ p.2 0)
   (fun q=>(xw q.2∧q.1≠0)∧∃v,∀K0 (K:Json→List Token→Int→Option R),bY gX cl r 0 obj kd a b tx d K0 (fun G8 KZ DM HF Iv Iu UA Nv CK y22 Ya=>K ⟨HF,⟨Iv,Iu⟩,UA,Nv,Ya⟩ G8 KZ)=K v q.2 q.1) (tP f cl obj (r.length+1) [] [] r):=by
 have e1:∀K0 K1,bY gX cl r 0 obj kd a b tx d K0 K1=aw cl r 0 (fun rI rq qV=>bif rI then (K0 rq qV obj kd a b tx d)else (aR gX (List.length cl+List.length rq+Int.natAbs qV+Int.natAbs kd+Int.natAbs a+Int.natAbs b+List.length tx+List.length ([]:List ah)+Int.natAbs d+List.length ([]:List Json)+64) cl rq qV obj kd a b tx ([]:List ah) 0 d ([]:List Json) K1)):=fun K0 K1=>rfl
 have s1:=fun k:Bool→List Token→Int→Option R=>L6 cl he.ne k
 rw[hs]at s1
 have hl:=loop_ok gX f hfl d hd B hBB hv obj kd a b tx cl (List.length cl+List.length r+Int.natAbs 0+Int.natAbs kd+Int.natAbs a+Int.natAbs b+List.length tx+List.length ([]:List ah)+Int.natAbs d+List.length ([]:List Json)+64) [] [] r (by omega) he hB (by simp; omega) (by simp; omega)
 have e2:∀K0 K1,bY gX cl r 0 obj kd a b tx d K0 K1=aR gX (List.length cl+List.length r+Int.natAbs 0+Int.natAbs kd+Int.natAbs a+Int.natAbs b+List.length tx+List.length ([]:List ah)+Int.natAbs d+List.length ([]:List Json)+64) cl r 0 obj kd a b tx ([]:List ah) ([]:List Json).length d ([]:List Json) K1:=fun K0 K1=>by
  rw[e1,s1]
  rfl
 rw[U4 hfl _ (r.length+1) [] [] r (by omega) (by omega)]at hl
 cases hq:tP f cl obj (r.length+1) [] [] r with
 | error q =>
  rw[hq]at hl
  obtain ⟨h1,ns',n',is',h2⟩:=hl
  exact ⟨h1,⟨kd,⟨a,b⟩,tx,ns',is'⟩,fun K0 K=>by rw[e2,h2]⟩
 | ok p =>
  rw[hq]at hl
  obtain ⟨h1,h2⟩:=hl
  exact ⟨h1,fun K0 K=>by rw[e2,h2]⟩
theorem W8 {R:Type} (gX:aC R) (obj:Bool) (kd a b d:Int) (tx cl:ah) (r r':List Token) (hn:r ≠ []) (hs:gi cl r=some r') (K0 K1) :
  bY (R:=R) gX cl r 0 obj kd a b tx d K0 K1=K0 r' 0 obj kd a b tx d:=by
 have e1:bY gX cl r 0 obj kd a b tx d K0 K1=aw cl r 0 (fun rI rq qV=>bif rI then (K0 rq qV obj kd a b tx d)else (aR gX (List.length cl+List.length rq+Int.natAbs qV+Int.natAbs kd+Int.natAbs a+Int.natAbs b+List.length tx+List.length ([]:List ah)+Int.natAbs d+List.length ([]:List Json)+64) cl rq qV obj kd a b tx ([]:List ah) 0 d ([]:List Json) K1)):=rfl
 rw[e1,L6 cl hn,hs]
 rfl
theorem Yx {R:Type} (gX:aC R) (d:Int) (r:List Token) (q:Json→List Token→Int→Option R):cO gX true d r 0 q =
  bY gX [125] r 0 true 7 0 0 [] d (fun y5 y6 y7 y8 y9 rI rq qV=>q ⟨y8,⟨y9,rI⟩,rq, [], []⟩ y5 y6) (fun G8 KZ DM HF Iv Iu UA Nv CK y22 Ya=>q ⟨HF,⟨Iv,Iu⟩,UA,Nv,Ya⟩ G8 KZ):=rfl
theorem Yy {R:Type} (gX:aC R) (d:Int) (r:List Token) (q:Json→List Token→Int→Option R):cO gX false d r 0 q =
  bY gX [93] r 0 false 6 0 0 [] d (fun y5 y6 y7 y8 y9 rI rq qV=>q ⟨y8,⟨y9,rI⟩,rq, [], []⟩ y5 y6) (fun G8 KZ DM HF Iv Iu UA Nv CK y22 Ya=>q ⟨HF,⟨Iv,Iu⟩,UA,Nv,Ya⟩ G8 KZ):=rfl
section
variable {R:Type} (gX:aC R) (d:Int) (t:Token) (r:List Token) (k:Json→List Token→Int→Option R)
def J18:Option R:=bif (t.kind==3)then k ⟨4,⟨t.num.aF,t.num.exp⟩, [], [], []⟩ r 0 else k ⟨5,⟨0,0⟩,t.text, [], []⟩ r 0
def J16 (z:Bool):Option R:=bif z then (bif (t.kind==4)then k ⟨sf .str (.int .i64) t.text Re,⟨0,0⟩, [], [], []⟩ r 0 else J18 t r k)else J18 t r k
def J17 (z:Bool):Option R:=bif z then (bif (t.kind==1)then cO gX (t.text == [123]) d r 0 (fun qV G8 KZ=>k ⟨qV.kind,⟨qV.num.aF,qV.num.exp⟩,qV.text,qV.names,qV.items⟩ G8 KZ)else J18 t r k)
 else (bif (t.text==va)then J16 t r k (t.text==va)else (bif (t.text==o4)then J16 t r k (t.text==o4)else J16 t r k (t.text==AG)))
def J19:Option R:=cu (decide ((1:Int)≤((t::r).length:Int))) (bif (t.text == [91])then J17 gX d t r k (t.text == [91])else J17 gX d t r k (t.text == [123]))
def J20 (z:Bool):Option R:=bif (!z)then k ⟨0,⟨0,0⟩, [], [], []⟩ (t::r) 40 else (bif (decide (d>16))then k ⟨0,⟨0,0⟩, [], [], []⟩ (t::r) 41 else J19 gX d t r k)
end
theorem value_head {R:Type} (n:Nat) (d:Int) (t:Token) (r:List Token) (k:Json→List Token→Int→Option R):bI (n+1) d (t::r) 0 k=J20 (bI n) d t r k (pE t):=by
 have e0:bI (n+1) d (t::r) 0 k=cu (decide ((0:Int)<((t::r).length:Int))) (let j:=J20 (bI n) d t r k; bif (t.kind==2)then j true else (bif (t.kind==3)then j true else (bif (t.kind==4)then j true else (bif (t.kind==1)then (bif (t.text == [91])then j true else j (t.text == [123]))else j false)))):=rfl
 rw[e0,aS Dy]
 unfold pE Cp
 simp only
 cases t.kind==2 <;> cases t.kind==3 <;> cases t.kind==4 <;> cases t.kind==1 <;> cases t.text == [91] <;> rfl
theorem open_named {x:ah} (h:Cp x=true):B4 x=false:=by
 unfold Cp at h
 rw[Bool.or_eq_true,beq_iff_eq,beq_iff_eq]at h
 rcases h with rfl|rfl <;> rfl
theorem value_ok {R:Type} (B:Nat) (hBB:B≤100000000):∀(n:Nat) (d:Int),0≤d→d≤17→17 - d<n→Hval (R:=R) (bI n) (tQ n d) d B:=by
 intro n
 induction n with
 | zero=>intro d h0 h1 h2; omega
 | succ n ih =>
  intro d h0 h1 h2 ts he hB
  cases ts with
  | nil=>exact (he.ne rfl).elim
  | cons t r =>
   simp only[tQ]
   have hv:=fun k=>value_head (R:=R) n d t r k
   cases Vs:pE t with
   | false =>
    rw[if_pos rfl]
    rw[Vs]at hv
    exact ⟨⟨he,by show (_:Int)≠0; simp⟩,_,fun k=>hv k⟩
   | true =>
    rw[if_neg (by simp)]
    rw[Vs]at hv
    by_cases hd:d>16
    ·rw[if_pos hd]
     refine ⟨⟨he,by show (_:Int)≠0; simp⟩,⟨0,⟨0,0⟩, [], [], []⟩,fun k => ?_⟩
     rw[hv]
     unfold J20
     have e1:decide (d>16)=true:=by simpa using hd
     rw[e1]
     rfl
    ·rw[if_neg hd]
     have hk5:t.kind≠5:=by
      intro h5
      simp[pE,h5]at Vs
     have YN:=he.tail hk5
     have hrB:r.length≤B:=by simp only[List.length_cons]at hB; omega
     have hv2:∀k,bI (n+1) d (t::r) 0 k=J17 (bI n) d t r k (Cp t.text):=fun k=>by
      rw[hv]
      unfold J20
      have e1:decide (d>16)=false:=by simpa using hd
      rw[e1,Bool.not_true,cond_false,cond_false]
      unfold J19
      rw[aS Te]
      unfold Cp
      cases t.text == [91] <;> rfl
     have h18:¬(t.kind=1∧Cp t.text=true)→¬(t.kind=4∧B4 t.text=true)→∀k,bI (n+1) d (t::r) 0 k=J18 t r k:=fun g1 g2 k=>by
      rw[hv2]
      unfold J17
      cases ho:Cp t.text with
      | true =>
       have:(t.kind==1)=false:=by
        rw[beq_eq_false_iff_ne]
        exact fun h=>g1 ⟨h,ho⟩
       rw[cond_true,this,cond_false]
      | false =>
       rw[cond_false]
       have V6:(bif (t.text==va)then J16 t r k (t.text==va)else (bif (t.text==o4)then J16 t r k (t.text==o4)else J16 t r k (t.text==AG)))=J16 t r k (B4 t.text):=by
        unfold B4
        cases t.text==va <;> cases t.text==o4 <;> rfl
       rw[V6]
       unfold J16
       cases hn:B4 t.text with
       | false=>rfl
       | true =>
        have:(t.kind==4)=false:=by
         rw[beq_eq_false_iff_ne]
         exact fun h=>g2 ⟨h,hn⟩
        rw[cond_true,this,cond_false]
     by_cases WC:t.kind=1∧Cp t.text=true
     ·rw[if_pos WC]
      have ek:(t.kind==1)=true:=by simpa using WC.1
      have hvp:∀k,bI (n+1) d (t::r) 0 k=cO (bI n) (t.text == [123]) d r 0 k:=fun k=>by
       rw[hv2]
       unfold J17
       rw[WC.2,cond_true,ek,cond_true]
       simp only[Json.eta]
      have gX:=ih (d+1) (by omega) (by omega) (by omega)
      have hfl:=fun ts p=>U3 n (d+1) ts p
      cases Zu:t.text == [123]with
      | true =>
       simp only[if_true]
       rw[Zu]at hvp
       cases hs:gi [125] r with
       | some r' =>
        refine ⟨rG YN hs,fun k => ?_⟩
        rw[hvp]
        rw[Yx]
        rw[W8 _ _ _ _ _ _ _ _ _ _ YN.ne hs]
       | none =>
        have hl:=list_ok (R:=R) _ _ hfl d ⟨h0,by omega⟩ B hBB gX true 7 0 0 [] [125] r YN hrB hs
        simp only
        cases hq:tP (tQ n (d+1)) [125] true (r.length+1) [] [] r with
        | error q =>
         rw[hq]at hl
         obtain ⟨g1,v,g2⟩:=hl
         refine ⟨g1,v,fun k => ?_⟩
         rw[hvp]
         rw[Yx]
         exact g2 _ k
        | ok p =>
         rw[hq]at hl
         obtain ⟨g1,g2⟩:=hl
         refine ⟨g1,fun k => ?_⟩
         rw[hvp]
         rw[Yx]
         exact g2 _ k
      | false =>
       simp only[Bool.false_eq_true,if_false]
       rw[Zu]at hvp
       cases hs:gi [93] r with
       | some r' =>
        refine ⟨rG YN hs,fun k => ?_⟩
        rw[hvp]
        rw[Yy]
        rw[W8 _ _ _ _ _ _ _ _ _ _ YN.ne hs]
       | none =>
        have hl:=list_ok (R:=R) _ _ hfl d ⟨h0,by omega⟩ B hBB gX false 6 0 0 [] [93] r YN hrB hs
        simp only
        cases hq:tP (tQ n (d+1)) [93] false (r.length+1) [] [] r with
        | error q =>
         rw[hq]at hl
         obtain ⟨g1,v,g2⟩:=hl
         refine ⟨g1,v,fun k => ?_⟩
         rw[hvp]
         rw[Yy]
         exact g2 _ k
        | ok p =>
         rw[hq]at hl
         obtain ⟨g1,g2⟩:=hl
         refine ⟨g1,fun k => ?_⟩
         rw[hvp]
         rw[Yy]
         exact g2 _ k
     ·rw[if_neg WC]
      by_cases V6:t.kind=4∧B4 t.text=true
      ·rw[if_pos V6]
       refine ⟨YN,fun k => ?_⟩
       rw[hv2]
       have ho:Cp t.text=false:=by
        cases ho:Cp t.text with
        | false=>rfl
        | true=>rw[open_named ho]at V6; cases V6.2
       have ek:(t.kind==4)=true:=by simpa using V6.1
       unfold J17
       rw[ho,cond_false]
       have Qj:(bif (t.text==va)then J16 t r k (t.text==va)else (bif (t.text==o4)then J16 t r k (t.text==o4)else J16 t r k (t.text==AG)))=J16 t r k (B4 t.text):=by
        unfold B4
        cases t.text==va <;> cases t.text==o4 <;> rfl
       rw[Qj,V6.2]
       unfold J16
       rw[ek]
       rfl
      ·rw[if_neg V6]
       have h:=h18 WC V6
       by_cases hk3:t.kind=3
       ·rw[if_pos hk3]
        refine ⟨YN,fun k => ?_⟩
        rw[h]
        unfold J18
        have ek:(t.kind==3)=true:=by simpa using hk3
        rw[ek]
        rfl
       ·rw[if_neg hk3]
        refine ⟨YN,fun k => ?_⟩
        rw[h]
        unfold J18
        have ek:(t.kind==3)=false:=by simpa using hk3
        rw[ek]
        rfl
theorem plain_low {b:UInt8} {t:ah} (h:b.toNat<32):yi (b::t)=none:=by
 unfold yi
 rw[if_neg (by simp),decodeL_ascii b t (by omega)]
 simp only
 rw[if_neg (by omega),if_pos h]
theorem plain_enc {s r:ah} {c:Nat} (h:yi s=some (c,r)):s=enc c++r∧Pe s∧(decodeL s).2=(enc c).length∧c=(decodeL s).1:=by
 unfold yi at h
 split at h
 ·cases h
 ·rename_i ju
  split at h
  ·cases h
  ·rename_i hg
   split at h
   ·cases h
   ·simp only[Option.some.injEq,Prod.mk.injEq]at h
    obtain ⟨rfl,rfl⟩:=h
    obtain ⟨e1,e2⟩:=Um ju hg
    exact ⟨e1,hg,e2.symm,rfl⟩
theorem refUnq_loop {R:Type} (s:ah) (hs:s.length≤9000000000) (e1:ah→Int→Bool→Option R):∀(n i:Nat) (o:ah),s.length - i<n→1≤i→i≤s.length→o.length+4*(s.length - i)≤90000000000 →
  bJ n s (zs o) (i:Int) (e1 [] 0 false) e1=match uq n (s.drop i) o with|some (o',r)=>e1 o' (((s.length - r.length:Nat)):Int) true|none=>e1 [] 0 false:=by
 intro n
 induction n with
 | zero=>intro i o h; omega
 | succ n ih =>
  intro i o h h1 hil hb
  have e:bJ (n+1) s (zs o) (i:Int) (e1 [] 0 false) e1=s7 dZ gP (fun hY hZ iB=>bJ n hY hZ iB (e1 [] 0 false) e1) s (zs o) (i:Int) (e1 [] 0 false) e1:=rfl
  rw[e]
  unfold s7
  simp only[uq]
  have w1:IntKind.i64.wrap ((i:Int)+1)=((i+1:Nat):Int):=by rw[bw (by omega) (by omega)]; omega
  by_cases hi:i<s.length
  ·have hd:=drop_cons hi
   have fin:∀(c j:Nat),vr c→i<j→j≤s.length→(fun hY hZ iB=>bJ n hY hZ iB (e1 [] 0 false) e1) s (zs o++zs (enc c)) (j:Int)=match uq n (s.drop j) (o++enc c)with|some (o',r)=>e1 o' (((s.length - r.length:Nat)):Int) true|none=>e1 [] 0 false:=fun c j hv hj hjl=>by
    have:=GM hv
    show bJ n s (zs o++zs (enc c)) (j:Int) (e1 [] 0 false) e1=_
    rw[←zs_app]
    exact ih j (o++enc c) (by omega) (by omega) hjl (by rw[List.length_append]; omega)
   have hchk:(decide ((0:Int)≤(i:Int))&&decide ((i:Int)<(s.length:Int)))=true:=by rw[aB (by omega),aB (by omega)]; rfl
   rw[aB (show (i:Int)<(s.length:Int) by omega),cond_true]
   simp only[Bool.and_true,aB (show (0:Int)≤(i:Int) by omega),aS rfl,Int.toNat_natCast,w1]
   have hbt:=UInt8.toNat_lt (s.getD i 0)
   have e34:([34]:ah).isPrefixOf (s.drop i)=decide ((s.getD i 0).toNat=34):=by rw[hd,H6]; exact beqN _ 34 (by omega)
   have hd1:(s.drop i).drop 1=s.drop (i+1):=by rw[List.drop_drop]
   have q34:(((s.getD i 0).toNat:Int)==34)=decide ((s.getD i 0).toNat=34):=Q2 _ 34
   have q92:(((s.getD i 0).toNat:Int)==92)=decide ((s.getD i 0).toNat=92):=Q2 _ 92
   rw[e34,q34,q92]
   by_cases J4:(s.getD i 0).toNat=34
   ·rw[aB J4,cond_true]
    simp only[if_true]
    rw[unz]
    rw[hd1]
    have:s.length - (s.drop (i+1)).length=i+1:=by rw[List.length_drop]; omega
    rw[this]
   rw[aV J4,cond_false]
   simp only[Bool.false_eq_true,if_false]
   have e92:([92]:ah).isPrefixOf (s.drop i)=decide ((s.getD i 0).toNat=92):=by rw[hd,H6]; exact beqN _ 92 (by omega)
   unfold Ny
   rw[e92]
   by_cases h32:(s.getD i 0).toNat<32
   ·rw[aB (show ((s.getD i 0).toNat:Int)<32 by omega),cond_true,aV (show ¬(s.getD i 0).toNat=92 by omega)]
    simp only[Bool.false_eq_true,if_false]
    have hpl:yi (s.drop i)=none:=by rw[hd]; exact plain_low h32
    rw[hpl]
   rw[aV (show ¬((s.getD i 0).toNat:Int)<32 by omega),cond_false]
   by_cases WV:(s.getD i 0).toNat=92
   ·rw[aB WV,cond_true]
    simp only[if_true,hd1]
    have hk:=escape_ok (R:=R) s (i+1) (by omega) (fun y6 y7=>bif (y7==0)then (e1 ([]:ah) 0 false)else (cu (decide (((zs o).length+y6.length)*1≤140737488355328)) (bJ n s ((zs o:List Int)++(y6:List Int)) (IntKind.i64.wrap (((i+1:Nat):Int)+y7)) (e1 [] 0 false) e1)))
    cases he:UE (s.drop (i+1))with
    | none =>
     rw[he]at hk
     simp only at hk ⊢
     exact hk.trans rfl
    | some q =>
     obtain ⟨c,r⟩:=q
     rw[he]at hk
     obtain ⟨m,m1,m2,rfl,hk⟩:=hk
     obtain ⟨hv,_⟩:=Ye he
     have hel:=GM hv
     simp only
     refine hk.trans ?_
     have em:((m:Int)==0)=false:=by rw[beq_eq_false_iff_ne]; omega
     rw[em,cond_false,aS (aB (by rw[On,On]; omega))]
     have ew:IntKind.i64.wrap (((i+1:Nat):Int)+(m:Int))=((i+1+m:Nat):Int):=by rw[bw (by omega) (by omega)]; omega
     rw[ew]
     exact fin c (i+1+m) hv (by omega) m2
   rw[aV WV,cond_false]
   simp only[Bool.false_eq_true,if_false]
   rw[one_ok s i hi (by omega)]
   cases he:yi (s.drop i)with
   | none =>
    have hz:Z5 (s.drop i)=0:=by
     rw[oneN_zero]
     intro hg
     have ju:s.drop i ≠ []:=by rw[hd]; simp
     obtain ⟨g1,g2⟩:=Um ju hg
     unfold yi at he
     unfold Pe at hg
     rw[if_neg ju,if_neg hg]at he
     split at he
     ·rename_i hc
      have g3:=enc1 (show (decodeL (s.drop i)).1<128 by omega)
      rw[g3,hd]at g1
      have g4:s.getD i 0=UInt8.ofNat (decodeL (s.getD i 0::s.drop (i+1))).1:=by
       have:=congrArg (fun l=>l.head?) g1
       simpa using this
      rw[hd]at hc
      rw[g4,iV _ (by omega)]at h32
      omega
     ·cases he
    rw[hz]
    rfl
   | some q =>
    obtain ⟨c,r⟩:=q
    obtain ⟨g1,g2,g3,g4⟩:=plain_enc he
    obtain ⟨hv,_⟩:=QV he
    have hel:=GM hv
    have ho:Z5 (s.drop i)=(enc c).length:=by unfold Z5; rw[if_pos g2,g3]
    have hlen:i+(enc c).length≤s.length:=by
     have:=congrArg List.length g1
     rw[List.length_drop,List.length_append]at this
     omega
    have hr:r=s.drop (i+(enc c).length):=by
     have:=congrArg (List.drop (enc c).length) g1
     rw[List.drop_left,List.drop_drop]at this
     exact this.symm
    rw[ho]
    have em:(((enc c).length:Int)==0)=false:=by rw[beq_eq_false_iff_ne]; omega
    have ew:IntKind.i64.wrap ((i:Int)+((enc c).length:Int))=((i+(enc c).length:Nat):Int):=by rw[bw (by omega) (by omega)]; omega
    have et:(s.drop i).take (((i+(enc c).length:Nat):Int).toNat - i)=enc c:=by
     rw[Int.toNat_natCast,Nat.add_sub_cancel_left]
     have:=congrArg (List.take (enc c).length) g1
     rw[List.take_left]at this
     exact this
    simp only
    rw[em,cond_false,ew,aS (by rw[aB (by omega),aB (by omega)]; rfl),aS (by rw[aB (show (i:Int)≤((i+(enc c).length:Nat):Int) by omega)]; rfl),aS (aB (by rw[et,QT,On,On]; omega)),et,QT,hr]
    exact fin c (i+(enc c).length) hv (by omega) hlen
  ·have:s.drop i = []:=List.drop_eq_nil_of_le (by omega)
   rw[this,aV (show ¬(i:Int)<(s.length:Int) by omega),cond_false]
   rfl
theorem V7 {R:Type} (s:ah) (hs:s.length≤9000000000) (k:ah→Int→Bool→Option R) :
  iq s k=match Z4 s with|some (o,r)=>k o (((s.length - r.length:Nat)):Int) true|none=>k [] 0 false:=by
 have e:iq s k=zA bJ s k:=rfl
 rw[e]
 unfold zA Z4
 match s,hs with
 | [],_=>rfl
 | [b],_ =>
  by_cases h:([34]:ah).isPrefixOf [b]=true
  ·rw[if_pos h]; rfl
  ·rw[if_neg h]; rfl
 | b::c::t,hs =>
  generalize hS:b::c::t=s at *
  have hl:2≤s.length:=by rw[←hS]; simp
  have hg:s.getD 0 0=b:=by rw[←hS]; rfl
  rw[aV (show ¬(s.length:Int)<2 by omega),cond_false,aS (aB (by omega)),hg]
  have q:((b.toNat:Int) != 34)=decide (b.toNat≠34):=neI _ 34
  have e34:([34]:ah).isPrefixOf s=decide (b.toNat=34):=by rw[←hS,H6]; exact beqN _ 34 (by omega)
  rw[q,e34]
  by_cases h:b.toNat=34
  ·rw[aB h,aV (show ¬b.toNat≠34 from fun x=>x h),cond_false]
   simp only[if_true]
   have key:=refUnq_loop (R:=R) s hs (fun y9 rI rq=>k y9 rI rq) (List.length s+List.length ([]:List Int)+Int.natAbs 1+64) 1 [] (by omega) (by omega) (by omega) (by simp only[List.length_nil]; omega)
   rw[Yf _ (s.length+1) _ _ (by rw[List.length_drop]; omega) (by rw[List.length_drop]; omega)]at key
   exact key
  ·rw[aV h,aB (show b.toNat≠34 from h),cond_true]
   rfl
end Go.Proofs.YtmlkkgfenfdndaaGreatDoor
/-
 Functions of the program as pure Lean functions, and the ties; printed by wip/tools/emit.py.
-/
set_option maxRecDepth 100000
namespace Go.Proofs.YtmlkkgfenfdndaaGreatDoor
open Go Go.aG
/-! ### humpyard/humpyardref03.token -/
abbrev oF (R:Type):Type:=ah→Int→(Token→Int→Option R)→Option R
abbrev Hu:List bE := [.leaf (.str), .leaf (.int .i64)]
abbrev Hv:List aA := []
def L7 {R:Type} (fn:oF R):bE.au Hu→aA.au Hv→(V→aO→Option R)→Option R:=fun x y k=>fn x.1 x.2.1 (fun q0 q1=>k (.tuple [.agg [.int .i64 q0.kind, .str q0.text, .int .i64 q0.num.aF, .int .i64 q0.num.exp, .int .i64 q0.at_], .int .i64 q1]) [])
def NK {R:Type} (fn:oF R):aG.Spec R→aG.Spec R:=bm Hu Hv (L7 fn)
def NL {R:Type} (iq:p7 R) (jY:tq R) (jH:vp R):List (wv R) := [(119,true,(J6 iq bb)),(121,true,(NG jY bb)),(120,true,(PW jH bb))]
theorem SM {R:Type}:ff (R:=R) Tryz.prog (NL iq jY jH) := .p (Oy R _ (aM _)) <| .p (Q8 R _ (aM _)) <| .p (SB R _ (aM _)) <| .n
def Dz {R:Type} (iq:p7 R) (jY:tq R) (jH:vp R) (x1:ah) (x2:Int) (k0:Token→Int→Option R):Option R :=
 cu (decide ((0:Int)≤x2)&&decide (x2<x1.length)) (let j16:=fun (z3:Bool)=>bif z3 then (cu (decide ((0:Int)≤(IntKind.i64.wrap (x2+1)))&&decide ((IntKind.i64.wrap (x2+1))≤x1.length)) (cu (decide ((0:Int)≤x2)&&decide (x2≤(IntKind.i64.wrap (x2+1)))) (k0 (⟨1,((x1.drop x2.toNat).take ((IntKind.i64.wrap (x2+1)).toNat - x2.toNat)),⟨0,0⟩,x2⟩:Token) 1)))else (bif (((x1.getD x2.toNat 0).toNat:Int)==34)then (cu (decide ((0:Int)≤(x1.length:Int))&&decide ((x1.length:Int)≤x1.length)) (cu (decide ((0:Int)≤x2)&&decide (x2≤(x1.length:Int))) (iq ((x1.drop x2.toNat).take ((x1.length:Int).toNat - x2.toNat)) (fun y4 y5 y6=>bif (!y6)then (k0 (⟨0,([]:ah),⟨0,0⟩,0⟩:Token) 0)else (k0 (⟨2,y4,⟨0,0⟩,x2⟩:Token) y5)))))else (let j15:=fun (z7:Bool)=>bif z7 then (jH x1 x2 true (fun y8=>jY y8 (fun y9 rI=>bif (!rI)then (k0 (⟨0,([]:ah),⟨0,0⟩,0⟩:Token) 0)else (k0 (⟨3,y8,⟨y9.aF,y9.exp⟩,x2⟩:Token) (y8.length:Int)))))else (let Z0:=fun (sn:Bool)=>bif sn then (jH x1 x2 false (fun qV=>bif (qV==([116,114,117,101]:ah))then (k0 (⟨4,qV,⟨0,0⟩,x2⟩:Token) (qV.length:Int))else (bif (qV==([102,97,108,115,101]:ah))then (k0 (⟨4,qV,⟨0,0⟩,x2⟩:Token) (qV.length:Int))else (bif (qV==([110,117,108,108]:ah))then (k0 (⟨4,qV,⟨0,0⟩,x2⟩:Token) (qV.length:Int))else (k0 (⟨0,([]:ah),⟨0,0⟩,0⟩:Token) 0)))))else (k0 (⟨0,([]:ah),⟨0,0⟩,0⟩:Token) 0); bif (decide (((x1.getD x2.toNat 0).toNat:Int)≥(97:Int)))then (Z0 (decide (((x1.getD x2.toNat 0).toNat:Int)≤(122:Int))))else (Z0 false)); bif (decide (((x1.getD x2.toNat 0).toNat:Int)≥(48:Int)))then (bif (decide (((x1.getD x2.toNat 0).toNat:Int)≤(57:Int)))then (j15 true)else (j15 (((x1.getD x2.toNat 0).toNat:Int)==45)))else (j15 (((x1.getD x2.toNat 0).toNat:Int)==45)))); bif (((x1.getD x2.toNat 0).toNat:Int)==123)then (j16 true)else (bif (((x1.getD x2.toNat 0).toNat:Int)==125)then (j16 true)else (bif (((x1.getD x2.toNat 0).toNat:Int)==91)then (j16 true)else (bif (((x1.getD x2.toNat 0).toNat:Int)==93)then (j16 true)else (bif (((x1.getD x2.toNat 0).toNat:Int)==44)then (j16 true)else (j16 (((x1.getD x2.toNat 0).toNat:Int)==58)))))))
def fq {R:Type}:oF R:=fun x1 x2 k0=>Dz iq jY jH x1 x2 k0
theorem U5 {R:Type} (iq:p7 R) (jY:tq R) (jH:vp R):gS (R:=R) tt (NL iq jY jH) Ca false Tryz.f84 (aI Tryz.f84) Hu Hv (L7 (Dz iq jY jH)):=fun x y k=>by kernel_rfl
theorem Rg (R:Type):sM Tryz.prog 84 (NK (fq (R:=R))):=cC TT mixed (SM (R:=R)) rfl rfl rfl rfl eS (U5 iq jY jH)
/-! ### humpyard/humpyardref03.Scan -/
abbrev vv (R:Type):Type:=ah→((List Token)→Int→Int→Option R)→Option R
abbrev JG:List bE := [.leaf (.str)]
abbrev JH:List aA := []
def NM {R:Type} (fn:vv R):bE.au JG→aA.au JH→(V→aO→Option R)→Option R:=fun x y k=>fn x.1 (fun q0 q1 q2=>k (.tuple [.sl .token q0 .no, .int .i64 q1, .int .i64 q2]) [])
def P8 {R:Type} (fn:vv R):aG.Spec R→aG.Spec R:=bm JG JH (NM fn)
abbrev oT (R:Type):Type:=Nat→ah→(List Token)→Int→((List Token)→Int→Option R)→(Int→Int→(List Token)→Int→Option R)→Option R
def xx {R:Type} (fq:oF R):List (wv R) := [(84,true,(NK fq bb))]
theorem U6 {R:Type}:ff (R:=R) Tryz.prog (xx fq) := .p (Rg R _ (aM _)) <| .n
def Dk {R:Type} (fq:oF R) (dq:ah→(List Token)→Int→Option R) (x2:ah) (x3:List Token) (x4:Int) (e0:(List Token)→Int→Option R) (e1:Int→Int→(List Token)→Int→Option R):Option R :=
 bif (decide (x4<(x2.length:Int)))then (cu (decide ((0:Int)≤x4)&&decide (x4<x2.length)) (bif (((x2.getD x4.toNat 0).toNat:Int)==32)then (dq x2 x3 (IntKind.i64.wrap (x4+1)))else (cu (decide ((0:Int)≤x4)&&decide (x4<x2.length)) (bif (((x2.getD x4.toNat 0).toNat:Int)==9)then (dq x2 x3 (IntKind.i64.wrap (x4+1)))else (cu (decide ((0:Int)≤x4)&&decide (x4<x2.length)) (bif (((x2.getD x4.toNat 0).toNat:Int)==10)then (dq x2 x3 (IntKind.i64.wrap (x4+1)))else (cu (decide ((0:Int)≤x4)&&decide (x4<x2.length)) (bif (((x2.getD x4.toNat 0).toNat:Int)==13)then (dq x2 x3 (IntKind.i64.wrap (x4+1)))else (fq x2 x4 (fun y6 y7=>bif (y7==0)then (e1 30 x4 x3 x4)else (cu (decide ((x3.length+1)*48≤140737488355328)) (dq x2 (x3++([y6]:List Token)) (IntKind.i64.wrap (x4+y7))))))))))))))else (e0 x3 x4)
def cI {R:Type}:oT R
 | 0,_,_,_,_,_=>none
 | n+1,hY,hZ,iB,e0,e1=>Dk fq (fun hY hZ iB=>cI n hY hZ iB e0 e1) hY hZ iB e0 e1
def xy:Hint := { live := [0,5,6],own := [(5, .token)],rows := [],cells := [],drop := [],out := [2,3,4,5,6] }
abbrev lW:Type:=ah × (List Token) × Int
def uI:lW→St:=fun d=>⟨.str d.1::U 4 (.sl .token d.2.1 (.own 0) :: .int .i64 d.2.2::U 54 ([])), [.tok]⟩
def B5 {R:Type} (K:Ex→St→Option R) (q0:List Token) (q1:Int):Option R:=K (.exit 0) ⟨U 5 (.sl .token q0 (.own 0) :: .int .i64 q1::U 54 ([])), [.tok]⟩
def B6 {R:Type} (K:Ex→St→Option R) (q0:Int) (q1:Int) (q2:List Token) (q3:Int):Option R:=K (.ret) ⟨U 2 (.cV :: .int .i64 q0 :: .int .i64 q1 :: .sl .token q2 (.own 0) :: .int .i64 q3::U 54 ([])), [.tok]⟩
def Dl {R:Type} (fq:oF R) (K:Ex→St→Option R) (rc:lW→Option R) (d:lW):Option R:=Dk fq (fun z0 z1 z2=>rc (z0,z1,z2)) d.1 d.2.1 d.2.2 (B5 K) (B6 K)
def qe {R:Type} (K:Ex→St→Option R) (n:Nat) (d:lW):Option R:=cI n d.1 d.2.1 d.2.2 (B5 K) (B6 K)
abbrev lX:List bE := .leaf (.str)::PU 4 (.leaf (.Vt .token 0) :: .leaf (.int .i64)::PU 54 ([]))
abbrev lY:List aA := [.tok]
def Dm (x:bE.au lX) (y:aA.au lY):Nat:=(List.length x.1+List.length x.2.2.2.2.2.1+Int.natAbs x.2.2.2.2.2.2.1+64)
def Dn (x:bE.au lX) (y:aA.au lY):lW:=(x.1,x.2.2.2.2.2.1,x.2.2.2.2.2.2.1)
def B7 {R:Type} (L:oT R):bE.au lX→aA.au lY→(Ex→St→Option R)→Option R:=fun x y K=>L (Dm x y) x.1 x.2.2.2.2.2.1 x.2.2.2.2.2.2.1 (B5 K) (B6 K)
def B8 (R:Type) (cI:oT R):Nat→Option (Hint × dC R):=fun i=>match i with
 | 5=>some (xy,(dx lX lY (B7 cI) j7))
 | _=>none
theorem M6 {R:Type} (fq:oF R) (cI:oT R) (K:Ex→St→Option R) (rc:St→Option R) (d:lW):roundOf tt (dM (xx fq)) (B8 R cI) 0 ((aT (aI Tryz.f58)).getD 0 .skip) xy (uI d) rc K=Dl fq K (fun d=>rc (uI d)) d:=by kernel_rfl
theorem KU {R:Type} (K:Ex→St→Option R) (n:Nat) (d:lW):qe K (n+1) d=Dl fq K (qe K n) d:=by kernel_rfl
theorem KV {R:Type} (K:Ex→St→Option R) (d:lW):qe K 0 d=none:=by kernel_rfl
theorem M7 (x:bE.au lX) (y:aA.au lY):(⟨bE.eD lX x,aA.eD lY y⟩:St)=uI (Dn x y):=by kernel_rfl
theorem M8 {R:Type} (x:bE.au lX) (y:aA.au lY) (K:Ex→St→Option R):B7 (cI) x y K=qe K (Dm x y) (Dn x y):=by kernel_rfl
theorem P9 {R:Type} (other:dC R) (ho:jt tt (dM (xx fq)) (B8 R cI) 0 ((aT (aI Tryz.f58)).getD 0 .skip) xy other):jt tt (dM (xx fq)) (B8 R cI) 0 ((aT (aI Tryz.f58)).getD 0 .skip) xy (dx lX lY (B7 (cI)) other) :=
 dL (A:=qe) ho (fw uI (Dl fq) (qe) (KV) (M6 fq cI) (KU)) Dm Dn M7 (M8)
def Fu {R:Type} (cI:oT R) (x1:ah) (k0:(List Token)→Int→Int→Option R):Option R :=
 bif (decide ((x1.length:Int)>(20000:Int)))then (k0 ([]:List Token) 30 0)else (cI (List.length x1+List.length ([]:List Token)+Int.natAbs 0+64) x1 ([]:List Token) 0 (fun y8 y9=>cu (decide ((y8.length+1)*48≤140737488355328)) (k0 (y8++([(⟨5,([]:ah),⟨0,0⟩,y9⟩:Token)]:List Token)) 0 0)) (fun rI rq qV G8=>k0 ([]:List Token) rI rq))
def mR {R:Type}:vv R:=fun x1 k0=>Fu cI x1 k0
theorem V8 {R:Type} (fq:oF R) (cI:oT R):gS (R:=R) tt (xx fq) (B8 R cI) false Tryz.f58 (aI Tryz.f58) JG JH (NM (Fu cI)):=fun x y k=>by kernel_rfl
theorem Rh (R:Type):∀a∈aT (aI Tryz.f58),jn tt (dM (xx fq)) (B8 R cI) 0 a:=by
 refine gR 1 (by kernel_rfl) fun i hi => ?_
 match i,hi with
 | 0,_=>exact cW (by kernel_rfl) (P9 _ eN)
 | n+1,hi=>omega
theorem SN (R:Type):sM Tryz.prog 58 (P8 (mR (R:=R))):=cC TT mixed (U6 (R:=R)) rfl rfl rfl rfl (Rh R) (V8 fq cI)
/-! ### (*humpyard/humpyardref04.Parser).is -/
abbrev cJ (R:Type):Type:=ah→(List Token)→Int→Int→(Bool→(List Token)→Int→Int→Option R)→Option R
abbrev uJ:List bE := [.leaf (.ptr 0 0), .leaf (.str)]
abbrev uK:List aA := [.cells [.sl .token, .int .i64, .int .i64]]
def AO {R:Type} (fn:cJ R):bE.au uJ→aA.au uK→(V→aO→Option R)→Option R:=fun x y k=>fn x.2.1 y.1.1 y.1.2.1 y.1.2.2.1 (fun q0 q1 q2 q3=>k (.bool q0) [.cells [.sl .token q1 .no, .int .i64 q2, .int .i64 q3]])
def uL {R:Type} (fn:cJ R):aG.Spec R→aG.Spec R:=bm uJ uK (AO fn)
def kq {R:Type} (x1:ah) (x2:List Token) (x3:Int) (x4:Int) (k0:Bool→(List Token)→Int→Int→Option R):Option R :=
 bif (x4==0)then (cu (decide ((0:Int)≤x3)&&decide (x3<x2.length)) (bif ((x2.getD x3.toNat (Ty.bU .token)).kind==1)then (cu (decide ((0:Int)≤x3)&&decide (x3<x2.length)) (bif ((x2.getD x3.toNat (Ty.bU .token)).text==x1)then (k0 ((x2.getD x3.toNat (Ty.bU .token)).text==x1) x2 (IntKind.i64.wrap (x3+1)) x4)else (k0 ((x2.getD x3.toNat (Ty.bU .token)).text==x1) x2 x3 x4)))else (k0 false x2 x3 x4)))else (k0 false x2 x3 x4)
def aq {R:Type}:cJ R:=fun x1 x2 x3 x4 k0=>kq x1 x2 x3 x4 k0
theorem Iq {R:Type}:gS (R:=R) (tt.mode [.json]) [] Ca false Tryz.f85 (aI Tryz.f85) uJ uK (AO kq):=fun x y k=>by kernel_rfl
theorem xK (R:Type):sM Tryz.prog 85 (uL (aq (R:=R))):=cC (TT.mode [.json]) mixed .n rfl rfl rfl rfl eS (Iq)
/-! ### (*humpyard/humpyardref04.Parser).must -/
abbrev dG (R:Type):Type:=ah→(List Token)→Int→Int→((List Token)→Int→Int→Option R)→Option R
abbrev sI:List bE := [.leaf (.ptr 0 0), .leaf (.str)]
abbrev sJ:List aA := [.cells [.sl .token, .int .i64, .int .i64]]
def xL {R:Type} (fn:dG R):bE.au sI→aA.au sJ→(V→aO→Option R)→Option R:=fun x y k=>fn x.2.1 y.1.1 y.1.2.1 y.1.2.2.1 (fun q0 q1 q2=>k (.tuple []) [.cells [.sl .token q0 .no, .int .i64 q1, .int .i64 q2]])
def zj {R:Type} (fn:dG R):aG.Spec R→aG.Spec R:=bm sI sJ (xL fn)
def zk {R:Type} (aq:cJ R):List (wv R) := [(85,false,(uL aq bb))]
theorem Gb {R:Type}:ff (R:=R) Tryz.prog (zk aq) := .f (xK R _ (aM _)) rfl <| .n
def iO {R:Type} (aq:cJ R) (x1:ah) (x2:List Token) (x3:Int) (x4:Int) (k0:(List Token)→Int→Int→Option R):Option R :=
 aq x1 x2 x3 x4 (fun y5 y6 y7 y8=>bif (!y5)then (bif (y8==0)then (k0 y6 y7 40)else (k0 y6 y7 y8))else (k0 y6 y7 y8))
def aE {R:Type}:dG R:=fun x1 x2 x3 x4 k0=>iO aq x1 x2 x3 x4 k0
theorem GA {R:Type} (aq:cJ R):gS (R:=R) (tt.mode [.json]) (zk aq) Ca false Tryz.f86 (aI Tryz.f86) sI sJ (xL (iO aq)):=fun x y k=>by kernel_rfl
theorem Fv (R:Type):sM Tryz.prog 86 (zj (aE (R:=R))):=cC (TT.mode [.json]) mixed (Gb (R:=R)) rfl rfl rfl rfl eS (GA aq)
end Go.Proofs.YtmlkkgfenfdndaaGreatDoor
set_option maxRecDepth 100000
namespace Go.Proofs.YtmlkkgfenfdndaaGreatDoor
open Go Go.aG Go.Lib
theorem tw_at (p:UInt8→Bool) (t:ah) (j:Nat) (h1:j≤(t.takeWhile p).length) (h2:j<t.length):p (t.getD j 0)=decide (j<(t.takeWhile p).length):=by
 by_cases h:j<(t.takeWhile p).length
 ·rw[aB h]
  have e:=List.takeWhile_append_dropWhile (p:=p) (l:=t)
  have e2:=GN (s:=t.takeWhile p) (t:=t.dropWhile p) h
  rw[e]at e2
  rw[e2,getD_at h]
  have:=List.all_eq_true.1 (List.all_takeWhile (l:=t) (p:=p)) _ (List.getElem_mem h)
  exact this
 ·rw[aV h]
  have hj:j=(t.takeWhile p).length:=by omega
  have hd:t.dropWhile p=t.drop j:=by rw[hj,drop_tw]
  have hc:=drop_cons h2
  have h3:=List.head?_dropWhile_not p t
  rw[hd,hc]at h3
  simpa using h3
theorem numB_ok (b:UInt8):sD b=(decide (48≤b.toNat∧b.toNat≤57)||(decide (b.toNat=43)||(decide (b.toNat=45)||(decide (b.toNat=46)||(decide (b.toNat=101)||decide (b.toNat=69)))))):=by
 have all:∀n:Fin 256,sD (UInt8.ofNat n.val)=(decide (48≤n.val∧n.val≤57)||(decide (n.val=43)||(decide (n.val=45)||(decide (n.val=46)||(decide (n.val=101)||decide (n.val=69)))))):=by decide +kernel
 have:=all ⟨b.toNat,UInt8.toNat_lt b⟩
 simpa using this
theorem Yz (b:UInt8):pr b=decide (97≤b.toNat∧b.toNat≤122):=by
 have all:∀n:Fin 256,pr (UInt8.ofNat n.val)=decide (97≤n.val∧n.val≤122):=by decide +kernel
 have:=all ⟨b.toNat,UInt8.toNat_lt b⟩
 simpa using this
def D1 (number:Bool):UInt8→Bool:=if number then sD else pr
theorem V9 {R:Type} (b:UInt8) (number:Bool) (x y:Option R) :
  (bif number then (bif (decide ((b.toNat:Int)≥(48:Int)))then (bif (decide ((b.toNat:Int)≤(57:Int)))then x else (bif ((b.toNat:Int)==43)then x else (bif ((b.toNat:Int)==45)then x else (bif ((b.toNat:Int)==46)then x else (bif ((b.toNat:Int)==101)then x else (bif (!((b.toNat:Int)==69))then y else x))))))else (bif ((b.toNat:Int)==43)then x else (bif ((b.toNat:Int)==45)then x else (bif ((b.toNat:Int)==46)then x else (bif ((b.toNat:Int)==101)then x else (bif (!((b.toNat:Int)==69))then y else x))))))else
   (bif (decide ((b.toNat:Int)<(97:Int)))then y else (bif (decide ((b.toNat:Int)>(122:Int)))then y else x)))=if D1 number b then x else y:=by
 have q:∀m:Nat,((b.toNat:Int)==(m:Int))=decide (b.toNat=m):=fun m=>Q2 _ m
 have q43:=q 43
 have q45:=q 45
 have q46:=q 46
 have q101:=q 101
 have q69:=q 69
 cases number with
 | true =>
  show _=if sD b then x else y
  rw[numB_ok,cond_true]
  have e43:(((43:Nat):Int))=43:=rfl
  have e45:(((45:Nat):Int))=45:=rfl
  have e46:(((46:Nat):Int))=46:=rfl
  have e101:(((101:Nat):Int))=101:=rfl
  have e69:(((69:Nat):Int))=69:=rfl
  rw[e43]at q43; rw[e45]at q45; rw[e46]at q46; rw[e101]at q101; rw[e69]at q69
  rw[q43,q45,q46,q101,q69]
  have tail:(bif decide (b.toNat=43)then x else (bif decide (b.toNat=45)then x else (bif decide (b.toNat=46)then x else (bif decide (b.toNat=101)then x else (bif (!decide (b.toNat=69))then y else x)))))=if (decide (b.toNat=43)||(decide (b.toNat=45)||(decide (b.toNat=46)||(decide (b.toNat=101)||decide (b.toNat=69)))))=true then x else y:=by
   cases decide (b.toNat=43) <;> cases decide (b.toNat=45) <;> cases decide (b.toNat=46) <;> cases decide (b.toNat=101) <;> cases decide (b.toNat=69) <;> rfl
  rw[tail]
  by_cases h1:48≤b.toNat
  ·rw[aB (show (b.toNat:Int)≥48 by omega),cond_true]
   by_cases h2:b.toNat≤57
   ·rw[aB (show (b.toNat:Int)≤57 by omega),cond_true,aB (show 48≤b.toNat∧b.toNat≤57 from ⟨h1,h2⟩),Bool.true_or,if_pos rfl]
   ·rw[aV (show ¬(b.toNat:Int)≤57 by omega),cond_false,aV (show ¬(48≤b.toNat∧b.toNat≤57) by omega),Bool.false_or]
  ·rw[aV (show ¬(b.toNat:Int)≥48 by omega),cond_false,aV (show ¬(48≤b.toNat∧b.toNat≤57) by omega),Bool.false_or]
 | false =>
  show _=if pr b then x else y
  rw[Yz,cond_false]
  by_cases h1:97≤b.toNat
  ·rw[aV (show ¬(b.toNat:Int)<97 by omega),cond_false]
   by_cases h2:b.toNat≤122
   ·rw[aV (show ¬(b.toNat:Int)>122 by omega),cond_false,aB (show 97≤b.toNat∧b.toNat≤122 from ⟨h1,h2⟩),if_pos rfl]
   ·rw[aB (show (b.toNat:Int)>122 by omega),cond_true,aV (show ¬(97≤b.toNat∧b.toNat≤122) by omega),if_neg (by simp)]
  ·rw[aB (show (b.toNat:Int)<97 by omega),cond_true,aV (show ¬(97≤b.toNat∧b.toNat≤122) by omega),if_neg (by simp)]
theorem YA {R:Type} (s:ah) (i:Nat) (number:Bool) (hs:s.length≤4000000000) (hi:i≤s.length) (e0:ah→Int→Int→Option R):∀(n j:Nat),((s.drop i).takeWhile (D1 number)).length - j<n→j≤((s.drop i).takeWhile (D1 number)).length →
  cB n s (i:Int) number (j:Int) e0=e0 s (i:Int) (((s.drop i).takeWhile (D1 number)).length:Int):=by
 intro n
 induction n with
 | zero=>intro j h; omega
 | succ n ih =>
  intro j h1 h2
  rw[cB]
  unfold C6
  have hl:=xr (D1 number) (s.drop i)
  rw[List.length_drop]at hl
  rw[bw (n:=(i:Int)+(j:Int)) (by omega) (by omega)]
  by_cases hj:i+j<s.length
  ·have hd:=tw_at (D1 number) (s.drop i) j h2 (by rw[List.length_drop]; omega)
   rw[F0]at hd
   have e1:((i:Int)+(j:Int)).toNat=i+j:=by omega
   rw[aB (show (i:Int)+(j:Int)<(s.length:Int) by omega),cond_true,e1,aS (by rw[aB (show (0:Int)≤(i:Int)+(j:Int) by omega)]; rfl)]
   have fin:(if D1 number (s.getD (i+j) 0)=true then cB n s (i:Int) number (IntKind.i64.wrap ((j:Int)+1)) e0 else e0 s (i:Int) (j:Int))=e0 s (i:Int) (((s.drop i).takeWhile (D1 number)).length:Int):=by
    rw[hd]
    by_cases kY:j<((s.drop i).takeWhile (D1 number)).length
    ·rw[aB kY,if_pos rfl,bw (n:=(j:Int)+1) (by omega) (by omega)]
     exact ih (j+1) (by omega) (by omega)
    ·have:j=((s.drop i).takeWhile (D1 number)).length:=by omega
     rw[aV kY,if_neg (by simp),←this]
   have key:=(V9 (R:=R) (s.getD (i+j) 0) number (cB n s (i:Int) number (IntKind.i64.wrap ((j:Int)+1)) e0) (e0 s (i:Int) (j:Int))).trans fin
   cases number with
   | true=>exact key
   | false=>exact key
  ·rw[aV (show ¬(i:Int)+(j:Int)<(s.length:Int) by omega),cond_false]
   have:j=((s.drop i).takeWhile (D1 number)).length:=by omega
   rw[←this]
theorem U7 {R:Type} (s:ah) (i:Nat) (number:Bool) (hs:s.length≤4000000000) (hi:i≤s.length) (k:ah→Option R):jH s (i:Int) number k=k ((s.drop i).takeWhile (D1 number)):=by
 have hl:=xr (D1 number) (s.drop i)
 rw[List.length_drop]at hl
 have e:jH s (i:Int) number k=Fe cB s (i:Int) number k:=rfl
 rw[e]
 unfold Fe
 have key:=YA (R:=R) s i number hs hi
 have c0:((0:Nat):Int)=0:=rfl
 have key0:=fun (e0:ah→Int→Int→Option R) (F:Nat) (hF:s.length<F)=>key e0 F 0 (by omega) (by omega)
 rw[c0]at key0
 rw[key0 _ _ (by omega),bw (by omega) (by omega),aS (by rw[aB (by omega),aB (by omega)]; rfl),aS (by rw[aB (by omega),aB (by omega)]; rfl)]
 have e2:((i:Int)+(((s.drop i).takeWhile (D1 number)).length:Int)).toNat - (i:Int).toNat=((s.drop i).takeWhile (D1 number)).length:=by omega
 rw[e2,Int.toNat_natCast,take_tw]
theorem sig_ok (b:UInt8):Ic b=(decide (b.toNat=123)||(decide (b.toNat=125)||(decide (b.toNat=91)||(decide (b.toNat=93)||(decide (b.toNat=44)||decide (b.toNat=58)))))):=by
 have all:∀n:Fin 256,Ic (UInt8.ofNat n.val)=(decide (n.val=123)||(decide (n.val=125)||(decide (n.val=91)||(decide (n.val=93)||(decide (n.val=44)||decide (n.val=58)))))):=by decide +kernel
 have:=all ⟨b.toNat,UInt8.toNat_lt b⟩
 simpa using this
theorem bla_ok (b:UInt8):qJ b=(decide (b.toNat=32)||(decide (b.toNat=9)||(decide (b.toNat=10)||decide (b.toNat=13)))):=by
 have all:∀n:Fin 256,qJ (UInt8.ofNat n.val)=(decide (n.val=32)||(decide (n.val=9)||(decide (n.val=10)||decide (n.val=13)))):=by decide +kernel
 have:=all ⟨b.toNat,UInt8.toNat_lt b⟩
 simpa using this
theorem refTok_ok {R:Type} (s:ah) (i:Nat) (hs:s.length≤4000000000) (hi:i<s.length) (k:Token→Int→Option R) :
  fq s (i:Int) k=match tokS (s.drop i)with|some (t,r)=>k (Yr t (i:Int)) (((s.drop i).length - r.length:Nat):Int)|none=>k ⟨0, [],⟨0,0⟩,0⟩ 0:=by
 have e:fq s (i:Int) k=Dz iq jY jH s (i:Int) k:=rfl
 rw[e]
 unfold Dz
 have hd:=drop_cons hi
 have hdl:(s.drop i).length=s.length - i:=List.length_drop
 rw[aS (by rw[aB (by omega),aB (by omega)]; rfl),Int.toNat_natCast]
 simp only
 have w1:IntKind.i64.wrap ((i:Int)+1)=((i+1:Nat):Int):=by rw[bw (by omega) (by omega)]; omega
 have hsub:(s.drop i).take ((s.length:Int).toNat - i)=s.drop i:=List.take_of_length_le (by rw[List.length_drop,Int.toNat_natCast]; exact Nat.le_refl _)
 have one:(s.drop i).take (((i+1:Nat):Int).toNat - i) = [s.getD i 0]:=by
  rw[hd]
  have:((i+1:Nat):Int).toNat - i=1:=by omega
  rw[this]; rfl
 have hl1:=xr sD (s.drop i)
 have VE:=xr pr (s.drop i)
 have num:=U7 (R:=R) s i true hs (by omega)
 have nam:=U7 (R:=R) s i false hs (by omega)
 have kt:D1 true=sD:=rfl
 have kf:D1 false=pr:=rfl
 rw[kt]at num
 rw[kf]at nam
 rw[w1,hsub,one]
 have unq:=V7 (R:=R) (s.drop i) (by omega)
 generalize hc:s.getD i 0=c at *
 generalize hD:s.drop i=D at *
 have q:∀m:Nat,((c.toNat:Int)==(m:Int))=decide (c.toNat=m):=fun m=>Q2 _ m
 by_cases hs:Ic c=true
 ·have hk:k (⟨1, [c],⟨0,0⟩,(i:Int)⟩:Token) 1=match tokS D with|some (t,r)=>k (Yr t (i:Int)) ((D.length - r.length:Nat):Int)|none=>k ⟨0, [],⟨0,0⟩,0⟩ 0:=by
   have:=(WZ c hs).2
   have all:∀n:Fin 256,Ic (UInt8.ofNat n.val)=true→¬(n.val=45∨(48≤n.val∧n.val≤57))∧¬n.val=34:=by decide +kernel
   obtain ⟨h2,h3⟩:=all ⟨c.toNat,UInt8.toNat_lt c⟩ (by simpa using hs)
   rw[hd]
   simp only[tokS]
   rw[if_neg h2,if_neg h3,if_pos hs]
   have e1:(c::s.drop (i+1):ah).length - (s.drop (i+1)).length=1:=by simp
   simp only[e1]
   rfl
  rw[←hk]
  rw[aS (by rw[aB (by omega),aB (by omega)]; rfl),aS (by rw[aB (by omega),aB (by omega)]; rfl)]
  rw[sig_ok]at hs
  simp only[Bool.or_eq_true,decide_eq_true_eq]at hs
  rcases hs with h|h|h|h|h|h
  all_goals (rw[h]; rfl)
 ·have hs':Ic c=false:=by simpa using hs
  rw[sig_ok]at hs
  simp only[Bool.or_eq_true,decide_eq_true_eq,not_or]at hs
  obtain ⟨n1,n2,n3,n4,n5,n6⟩:=hs
  have f:∀m:Nat,c.toNat≠m→((c.toNat:Int)==(m:Int))=false:=fun m h=>by rw[q,aV h]
  have f1:=f 123 n1
  have f2:=f 125 n2
  have f3:=f 91 n3
  have f4:=f 93 n4
  have f5:=f 44 n5
  have f6:=f 58 n6
  have e1:((123:Nat):Int)=123:=rfl
  have e2:((125:Nat):Int)=125:=rfl
  have e3:((91:Nat):Int)=91:=rfl
  have e4:((93:Nat):Int)=93:=rfl
  have e5:((44:Nat):Int)=44:=rfl
  have e6:((58:Nat):Int)=58:=rfl
  rw[e1]at f1; rw[e2]at f2; rw[e3]at f3; rw[e4]at f4; rw[e5]at f5; rw[e6]at f6
  rw[f1,f2,f3,f4,f5,f6]
  simp only[cond_false]
  have q34:=q 34
  have e34:((34:Nat):Int)=34:=rfl
  rw[e34]at q34
  have q45:=q 45
  have e45:((45:Nat):Int)=45:=rfl
  rw[e45]at q45
  rw[q34,q45,hd]
  simp only[tokS]
  rw[hs',←hd]
  by_cases J4:c.toNat=34
  ·rw[aB J4,cond_true,if_neg (by omega),if_pos J4,aS (by rw[aB (by omega),aB (by omega)]; rfl),aS (by rw[aB (by omega),aB (by omega)]; rfl),unq]
   cases Z4 D with
   | none=>rfl
   | some p=>rfl
  ·rw[aV J4,cond_false]
   -- a number
   have numR:(c.toNat=45∨(48≤c.toNat∧c.toNat≤57))→(jH s (i:Int) true (fun y8=>jY y8 (fun y9 rI=>bif (!rI)then (k (⟨0,([]:ah),⟨0,0⟩,0⟩:Token) 0)else (k (⟨3,y8,⟨y9.aF,y9.exp⟩,(i:Int)⟩:Token) (y8.length:Int))))) =
     match (if c.toNat=45∨(48≤c.toNat∧c.toNat≤57)then (if (qY (D.takeWhile sD)).2 then some (⟨3,D.takeWhile sD,(qY (D.takeWhile sD)).1,0⟩,D.dropWhile sD)else none)else if c.toNat=34 then (match Z4 D with|some (o,r)=>some (⟨2,o,⟨0,0⟩,0⟩,r)|none=>none)else if false=true then some ((⟨1, [c],⟨0,0⟩,0⟩:Token),s.drop (i+1))else if D.takeWhile pr=AG∨D.takeWhile pr=o4∨D.takeWhile pr=va then some (⟨4,D.takeWhile pr,⟨0,0⟩,0⟩,D.dropWhile pr)else none)with
     | some (t,r)=>k (Yr t (i:Int)) ((D.length - r.length:Nat):Int)|none=>k ⟨0, [],⟨0,0⟩,0⟩ 0:=by
    intro h
    rw[if_pos h,num,refParse_ok]
    have el:D.length - (D.dropWhile sD).length=(D.takeWhile sD).length:=by omega
    cases (qY (D.takeWhile sD)).2 with
    | true=>simp only[if_true]; rw[el]; rfl
    | false=>rfl
   have namR:¬(c.toNat=45∨(48≤c.toNat∧c.toNat≤57))→(let Z0:=fun (sn:Bool)=>bif sn then (jH s (i:Int) false (fun qV=>bif (qV==([116,114,117,101]:ah))then (k (⟨4,qV,⟨0,0⟩,(i:Int)⟩:Token) (qV.length:Int))else (bif (qV==([102,97,108,115,101]:ah))then (k (⟨4,qV,⟨0,0⟩,(i:Int)⟩:Token) (qV.length:Int))else (bif (qV==([110,117,108,108]:ah))then (k (⟨4,qV,⟨0,0⟩,(i:Int)⟩:Token) (qV.length:Int))else (k (⟨0,([]:ah),⟨0,0⟩,0⟩:Token) 0)))))else (k (⟨0,([]:ah),⟨0,0⟩,0⟩:Token) 0); bif (decide ((c.toNat:Int)≥(97:Int)))then (Z0 (decide ((c.toNat:Int)≤(122:Int))))else (Z0 false)) =
     match (if c.toNat=45∨(48≤c.toNat∧c.toNat≤57)then (if (qY (D.takeWhile sD)).2 then some (⟨3,D.takeWhile sD,(qY (D.takeWhile sD)).1,0⟩,D.dropWhile sD)else none)else if c.toNat=34 then (match Z4 D with|some (o,r)=>some (⟨2,o,⟨0,0⟩,0⟩,r)|none=>none)else if false=true then some ((⟨1, [c],⟨0,0⟩,0⟩:Token),s.drop (i+1))else if D.takeWhile pr=AG∨D.takeWhile pr=o4∨D.takeWhile pr=va then some (⟨4,D.takeWhile pr,⟨0,0⟩,0⟩,D.dropWhile pr)else none)with
     | some (t,r)=>k (Yr t (i:Int)) ((D.length - r.length:Nat):Int)|none=>k ⟨0, [],⟨0,0⟩,0⟩ 0:=by
    intro h
    rw[if_neg h,if_neg J4,if_neg (show ¬(false=true) by simp)]
    have el:D.length - (D.dropWhile pr).length=(D.takeWhile pr).length:=by omega
    simp only
    by_cases hlet:pr c=true
    ·have hl:=hlet
     rw[Yz]at hl
     have hl:=of_decide_eq_true hl
     rw[aB (show (c.toNat:Int)≥97 by omega),aB (show (c.toNat:Int)≤122 by omega),cond_true,cond_true,nam]
     generalize D.takeWhile pr=w at *
     have eq:∀a:ah,(w==a)=decide (w=a):=fun a=>by
      by_cases h:w=a
      ·rw[aB h]; exact beq_iff_eq.2 h
      ·rw[aV h]; exact beq_eq_false_iff_ne.2 h
     rw[eq,eq,eq]
     by_cases h1:w=AG
     ·rw[aB (show w = [116,114,117,101]from h1),if_pos (.inl h1)]; simp only[el]; rfl
     ·by_cases h2:w=o4
      ·rw[aV (show ¬w = [116,114,117,101]from h1),aB (show w = [102,97,108,115,101]from h2),if_pos (.inr (.inl h2))]; simp only[el]; rfl
      ·by_cases h3:w=va
       ·rw[aV (show ¬w = [116,114,117,101]from h1),aV (show ¬w = [102,97,108,115,101]from h2),aB (show w = [110,117,108,108]from h3),if_pos (.inr (.inr h3))]; simp only[el]; rfl
       ·rw[aV (show ¬w = [116,114,117,101]from h1),aV (show ¬w = [102,97,108,115,101]from h2),aV (show ¬w = [110,117,108,108]from h3),if_neg (by rintro (h|h|h); exact h1 h; exact h2 h; exact h3 h)]; rfl
    ·have hlf:pr c=false:=by simpa using hlet
     have hn:D.takeWhile pr = []:=by rw[hd,List.takeWhile_cons,hlf]; rfl
     rw[hn,if_neg (by rintro (h|h|h) <;> cases h)]
     have hl:=hlf
     rw[Yz]at hl
     have hl:=of_decide_eq_false hl
     by_cases h97:97≤c.toNat
     ·rw[aB (show (c.toNat:Int)≥97 by omega),aV (show ¬(c.toNat:Int)≤122 by omega)]; rfl
     ·rw[aV (show ¬(c.toNat:Int)≥97 by omega)]; rfl
   by_cases Yc:48≤c.toNat
   ·rw[aB (show (c.toNat:Int)≥48 by omega),cond_true]
    by_cases h57:c.toNat≤57
    ·rw[aB (show (c.toNat:Int)≤57 by omega),cond_true,cond_true]
     exact numR (.inr ⟨Yc,h57⟩)
    ·rw[aV (show ¬(c.toNat:Int)≤57 by omega),cond_false,aV (show ¬c.toNat=45 by omega),cond_false]
     exact namR (by omega)
   ·rw[aV (show ¬(c.toNat:Int)≥48 by omega),cond_false]
    by_cases h45:c.toNat=45
    ·rw[aB h45,cond_true]
     exact numR (.inl h45)
    ·rw[aV h45,cond_false]
     exact namR (by omega)
theorem scanN_blank (n p:Nat) (b:UInt8) (u:ah) (out:List Token) (hb:qJ b=true):r4 (n+1) p (b::u) out=r4 (n+1) (p+1) u out:=by
 have e1:(b::u).dropWhile qJ=u.dropWhile qJ:=by rw[List.dropWhile_cons,hb,if_pos rfl]
 have e2:p+((b::u).takeWhile qJ).length=p+1+(u.takeWhile qJ).length:=by rw[List.takeWhile_cons,hb,if_pos rfl,List.length_cons]; omega
 simp only[r4]
 rw[e1,e2]
 split
 ·rfl
 ·split
  ·rfl
  ·rename_i t r hr
   have h1:=(tokS_sfx hr).2
   have h2:=vH qJ u
   have e3:p+((b::u).length - r.length)=p+1+(u.length - r.length):=by simp only[List.length_cons]; omega
   rw[e3]
theorem YB {R:Type} (s:ah) (hs:s.length≤20000) (k:List Token→Int→Int→Option R):∀(n p:Nat) (out:List Token),s.length - p<n→p≤s.length→out.length≤p →
  cI n s out (p:Int) (fun y8 y9=>cu (decide ((y8.length+1)*48≤140737488355328)) (k (y8++([(⟨5,([]:ah),⟨0,0⟩,y9⟩:Token)]:List Token)) 0 0)) (fun rI rq qV G8=>k ([]:List Token) rI rq) =
   k (r4 n p (s.drop p) out).1 (r4 n p (s.drop p) out).2.1 (r4 n p (s.drop p) out).2.2:=by
 intro n
 induction n with
 | zero=>intro p out h; omega
 | succ n ih =>
  intro p out h1 h2 h3
  rw[cI]
  unfold Dk
  by_cases hp:p<s.length
  ·have hd:=drop_cons hp
   have hdl:(s.drop p).length=s.length - p:=List.length_drop
   have w1:IntKind.i64.wrap ((p:Int)+1)=((p+1:Nat):Int):=by rw[bw (by omega) (by omega)]; omega
   have hchk:(decide ((0:Int)≤(p:Int))&&decide ((p:Int)<(s.length:Int)))=true:=by rw[aB (by omega),aB (by omega)]; rfl
   rw[aB (show (p:Int)<(s.length:Int) by omega),cond_true]
   simp only[Bool.and_true,aB (show (0:Int)≤(p:Int) by omega),aS rfl,Int.toNat_natCast,w1]
   have Qq:=fun (k:Token→Int→Option R)=>refTok_ok s p (by omega) hp k
   generalize hc:s.getD p 0=c at *
   by_cases hb:qJ c=true
   ·have gX:cI n s out ((p+1:Nat):Int) (fun y8 y9=>cu (decide ((y8.length+1)*48≤140737488355328)) (k (y8++([(⟨5,([]:ah),⟨0,0⟩,y9⟩:Token)]:List Token)) 0 0)) (fun rI rq qV G8=>k ([]:List Token) rI rq) =
      k (r4 (n+1) p (s.drop p) out).1 (r4 (n+1) p (s.drop p) out).2.1 (r4 (n+1) p (s.drop p) out).2.2:=by
     rw[ih (p+1) out (by omega) (by omega) (by omega),hd,scanN_blank n p c _ out hb,Jv n (n+1) (p+1) _ out (by rw[List.length_drop]; omega) (by rw[List.length_drop]; omega)]
    rw[bla_ok]at hb
    simp only[Bool.or_eq_true,decide_eq_true_eq]at hb
    rcases hb with h|h|h|h
    all_goals (rw[h]; exact gX)
   ·have hbf:qJ c=false:=by simpa using hb
    rw[bla_ok]at hb
    simp only[Bool.or_eq_true,decide_eq_true_eq,not_or]at hb
    obtain ⟨n1,n2,n3,n4⟩:=hb
    have f:∀m:Nat,c.toNat≠m→((c.toNat:Int)==(m:Int))=false:=fun m h=>by rw[Q2,aV h]
    have f1:=f 32 n1
    have f2:=f 9 n2
    have f3:=f 10 n3
    have f4:=f 13 n4
    have e1:((32:Nat):Int)=32:=rfl
    have e2:((9:Nat):Int)=9:=rfl
    have e3:((10:Nat):Int)=10:=rfl
    have e4:((13:Nat):Int)=13:=rfl
    rw[e1]at f1; rw[e2]at f2; rw[e3]at f3; rw[e4]at f4
    rw[f1,f2,f3,f4]
    simp only[cond_false]
    rw[Qq]
    have tw:(s.drop p).takeWhile qJ = []:=by rw[hd,List.takeWhile_cons,hbf]; rfl
    have dw:(s.drop p).dropWhile qJ=s.drop p:=by rw[hd,List.dropWhile_cons,hbf]; rfl
    simp only[r4]
    rw[tw,dw,if_neg (by rw[hd]; simp)]
    have ep:p+([]:ah).length=p:=rfl
    rw[ep]
    cases ht:tokS (s.drop p)with
    | none=>rfl
    | some x =>
     obtain ⟨t,r⟩:=x
     obtain ⟨g1,g2⟩:=tokS_sfx ht
     have hn:(((s.drop p).length - r.length:Nat):Int)≠0:=by omega
     simp only
     rw[beq_eq_false_iff_ne.2 hn,cond_false,aS (aB (by omega))]
     have hq2:IntKind.i64.wrap ((p:Int)+(((s.drop p).length - r.length:Nat):Int))=((p+((s.drop p).length - r.length):Nat):Int):=by rw[bw (by omega) (by omega)]; omega
     rw[hq2]
     have hr:s.drop (p+((s.drop p).length - r.length))=r:=by rw[←List.drop_drop,←aae g1]
     have key:=ih (p+((s.drop p).length - r.length)) (out ++ [Yr t (p:Int)]) (by omega) (by omega) (by simp; omega)
     rw[hr]at key
     exact key
  ·have hpe:p=s.length:=by omega
   have hdn:s.drop p = []:=List.drop_of_length_le (by omega)
   rw[aV (show ¬(p:Int)<(s.length:Int) by omega),cond_false,hdn]
   show cu (decide ((out.length+1)*48≤140737488355328)) (k (out++([(⟨5,([]:ah),⟨0,0⟩,(p:Int)⟩:Token)]:List Token)) 0 0)=_
   rw[aS (aB (by omega))]
   rfl
theorem refScan_ok {R:Type} (s:ah) (k:List Token→Int→Int→Option R):mR s k=k (nH s).1 (nH s).2.1 (nH s).2.2:=by
 have e:mR s k=Fu cI s k:=rfl
 rw[e]
 unfold Fu nH
 by_cases h:20000<s.length
 ·rw[aB (show (s.length:Int)>20000 by omega),cond_true,if_pos h]
 ·rw[aV (show ¬(s.length:Int)>20000 by omega),cond_false,if_neg h]
  have key:=YB (R:=R) s (by omega) k (List.length s+List.length ([]:List Token)+Int.natAbs 0+64) 0 [] (by omega) (by omega) (by simp)
  rw[List.drop_zero,Jv _ (s.length+1) 0 s [] (by omega) (by omega)]at key
  exact key
theorem W9:∀(n p:Nat) (s:ah) (out:List Token),(r4 n p s out).1.length≤out.length+s.length+1
 | 0,_,_,_=>by simp[r4]
 | n+1,p,s,out=>by
  simp only[r4]
  split
  ·simp <;> omega
  ·split
   ·simp
   ·rename_i t r hr
    have h1:=(tokS_sfx hr).2
    have h2:=vH qJ s
    have h3:=W9 n (p+(s.length - r.length)) r (out ++ [Yr t ((p+(s.takeWhile qJ).length:Nat):Int)])
    rw[List.length_append,List.length_cons,List.length_nil]at h3
    omega
theorem Ri (s:ah):(nH s).1.length≤20002:=by
 unfold nH
 split
 ·simp
 ·have:=W9 (s.length+1) 0 s []
  simp at this
  omega
end Go.Proofs.YtmlkkgfenfdndaaGreatDoor
/-
 Functions of the program as pure Lean functions, and the ties; printed by wip/tools/emit.py.
-/
set_option maxRecDepth 100000
namespace Go.Proofs.YtmlkkgfenfdndaaGreatDoor
open Go Go.aG
/-! ### humpyard/humpyardlaw03.pick -/
abbrev vw (R:Type):Type:=Int→Int→(Int→Option R)→Option R
abbrev JI:List bE := [.leaf (.int .i64), .leaf (.int .i64)]
abbrev JJ:List aA := []
def NN {R:Type} (fn:vw R):bE.au JI→aA.au JJ→(V→aO→Option R)→Option R:=fun x y k=>fn x.1 x.2.1 (fun q0=>k (.int .i64 q0) [])
def Qa {R:Type} (fn:vw R):aG.Spec R→aG.Spec R:=bm JI JJ (NN fn)
def Qb {R:Type} (x1:Int) (x2:Int) (k0:Int→Option R):Option R :=
 bif (decide (x1<(0:Int)))then (cu (!decide (x2=0)) (k0 (Int.tmod (IntKind.i64.wrap (0 - (IntKind.i64.wrap (x1+1)))) x2)))else (cu (!decide (x2=0)) (k0 (Int.tmod x1 x2)))
def mS {R:Type}:vw R:=fun x1 x2 k0=>Qb x1 x2 k0
theorem Wa {R:Type}:gS (R:=R) tt [] Ca false Tryz.f27 (aI Tryz.f27) JI JJ (NN Qb):=fun x y k=>by kernel_rfl
theorem SO (R:Type):sM Tryz.prog 27 (Qa (mS (R:=R))):=cC TT mixed .n rfl rfl rfl rfl eS (Wa)
/-! ### humpyard/humpyardlaw03.Word -/
abbrev Hw (R:Type):Type:=OJ→(ah→Option R)→Option R
abbrev JK:List bE := [.agg [.int .i64, .int .i64, .int .i64, .sl (.int .i64)]]
abbrev JL:List aA := []
def NO {R:Type} (fn:Hw R):bE.au JK→aA.au JL→(V→aO→Option R)→Option R:=fun x y k=>fn (⟨x.1.1,x.1.2.1,x.1.2.2.1,x.1.2.2.2.1⟩:OJ) (fun q0=>k (.str q0) [])
def YC {R:Type} (fn:Hw R):aG.Spec R→aG.Spec R:=bm JK JL (NO fn)
def Qc {R:Type} (qk:vk R) (dn:iH R) (rA:w9 R) (bC:fA R) (mS:vw R):List (wv R) := [(37,true,(Pn qk bb)),(26,true,(Dw dn bb)),(28,true,(RI rA bb)),(46,true,(zw bC bb)),(27,true,(Qa mS bb))]
theorem U8 {R:Type}:ff (R:=R) Tryz.prog (Qc qk dn rA bC mS) := .p (R9 R _ (aM _)) <| .p (CN R _ (aM _)) <| .p (Uq R _ (aM _)) <| .p (zR R _ (aM _)) <| .p (SO R _ (aM _)) <| .n
def Qd {R:Type} (qk:vk R) (dn:iH R) (rA:w9 R) (bC:fA R) (mS:vw R) (x1:OJ) (k0:ah→Option R):Option R :=
 mS x1.kind 4 (fun y2=>bif (y2==0)then (mS x1.aF 6 (fun y3=>cu (decide ((0:Int)≤y3)&&decide (y3<(6:Int))) (k0 (([([123]:ah),([125]:ah),([91]:ah),([93]:ah),([44]:ah),([58]:ah)]:List ah).getD y3.toNat (Ty.bU .str)))))else (bif (y2==1)then (cu (decide ((0:Int)≤(min (x1.text.length:Int) 30))&&decide ((min (x1.text.length:Int) 30)≤x1.text.length)) (cu (decide ((0:Int)≤(min (x1.text.length:Int) 30))) (qk ((x1.text.drop 0).take ((min (x1.text.length:Int) 30).toNat - 0)) (fun y4=>dn y4 (fun y5 y6=>k0 y5)))))else (bif (y2==2)then (rA x1.aF x1.exp (fun y7=>bC y7 (fun y8=>k0 y8)))else (mS x1.aF 3 (fun y9=>cu (decide ((0:Int)≤y9)&&decide (y9<(3:Int))) (k0 (([([116,114,117,101]:ah),([102,97,108,115,101]:ah),([110,117,108,108]:ah)]:List ah).getD y9.toNat (Ty.bU .str))))))))
def U9 {R:Type}:Hw R:=fun x1 k0=>Qd qk dn rA bC mS x1 k0
theorem Wb {R:Type} (qk:vk R) (dn:iH R) (rA:w9 R) (bC:fA R) (mS:vw R):gS (R:=R) tt (Qc qk dn rA bC mS) Ca false Tryz.f24 (aI Tryz.f24) JK JL (NO (Qd qk dn rA bC mS)):=fun x y k=>by kernel_rfl
theorem law03_Word_S_ok (R:Type):sM Tryz.prog 24 (YC (U9 (R:=R))):=cC TT mixed (U8 (R:=R)) rfl rfl rfl rfl eS (Wb qk dn rA bC mS)
end Go.Proofs.YtmlkkgfenfdndaaGreatDoor
set_option maxRecDepth 100000
namespace Go.Proofs.YtmlkkgfenfdndaaGreatDoor
open Go Go.aG Go.Lib
structure RawW (R:Type) (x:OJ) (p:ah × Token):Prop where
 word:Word p.1 p.2
 len:p.1.length≤182
 run:∀k:ah→Option R,U9 x k=k p.1
 kind:∃q:Int,p.2.kind=1+q∧0≤q∧q<4∧∀k:Int→Option R,mS x.kind 4 k=k q
 text:p.2.kind=2→∀k:ah→Bool→Option R,dn p.2.text k=k p.1 true
 other:p.2.kind≠2→p.2.text=p.1
 num:p.2.kind=3→∀k:dH→Option R,rA x.aF x.exp k=k p.2.num
end Go.Proofs.YtmlkkgfenfdndaaGreatDoor
/-
 Functions of the program as pure Lean functions, and the ties; printed by wip/tools/emit.py.
-/
set_option maxRecDepth 100000
namespace Go.Proofs.YtmlkkgfenfdndaaGreatDoor
open Go Go.aG
end Go.Proofs.YtmlkkgfenfdndaaGreatDoor
set_option maxRecDepth 100000
namespace Go.Proofs.YtmlkkgfenfdndaaGreatDoor
open Go Go.aG Go.Lib
def YO (t:Token):Int × ah × dH:=(t.kind,t.text,t.num)
theorem tokW_st:∀(l:List vb) (p:Nat),(tokW p l).map YO=l.map fun x=>YO x.2.2
 | [],_=>rfl
 | x::l,p=>by simp only[tokW,List.map_cons,tokW_st l]; rfl
theorem Xa:∀(n p:Nat) (s:ah) (out:List Token),s.length<n→(r4 n p s out).2.1=0→xw (r4 n p s out).1
 | 0,_,_,_,h,_=>by omega
 | n+1,p,s,out,h,he=>by
  simp only[r4]at he ⊢
  by_cases hd:s.dropWhile qJ = []
  ·rw[if_pos hd]
   exact ⟨_,List.getLast?_concat ..,rfl⟩
  ·rw[if_neg hd]at he ⊢
   cases hr:tokS (s.dropWhile qJ)with
   | none=>rw[hr]at he; cases he
   | some q =>
    obtain ⟨t,r⟩:=q
    rw[hr]at he
    have h3:=(tokS_sfx hr).2
    have h4:=vH qJ s
    exact Xa n _ r _ (by omega) he
theorem Rj (s:ah) (he:(nH s).2.1=0):xw (nH s).1:=by
 unfold nH at he ⊢
 split at he
 ·cases he
 ·rename_i h
  rw[if_neg h]
  exact Xa _ _ _ _ (by omega) he
def vy (s:ah):Json × Int × Int :=
 if (nH s).2.1≠0 then (⟨0,⟨0,0⟩, [], [], []⟩,(nH s).2.1,(nH s).2.2)else
 match tQ 40 1 (nH s).1 with
 | .error b=>(⟨0,⟨0,0⟩, [], [], []⟩,b.1,(b.2.getD 0 ⟨0, [],⟨0,0⟩,0⟩).at_)
 | .ok (v,r)=>if (r.getD 0 ⟨0, [],⟨0,0⟩,0⟩).kind≠5 then (⟨0,⟨0,0⟩, [], [], []⟩,40,(r.getD 0 ⟨0, [],⟨0,0⟩,0⟩).at_)else (v,0,0)
theorem jparse_ok {R:Type} (s:ah) (k:Json→Int→Int→Option R):eh s k=k (vy s).1 (vy s).2.1 (vy s).2.2:=by
 have e0:eh s k=Ft ao dk mJ s k:=rfl
 rw[e0]
 unfold Ft vy
 rw[scan_ok]
 by_cases h:(nH s).2.1=0
 rotate_left
 ·have e1:((nH s).2.1 != 0)=true:=by simpa using h
  rw[if_pos h,e1]
  rfl
 have e1:((nH s).2.1 != 0)=false:=by simpa using h
 rw[if_neg (by simpa using h),e1,cond_false]
 have hE:=Rj s h
 have hL:=Ri s
 have hv:=value_ok (R:=R) 20002 (by omega) 40 1 (by omega) (by omega) (by omega) (nH s).1 hE hL
 have e2:∀q,dk (R:=R) 1 (nH s).1 0 q=bI 40 1 (nH s).1 0 q:=fun q=>rfl
 rw[e2]
 cases hq:tQ 40 1 (nH s).1 with
 | error b =>
  rw[hq]at hv
  obtain ⟨⟨g1,g2⟩,v,g3⟩:=hv
  rw[g3]
  obtain ⟨c,r⟩:=b
  cases r with
  | nil=>exact (g1.ne rfl).elim
  | cons t r =>
   have e3:(c != 0)=true:=by simpa using g2
   have hf:∀q:List Token→Int→Option R,ao 40 (t::r) c q=q (t::r) c:=fun q=>by
    show (bif c==0 then q (t::r) 40 else q (t::r) c)=_
    have e4:(c==0)=false:=by simpa using g2
    rw[e4]; rfl
   rw[aS Dy]
   simp only[hf]
   have hz:∀z:Bool,(bif z then (bif (c != 0)then cu (decide ((0:Int)<((t::r).length:Int))) (k ⟨0,⟨0,0⟩, [], [], []⟩ c t.at_)else k v 0 0)else (bif (c != 0)then cu (decide ((0:Int)<((t::r).length:Int))) (k ⟨0,⟨0,0⟩, [], [], []⟩ c t.at_)else k v 0 0))=k ⟨0,⟨0,0⟩, [], [], []⟩ c t.at_:=fun z=>by
    rw[e3,aS Dy]
    cases z <;> rfl
   have:=hz (t.kind != 5)
   obtain ⟨kd,⟨n1,n2⟩,tx,ns,is⟩:=v
   exact this
 | ok p =>
  rw[hq]at hv
  obtain ⟨g1,g2⟩:=hv
  obtain ⟨v,r⟩:=p
  rw[g2]
  cases r with
  | nil=>exact (g1.ne rfl).elim
  | cons t r =>
   rw[aS Dy]
   by_cases hk:t.kind=5
   ·have e3:(t.kind != 5)=false:=by simpa using hk
    have:((((v,t::r):Json × List Token).2).getD 0 (Ty.bU .token)).kind=t.kind:=rfl
    show (bif (t.kind != 5)then _ else _)=_
    rw[e3,cond_false]
    obtain ⟨kd,⟨n1,n2⟩,tx,ns,is⟩:=v
    show k ⟨kd,⟨n1,n2⟩,tx,ns,is⟩ 0 0=_
    have uQ:¬(((t::r).getD 0 ⟨0, [],⟨0,0⟩,0⟩).kind≠5):=fun h=>h hk
    simp only
    rw[if_neg uQ]
   ·have e3:(t.kind != 5)=true:=by simpa using hk
    show (bif (t.kind != 5)then _ else _)=_
    rw[e3,cond_true]
    show cu (decide ((0:Int)<((t::r).length:Int))) (k ⟨0,⟨0,0⟩, [], [], []⟩ 40 t.at_)=_
    rw[aS Dy]
    have uQ:(((t::r).getD 0 ⟨0, [],⟨0,0⟩,0⟩).kind≠5):=hk
    simp only
    rw[if_pos uQ]
    rfl
def stW (x:vb):Int × ah × dH:=YO x.2.2
theorem JM {ts:List Token} {x:vb} {l:List vb} (h:ts.map YO=(x::l).map stW):∃t r,ts=t::r∧YO t=stW x∧r.map YO=l.map stW:=by
 cases ts with
 | nil=>cases h
 | cons t r =>
  simp only[List.map_cons,List.cons.injEq]at h
  exact ⟨t,r,rfl,h.1,h.2⟩
theorem YD {ts:List Token} {a b:List vb} (h:ts.map YO=(a++b).map stW):∃u v,ts=u++v∧u.map YO=a.map stW∧v.map YO=b.map stW:=by
 rw[List.map_append]at h
 obtain ⟨u,v,e,h1,h2⟩:=List.map_eq_append_iff.1 h
 exact ⟨u,v,e,h1,h2⟩
theorem Va {ts:List Token} {x:vb} (h:ts.map YO = [x].map stW):∃t,ts = [t]∧YO t=stW x:=by
 obtain ⟨t,r,e,h1,h2⟩:=JM h
 cases r with
 | nil=>exact ⟨t,e,h1⟩
 | cons u r=>cases h2
theorem B9 {t:Token} {x:vb} (h:YO t=stW x):t.kind=x.2.2.kind∧t.text=x.2.2.text∧t.num=x.2.2.num:=by
 unfold stW YO at h
 simp only[Prod.mk.injEq]at h
 exact h
theorem val_name {n:Nat} {d:Int} (hd:d≤16) {t:Token} {rest:List Token} {x:ah} (hx:x=va∨x=o4∨x=AG) (hk:t.kind=4) (ht:t.text=x) :
  tQ (n+1) d (t::rest) = .ok (⟨sf .str (.int .i64) x Re,⟨0,0⟩, [], [], []⟩,rest):=by
 have h1:pE t=true:=by simp[pE,hk]
 have h2:B4 t.text=true:=by
  rw[ht]
  rcases hx with rfl|rfl|rfl <;> rfl
 simp only[tQ]
 rw[if_neg (by rw[h1]; simp),if_neg (by omega),if_neg (by rw[hk]; simp),if_pos ⟨hk,h2⟩,ht]
theorem valS_sign {n:Nat} {d:Int} {ts:List Token} {p:Json × List Token} (h:tQ n d ts = .ok p):gi [93] ts=none∧gi [125] ts=none:=by
 cases n with
 | zero=>cases h
 | succ n =>
  cases ts with
  | nil=>cases h
  | cons t r =>
   simp only[tQ]at h
   by_cases hs:pE t=false
   ·rw[if_pos hs]at h; cases h
   ·have ju:∀x:ah,x = [93]∨x = [125]→¬(t.kind=1∧t.text=x):=fun x hx ⟨h1,h2⟩=>by
     apply hs
     rcases hx with rfl|rfl <;> simp[pE,Cp,h1,h2]
    simp only[gi]
    rw[if_neg (ju _ (.inl rfl)),if_neg (ju _ (.inr rfl))]
    exact ⟨rfl,rfl⟩
mutual
theorem OD:∀(v:Json) (d:Int) (n:Nat) (ts rest:List Token),uB v d=true→17 - d<n→ts.map YO=(Ar v).map stW→tQ n d (ts++rest) = .ok (v,rest)
 | ⟨k,nm,t,ns,is⟩,d,0,ts,rest,h,hn,hw=>by
  have:d≤16:=by
   cases mI.1 h <;> assumption
  omega
 | ⟨k,nm,t,ns,is⟩,d,n+1,ts,rest,h,hn,hw=>by
  have hL:=listS_wL is
  have hO:=listS_wO ns is
  cases mI.1 h with
  | name _ _ hd hk =>
   have O8:∀x:ah,(x=va∨x=o4∨x=AG)→ts.map YO = [(([],x,⟨4,x,⟨0,0⟩,0⟩):vb)].map stW→tQ (n+1) d (ts++rest) = .ok (⟨sf .str (.int .i64) x Re,⟨0,0⟩, [], [], []⟩,rest):=fun x hx hw=>by
    obtain ⟨u,rfl,hu⟩:=Va hw
    obtain ⟨h1,h2,_⟩:=B9 hu
    exact val_name hd hx h1 h2
   rcases hk with rfl|rfl|rfl
   ·exact O8 va (.inl rfl) hw
   ·exact O8 o4 (.inr (.inl rfl)) hw
   ·exact O8 AG (.inr (.inr rfl)) hw
  | num _ _ hd V6 =>
   obtain ⟨u,rfl,hu⟩:=Va (x:=([],Jx nm,⟨3,Jx nm,nm,0⟩)) hw
   obtain ⟨h1,h2,h3⟩:=B9 hu
   simp only at h1 h2 h3
   have hs:pE u=true:=by simp[pE,h1]
   show tQ (n+1) d (u::rest)=_
   simp only[tQ]
   rw[if_neg (by rw[hs]; simp),if_neg (by omega),if_neg (by rw[h1]; simp),if_neg (by rw[h1]; simp),if_pos h1,h3]
  | text _ _ hd ht =>
   obtain ⟨u,rfl,hu⟩:=Va (x:=txW t) hw
   obtain ⟨h1,h2,h3⟩:=B9 hu
   simp only[txW]at h1 h2 h3
   have hs:pE u=true:=by simp[pE,h1]
   show tQ (n+1) d (u::rest)=_
   simp only[tQ]
   rw[if_neg (by rw[hs]; simp),if_neg (by omega),if_neg (by rw[h1]; simp),if_neg (by rw[h1]; simp),if_neg (by rw[h1]; simp),h2]
  | arr _ _ hd hi =>
   obtain ⟨u,Ip,rfl,hu,hw2⟩:=JM (x:=sg 91) (l:=sE is true ++ [sg 93]) hw
   obtain ⟨tl,tc,rfl,hl,OI⟩:=YD hw2
   obtain ⟨c,rfl,hc⟩:=Va OI
   obtain ⟨h1,h2,_⟩:=B9 hu
   obtain ⟨c1,c2,_⟩:=B9 hc
   simp only[sg]at h1 h2 c1 c2
   have FJ:Cp u.text=true:=by rw[h2]; rfl
   have hs:pE u=true:=by simp[pE,h1,FJ]
   have ho7:(u.text==([123]:ah))=false:=by rw[h2]; rfl
   show tQ (n+1) d (u::(tl ++ [c]++rest))=_
   simp only[tQ]
   rw[if_neg (by rw[hs]; simp),if_neg (by omega),if_pos ⟨h1,FJ⟩,ho7]
   simp only[Bool.false_eq_true,if_false]
   cases is with
   | nil =>
    obtain rfl:tl = []:=by simpa [sE]using hl
    show (match gi [93] (c::rest)with|some r'=>_|none=>_)=_
    have:gi [93] (c::rest)=some rest:=by
     show (if c.kind=1∧c.text = [93]then some rest else none)=some rest
     rw[if_pos ⟨c1,c2⟩]
    rw[this]
   | cons x l =>
    obtain ⟨e1,e2⟩:=hL d n (tl ++ [c]++rest).length.succ [] [] tl c rest (by simp) hi (by omega) (by simp; omega) hl c1 c2
    rw[e1,e2]
    rfl
  | obj _ _ _ hd hlen hu7 hi =>
   obtain ⟨u,Ip,rfl,hu,hw2⟩:=JM (x:=sg 123) (l:=o5 ns is true ++ [sg 125]) hw
   obtain ⟨tl,tc,rfl,hl,OI⟩:=YD hw2
   obtain ⟨c,rfl,hc⟩:=Va OI
   obtain ⟨h1,h2,_⟩:=B9 hu
   obtain ⟨c1,c2,_⟩:=B9 hc
   simp only[sg]at h1 h2 c1 c2
   have FJ:Cp u.text=true:=by rw[h2]; rfl
   have hs:pE u=true:=by simp[pE,h1,FJ]
   have ho7:(u.text==([123]:ah))=true:=by rw[h2]; rfl
   show tQ (n+1) d (u::(tl ++ [c]++rest))=_
   simp only[tQ]
   rw[if_neg (by rw[hs]; simp),if_neg (by omega),if_pos ⟨h1,FJ⟩,ho7]
   simp only[if_true]
   cases is with
   | nil =>
    obtain rfl:ns = []:=List.eq_nil_of_length_eq_zero hlen
    obtain rfl:tl = []:=by simpa [o5]using hl
    show (match gi [125] (c::rest)with|some r'=>_|none=>_)=_
    have:gi [125] (c::rest)=some rest:=by
     show (if c.kind=1∧c.text = [125]then some rest else none)=some rest
     rw[if_pos ⟨c1,c2⟩]
    rw[this]
   | cons x l =>
    obtain ⟨e1,e2⟩:=hO d n (tl ++ [c]++rest).length.succ [] [] [] tl c rest (by simp) hlen hi hu7 (fun n=>rfl) (by omega) (by simp; omega) hl c1 c2
    rw[e1,e2]
    rfl
theorem listS_wL:∀(is:List Json) (d:Int) (n m:Nat) (YP:List ah) (is0:List Json) (tl:List Token) (c:Token) (rest:List Token),is ≠ []→mc is (d+1)=true→17 - (d+1)<n→tl.length<m →
  tl.map YO=(sE is true).map stW→c.kind=1→c.text = [93]→gi [93] (tl ++ [c]++rest)=none∧tP (tQ n (d+1)) [93] false m YP is0 (tl ++ [c]++rest) = .ok ((YP,is0++is),rest)
 | [],_,_,_,_,_,_,_,_,h,_,_,_,_,_,_=>(h rfl).elim
 | x::l,d,n,0,YP,is0,tl,c,rest,_,hr,hn,hm,hw,c1,c2=>by omega
 | x::l,d,n,m+1,YP,is0,tl,c,rest,_,hr,hn,hm,hw,c1,c2=>by
  obtain ⟨tv,tr,rfl,hv,ht⟩:=YD (a:=Ar x) (b:=sE l false) hw
  simp only[mc,Bool.and_eq_true]at hr
  have hx:=OD x (d+1) n tv (tr ++ [c]++rest) hr.1 hn hv
  have hL:=listS_wL l
  rw[show tv++tr ++ [c]++rest=tv++(tr ++ [c]++rest) by simp]
  refine ⟨(valS_sign hx).1,?_⟩
  have hp:vW (tQ n (d+1)) false YP is0 (tv++(tr ++ [c]++rest)) = .ok ((YP,is0 ++ [x]),tr ++ [c]++rest):=by
   simp only[vW,hx]
  simp only[tP,hp]
  cases l with
  | nil =>
   obtain rfl:tr = []:=by simpa [sE]using ht
   have:gi [93] ([] ++ [c]++rest)=some rest:=by
    show (if c.kind=1∧c.text = [93]then some rest else none)=some rest
    rw[if_pos ⟨c1,c2⟩]
   rw[this]
  | cons y l' =>
   obtain ⟨u,tr',rfl,hu,ht'⟩:=JM (x:=sg 44) (l:=sE (y::l') true) ht
   obtain ⟨u1,u2,_⟩:=B9 hu
   simp only[sg]at u1 u2
   have s1:gi [93] (u::tr' ++ [c]++rest)=none:=by
    show (if u.kind=1∧u.text = [93]then some (tr' ++ [c]++rest)else none)=none
    rw[if_neg (by rw[u2]; rintro ⟨_,h⟩; cases h)]
   have s2:gi [44] (u::tr' ++ [c]++rest)=some (tr' ++ [c]++rest):=by
    show (if u.kind=1∧u.text = [44]then some (tr' ++ [c]++rest)else none)=_
    rw[if_pos ⟨u1,u2⟩]
   rw[s1,s2]
   obtain ⟨_,e2⟩:=hL d n m YP (is0 ++ [x]) tr' c rest (by simp) hr.2 hn (by simp at hm; omega) ht' c1 c2
   simp only
   rw[e2]
   simp
theorem listS_wO:∀(ns:List ah) (is:List Json) (d:Int) (n m:Nat) (YP:List ah) (is0:List Json) (seen:List ah) (tl:List Token) (c:Token) (rest:List Token),is ≠ []→ns.length=is.length→mc is (d+1)=true→EW seen ns=true→(∀n,YP.contains n=seen.contains n) →
  17 - (d+1)<n→tl.length<m →
  tl.map YO=(o5 ns is true).map stW→c.kind=1→c.text = [125]→gi [125] (tl ++ [c]++rest)=none∧tP (tQ n (d+1)) [125] true m YP is0 (tl ++ [c]++rest) = .ok ((YP++ns,is0++is),rest)
 | _, [],_,_,_,_,_,_,_,_,_,h,_,_,_,_,_,_,_,_,_=>(h rfl).elim
 | [],x::l,d,n,m,YP,is0,seen,tl,c,rest,_,hlen,hr,hu,hsn,hn,hm,hw,c1,c2=>by cases hlen
 | nm::ns,x::l,d,n,0,YP,is0,seen,tl,c,rest,_,hlen,hr,hu,hsn,hn,hm,hw,c1,c2=>by omega
 | nm::ns,x::l,d,n,m+1,YP,is0,seen,tl,c,rest,_,hlen,hr,hu,hsn,hn,hm,hw,c1,c2=>by
  obtain ⟨tn,tl1,rfl,hn1,hw1⟩:=JM (x:=txW nm) (l:=sg 58::(Ar x++o5 ns l false)) hw
  obtain ⟨tk,tl2,rfl,hk1,hw2⟩:=JM hw1
  obtain ⟨tv,tr,rfl,hv,ht⟩:=YD hw2
  obtain ⟨n1,n2,_⟩:=B9 hn1
  obtain ⟨k1,k2,_⟩:=B9 hk1
  simp only[txW]at n1 n2
  simp only[sg]at k1 k2
  simp only[mc,Bool.and_eq_true]at hr
  simp only[EW,Bool.and_eq_true,Bool.not_eq_true']at hu
  have hx:=OD x (d+1) n tv (tr ++ [c]++rest) hr.1 hn hv
  have hO:=listS_wO ns l
  rw[show tn::tk::(tv++tr) ++ [c]++rest=tn::tk::(tv++(tr ++ [c]++rest)) by simp]
  refine ⟨?_,?_⟩
  ·show (if tn.kind=1∧tn.text = [125]then some _ else none)=none
   rw[if_neg (by rw[n1]; rintro ⟨h,_⟩; cases h)]
  have V6:Ga YP (tn::tk::(tv++(tr ++ [c]++rest))) = .ok (nm,tv++(tr ++ [c]++rest)):=by
   simp only[Ga]
   rw[if_neg (by rw[n1]; simp),if_neg (by rw[n2,hsn,hu.1.1]; simp)]
   have:gi [58] (tk::(tv++(tr ++ [c]++rest)))=some (tv++(tr ++ [c]++rest)):=by
    show (if tk.kind=1∧tk.text = [58]then some (tv++(tr ++ [c]++rest))else none)=_
    rw[if_pos ⟨k1,k2⟩]
   rw[this,n2]
  have hp:vW (tQ n (d+1)) true YP is0 (tn::tk::(tv++(tr ++ [c]++rest))) = .ok ((YP ++ [nm],is0 ++ [x]),tr ++ [c]++rest):=by
   simp only[vW,V6,hx]
  simp only[tP,hp]
  cases l with
  | nil =>
   obtain rfl:ns = []:=List.eq_nil_of_length_eq_zero (by simpa using hlen)
   obtain rfl:tr = []:=by simpa [o5]using ht
   have:gi [125] ([] ++ [c]++rest)=some rest:=by
    show (if c.kind=1∧c.text = [125]then some rest else none)=some rest
    rw[if_pos ⟨c1,c2⟩]
   rw[this]
  | cons y l' =>
   obtain ⟨u,tr',rfl,hu2,ht'⟩:=JM (x:=sg 44) (l:=o5 ns (y::l') true) ht
   obtain ⟨u1,u2,_⟩:=B9 hu2
   simp only[sg]at u1 u2
   have s1:gi [125] (u::tr' ++ [c]++rest)=none:=by
    show (if u.kind=1∧u.text = [125]then some (tr' ++ [c]++rest)else none)=none
    rw[if_neg (by rw[u2]; rintro ⟨_,h⟩; cases h)]
   have s2:gi [44] (u::tr' ++ [c]++rest)=some (tr' ++ [c]++rest):=by
    show (if u.kind=1∧u.text = [44]then some (tr' ++ [c]++rest)else none)=_
    rw[if_pos ⟨u1,u2⟩]
   rw[s1,s2]
   obtain ⟨_,e2⟩:=hO d n m (YP ++ [nm]) (is0 ++ [x]) (nm::seen) tr' c rest (by simp) (by simpa using hlen) hr.2 hu.2 (fun z=>by
    rw[List.contains_append,hsn,List.contains_cons,List.contains_cons,List.contains_nil,Bool.or_false,Bool.or_comm]) hn (by simp at hm; omega) ht' c1 c2
   simp only
   rw[e2]
   simp
end
theorem val_tail {v:Json} (h:uB v 1=true) (ts:List Token) (rest:List Token) (hw:ts.map YO=(Ar v).map stW):tQ 40 1 (ts++rest) = .ok (v,rest):=OD v 1 40 ts rest h (by omega) hw
def tight (l:List vb):Prop:=∀x∈l,x.1 = []
mutual
theorem tightJ:∀v:Json,tight (Ar v)
 | ⟨k,n,t,ns,is⟩=>by
  have hL:=tightL is
  have hO:=tightO ns is
  intro x hx
  simp only[Ar]at hx
  split at hx
  ·simp at hx; rw[hx]
  split at hx
  ·simp at hx; rw[hx]
  split at hx
  ·simp at hx; rw[hx]
  split at hx
  ·simp at hx; rw[hx]
  split at hx
  ·simp[txW]at hx; rw[hx]
  split at hx
  ·simp only[List.mem_cons,List.mem_append,List.not_mem_nil,or_false]at hx
   rcases hx with rfl|hx|rfl
   ·rfl
   ·exact hO true x hx
   ·rfl
  ·simp only[List.mem_cons,List.mem_append,List.not_mem_nil,or_false]at hx
   rcases hx with rfl|hx|rfl
   ·rfl
   ·exact hL true x hx
   ·rfl
theorem tightL:∀(l:List Json) (first:Bool),tight (sE l first)
 | [],_=>by intro x hx; simp[sE]at hx
 | y::l,first=>by
  have h1:=tightJ y
  have h2:=tightL l false
  intro x hx
  simp only[sE,List.mem_append]at hx
  rcases hx with hx|hx|hx
  ·cases first
   ·simp at hx; rw[hx]; rfl
   ·simp at hx
  ·exact h1 x hx
  ·exact h2 x hx
theorem tightO:∀(ns:List ah) (l:List Json) (first:Bool),tight (o5 ns l first)
 | _, [],_=>by intro x hx; simp[o5]at hx
 | ns,y::l,first=>by
  have h1:=tightJ y
  have h2:=tightO ns.tail l false
  intro x hx
  simp only[o5,List.mem_append,List.mem_cons]at hx
  rcases hx with hx|rfl|rfl|hx|hx
  ·cases first
   ·simp at hx; rw[hx]; rfl
   ·simp at hx
  ·rfl
  ·rfl
  ·exact h1 x hx
  ·exact h2 x hx
end
theorem print_ne (v:Json) (h:uB v 1=true):kH v ≠ []:=by
 intro e
 have h1:=Rb v []
 rw[List.append_nil,e]at h1
 have vD:=UU v 1 h [] (.inl rfl)
 have hv:=val_tail h (tokW 0 (Ar v)) [] (tokW_st _ _)
 cases hw:Ar v with
 | nil=>rw[hw]at hv; cases hv
 | cons x l =>
  rw[hw]at h1 vD
  obtain ⟨_,⟨c,u,hc,_⟩,_⟩:=vD
  simp[DW,hc]at h1
theorem Vb:∀(ns:List ah) (seen:List ah),EW seen ns=true→∀t∈ns,pd t=true
 | [],_,_,t,h=>by cases h
 | n::ns,seen,h,t,ht=>by
  simp only[EW,Bool.and_eq_true]at h
  rcases List.mem_cons.1 ht with rfl|ht
  ·exact h.1.2
  ·exact Vb ns _ h.2 t ht
end Go.Proofs.YtmlkkgfenfdndaaGreatDoor
namespace Go.aG
open Go.RowKit Go.Proofs.YtmlkkgfenfdndaaGreatDoor Go.ChangeShapes Go.WideShapes
mutual
inductive Wt:Nat→V→Prop where
 | int {n:Nat} {k:IntKind} {z:Int} (h1:1≤n) (h:k.has z):Wt n (.int k z)
 | bool {n:Nat} (h1:1≤n) (b:Bool):Wt n (.bool b)
 | str {n:Nat} {s:ah} (h:s.length+1≤n):Wt n (.str s)
 | sl {n m:Nat} {T:Ty} {l:List T.den} (h:m+1≤n) (he:SP m (l.map T.cells)):Wt n (.sl T l .no)
inductive SQ:Nat→List V→Prop where
 | nil:SQ 0 []
 | cons {a b:Nat} {v:V} {vs:List V} (h:Wt a v) (t:SQ b vs):SQ (a+b) (v::vs)
inductive SP:Nat→List (List V)→Prop where
 | nil:SP 0 []
 | cons {a b:Nat} {v:List V} {vs:List (List V)} (h:SQ a v) (t:SP b vs):SP (a+b) (v::vs)
end
theorem SQ.append:∀ {x y:List V} {a b:Nat},SQ a x→SQ b y→SQ (a+b) (x++y)
 | [],_,_,_, .nil,h=>by rw[Nat.zero_add]; exact h
 | v::x,y,_,b, .cons (a:=p) (b:=q) h t,h'=>by
  rw[Nat.add_assoc]
  exact .cons h (SQ.append t h')
theorem Wt.one {p:fT} {x:p.den} {n:Nat} (h:Wt n (p.enc x)):SQ n [p.enc x] := .cons (b:=0) h .nil
section
variable {H:Type} {enc:TypeId × Value→H} {P:Program} {tt:eF} {w:World} {spare:Nat→Bool} {held:Bool}
def tR (w:World) (N:Nat) (ls:List fT) (cs:List Value):Prop:=∃vs n,GL ls vs∧cT w [] Uh vs cs∧SQ n vs∧n≤N
theorem tR.append {N M:Nat} {a b:List fT} {x y:List Value} (h:tR w N a x) (k:tR w M b y):tR w (N+M) (a++b) (x++y):=by
 obtain ⟨u,n,h1,h2,h3,h4⟩:=h
 obtain ⟨v,m,k1,k2,k3,k4⟩:=k
 exact ⟨u++v,n+m,h1.append k1,h2.append k2,h3.append k3,by omega⟩
theorem tR.nil {N:Nat}:tR w N [] []:=⟨[],0, .nil, .nil, .nil,Nat.zero_le _⟩
theorem tR.one {N:Nat} {p:fT} {x:p.den} {d:Value} (h:eG w [] Uh (p.enc x) d) (s:Wt N (p.enc x)):tR w N [p] [d] :=
 ⟨[p.enc x],N, .one p x, .cons h .nil,Wt.one s,Nat.le_refl _⟩
theorem tR.le {N M:Nat} {ls:List fT} {cs:List Value} (h:tR w N ls cs) (hm:N≤M):tR w M ls cs:=by
 obtain ⟨u,n,h1,h2,h3,h4⟩:=h
 exact ⟨u,n,h1,h2,h3,by omega⟩
theorem wtll_of {T:Ty}:∀(l:List T.den) (es:List (DataW H)),l.length=es.length→(∀(i:Nat) (y:T.den) (e:DataW H),l[i]? = some y→es[i]? = some e→∃n,SQ n (T.cells y)∧n≤Rows.uptoBulk e)→∃m,SP m (l.map T.cells)∧m≤Rows.uptoBulkAll es
 | [],es,_,_=>⟨0, .nil,Nat.zero_le _⟩
 | y::l, [],h,_=>by cases h
 | y::l,e::es,h,hh=>by
  obtain ⟨n,h1,h2⟩:=hh 0 y e rfl rfl
  obtain ⟨m,h3,h4⟩:=wtll_of l es (by simpa using h) fun i y e hy he=>hh (i+1) y e hy he
  exact ⟨n+m, .cons h1 h3,by simp only[Rows.uptoBulkAll]; omega⟩
theorem Qe {n m:Nat} (ih:∀(t:TypeId) (cs:List Value) (x:DataW H × List MemPlace) (ls:List fT),DataW.trod enc P w 0 spare held n t cs=some x→qj P tt m t=some ls→Rows.uptoBulk x.1≤mx→tR w (Rows.uptoBulk x.1) ls cs) (cs:List Value) :
  ∀(fs:List Field) (j:Nat) (xs:List (DataW H × List MemPlace)) (ls:List fT),(fs.mapM fun f=>DataW.trod enc P w 0 spare held n f.type ((cs.drop f.offset).take (P.cellsOf f.type)))=some xs →
   Lg P (qj P tt m) fs j cs.length=some ls→Rows.uptoBulkAll (xs.map (·.1))≤mx→tR w (Rows.uptoBulkAll (xs.map (·.1))) ls (cs.drop j)
 | [],j,xs,ls,_,hl,_=>by
  unfold Lg at hl
  split at hl
  ·rename_i hj
   cases hl
   rw[List.drop_eq_nil_of_le (by omega)]
   exact .nil
  ·cases hl
 | f::fs,j,xs,ls,hx,hl,hb=>by
  simp only[List.mapM_cons,Option.pure_def,Option.bind_eq_bind,Option.bind_eq_some_iff]at hx
  obtain ⟨y,hy,ys,hys,e⟩:=hx
  cases e
  simp only[List.map_cons,Rows.uptoBulkAll]at hb
  unfold Lg at hl
  split at hl
  ·rename_i ho
   split at hl
   ·rename_i a ha
    split at hl
    ·rename_i tT
     split at hl
     ·rename_i b uR
      cases hl
      rw[ho]at hy
      have r1:=ih _ _ _ _ hy ha (by omega)
      have r2:=Qe ih cs fs (j+a.length) ys b hys uR (by omega)
      have e:cs.drop j=(cs.drop j).take (P.cellsOf f.type)++cs.drop (j+a.length):=by
       rw[←tT,←List.drop_drop]
       exact (List.take_append_drop a.length (cs.drop j)).symm
      rw[e]
      exact r1.append r2
     ·cases hl
    ·cases hl
   ·cases hl
  ·cases hl
theorem Xb {n m:Nat} {e:TypeId} (ih:∀(t:TypeId) (cs:List Value) (x:DataW H × List MemPlace) (ls:List fT),DataW.trod enc P w 0 spare held n t cs=some x→qj P tt m t=some ls→Rows.uptoBulk x.1≤mx→tR w (Rows.uptoBulk x.1) ls cs) (cs:List Value) {a:List fT} (ha:qj P tt m e=some a) :
  ∀(k i:Nat) (ls:List fT) (es:List (DataW H)),es.length=k→(∀q y,es[q]? = some y→∃x,DataW.trod enc P w 0 spare held n e ((cs.drop ((i+q)*P.cellsOf e)).take (P.cellsOf e))=some x∧x.1=y)→Rows.uptoBulkAll es≤mx →
   CB (some a) (P.cellsOf e) k (i*P.cellsOf e) cs.length=some ls→tR w (Rows.uptoBulkAll es) ls (cs.drop (i*P.cellsOf e))
 | 0,i,ls,es,_,_,_,hl=>by
  unfold CB at hl
  split at hl
  ·rename_i hj
   cases hl
   rw[List.drop_eq_nil_of_le (by omega)]
   exact .nil
  ·cases hl
 | k+1,i,ls, [],h0,hx,hbm,hl=>by cases h0
 | k+1,i,ls,y0::es,h0,hx,hbm,hl=>by
  unfold CB at hl
  simp only at hl
  split at hl
  ·rename_i tT
   split at hl
   ·rename_i b uR
    cases hl
    obtain ⟨x,h1,rfl⟩:=hx 0 y0 rfl
    simp only[Rows.uptoBulkAll]at hbm ⊢
    have r1:=ih _ _ _ _ h1 ha (by omega)
    rw[tT]at uR
    have e1:i*P.cellsOf e+P.cellsOf e=(i+1)*P.cellsOf e:=by rw[Nat.add_mul]; omega
    rw[e1]at uR
    have r2:=Xb ih cs ha k (i+1) b es (by simpa using h0) (fun q y hq=>by
     have:=hx (q+1) y hq
     rw[show i+(q+1)=i+1+q by omega]at this
     exact this) (by omega) uR
    have e:cs.drop (i*P.cellsOf e)=(cs.drop (i*P.cellsOf e)).take (P.cellsOf e)++cs.drop ((i+1)*P.cellsOf e):=by
     rw[←e1,←List.drop_drop]
     exact (List.take_append_drop _ _).symm
    rw[e]
    exact r1.append r2
   ·cases hl
  ·cases hl
theorem OE (DF:Pa P tt):∀(n:Nat) (t:TypeId) (cs:List Value) (x:DataW H × List MemPlace) (m:Nat) (ls:List fT),DataW.trod enc P w 0 spare held n t cs=some x→qj P tt m t=some ls →
  Rows.uptoBulk x.1≤mx→tR w (Rows.uptoBulk x.1) ls cs
 | 0,_,_,_,_,_,h,_,_=>by simp[DataW.trod]at h
 | n+1,t,cs,x,0,ls,_,hl,_=>by simp[qj]at hl
 | n+1,t,cs,x,m+1,ls,h,hl,hb=>by
  have ih:∀(t:TypeId) (cs:List Value) (x:DataW H × List MemPlace) (ls:List fT),DataW.trod enc P w 0 spare held n t cs=some x→qj P tt m t=some ls→Rows.uptoBulk x.1≤mx→tR w (Rows.uptoBulk x.1) ls cs :=
   fun t cs x ls h1 h2 h3=>OE DF n t cs x m ls h1 h2 h3
  have ih8:∀(t:TypeId) (cs:List Value) (x:DataW H × List MemPlace) (ls:List fT),DataW.trod enc P w 0 spare held n t cs=some x→qj P tt 8 t=some ls→Rows.uptoBulk x.1≤mx→tR w (Rows.uptoBulk x.1) ls cs :=
   fun t cs x ls h1 h2 h3=>OE DF n t cs x 8 ls h1 h2 h3
  unfold qj at hl
  unfold DataW.trod at h
  cases hu:P.underlying t with
  | none=>rw[hu]at hl; cases hl
  | some u =>
   rw[hu]at hl h
   cases u <;> simp only at hl <;> try (first|cases hl)
   case some.bool.refl =>
    rcases cs with _|⟨c,_|⟨c2,r⟩⟩
    ·simp at h
    ·cases c <;> simp at h
     exact .one (p := .bool) (.bool _) (.bool (Pb _) _)
    ·simp at h
   case some.int.refl k =>
    rcases cs with _|⟨c,_|⟨c2,r⟩⟩
    ·simp at h
    ·cases c <;> simp at h
     rename_i k' z
     obtain ⟨⟨rfl,hw⟩,_⟩:=h
     have hk:IntKind.has k' z:=by
      simp only[Lit.wf,Bool.and_eq_true,decide_eq_true_eq]at hw
      exact hw
     exact .one (p := .int k') (x:=z) (.int hk) (.int (Pb _) hk)
    ·simp at h
   case some.string.refl =>
    rcases cs with _|⟨c,_|⟨c2,r⟩⟩
    ·simp at h
    ·cases c <;> simp at h
     rename_i s
     obtain ⟨hs,rfl⟩:=h
     have uR:s.data.toList.length+1≤mx:=by simp only[Rows.uptoBulk]at hb; omega
     have tT:s.size≤mx:=by
      have e:s.data.toList.length=s.size:=by rw[Array.length_toList]; rfl
      omega
     exact .one (p := .str) (x:=s.data.toList) (.str tT) (.str (by simp only[Rows.uptoBulk]; omega))
    ·simp at h
   case some.slice e =>
    split at hl <;> try (first|cases hl)
    rename_i T hT
    split at hl <;> try (first|cases hl)
    rename_i tT
    rcases cs with _|⟨c,_|⟨c2,r⟩⟩
    ·simp at h
    ·cases c <;> try (simp at h; done)
     rename_i A len cap
     cases A with
     | none =>
      have h0:len=0∧cap=0:=by
       split at h <;> simp_all
      obtain ⟨rfl,rfl⟩:=h0
      refine .one (p := .sl T) (x := []) ?_ (.sl (m:=0) (Pb _) .nil)
      exact eG.sl (T:=T) (l := []) (t := .no) (A:=none) (cap:=0) (fun _ _=>undef) (Nat.le_refl _) (Nat.zero_le _) (fun i j hi=>by simp at hi) (fun i j x v hx=>by simp at hx) (by simp) (by simp)
     | some a =>
      simp only[Nat.zero_le,true_and]at h
      split at h <;> try (first|cases h)
      rename_i hc
      simp only[Option.bind_eq_some_iff,Option.map_eq_some_iff]at h
      obtain ⟨elems,he,rest,hr,rfl⟩:=h
      obtain ⟨g1,g2⟩:=Pc he
      simp only[List.length_range]at g1
      simp only[Rows.uptoBulk]at hb
      have hlen:len≤mx:=by
       have:=bulk_len (elems.map (·.1))
       simp only[List.length_map]at this
       omega
      have key:∀i,i<len→∃y:T.den,∃ds:List Value,w.cells? 0 (a.add (i*P.cellsOf e)) (P.cellsOf e)=some ds∧cT w [] Uh (T.cells y) ds∧∃n,SQ n (T.cells y)∧∀z,elems[i]? = some z→n≤Rows.uptoBulk z.1:=by
       intro i hi
       obtain ⟨z,hz,hz2⟩:=g2 i i (by simp[hi])
       simp only[Option.bind_eq_some_iff]at hz2
       obtain ⟨ds,hd1,hd2⟩:=hz2
       have hmem:z.1∈elems.map (·.1):=List.mem_map.2 ⟨z,List.mem_of_getElem? hz,rfl⟩
       obtain ⟨vs,nw,⟨q,rfl⟩,k2,k3,k4⟩:=ih8 _ _ _ _ hd2 (DF e T hT) (by have:=bulk_part hmem; omega)
       obtain ⟨y,hy⟩:=XY T q
       rw[←hy]at k2 k3
       exact ⟨y,ds,hd1,k2,nw,k3,fun z' hz'=>by rw[hz]at hz'; cases hz'; exact k4⟩
      obtain ⟨l,hl1,VE⟩:=list_of _ len key
      obtain ⟨mm,hm1,hm2⟩:=wtll_of l (elems.map (·.1)) (by simp; omega) fun i y e hy he=>by
       obtain ⟨_,_,_,nn,hn1,hn2⟩:=VE i y hy
       rw[List.getElem?_map]at he
       obtain ⟨z,hz,rfl⟩:=Option.map_eq_some_iff.1 he
       exact ⟨nn,hn1,hn2 z hz⟩
      refine .one (p := .sl T) (x:=l) ?_ (.sl (m:=mm) (by simp only[Rows.uptoBulk]; omega) hm1)
      ·have hv:(Value.slice (some a) len cap) = .slice (some a) l.length cap:=by rw[hl1]
       rw[hv]
       refine eG.sl (fun i j=>(w.cell? ((a.add (i*T.sz)).add j)).getD undef) (by omega) (Nat.le_trans hc.2 (Nat.le_of_ble_eq_true rfl)) (fun i j hi hj => ?_) (fun i j y v hy hv => ?_) (by simp) (by simp)
       ·obtain ⟨y,hy⟩:∃y,l[i]? = some y:=⟨l[i],by simp[hi]⟩
        obtain ⟨ds,d1,d2,_⟩:=VE i y hy
        rw[tT]at d1
        obtain ⟨c1,c2⟩:=Od d1
        obtain ⟨v,v1,v2⟩:=c2 j hj
        have ea:a=⟨a.block,a.off,none⟩:=by
         have hs0:a.spot=none:=by
          obtain ⟨y0,hy0⟩:∃y,l[0]? = some y:=⟨l[0],by simp⟩
          obtain ⟨ds0,d01,_,_⟩:=VE 0 y0 hy0
          rw[tT]at d01
          obtain ⟨_,c02⟩:=Od d01
          obtain ⟨v0,_,v02⟩:=c02 0 (Ty.ID T)
          simp only[Nat.zero_mul,Addr.add,if_true]at v02
          exact spot_none v02
         cases a; simp_all
        refine ⟨a.block,a.off,by rw[←ea],?_,free0 _ _⟩
        have e2:=addr_add (a:=a) (by rw[ea]) (i*T.sz) j
        rw[e2,v2]; rfl
       ·have hi:i<l.length:=(List.getElem?_eq_some_iff.1 hy).1
        obtain ⟨ds,d1,d2,_⟩:=VE i y hy
        rw[tT]at d1
        obtain ⟨c1,c2⟩:=Od d1
        have hj:j<T.sz:=by rw[←T.mT y]; exact (List.getElem?_eq_some_iff.1 hv).1
        obtain ⟨u,v1,v2⟩:=c2 j hj
        rw[v2]
        exact d2.2 j v u hv v1
    ·simp at h
   case some.struct fs =>
    simp only at h
    split at h
    ·rename_i Dr
     simp only[Option.map_eq_some_iff]at h
     obtain ⟨xs,hx,rfl⟩:=h
     simp only[Rows.uptoBulk]at hb
     rw[←Dr]at hl
     have:=Qe ih cs fs.toList 0 xs ls hx hl (by omega)
     exact tR.le (by simpa using this) (by simp only[Rows.uptoBulk]; omega)
    ·cases h
   case some.array k e =>
    simp only at h
    split at h
    ·rename_i Dr
     simp only[Option.map_eq_some_iff]at h
     obtain ⟨xs,hx,rfl⟩:=h
     simp only[Rows.uptoBulk]at hb
     rw[←Dr]at hl
     obtain ⟨g1,g2⟩:=Pc hx
     cases ha:qj P tt m e with
     | none =>
      rw[ha]at hl
      cases k with
      | zero =>
       unfold CB at hl
       split at hl
       ·rename_i hj
        cases hl
        have:cs = []:=List.eq_nil_of_length_eq_zero hj.symm
        subst this
        exact .nil
       ·cases hl
      | succ k=>simp[CB]at hl
     | some a =>
      rw[ha]at hl
      have:=Xb ih cs ha k 0 ls (xs.map (·.1)) (by simpa using g1) (fun q y hy=>by
       rw[List.getElem?_map]at hy
       obtain ⟨z,hz,rfl⟩:=Option.map_eq_some_iff.1 hy
       have hq:q<k:=by
        have:=(List.getElem?_eq_some_iff.1 hz).1
        simp at g1
        omega
       obtain ⟨y2,hy1,hy2⟩:=g2 q q (by simp[hq])
       rw[hz]at hy1
       cases hy1
       exact ⟨z,by rw[Nat.zero_add]; exact hy2,rfl⟩) (by omega) (by simpa using hl)
      exact tR.le (by simpa using this) (by simp only[Rows.uptoBulk]; omega)
    ·cases h
theorem arg_oneW {N:Nat} (DF:Pa P tt) {t:TypeId} {v:Value} {d:DataW H} {ps:List MemPlace} {p:fT} {base:Nat} (ho:oneCell P t=true) (hl:qj P tt 8 t=some [p]) (Uo:Value.okWide P w .any base t v)
  (h:DataW.Trod enc P w 0 spare held t v d ps) (hb:Rows.uptoBulk d≤N) (hN:N≤mx):∃x:p.den,eG w [] Uh (p.enc x) v∧∃n,Wt n (p.enc x)∧n≤N:=by
 obtain ⟨n,h⟩:=h
 obtain ⟨vs,nw,⟨x,rfl⟩,h2,h3,h4⟩:=OE DF n t _ _ 8 _ h hl (Nat.le_trans hb hN)
 have hc:v.cells.toList = [v]:=by
  unfold oneCell at ho
  unfold Value.okWide at Uo
  cases hu:P.underlying t with
  | none=>rw[hu]at ho; cases ho
  | some u =>
   rw[hu]at ho Uo
   cases u <;> simp only at ho <;> try (first|cases ho) <;> (cases v <;> simp[Cell.okWide,Cell.ok,hu]at Uo <;> rfl)
 rw[hc]at h2
 have h3':SQ nw [p.enc x.1]:=h3
 cases h3' with
 | cons a b=>cases b; exact ⟨x.1,h2.head,_,a,Nat.le_trans h4 hb⟩
end
end Go.aG
end
