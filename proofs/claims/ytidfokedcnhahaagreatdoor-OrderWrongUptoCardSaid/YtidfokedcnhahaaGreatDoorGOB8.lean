/-
  GO, part 8 of 10.
-/
import Derived.Test.YtidfokedcnhahaaGreatDoorGOB7
set_option linter.unusedSimpArgs false
set_option linter.unnecessarySimpa false
set_option linter.unusedVariables false
set_option linter.unusedSectionVars false
noncomputable section
set_option maxRecDepth 100000
namespace Go.Proofs.YtidfokedcnhahaaGreatDoor
open Go Go.aA Go.Lib
theorem band2 {p q:Prop} [Decidable p] [Decidable q] (hp:p) (hq:q):(decide p&&decide q)=true:=by rw[aE hp,aE hq]; rfl
theorem take_pre:∀(p s:ae),(s.take p.length==p)=p.isPrefixOf s
 | [],s=>by simp
 | a::p, []=>by simp
 | a::p,b::s=>by
  have:=take_pre p s;simp only[List.length_cons,List.take_succ_cons,List.isPrefixOf];rw[List.cons_beq_cons,this];congr 1;exact Bool.beq_comm
theorem Z1 {R:Type} (p s:ae) (hp:p.length≤1000) (hs:s.length≤9000000000000000000) (k:Bool→ae→Option R) :
  aL p s k=if p.isPrefixOf s then k true (s.drop p.length)else k false s:=by
 have e1:∀f:ae→Bool→Option R,fL s p f=cJ s p f:=fun _=>rfl
 show fL s p (fun y3 y4=>k y4 y3)=_;rw[e1];show iz ct s p (fun y3 y4=>k y4 y3)=_;unfold iz;have e2:∀f:Bool→Option R,ct s p f=f (p.isPrefixOf s):=by
  intro f;show iw s p f=_;unfold iw;by_cases h:p.length≤s.length
  ·rw[aE (show (s.length:Int)≥(p.length:Int) by omega),cond_true,ao (by rw[aE (show (0:Int)≤(p.length:Int) by omega)]; rfl),ao (aE (by omega))];rw[List.drop_zero,Int.toNat_natCast,Nat.sub_zero,take_pre]
  ·rw[bK (show ¬(s.length:Int)≥(p.length:Int) by omega),cond_false];congr 1;rw[←take_pre]
   symm
   rw[beq_eq_false_iff_ne];intro e;have:=congrArg List.length e;rw[List.length_take]at this;omega
 rw[e2];cases hp2:p.isPrefixOf s with
 | false=>simp
 | true =>
  have hle:p.length≤s.length:=(List.IsPrefix.length_le (List.isPrefixOf_iff_prefix.1 hp2));rw[Bool.not_true,cond_false,ao (band2 (by omega) (by omega)),ao (band2 (by omega) (by omega))];simp only[Int.toNat_natCast,if_true];rw[List.take_of_length_le (by rw[List.length_drop]; exact Nat.le_refl _)]
theorem decRune_eq {s:ae} (h:s ≠ []):pQ s=decodeL s:=by
 unfold pQ;have:s.isEmpty=false:=by cases s with|nil=>exact (h rfl).elim|cons _ _=>rfl
 rw[this];rfl
def OS (s:ae):Option (Nat×ae) :=
 if s = []then none else if (decodeL s).1=65533∧(decodeL s).2=1 then none else if (decodeL s).1<32 then none else some ((decodeL s).1,s.drop (decodeL s).2)
theorem plain_ok {R:Type} (s:ae) (hs:s.length≤9000000000000000000) (k:Int→ae→Option R) :
  bU s k=match OS s with|some (c,r)=>k (c:Int) r|none=>k (-1) s:=by
 show lT s k=_;unfold lT;by_cases h0:s = []
 ·subst h0; rfl
 rw[decRune_eq h0];have hw:=decodeL_width s;have hle:=decodeL_le s h0;have hj:(bX (decide ((0:Int)≤(s.length:Int))&&decide ((s.length:Int)≤s.length)) (bX (decide ((0:Int)≤((decodeL s).2:Int))&&decide (((decodeL s).2:Int)≤(s.length:Int))) (k ((decodeL s).1:Int) ((s.drop ((decodeL s).2:Int).toNat).take ((s.length:Int).toNat - ((decodeL s).2:Int).toNat)))))=k ((decodeL s).1:Int) (s.drop (decodeL s).2):=by
  rw[ao (band2 (by omega) (by omega)),ao (band2 (by omega) (by omega)),Int.toNat_natCast,Int.toNat_natCast,List.take_of_length_le (by rw[List.length_drop]; exact Nat.le_refl _)]
 simp only[hj];unfold OS;rw[if_neg h0];by_cases h1:(decodeL s).1=65533
 ·have e1:(((decodeL s).1:Int)==65533)=true:=by rw[h1]; rfl
  rw[e1,cond_true];by_cases h2:(decodeL s).2=1
  ·rw[aE (show ((decodeL s).2:Int)<2 by omega),cond_true,if_pos ⟨h1,h2⟩]
  ·rw[bK (show ¬((decodeL s).2:Int)<2 by omega),cond_false,bK (show ¬((decodeL s).1:Int)<32 by omega),cond_false,if_neg (fun h=>h2 h.2),if_neg (by omega)]
 ·have e1:(((decodeL s).1:Int)==65533)=false:=by rw[beq_eq_false_iff_ne]; omega
  rw[e1,cond_false,if_neg (fun h=>h1 h.1)];by_cases h3:(decodeL s).1<32
  ·rw[aE (show ((decodeL s).1:Int)<32 by omega),cond_true,if_pos h3]
  ·rw[bK (show ¬((decodeL s).1:Int)<32 by omega),cond_false,if_neg h3]
def ZC (b:UInt8):Option Nat :=
 let n:=b.toNat
 if 48≤n∧n≤57 then some (n - 48)else if 65≤n∧n≤70 then some (n - 55)else if 97≤n∧n≤102 then some (n - 87)else none
def WI:ae→Nat→Option Nat
 | [],v=>some v
 | b::t,v=>match ZC b with|some d=>WI t (16*v+d)|none=>none
def GA (b:Int):Int:=IntKind.u8.wrap ((BitVec.ofInt IntKind.u8.bits b ||| BitVec.ofInt IntKind.u8.bits 32).toNat:Int)
def hexB (b:Nat):Bool :=
 (!(decide (48≤b)&&decide (b≤57))||decide (IntKind.u8.wrap ((b:Int) - 48)=((b - 48:Nat):Int))) &&
 (!(decide ((97:Int)≤GA b)&&decide (GA b≤122))||(!(decide (48≤b)&&decide (b≤57))&&decide (b≠95)&&decide (IntKind.u8.wrap ((IntKind.u8.wrap (GA b - 97))+10)=GA b - 87) &&
  (!decide (GA b - 87<16)||((decide (65≤b)&&decide (b≤70)&&decide (GA b - 87=((b - 55:Nat):Int)))||(decide (97≤b)&&decide (b≤102)&&decide (GA b - 87=((b - 87:Nat):Int))))) &&
  (!decide (16≤GA b - 87)||(!(decide (65≤b)&&decide (b≤70)) && !(decide (97≤b)&&decide (b≤102)))))) &&
 ((decide ((97:Int)≤GA b)&&decide (GA b≤122))||(!(decide (65≤b)&&decide (b≤70)) && !(decide (97≤b)&&decide (b≤102))))
theorem hexB_all:∀b:Fin 256,hexB b.val=true:=by decide +kernel
theorem hex_fact (b:Nat) (hb:b<256) :
  ((48≤b∧b≤57)→IntKind.u8.wrap ((b:Int) - 48)=((b - 48:Nat):Int)) ∧
  ((97:Int)≤GA b→GA b≤122→¬(48≤b∧b≤57)∧b≠95∧IntKind.u8.wrap ((IntKind.u8.wrap (GA b - 97))+10)=GA b - 87 ∧
   (GA b - 87<16→((65≤b∧b≤70)∧GA b - 87=((b - 55:Nat):Int))∨((97≤b∧b≤102)∧GA b - 87=((b - 87:Nat):Int))) ∧
   (16≤GA b - 87→¬(65≤b∧b≤70)∧¬(97≤b∧b≤102))) ∧
  (¬((97:Int)≤GA b∧GA b≤122)→¬(65≤b∧b≤70)∧¬(97≤b∧b≤102)):=by
 have h:=hexB_all ⟨b,hb⟩;unfold hexB at h;generalize GA (b:Int)=l at *;simp only[Bool.and_eq_true,Bool.or_eq_true,Bool.not_eq_true',Bool.and_eq_false_iff,decide_eq_true_eq,decide_eq_false_iff_not]at h;obtain ⟨⟨h1,h2⟩,h3⟩:=h;refine ⟨fun q => ?_,fun q1 q2 => ?_,fun q => ?_⟩
 ·rcases h1 with h1|h1
  ·omega
  ·exact h1
 ·rcases h2 with h2|⟨⟨⟨⟨g1,g2⟩,g3⟩,g4⟩,g5⟩
  ·omega
  ·refine ⟨by omega,g2,g3,fun q => ?_,fun q => ?_⟩
   ·rcases g4 with g4|g4
    ·omega
    ·rcases g4 with ⟨⟨k1,k2⟩,k3⟩|⟨⟨k1,k2⟩,k3⟩
     ·exact .inl ⟨⟨k1,k2⟩,k3⟩
     ·exact .inr ⟨⟨k1,k2⟩,k3⟩
   ·rcases g5 with g5|⟨k1,k2⟩
    ·omega
    ·exact ⟨by omega,by omega⟩
 ·rcases h3 with h3|⟨k1,k2⟩
  ·omega
  ·exact ⟨by omega,by omega⟩
theorem hexv_lt {b:UInt8} {d:Nat} (h:ZC b=some d):d<16:=by
 unfold ZC at h;simp only at h;split at h
 ·cases h; omega
 ·split at h
  ·cases h; omega
  ·split at h
   ·cases h; omega
   ·cases h
theorem u64w {n:Int} (h0:0≤n) (h:n≤18446744073709551615):IntKind.u64.wrap n=n:=by
 simp only[IntKind.wrap,IntKind.bits,IntKind.signed];simp;omega
theorem uint_round {R:Type} {s x22:ae} {i v:Nat} (hi:i<s.length) (hs:s.length≤1000) (hv:v<4096) (dJ:Int→Bool→ae→Int→Int→Bool→Int→Nat→Int→Int→(List Int)→Option R) (e0:ae→Bool→Int→Option R) (e1 e2:Int→ae→Bool→Int→Option R) (e3:Int→ae→Bool→Option R) :
  dD internal_strconv_lower dJ 16 false x22 1152921504606846976 65535 false (v:Int) s.length (s.length:Int) (i:Int) (hJ s) e0 e1 e2 e3 =
   match ZC (s[i])with
   | some d=>dJ 16 false x22 1152921504606846976 65535 false ((16*v+d:Nat):Int) s.length (s.length:Int) ((i+1:Nat):Int) (hJ s)
   | none=>e1 0 x22 false (v:Int):=by
 unfold dD;have hlow:∀(n:Int) (f:Int→Option R),internal_strconv_lower n f=f (GA n):=fun _ _=>rfl
 have Iz:(hJ s).getD (i:Int).toNat (Ty.aR (.int .u8))=(s[i].toNat:Int):=by
  rw[Int.toNat_natCast];show (s.map fun b=>(b.toNat:Int)).getD i _=_;simp[List.getD,hi];rfl
 rw[aE (show (i:Int)<(s.length:Int) by omega),cond_true,ao (by rw[aE (show (0:Int)≤(i:Int) by omega)]; rfl),
  ao (aE (by rw[Int.toNat_natCast,CB,FD]; exact hi))]
 simp only[Iz,hlow];obtain ⟨f1,f2,f3⟩:=hex_fact s[i].toNat (UInt8.toNat_lt _);have hb:=UInt8.toNat_lt s[i];generalize hbn:s[i].toNat=b at *;have hw16:IntKind.u8.wrap 16=16:=by decide
 have hw64:IntKind.u64.wrap 16=16:=by decide
 have hi1:IntKind.i64.wrap ((i:Int)+1)=((i+1:Nat):Int):=by rw[cv (by omega) (by omega)]; omega
 
 have fit:∀d:Nat,d<16→∀z:Int,z=(d:Int)→(bif (decide (z≥(IntKind.u8.wrap 16)))then (e1 0 x22 false (v:Int))else (bif (decide ((v:Int)≥1152921504606846976))then (e2 65535 x22 false (v:Int))else (bif (decide ((IntKind.u64.wrap ((IntKind.u64.wrap ((v:Int)*(IntKind.u64.wrap 16)))+(IntKind.u64.wrap z)))<(IntKind.u64.wrap ((v:Int)*(IntKind.u64.wrap 16)))))then (e2 65535 x22 false (IntKind.u64.wrap ((v:Int)*(IntKind.u64.wrap 16))))else (bif (decide ((IntKind.u64.wrap ((IntKind.u64.wrap ((v:Int)*(IntKind.u64.wrap 16)))+(IntKind.u64.wrap z)))>65535))then (e2 65535 x22 false (IntKind.u64.wrap ((v:Int)*(IntKind.u64.wrap 16))))else (dJ 16 false x22 1152921504606846976 65535 false (IntKind.u64.wrap ((IntKind.u64.wrap ((v:Int)*(IntKind.u64.wrap 16)))+(IntKind.u64.wrap z))) s.length (s.length:Int) (IntKind.i64.wrap ((i:Int)+1)) (hJ s)))))) =
   dJ 16 false x22 1152921504606846976 65535 false ((16*v+d:Nat):Int) s.length (s.length:Int) ((i+1:Nat):Int) (hJ s):=by
  intro d hd z hz;subst hz;have k1:IntKind.u64.wrap ((v:Int)*16)=(v:Int)*16:=u64w (by omega) (by omega);have k2:IntKind.u64.wrap (d:Int)=d:=u64w (by omega) (by omega);have k3:IntKind.u64.wrap ((v:Int)*16+(d:Int))=(v:Int)*16+(d:Int):=u64w (by omega) (by omega);rw[hw16,hw64,k1,k2,k3,hi1,bK (show ¬(d:Int)≥16 by omega),cond_false,bK (show ¬(v:Int)≥1152921504606846976 by omega),cond_false,bK (show ¬(v:Int)*16+(d:Int)<(v:Int)*16 by omega),cond_false,
   bK (show ¬(v:Int)*16+(d:Int)>65535 by omega),cond_false]
  have:(v:Int)*16+(d:Int)=((16*v+d:Nat):Int):=by omega
  rw[this]
 rw[cond_false,Bool.cond_self];unfold ZC;simp only[hbn];by_cases h1:48≤b∧b≤57
 ·rw[aE (show (48:Int)≤(b:Int) by omega),cond_true,aE (show (b:Int)≤57 by omega),cond_true,if_pos h1];exact fit (b - 48) (by omega) _ (f1 h1)
 ·rw[if_neg h1];have h48:∀x z:Option R,(bif (decide ((48:Int)≤(b:Int)))then (bif (decide ((b:Int)≤(57:Int)))then x else z)else z)=z:=by
   intro x z;by_cases h:(48:Int)≤(b:Int)
   ·rw[aE h,cond_true,bK (show ¬(b:Int)≤57 by omega),cond_false]
   ·rw[bK h,cond_false]
  simp only[cond_false];rw[h48];by_cases h2:(97:Int)≤GA b
  ·rw[aE h2,cond_true];by_cases h3:GA b≤122
   ·rw[aE h3,cond_true];obtain ⟨_,_,g1,g2,g3⟩:=f2 h2 h3;rw[g1];by_cases h4:GA b - 87<16
    ·rcases g2 h4 with ⟨q1,q2⟩|⟨q1,q2⟩
     ·rw[if_pos q1];exact fit (b - 55) (by omega) _ q2
     ·rw[if_neg (by omega),if_pos q1];exact fit (b - 87) (by omega) _ q2
    ·obtain ⟨q1,q2⟩:=g3 (by omega);rw[hw16,aE (show GA b - 87≥16 by omega),cond_true,if_neg q1,if_neg q2]
   ·rw[bK h3,cond_false];obtain ⟨q1,q2⟩:=f3 (by omega);rw[if_neg q1,if_neg q2]
  ·rw[bK h2,cond_false];obtain ⟨q1,q2⟩:=f3 (by omega);rw[if_neg q1,if_neg q2]
theorem hexN_step (s:ae) (i v:Nat) (hi:i<s.length):WI (s.drop i) v=match ZC s[i]with|some d=>WI (s.drop (i+1)) (16*v+d)|none=>none:=by
 rw[List.drop_eq_getElem_cons hi];rfl
theorem uint_loop {R:Type} {s x22:ae} (hs:s.length≤4) (e0:ae→Bool→Int→Option R) (e1 e2:Int→ae→Bool→Int→Option R) (e3:Int→ae→Bool→Option R):∀(n i v:Nat),s.length - i<n→i≤s.length→v<16 ^ i →
  (match WI (s.drop i) v with
   | some u=>aJ n 16 false x22 1152921504606846976 65535 false (v:Int) s.length (s.length:Int) (i:Int) (hJ s) e0 e1 e2 e3=e0 x22 false (u:Int)
   | none=>∃w,aJ n 16 false x22 1152921504606846976 65535 false (v:Int) s.length (s.length:Int) (i:Int) (hJ s) e0 e1 e2 e3=e1 0 x22 false w):=by
 intro n
 induction n with
 | zero=>intro i v h; omega
 | succ n ih =>
  intro i v h hi hv;by_cases jz:i<s.length
  ·have hv2:v<4096:=by
    have:16 ^ i≤16 ^ 3:=Nat.pow_le_pow_right (by omega) (by omega);have e:(16:Nat) ^ 3=4096:=rfl;omega
   have hr:=uint_round (R:=R) (x22:=x22) jz (by omega) hv2 (fun gf gk gw mA wC xH EC Gc JK JL qm=>aJ n gf gk gw mA wC xH EC Gc JK JL qm e0 e1 e2 e3) e0 e1 e2 e3;have hL:aJ (n+1) 16 false x22 1152921504606846976 65535 false (v:Int) s.length (s.length:Int) (i:Int) (hJ s) e0 e1 e2 e3 =
    dD internal_strconv_lower (fun gf gk gw mA wC xH EC Gc JK JL qm=>aJ n gf gk gw mA wC xH EC Gc JK JL qm e0 e1 e2 e3) 16 false x22 1152921504606846976 65535 false (v:Int) s.length (s.length:Int) (i:Int) (hJ s) e0 e1 e2 e3:=rfl
   rw[hL,hr,hexN_step s i v jz];cases hx:ZC s[i]with
   | none=>exact ⟨_,rfl⟩
   | some d =>
    have hd:=hexv_lt hx;have:(16:Nat) ^ (i+1)=16 ^ i*16:=Nat.pow_succ ..;exact ih (i+1) (16*v+d) (by omega) (by omega) (by omega)
  ·have e:s.drop i = []:=List.drop_eq_nil_of_le (by omega);rw[e];simp only[WI];show dD internal_strconv_lower _ 16 false x22 1152921504606846976 65535 false (v:Int) s.length (s.length:Int) (i:Int) (hJ s) e0 e1 e2 e3=_;unfold dD;rw[bK (show ¬(i:Int)<(s.length:Int) by omega),cond_false]
theorem parse4 {R:Type} {s:ae} (hs:s.length=4) (k0 k1:Int→Option R):fM s 16 16 k0 k1=match WI s 0 with|some u=>k1 (u:Int)|none=>k0 0:=by
 show sY dq s 16 16 k0 k1=_;unfold sY;show j4 internal_strconv_lower bI aJ s 16 16 _ _ _ _ _=_;unfold j4;have h1:(s==([]:ae))=false:=by rw[beq_eq_false_iff_ne]; rintro rfl; simp at hs
 rw[h1,cond_false];have c1:decide ((2:Int)≤16)=true:=by decide
 have c2:decide ((16:Int)≤36)=true:=by decide
 have c3:((16:Int)==0)=false:=by decide
 have c4:decide ((16:Int)<0)=false:=by decide
 have c5:decide ((16:Int)>64)=false:=by decide
 have c6:((16:Int)==10)=false:=by decide
 have c7:((16:Int)==16)=true:=by decide
 have c8:decide ((0:Int)≤IntKind.u64.wrap 16)=true:=by decide
 have c9:(IntKind.u64.wrap ((IntKind.u64.wrap (1*2 ^ (min ((IntKind.u64.wrap 16).toNat) IntKind.u64.bits))) - 1))=65535:=by decide +kernel
 dsimp only;rw[c1,cond_true,c2,cond_true,c3,cond_false,c4,cond_false,c5,cond_false,c6,cond_false,c7,cond_true];rw[c8,ao rfl,c9];have hb:decide (s.length≤281474976710656)=true:=aE (by omega);have key:=fun (n:Nat) (hn:4<n) (e0:ae→Bool→Int→Option R) (e1 e2:Int→ae→Bool→Int→Option R) (e3:Int→ae→Bool→Option R)=>uint_loop (R:=R) (s:=s) (x22:=s) (by omega) e0 e1 e2 e3 n 0 0 (by omega) (by omega) (by omega)
 have z0:(((0:Nat):Int))=0:=rfl;simp only[List.drop_zero,z0]at key;cases hx:WI s 0 with
 | some u =>
  simp only[hx]at key;rw[key _ (by omega)];rfl
 | none =>
  simp only[hx]at key;generalize hF:(Int.natAbs 16+List.length s+Int.natAbs 1152921504606846976+Int.natAbs 65535+Int.natAbs 0+Int.natAbs (s.length:Int)+Int.natAbs 0+List.length (hJ s)+64)=F at *;obtain ⟨w,hw⟩:=key F (by rw[←hF]; omega) _ _ _ _;rw[hw,ao (by rfl),hb,ao rfl]
theorem hexN_bound:∀(l:ae) (v u:Nat),WI l v=some u→u<(v+1)*16 ^ l.length
 | [],v,u,h=>by cases h; simp
 | b::t,v,u,h=>by
  simp only[WI]at h;cases hx:ZC b with
  | none=>rw[hx]at h; cases h
  | some d =>
   rw[hx]at h;have h1:=hexN_bound t _ _ h;have hd:=hexv_lt hx;have h2:(16*v+d+1)*16 ^ t.length≤((v+1)*16)*16 ^ t.length:=Nat.mul_le_mul_right _ (by omega);rw[List.length_cons,Nat.pow_succ];have h3:(v+1)*16*16 ^ t.length=(v+1)*(16 ^ t.length*16):=by rw[Nat.mul_assoc,Nat.mul_comm 16]
   omega
theorem hexN_all:∀(l:ae) (v u:Nat),WI l v=some u→∀b∈l,(ZC b).isSome=true
 | [],v,u,h=>by simp
 | b::t,v,u,h=>by
  simp only[WI]at h;cases hx:ZC b with
  | none=>rw[hx]at h; cases h
  | some d =>
   rw[hx]at h;intro c hc;rcases List.mem_cons.1 hc with rfl|hc
   ·rw[hx]; rfl
   ·exact hexN_all t _ _ h c hc
theorem hexv_asc {b:UInt8} (h:(ZC b).isSome=true):b.toNat<128∧b.toNat≠43∧b.toNat≠45∧b.toNat≠95:=by
 unfold ZC at h;simp only at h
 revert h
 (repeat' split) <;> intro h <;> first|omega|cases h
theorem hasAny_none (cs:ae):∀s:ae,(∀b∈s,cs.contains b=false)→hasAny s cs=false:=by
 have key:∀s:ae,(∀b∈s,cs.contains b=false)→indexAny s cs = -1:=by
  intro s
  induction s with
  | nil=>intro _; rfl
  | cons b s ih =>
   intro h;unfold indexAny;rw[h b (by simp)];have:=ih fun x hx=>h x (by simp[hx])
   simp[this]
 intro s h;unfold hasAny containsAny;rw[key s h];rfl
def PC (s:ae):Option (Nat×ae):=if s.length<4 then none else match WI (s.take 4) 0 with|some v=>some (v,s.drop 4)|none=>none
theorem Jq {s r:ae} {v:Nat} (h:PC s=some (v,r)):v<65536∧4≤s.length∧r=s.drop 4:=by
 unfold PC at h;split at h
 ·cases h
 ·rename_i hl;split at h
  ·rename_i u hu;cases h;have:=hexN_bound _ _ _ hu;rw[List.length_take,Nat.min_eq_left (by omega)]at this;exact ⟨by omega,by omega,rfl⟩
  ·cases h
theorem Se {n:Nat} (h:n<1114112):IntKind.i32.wrap (n:Int)=(n:Int):=wrap32_id (by omega) (by omega)
theorem unit_ok {R:Type} (s:ae) (hs:s.length≤9000000000000000000) (k:Int→ae→Option R) :
  dt s k=match PC s with|some (v,r)=>k (v:Int) r|none=>k (-1) s:=by
 show mE fM s k=_;unfold mE;by_cases hl:s.length<4
 ·rw[aE (show (s.length:Int)<4 by omega),cond_true];unfold PC;rw[if_pos hl]
 ·rw[bK (show ¬(s.length:Int)<4 by omega),cond_false,ao (aE (by omega))];have h4:(s.drop 0).take (4 - 0)=s.take 4:=rfl;rw[h4,parse4 (by rw[List.length_take]; omega)];unfold PC;rw[if_neg hl];cases hu:WI (s.take 4) 0 with
  | none=>rfl
  | some v =>
   have uQ:=hexN_all _ _ _ hu;have hasc:xF (s.take 4)=true:=List.all_eq_true.2 fun b hb=>aE (hexv_asc (uQ b hb)).1
   have hno:hasAny (s.take 4) [43,45,95]=false:=hasAny_none _ _ fun b hb=>by
    obtain ⟨_,g1,g2,g3⟩:=hexv_asc (uQ b hb);have e:∀x:UInt8,b.toNat≠x.toNat→(b==x)=false:=fun x hx=>by
     rw[beq_eq_false_iff_ne]; rintro rfl; exact hx rfl
    simp only[List.contains_cons,List.contains_nil,e 43 g1,e 45 g2,e 95 g3];rfl
   have hv:=(Jq (s:=s) (r:=s.drop 4) (v:=v) (by unfold PC; rw[if_neg hl,hu])).1;have WZ:xF ([43,45,95]:ae)=true:=by decide
   simp only;rw[ao (by rw[hasc,WZ,aE (show (s.take 4).length<4294967281 by rw[List.length_take]; omega)]; rfl),hno,cond_false,ao (by rw[aE (show (0:Int)≤(s.length:Int) by omega),aE (show (s.length:Int)≤s.length by omega)]; rfl),ao (aE (by omega))];rw[Se (by omega),Int.toNat_natCast,List.take_of_length_le (by rw[List.length_drop]; exact Nat.le_refl _)]
def WJ (s:ae):Option (Nat×ae) :=
 match PC s with
 | none=>none
 | some (v,r) =>
  if v<55296∨57344≤v then some (v,r)else if 56320≤v then none
  else if ([92,117]:ae).isPrefixOf r then
   match PC (r.drop 2)with
   | none=>none
   | some (w,r2)=>if 56320≤w∧w<57344 then some (65536+(v - 55296)*1024+(w - 56320),r2)else none
  else none
theorem shl10 (n:Nat) (h:n<1024):IntKind.i32.wrap ((n:Int)*2 ^ (min 10 IntKind.i32.bits))=((n*1024:Nat):Int):=by
 have e:(n:Int)*2 ^ (min 10 IntKind.i32.bits)=((n*1024:Nat):Int):=by
  show (n:Int)*2 ^ 10=_;omega
 rw[e,Se (by omega)]
theorem long_ok {R:Type} (s:ae) (hs:s.length≤9000000000000000000) (k:Int→ae→Option R) :
  match WJ s with|some (c,r)=>de s k=k (c:Int) r|none=>∃r,de s k=k (-1) r:=by
 have e0:de s k=mF aL dt s k:=rfl;rw[e0];unfold mF;rw[unit_ok s hs];unfold WJ;cases hu:PC s with
 | none =>
  simp only;exact ⟨s,by rw[aE (show (-1:Int)<55296 by omega),cond_true]⟩
 | some p =>
  obtain ⟨v,r⟩:=p;obtain ⟨hv,hl,hr⟩:=Jq hu;have hrl:r.length≤9000000000000000000:=by rw[hr,List.length_drop]; omega
  simp only;by_cases h1:v<55296
  ·rw[if_pos (.inl h1),aE (show (v:Int)<55296 by omega)];simp only[cond_true]
  rw[bK (show ¬(v:Int)<55296 by omega),cond_false];by_cases h2:57344≤v
  ·rw[if_pos (.inr h2),aE (show (v:Int)≥57344 by omega)];simp only[cond_true]
  rw[if_neg (by omega),bK (show ¬(v:Int)≥57344 by omega),cond_false];by_cases h3:56320≤v
  ·rw[if_pos h3];exact ⟨r,by rw[aE (show (v:Int)≥56320 by omega),cond_true]⟩
  rw[if_neg h3,bK (show ¬(v:Int)≥56320 by omega),cond_false,Z1 _ _ (by simp) hrl];cases hp:([92,117]:ae).isPrefixOf r with
  | false =>
   simp only[Bool.false_eq_true,if_false];exact ⟨r,rfl⟩
  | true =>
   simp only[if_true];have hrl2:(r.drop 2).length≤9000000000000000000:=by rw[List.length_drop]; omega
   have e2:r.drop ([92,117]:ae).length=r.drop 2:=rfl;rw[Bool.not_true,cond_false,e2,unit_ok _ hrl2];cases hu2:PC (r.drop 2)with
   | none =>
    simp only;exact ⟨r.drop 2,by rw[aE (show (-1:Int)<56320 by omega),cond_true]⟩
   | some q =>
    obtain ⟨w,r2⟩:=q;obtain ⟨hw,hl2,hr2⟩:=Jq hu2;simp only;by_cases h4:56320≤w∧w<57344
    ·rw[if_pos h4];simp only;rw[bK (show ¬(w:Int)<56320 by omega),cond_false,bK (show ¬(w:Int)≥57344 by omega),cond_false];have k1:IntKind.i32.wrap ((v:Int) - 55296)=((v - 55296:Nat):Int):=by
      have:(v:Int) - 55296=((v - 55296:Nat):Int):=by omega
      rw[this,Se (by omega)]
     rw[k1,shl10 _ (by omega)];have k2:IntKind.i32.wrap (65536+(((v - 55296)*1024:Nat):Int))=((65536+(v - 55296)*1024:Nat):Int):=by
      have:65536+(((v - 55296)*1024:Nat):Int)=((65536+(v - 55296)*1024:Nat):Int):=by omega
      rw[this,Se (by omega)]
     have k3:IntKind.i32.wrap (((65536+(v - 55296)*1024:Nat):Int)+(w:Int))=((65536+(v - 55296)*1024+w:Nat):Int):=by
      have:((65536+(v - 55296)*1024:Nat):Int)+(w:Int)=((65536+(v - 55296)*1024+w:Nat):Int):=by omega
      rw[this];simp only[IntKind.wrap,IntKind.bits,IntKind.signed];simp;omega
     have k4:IntKind.i32.wrap (((65536+(v - 55296)*1024+w:Nat):Int) - 56320)=((65536+(v - 55296)*1024+(w - 56320):Nat):Int):=by
      have:((65536+(v - 55296)*1024+w:Nat):Int) - 56320=((65536+(v - 55296)*1024+(w - 56320):Nat):Int):=by omega
      rw[this,Se (by omega)]
     rw[k2,k3,k4]
    ·rw[if_neg h4];refine ⟨r2,?_⟩;by_cases h5:w<56320
     ·rw[aE (show (w:Int)<56320 by omega),cond_true]
     ·rw[bK (show ¬(w:Int)<56320 by omega),cond_false,aE (show (w:Int)≥57344 by omega),cond_true]
def escP:ae→Option (Nat×ae)
 | []=>none
 | b::t =>
  if b.toNat=34∨b.toNat=92∨b.toNat=47 then some (b.toNat,t)else if b.toNat=98 then some (8,t)else if b.toNat=102 then some (12,t)else if b.toNat=110 then some (10,t)
  else if b.toNat=114 then some (13,t)else if b.toNat=116 then some (9,t)else if b.toNat=117 then WJ t else none
theorem esc_ok {R:Type} (s:ae) (hs:s.length≤9000000000000000000) (k:Int→ae→Option R) :
  match escP s with|some (c,r)=>bq s k=k (c:Int) r|none=>∃r,bq s k=k (-1) r:=by
 have e0:bq s k=kz de s k:=rfl;rw[e0];unfold kz;cases s with
 | nil=>exact ⟨[],rfl⟩
 | cons b t =>
  have jW:((b::t:ae)==([]:ae))=false:=rfl;simp only[List.length_cons]at hs;have ht:(((b::t:ae).drop 1).take (((b::t:ae).length:Int).toNat - 1))=t:=by
   rw[Int.toNat_natCast,List.drop_succ_cons,List.drop_zero,List.length_cons,Nat.add_sub_cancel,List.take_length]
  have hg:((b::t:ae).getD 0 0).toNat=b.toNat:=rfl;rw[jW,cond_false,ao (aE (show (0:Int)<((b::t:ae).length:Int) by simp only[List.length_cons]; omega)),
   ao (by rw[aE (show (0:Int)≤((b::t:ae).length:Int) by omega),aE (show ((b::t:ae).length:Int)≤(b::t:ae).length by omega)]; rfl),
   ao (aE (show (1:Int)≤((b::t:ae).length:Int) by simp only[List.length_cons]; omega))]
  simp only[ht,hg];have hb:=UInt8.toNat_lt b;simp only[escP];generalize b.toNat=n at *;have q:∀m:Nat,((n:Int)==(m:Int))=decide (n=m):=fun m=>by
   by_cases h:n=m
   ·subst h; simp
   ·have:¬((n:Int)=(m:Int)):=by omega
    simp[h,this]
  have q34:((n:Int)==34)=decide (n=34):=q 34;have q92:((n:Int)==92)=decide (n=92):=q 92;have q47:((n:Int)==47)=decide (n=47):=q 47;have q98:((n:Int)==98)=decide (n=98):=q 98;have q102:((n:Int)==102)=decide (n=102):=q 102;have q110:((n:Int)==110)=decide (n=110):=q 110;have q114:((n:Int)==114)=decide (n=114):=q 114;have q116:((n:Int)==116)=decide (n=116):=q 116;have q117:((n:Int)==117)=decide (n=117):=q 117;simp only[q34,q92,q47,q98,q102,q110,q114,q116,q117,Se (show n<1114112 by omega)];by_cases Tx:n=34
  ·subst Tx; simp
  by_cases h92:n=92
  ·subst h92; simp
  by_cases h47:n=47
  ·subst h47; simp
  simp only[Tx,h92,h47,decide_false,cond_false,or_self,if_false];by_cases h98:n=98
  ·subst h98; simp
  by_cases h102:n=102
  ·subst h102; simp
  by_cases h110:n=110
  ·subst h110; simp
  by_cases h114:n=114
  ·subst h114; simp
  by_cases h116:n=116
  ·subst h116; simp
  by_cases h117:n=117
  ·subst h117;have:=long_ok (R:=R) t (by omega) k;simp only[decide_true,decide_false,cond_true,cond_false,if_true,show ¬((117:Nat)=98) by decide,show ¬((117:Nat)=102) by decide,show ¬((117:Nat)=110) by decide,show ¬((117:Nat)=114) by decide,show ¬((117:Nat)=116) by decide,if_false];exact this
  simp only[h98,h102,h110,h114,h116,h117,decide_false,cond_false,if_false];exact ⟨t,rfl⟩
def PX:ae := [48,49,50,51,52,53,54,55,56,57,97,98,99,100,101,102]
def sv (c:Nat):Nat:=if c=34∨c=92 then c else if c=8 then 98 else if c=12 then 102 else if c=10 then 110 else if c=13 then 114 else if c=9 then 116 else 0
def qc (c:Nat):ae:=if sv c≠0 then [92,UInt8.ofNat (sv c)]else if c<32 then [92,117,48,48,PX.getD (c / 16) 0,PX.getD (c % 16) 0]else enc c
def WK (rs:List Nat):ae:=rs.flatMap qc
def qt (rs:List Nat):ae:=34::(WK rs ++ [34])
theorem shortC_lt (c:Nat):sv c<256:=by unfold sv; (repeat' split) <;> omega
theorem short_ok {R:Type} (c:Nat) (k:Int→Option R):fq (c:Int) k=k (sv c:Int):=by
 show FU (c:Int) k=_;unfold FU sv;have b:∀n:Nat,((c:Int)==(n:Int))=decide (c=n):=fun n=>by
  by_cases h:c=n
  ·subst h; simp
  ·have:¬((c:Int)=(n:Int)):=by omega
   simp[h,this]
 have b34:((c:Int)==34)=decide (c=34):=b 34;have b92:((c:Int)==92)=decide (c=92):=b 92;have b8:((c:Int)==8)=decide (c=8):=b 8;have b12:((c:Int)==12)=decide (c=12):=b 12;have b10:((c:Int)==10)=decide (c=10):=b 10;have b13:((c:Int)==13)=decide (c=13):=b 13;have b9:((c:Int)==9)=decide (c=9):=b 9;rw[b34,b92,b8,b12,b10,b13,b9];have w:IntKind.u8.wrap (c:Int)=((c % 256:Nat):Int):=wrap8 c;by_cases Tx:c=34
 ·subst Tx; rfl
 by_cases h92:c=92
 ·subst h92; rfl
 simp only[Tx,h92,decide_false,cond_false,or_self,if_false];by_cases h8:c=8
 ·subst h8; rfl
 by_cases h12:c=12
 ·subst h12; rfl
 by_cases h10:c=10
 ·subst h10; rfl
 by_cases h13:c=13
 ·subst h13; rfl
 by_cases h9:c=9
 ·subst h9; rfl
 simp[h8,h12,h10,h13,h9]
theorem runeAt_drop (s:ae) (pos:Nat):mP s pos=decodeL (s.drop pos):=by
 unfold mP;exact (decodeL_drop ⟨s.toArray⟩ pos).symm
theorem enc_head (rs:List Nat) (c:Nat) (t:List Nat):fv (rs++c::t)=fv rs++(enc c++fv t):=by simp[fv]
theorem hexdig:∀c:Fin 32,(Int.fdiv (c.val:Int) (2 ^ (min 4 IntKind.i32.bits)))=((c.val / 16:Nat):Int)∧IntKind.i32.wrap ((BitVec.ofInt IntKind.i32.bits (c.val:Int) &&& BitVec.ofInt IntKind.i32.bits 15).toNat:Int)=((c.val % 16:Nat):Int):=by decide +kernel
theorem qc_len {c:Nat} (hv:vr c):(qc c).length≤6:=by
 unfold qc;split
 ·simp
 ·split
  ·simp
  ·have:=KD hv; omega
theorem quote_round {R:Type} {x:ae} {pos c:Nat} (hp:pos<x.length) {t:ae} (hd:x.drop pos=enc c++t) (hv:vr c) (o:ae) (ho:o.length≤90000000000) (dJ:List Int→ae→Nat→Option R) (e0:List Int→Option R) :
  lp ad fq af ak dJ (zs o) x pos e0=dJ (zs (o++qc c)) x (pos+(enc c).length):=by
 unfold lp;have hr:mP x pos=(c,(enc c).length):=by rw[runeAt_drop,hd,Wj hv]
 rw[hr,aE hp,cond_true];simp only;rw[short_ok];have hlim:∀z:ae,z.length≤10→WH (o++z):=fun z hz=>by unfold WH; rw[List.length_append]; omega
 have hlim0:WH o:=by unfold WH; omega
 by_cases hs:sv c≠0
 ·have e:((sv c:Int) != 0)=true:=by
   exact bne_iff_ne.2 (by omega)
  rw[e,cond_true];have h92:(92:Int)=((92:UInt8).toNat:Int):=rfl;rw[h92,wb _ o hlim0];have h2:(sv c:Int)=((UInt8.ofNat (sv c)).toNat:Int):=by rw[hU _ (shortC_lt c)]
  rw[h2,wb _ _ (hlim [92] (by simp))];have:qc c = [92,UInt8.ofNat (sv c)]:=by unfold qc; rw[if_pos hs]
  rw[this,List.append_assoc];rfl
 ·have hs0:sv c=0:=by omega
  have e:((sv c:Int) != 0)=false:=by rw[hs0]; rfl
  rw[e,cond_false];by_cases h32:c<32
  ·rw[aE (show (c:Int)<32 by omega),cond_true,ws _ o (by simp) hlim0];obtain ⟨k1,k2⟩:=hexdig ⟨c,h32⟩;simp only at k1 k2;rw[k1,k2,ao (by rw[aE (by omega),aE (by omega)]; rfl)];rw[Int.toNat_natCast,Int.toNat_natCast,wb _ _ (hlim [92,117,48,48] (by simp)),ao (by rw[aE (by omega),aE (by omega)]; rfl)];rw[List.append_assoc o,wb _ _ (hlim _ (by simp))];have:qc c = [92,117,48,48,PX.getD (c / 16) 0,PX.getD (c % 16) 0]:=by unfold qc; rw[if_neg hs,if_pos h32]
   rw[this,List.append_assoc o];rfl
  ·rw[bK (show ¬(c:Int)<32 by omega),cond_false];obtain ⟨n,hn⟩:=wr hv o hlim0 (fun IT JG=>dJ JG x (pos+(enc c).length));rw[hn];have:qc c=enc c:=by unfold qc; rw[if_neg hs,if_neg h32]
   rw[this]
theorem quote_loop {R:Type} (rs:List Nat):∀(n:Nat) (done:List Nat) (o:ae),rs.length<n→(∀c∈rs,vr c)→(∀c∈done,vr c)→o.length+6*rs.length≤80000000000→∀e0:List Int→Option R,
  cP n (zs o) (fv (done++rs)) (fv done).length e0=e0 (zs (o++WK rs)):=by
 induction rs with
 | nil =>
  intro n done o hn _ _ _ e0;obtain ⟨m,rfl⟩:∃m,n=m+1:=⟨n - 1,by simp at hn; omega⟩;show lp ad fq af ak _ (zs o) (fv (done ++ [])) (fv done).length e0=_;unfold lp;rw[List.append_nil,bK (Nat.lt_irrefl _),cond_false];simp[WK]
 | cons c rs ih =>
  intro n done o hn hr hd hl e0;obtain ⟨m,rfl⟩:∃m,n=m+1:=⟨n - 1,by simp at hn; omega⟩;have hv:=hr c (by simp);have he:=KD hv;have hq:=qc_len hv;simp only[List.length_cons]at hn hl;show lp ad fq af ak (fun gf gk gw=>cP m gf gk gw e0) (zs o) (fv (done++c::rs)) (fv done).length e0=_;rw[quote_round (c:=c) (t:=fv rs) (by rw[enc_head,List.length_append,List.length_append]; omega) (by rw[enc_head,List.drop_left]) hv o (by omega)];have e1:done++c::rs=(done ++ [c])++rs:=by simp
  have e2:(fv done).length+(enc c).length=(fv (done ++ [c])).length:=by rw[encL_snoc,List.length_append]
  rw[e1,e2,ih m (done ++ [c]) (o++qc c) (by omega) (fun x hx=>hr x (by simp[hx])) (fun x hx=>by
   rcases List.mem_append.1 hx with h|h
   ·exact hd x h
   ·simp at h; subst h; exact hv) (by rw[List.length_append]; omega)]
  rw[List.append_assoc];rfl
theorem Ur:∀(rs:List Nat),(∀c∈rs,vr c)→rs.length≤(fv rs).length∧(fv rs).length≤4*rs.length
 | [],_=>by simp[fv]
 | c::rs,h=>by
  have h1:=KD (h c (by simp));have h2:=Ur rs (fun x hx=>h x (by simp[hx]));have:fv (c::rs)=enc c++fv rs:=by simp[fv]
  rw[this,List.length_append,List.length_cons];omega
theorem qcL_count:∀(rs:List Nat),(∀c∈rs,vr c)→(WK rs).length≤6*rs.length
 | [],_=>by simp[WK]
 | c::rs,h=>by
  have h1:=qc_len (h c (by simp));have h2:=qcL_count rs (fun x hx=>h x (by simp[hx]));have:WK (c::rs)=qc c++WK rs:=by simp[WK]
  rw[this,List.length_append,List.length_cons];omega
theorem quote_ok {R:Type} (rs:List Nat) (hr:∀c∈rs,vr c) (hl:rs.length≤10000000000) (k:ae→Bool→Option R):eF (fv rs) k=k (qt rs) true:=by
 have hc:=Ur rs hr;have hq:=qcL_count rs hr;have hw:ft (fv rs)=true:=Io.2 ⟨rs,hr,rfl⟩;show wz bS aj ad cP (fv rs) k=_;unfold wz;have q:∀(x:ae) (f:Bool→Option R),bS x f=f (ft x):=fun _ _=>rfl
 have q2:∀(x:Int) (f:List Int→Option R),aj x f=f [x]:=fun _ _=>rfl
 rw[q,hw,Bool.not_true,cond_false,q2];have e34:([34]:List Int)=zs [34]:=rfl;rw[e34];have:=quote_loop (R:=R) rs (List.length (zs [34])+List.length (fv rs)+64) [] [34] (by omega) hr (by simp) (by simp; omega);rw[List.nil_append]at this;have e0:(fv []).length=0:=rfl;rw[e0]at this;rw[this];have Tx:(34:Int)=((34:UInt8).toNat:Int):=rfl;rw[Tx,wb _ _ (by unfold WH; rw[List.length_append]; simp; omega),vA];rfl
theorem quote_bad {R:Type} (s:ae) (h:ft s=false) (k:ae→Bool→Option R):eF s k=k [] false:=by
 show wz bS aj ad cP s k=_;unfold wz;have q:∀(x:ae) (f:Bool→Option R),bS x f=f (ft x):=fun _ _=>rfl
 rw[q,h];rfl
def WL (s:ae):Option (Nat×ae):=if ([92]:ae).isPrefixOf s then escP (s.drop 1)else OS s
def uq:Nat→ae→ae→Option (ae×ae)
 | 0,_,_=>none
 | n+1,s,o=>if ([34]:ae).isPrefixOf s then some (o,s.drop 1)else match WL s with|none=>none|some (c,r)=>uq n r (o++enc c)
theorem longP_ok {s r:ae} {c:Nat} (h:WJ s=some (c,r)):vr c∧r.length+4≤s.length:=by
 unfold WJ at h;split at h
 ·cases h
 ·rename_i v r1 hu;obtain ⟨hv,hl,hr⟩:=Jq hu;split at h
  ·cases h;refine ⟨by unfold vr; omega,?_⟩;rw[hr,List.length_drop]; omega
  ·split at h
   ·cases h
   ·split at h
    ·split at h
     ·cases h
     ·rename_i w r2 hu2;obtain ⟨hw,hl2,hr2⟩:=Jq hu2;split at h
      ·simp only[Option.some.injEq,Prod.mk.injEq]at h;obtain ⟨hc,rfl⟩:=h;refine ⟨by unfold vr; omega,?_⟩;rw[hr2,hr];simp only[List.length_drop];rw[hr]at hl2;simp only[List.length_drop]at hl2;omega
      ·cases h
    ·cases h
theorem escP_ok {s r:ae} {c:Nat} (h:escP s=some (c,r)):vr c∧r.length<s.length:=by
 cases s with
 | nil=>cases h
 | cons b t =>
  simp only[escP]at h;have hb:=UInt8.toNat_lt b;split at h
  ·cases h; exact ⟨by unfold vr; omega,by simp⟩
  split at h
  ·cases h; exact ⟨by unfold vr; omega,by simp⟩
  split at h
  ·cases h; exact ⟨by unfold vr; omega,by simp⟩
  split at h
  ·cases h; exact ⟨by unfold vr; omega,by simp⟩
  split at h
  ·cases h; exact ⟨by unfold vr; omega,by simp⟩
  split at h
  ·cases h; exact ⟨by unfold vr; omega,by simp⟩
  split at h
  ·obtain ⟨h1,h2⟩:=longP_ok h;exact ⟨h1,by simp only[List.length_cons]; omega⟩
  ·cases h
theorem plainP_ok {s r:ae} {c:Nat} (h:OS s=some (c,r)):vr c∧r.length<s.length:=by
 unfold OS at h;split at h
 ·cases h
 ·rename_i jW;split at h
  ·cases h
  ·split at h
   ·cases h
   ·cases h;have h1:=decodeL_width s;have h2:0<s.length:=List.length_pos_iff.2 jW;exact ⟨dec_vr s,by rw[List.length_drop]; omega⟩
theorem stepU_ok {s r:ae} {c:Nat} (h:WL s=some (c,r)):vr c∧r.length<s.length:=by
 unfold WL at h;split at h
 ·obtain ⟨h1,h2⟩:=escP_ok h;exact ⟨h1,by rw[List.length_drop]at h2; omega⟩
 ·exact plainP_ok h
theorem uq_fuel:∀(n m:Nat) (s o:ae),s.length<n→s.length<m→uq n s o=uq m s o
 | 0,_,_,_,h,_=>by omega
 | _+1,0,_,_,_,h=>by omega
 | n+1,m+1,s,o,hn,hm=>by
  unfold uq;split
  ·rfl
  ·cases hs:WL s with
   | none=>rfl
   | some p =>
    obtain ⟨c,r⟩:=p;obtain ⟨_,h2⟩:=stepU_ok hs;exact uq_fuel n m r _ (by omega) (by omega)
theorem unq_loop {R:Type} (x:ae) (e0:ae→ae→List Int→Option R) (e1:ae→ae→Int→Bool→ae→List Int→Option R):∀(n:Nat) (s o:ae),s.length<n→o.length+4*s.length≤90000000000 →
  (match uq n s o with
   | some (o',r)=>bw n x s (zs o) e0 e1=e0 x r (zs o')
   | none=>∃a b,bw n x s (zs o) e0 e1=e1 x [] 0 false a b):=by
 intro n
 induction n with
 | zero=>intro s o h; omega
 | succ n ih =>
  intro s o h hb;have hL:bw (n+1) x s (zs o) e0 e1=s5 ak aL bU bq (fun gf gk gw=>bw n gf gk gw e0 e1) x s (zs o) e0 e1:=rfl;rw[hL];unfold s5;rw[Z1 _ _ (by simp) (by omega)];simp only[uq];have hlim:WH o:=by unfold WH; omega
  by_cases Tx:([34]:ae).isPrefixOf s=true
  ·rw[if_pos Tx,if_pos Tx];rfl
  ·rw[if_neg Tx,if_neg Tx,Bool.not_false,cond_true,Z1 _ _ (by simp) (by omega)];have fin:∀(c:Nat) (r:ae),vr c→r.length<s.length →
     (match uq n r (o++enc c)with
      | some (o',r')=>bw n x r (zs (o++enc c)) e0 e1=e0 x r' (zs o')
      | none=>∃a b,bw n x r (zs (o++enc c)) e0 e1=e1 x [] 0 false a b):=fun c r hv hr=>by
    have:=KD hv;exact ih r (o++enc c) (by omega) (by rw[List.length_append]; omega)
   unfold WL;by_cases h92:([92]:ae).isPrefixOf s=true
   ·rw[if_pos h92,if_pos h92];have e1':s.drop ([92]:ae).length=s.drop 1:=rfl;rw[e1',cond_true];have hk:=esc_ok (R:=R) (s.drop 1) (by rw[List.length_drop]; omega) (fun n0 yp=>bif (decide (n0<(0:Int)))then (e1 x ([]:ae) 0 false yp (zs o))else (ak n0 (zs o) (fun Im IT=>bw n x yp IT e0 e1)));cases he:escP (s.drop 1)with
    | none =>
     rw[he]at hk;obtain ⟨r,hk⟩:=hk;exact ⟨r,zs o,hk.trans (by rw[aE (show (-1:Int)<0 by omega),cond_true])⟩
    | some p =>
     obtain ⟨c,r⟩:=p;rw[he]at hk;obtain ⟨hv,hr⟩:=escP_ok he;rw[List.length_drop]at hr;simp only at hk ⊢;rw[hk,bK (show ¬(c:Int)<0 by omega),cond_false];obtain ⟨q,hq⟩:=wr hv o hlim (fun Im IT=>bw n x r IT e0 e1);rw[hq];exact fin c r hv (by omega)
   ·rw[if_neg h92,if_neg h92,cond_false];have hk:=plain_ok (R:=R) s (by omega) (fun JG Hm=>bif (decide (JG<(0:Int)))then (e1 x ([]:ae) 0 false Hm (zs o))else (ak JG (zs o) (fun Ql NH=>bw n x Hm NH e0 e1)));cases he:OS s with
    | none =>
     rw[he]at hk;simp only at hk ⊢;exact ⟨s,zs o,hk.trans (by rw[aE (show (-1:Int)<0 by omega),cond_true])⟩
    | some p =>
     obtain ⟨c,r⟩:=p;rw[he]at hk;obtain ⟨hv,hr⟩:=plainP_ok he;simp only at hk ⊢;rw[hk,bK (show ¬(c:Int)<0 by omega),cond_false];obtain ⟨q,hq⟩:=wr hv o hlim (fun Ql NH=>bw n x r NH e0 e1);rw[hq];exact fin c r hv (by omega)
def uqS (s:ae):Option (ae×ae):=if ([34]:ae).isPrefixOf s then uq (s.length+1) (s.drop 1) []else none
theorem unquote_ok {R:Type} (s:ae) (hs:s.length≤20000000000) (k:ae→Int→Bool→Option R) :
  fR s k=match uqS s with|some (o,r)=>k o (IntKind.i64.wrap ((s.length:Int) - (r.length:Int))) true|none=>k [] 0 false:=by
 have e:fR s k=Bh aL bw s k:=rfl;rw[e];unfold Bh uqS;rw[Z1 _ _ (by simp) (by omega)];by_cases Tx:([34]:ae).isPrefixOf s=true
 ·rw[if_pos Tx,if_pos Tx,Bool.not_true,cond_false];have e1:s.drop ([34]:ae).length=s.drop 1:=rfl;rw[e1];have hd:(s.drop 1).length≤s.length:=by rw[List.length_drop]; omega
  have key:=unq_loop (R:=R) s (fun U5 Sw Fe=>k (xq Fe) (IntKind.i64.wrap ((U5.length:Int) - (Sw.length:Int))) true) (fun y22 ZY VE JF Sz Fi=>k ZY VE JF) (List.length s+List.length (s.drop 1)+List.length ([]:List Int)+64) (s.drop 1) [] (by omega) (by simp only[List.length_nil]; omega);rw[uq_fuel _ (s.length+1) (s.drop 1) [] (by omega) (by omega)]at key;cases hu:uq (s.length+1) (s.drop 1) []with
  | none =>
   rw[hu]at key;obtain ⟨a,b,key⟩:=key;exact key
  | some p =>
   obtain ⟨o,r⟩:=p;rw[hu]at key;simp only at key ⊢;refine Eq.trans key ?_;rw[vA]
 ·rw[if_neg Tx,if_neg Tx];rfl
theorem pre_cons (a b:UInt8) (t:ae):([a]:ae).isPrefixOf (b::t)=(a==b):=by
 simp[List.isPrefixOf]
theorem hex_back:∀c:Fin 32,WI [48,48,PX.getD (c.val / 16) 0,PX.getD (c.val % 16) 0] 0=some c.val:=by decide +kernel
theorem u8_ne {b:UInt8} {n:Nat} (hn:n<256) (h:b.toNat≠n):((UInt8.ofNat n)==b)=false:=by
 rw[beq_eq_false_iff_ne]
 rintro rfl
 rw[hU n hn]at h;exact h rfl
theorem enc_first {c:Nat} (hv:vr c) (h:32≤c) (Tx:c≠34) (h92:c≠92):∃b t,enc c=b::t∧b.toNat≠34∧b.toNat≠92:=by
 have jz:=vr_lt hv;rcases Mt hv with ⟨h1,e⟩|⟨h0,h1,e⟩|⟨h0,h1,e⟩|⟨h0,e⟩
 ·exact ⟨_,_,e,by rw[hU _ (by omega)]; exact Tx,by rw[hU _ (by omega)]; exact h92⟩
 ·exact ⟨_,_,e,by rw[hU _ (by omega)]; omega,by rw[hU _ (by omega)]; omega⟩
 ·exact ⟨_,_,e,by rw[hU _ (by omega)]; omega,by rw[hU _ (by omega)]; omega⟩
 ·exact ⟨_,_,e,by rw[hU _ (by omega)]; omega,by rw[hU _ (by omega)]; omega⟩
theorem shortC_cases (c:Nat):(sv c=0∧c≠34∧c≠92)∨c=34∨c=92∨c=8∨c=12∨c=10∨c=13∨c=9:=by
 unfold sv;by_cases h1:c=34 <;> by_cases h2:c=92 <;> by_cases h3:c=8 <;> by_cases h4:c=12 <;> by_cases h5:c=10 <;> by_cases h6:c=13 <;> by_cases h7:c=9 <;> simp[h1,h2,h3,h4,h5,h6,h7]
theorem qc_hex {c:Nat} (h0:sv c=0) (h:c<32):qc c = [92,117,48,48,PX.getD (c / 16) 0,PX.getD (c % 16) 0]:=by unfold qc; rw[if_neg (by omega),if_pos h]
theorem qc_enc {c:Nat} (h0:sv c=0) (h:¬c<32):qc c=enc c:=by unfold qc; rw[if_neg (by omega),if_neg h]
theorem step_qc {c:Nat} (hv:vr c) (t:ae):([34]:ae).isPrefixOf (qc c++t)=false∧WL (qc c++t)=some (c,t):=by
 rcases shortC_cases c with ⟨h0,Tx,h92⟩|rfl|rfl|rfl|rfl|rfl|rfl|rfl
 ·by_cases h32:c<32
  ·rw[qc_hex h0 h32];refine ⟨rfl,?_⟩;have hb:=hex_back ⟨c,h32⟩;simp only at hb;show WJ (48::48::PX.getD (c / 16) 0::PX.getD (c % 16) 0::t)=some (c,t);have hu:PC (48::48::PX.getD (c / 16) 0::PX.getD (c % 16) 0::t)=some (c,t):=by
    unfold PC;rw[if_neg (by simp only[List.length_cons]; omega)];have e:List.take 4 (48::48::PX.getD (c / 16) 0::PX.getD (c % 16) 0::t) = [48,48,PX.getD (c / 16) 0,PX.getD (c % 16) 0]:=rfl;rw[e,hb];rfl
   unfold WJ;rw[hu];simp only;rw[if_pos (.inl (by omega))]
  ·rw[qc_enc h0 h32];obtain ⟨b,u,e,g1,g2⟩:=enc_first hv (by omega) Tx h92;have e2:enc c++t=b::(u++t):=by rw[e]; rfl
   refine ⟨?_,?_⟩
   ·rw[e2,pre_cons];exact u8_ne (n:=34) (by omega) g1
   ·unfold WL;have:([92]:ae).isPrefixOf (enc c++t)=false:=by
     rw[e2,pre_cons];exact u8_ne (n:=92) (by omega) g2
    rw[this];simp only[Bool.false_eq_true,if_false];unfold OS;rw[if_neg (enc_ne hv t),Wj hv t];simp only;have hg:=good_enc hv t;unfold good at hg;rw[Wj hv t]at hg;simp only at hg;rw[if_neg hg,if_neg h32,List.drop_left]
 ·exact ⟨rfl,rfl⟩
 ·exact ⟨rfl,rfl⟩
 ·exact ⟨rfl,rfl⟩
 ·exact ⟨rfl,rfl⟩
 ·exact ⟨rfl,rfl⟩
 ·exact ⟨rfl,rfl⟩
 ·exact ⟨rfl,rfl⟩
theorem uq_qc:∀(rs:List Nat),(∀c∈rs,vr c)→∀(n:Nat) (o more:ae),rs.length<n→uq n (WK rs++34::more) o=some (o++fv rs,more)
 | [],_,n,o,more,hn=>by
  obtain ⟨m,rfl⟩:∃m,n=m+1:=⟨n - 1,by simp at hn; omega⟩;have:WK []++34::more=34::more:=rfl;rw[this];simp[uq,List.isPrefixOf,fv]
 | c::rs,hr,n,o,more,hn=>by
  obtain ⟨m,rfl⟩:∃m,n=m+1:=⟨n - 1,by simp at hn; omega⟩;have hv:=hr c (by simp);have e:WK (c::rs)++34::more=qc c++(WK rs++34::more):=by simp[WK]
  obtain ⟨h1,h2⟩:=step_qc hv (WK rs++34::more);rw[e];simp only[uq,h1,h2,Bool.false_eq_true,if_false];rw[uq_qc rs (fun x hx=>hr x (by simp[hx])) m (o++enc c) more (by simp at hn; omega)];simp[fv]
theorem qc_pos {c:Nat} (hv:vr c):1≤(qc c).length:=by
 unfold qc;split
 ·simp
 ·split
  ·simp
  ·exact (KD hv).1
theorem qcL_pos:∀(rs:List Nat),(∀c∈rs,vr c)→rs.length≤(WK rs).length
 | [],_=>by simp[WK]
 | c::rs,h=>by
  have h1:=qc_pos (h c (by simp));have h2:=qcL_pos rs (fun x hx=>h x (by simp[hx]));have:WK (c::rs)=qc c++WK rs:=by simp[WK]
  rw[this,List.length_append,List.length_cons];omega
theorem uqS_qt (rs:List Nat) (hr:∀c∈rs,vr c) (more:ae):uqS (qt rs++more)=some (fv rs,more):=by
 have e:qt rs++more=34::(WK rs++34::more):=by unfold qt; simp
 have hq:=qcL_pos rs hr;rw[e];unfold uqS;rw[pre_cons];simp only[BEq.rfl,if_true,List.drop_succ_cons,List.drop_zero];have:=uq_qc rs hr ((34::(WK rs++34::more)).length+1) [] more (by simp only[List.length_cons,List.length_append]; omega);rw[this];rfl
theorem whole_eq {R:Type} (x:ae) (f:Bool→Option R):bS x f=f (ft x):=rfl
theorem quote_any {R:Type} (s:ae) (hl:s.length≤10000000000):(∃rs:List Nat,(∀c∈rs,vr c)∧rs.length≤s.length∧s=fv rs∧ft s=true∧∀k:ae→Bool→Option R,eF s k=k (qt rs) true) ∨
  (ft s=false∧∀k:ae→Bool→Option R,eF s k=k [] false):=by
 cases h:ft s with
 | true =>
  obtain ⟨rs,hr,rfl⟩:=Io.1 h;have:=Ur rs hr;exact .inl ⟨rs,hr,this.1,rfl,rfl,fun k=>quote_ok rs hr (by omega) k⟩
 | false=>exact .inr ⟨rfl,fun k=>quote_bad s h k⟩
def tail (low v n:Nat):Nat:=if v<low∨1114111<v∨(55296≤v∧v≤57343)then 0 else n
theorem eqI (n m:Nat):((n:Int)==(m:Int))=decide (n=m):=by
 by_cases h:n=m
 ·subst h; simp
 ·have:¬((n:Int)=(m:Int)):=by omega
  simp[h,this]
def qb (b:UInt8):ae :=
 if b.toNat=34∨b.toNat=92 then [92,b]else if b.toNat=8 then [92,98]else if b.toNat=9 then [92,116]else if b.toNat=10 then [92,110]else if b.toNat=12 then [92,102]else if b.toNat=13 then [92,114]
 else if b.toNat<32 then [92,117,48,48,PX.getD (b.toNat / 16) 0,PX.getD (b.toNat % 16) 0]else [b]
theorem qb_len (b:UInt8):(qb b).length≤6:=by unfold qb; (repeat' split) <;> simp
theorem Ih {b:UInt8} (h:128≤b.toNat):qb b = [b]:=by
 unfold qb;rw[if_neg (by omega),if_neg (by omega),if_neg (by omega),if_neg (by omega),if_neg (by omega),if_neg (by omega),if_neg (by omega)]
theorem qb_enc {c:Nat} (hv:vr c):(enc c).flatMap qb=qc c:=by
 have jz:=vr_lt hv;rcases Mt hv with ⟨h1,e⟩|⟨h0,h1,e⟩|⟨h0,h1,e⟩|⟨h0,e⟩
 ·rw[e];simp only[List.flatMap_cons,List.flatMap_nil,List.append_nil];have hu:=hU c (by omega);unfold qb qc sv;rw[hu];by_cases Tx:c=34
  ·subst Tx; rfl
  by_cases h92:c=92
  ·subst h92; rfl
  by_cases h8:c=8
  ·subst h8; rfl
  by_cases h9:c=9
  ·subst h9; rfl
  by_cases h10:c=10
  ·subst h10; rfl
  by_cases h12:c=12
  ·subst h12; rfl
  by_cases h13:c=13
  ·subst h13; rfl
  simp only[Tx,h92,h8,h9,h10,h12,h13,or_self,if_false,ne_eq,not_true_eq_false];by_cases h32:c<32
  ·simp only[h32,if_true]
  ·simp only[h32,if_false];rw[e]
 ·have hq:qc c=enc c:=qc_enc (by unfold sv; rw[if_neg (by omega),if_neg (by omega),if_neg (by omega),if_neg (by omega),if_neg (by omega),if_neg (by omega)]) (by omega);rw[hq,e];simp only[List.flatMap_cons,List.flatMap_nil,List.append_nil];rw[Ih (by rw[hU _ (by omega)]; omega),Ih (by rw[hU _ (by omega)]; omega)]; rfl
 ·have hq:qc c=enc c:=qc_enc (by unfold sv; rw[if_neg (by omega),if_neg (by omega),if_neg (by omega),if_neg (by omega),if_neg (by omega),if_neg (by omega)]) (by omega);rw[hq,e];simp only[List.flatMap_cons,List.flatMap_nil,List.append_nil];rw[Ih (by rw[hU _ (by omega)]; omega),Ih (by rw[hU _ (by omega)]; omega),Ih (by rw[hU _ (by omega)]; omega)]; rfl
 ·have hq:qc c=enc c:=qc_enc (by unfold sv; rw[if_neg (by omega),if_neg (by omega),if_neg (by omega),if_neg (by omega),if_neg (by omega),if_neg (by omega)]) (by omega);rw[hq,e];simp only[List.flatMap_cons,List.flatMap_nil,List.append_nil];rw[Ih (by rw[hU _ (by omega)]; omega),Ih (by rw[hU _ (by omega)]; omega),Ih (by rw[hU _ (by omega)]; omega),Ih (by rw[hU _ (by omega)]; omega)]; rfl
theorem qb_encL:∀(rs:List Nat),(∀c∈rs,vr c)→(fv rs).flatMap qb=WK rs
 | [],_=>rfl
 | c::rs,h=>by
  have e:fv (c::rs)=enc c++fv rs:=by simp[fv]
  have e2:WK (c::rs)=qc c++WK rs:=by simp[WK]
  rw[e,e2,List.flatMap_append,qb_enc (h c (by simp)),qb_encL rs (fun x hx=>h x (by simp[hx]))]
theorem dec_all (u:Nat):∀b∈decDigits u,48≤b.toNat∧b.toNat≤57:=by
 induction u using Nat.strongRecOn with
 | _ u ih =>
  intro b hb;by_cases h:u<10
  ·rw[decDigits,dif_pos h]at hb;simp only[List.mem_cons,List.not_mem_nil,or_false]at hb;subst hb;rw[hU _ (by omega)]; omega
  ·rw[decDigits,dif_neg h]at hb;rcases List.mem_append.1 hb with hb|hb
   ·exact ih (u / 10) (by omega) b hb
   ·simp only[List.mem_cons,List.not_mem_nil,or_false]at hb;subst hb;rw[hU _ (by omega)]; omega
theorem Sf (u:Nat) (hu:0<u):∃b t,decDigits u=b::t∧b.toNat≠48:=by
 induction u using Nat.strongRecOn with
 | _ u ih =>
  by_cases h:u<10
  ·exact ⟨_, [],by rw[decDigits,dif_pos h],by rw[hU _ (by omega)]; omega⟩
  ·obtain ⟨b,t,e,hb⟩:=ih (u / 10) (by omega) (by omega);exact ⟨b,t ++ [UInt8.ofNat (48+u % 10)],by rw[decDigits,dif_neg h,e]; rfl,hb⟩
theorem dec_last (u:Nat):∃l,decDigits u=l ++ [UInt8.ofNat (48+u % 10)]:=by
 by_cases h:u<10
 ·exact ⟨[],by rw[decDigits,dif_pos h,Nat.mod_eq_of_lt h]; rfl⟩
 ·exact ⟨decDigits (u / 10),by rw[decDigits,dif_neg h]⟩
theorem tmod_abs {m:Int} (h:Int.tmod m 10≠0):m.natAbs % 10≠0:=by
 intro h2;apply h;have e:m=(m / 10)*10:=by omega
 rw[e];exact Int.mul_tmod_left _ _
theorem YQ (a b:ae) (j:Nat):(a++b).getD (a.length+j) 0=b.getD j 0:=by
 show ((a++b)[a.length+j]?).getD 0=(b[j]?).getD 0;rw[List.getElem?_append_right (by omega),Nat.add_sub_cancel_left]
def okAt (z:ae) (j:Nat):Prop:=((z.getD j 0).toNat=46∧j≠0∧j+1≠z.length)∨(48≤(z.getD j 0).toNat∧(z.getD j 0).toNat≤57)
def dots (z:ae):Nat:=(z.filter fun b=>decide (b.toNat=46)).length
theorem dots_app (a b:ae):dots (a++b)=dots a+dots b:=by unfold dots; rw[List.filter_append,List.length_append]
theorem RH {z:ae} (h:∀b∈z,48≤b.toNat∧b.toNat≤57):dots z=0:=by
 unfold dots;rw[List.length_eq_zero_iff,List.filter_eq_nil_iff];intro b hb;have:=h b hb;simp;omega
theorem RI {z:ae} {j:Nat} (h:j<z.length):z.getD j 0∈z:=by
 have:z.getD j 0=z[j]:=by simp[List.getD,h]
 rw[this];exact List.getElem_mem h
theorem body_ok (d:fO) (hd:Fm d):∃z:ae,z=body (decDigits d.aq.natAbs) d.exp∧1≤z.length∧z.length≤30∧(∀j,j<z.length→okAt z j)∧48≤(z.getD 0 0).toNat ∧
  ((dots z=0∧((z.getD 0 0).toNat≠48∨z.length=1))∨(dots z=1∧(z.getD (z.length - 1) 0).toNat≠48∧2≤z.length∧((z.getD 0 0).toNat≠48∨(z.getD 1 0).toNat=46))):=by
 have b:=hd.bounds;refine ⟨_,rfl,?_⟩;have uQ:=dec_all d.aq.natAbs;have hlen:(decDigits d.aq.natAbs).length≤16:=by rw[decDigits_length]; exact WG (by omega)
 have Nk:1≤(decDigits d.aq.natAbs).length:=by rw[decDigits_length]; exact nDigits_pos _
 by_cases he:0≤d.exp
 ·have hb:body (decDigits d.aq.natAbs) d.exp=decDigits d.aq.natAbs++gi d.exp.toNat:=by unfold body; rw[if_pos he]
  rw[hb];have hdig:∀x∈decDigits d.aq.natAbs++gi d.exp.toNat,48≤x.toNat∧x.toNat≤57:=by
   intro x hx;rcases List.mem_append.1 hx with hx|hx
   ·exact uQ x hx
   ·have:=List.eq_of_mem_replicate hx;subst this; decide
  have hl:(decDigits d.aq.natAbs++gi d.exp.toNat).length=(decDigits d.aq.natAbs).length+d.exp.toNat:=by rw[List.length_append,o8]
  refine ⟨by omega,by omega,fun j hj => .inr (hdig _ (RI hj)),(hdig _ (RI (by omega))).1, .inl ⟨RH hdig,?_⟩⟩;by_cases h0:d.aq=0
  ·right
   have:=hd.zero h0;subst this;show (decDigits 0++gi 0).length=1;rw[decDigits_one (by omega)];rfl
  ·left
   obtain ⟨x,t,e,hx⟩:=Sf d.aq.natAbs (by omega);rw[e];exact hx
 ·have h0:d.aq≠0:=by
   intro h;have:=hd.zero h;rw[this]at he;exact he (Int.le_refl _)
  obtain ⟨l,hlast⟩:=dec_last d.aq.natAbs;have hmod:=tmod_abs (hd.nz h0);obtain ⟨x0,t0,hfirst,hx0⟩:=Sf d.aq.natAbs (by omega);generalize hL:decDigits d.aq.natAbs=L at *;have hb:body L d.exp=(gi (max 0 (1 - d.exp - (L.length:Int))).toNat++L).take (((gi (max 0 (1 - d.exp - (L.length:Int))).toNat++L).length:Int)+d.exp).toNat ++ [46]++(gi (max 0 (1 - d.exp - (L.length:Int))).toNat++L).drop (((gi (max 0 (1 - d.exp - (L.length:Int))).toNat++L).length:Int)+d.exp).toNat:=by
   unfold body; rw[if_neg he]
  rw[hb];have tl:(gi (max 0 (1 - d.exp - (L.length:Int))).toNat++L).length=(max 0 (1 - d.exp - (L.length:Int))).toNat+L.length:=by rw[List.length_append,o8]
  have tdig:∀x∈gi (max 0 (1 - d.exp - (L.length:Int))).toNat++L,48≤x.toNat∧x.toNat≤57:=by
   intro x hx;rcases List.mem_append.1 hx with hx|hx
   ·have:=List.eq_of_mem_replicate hx;subst this; decide
   ·exact uQ x hx
  have tlast:∃l',gi (max 0 (1 - d.exp - (L.length:Int))).toNat++L=l' ++ [UInt8.ofNat (48+d.aq.natAbs % 10)]:=⟨gi (max 0 (1 - d.exp - (L.length:Int))).toNat++l,by rw[hlast,List.append_assoc]⟩;have tfirst:(gi (max 0 (1 - d.exp - (L.length:Int))).toNat++L).getD 0 0=(if (max 0 (1 - d.exp - (L.length:Int))).toNat=0 then x0 else 48):=by
   rw[hfirst];cases hz:(max 0 (1 - d.exp - ((x0::t0).length:Int))).toNat with
   | zero=>rfl
   | succ q=>rfl
  generalize hz:(max 0 (1 - d.exp - (L.length:Int))).toNat=z at *;generalize ht:gi z++L=t at *;have ZO:((t.length:Int)+d.exp).toNat=t.length - d.exp.natAbs:=by omega
  rw[ZO];have h1:d.exp.natAbs+1≤t.length:=by omega
  have la:(t.take (t.length - d.exp.natAbs)).length=t.length - d.exp.natAbs:=by rw[List.length_take]; omega
  have lb:(t.drop (t.length - d.exp.natAbs)).length=d.exp.natAbs:=by rw[List.length_drop]; omega
  generalize hA:t.take (t.length - d.exp.natAbs)=A at *;generalize hB:t.drop (t.length - d.exp.natAbs)=B at *;have hAB:A++B=t:=by rw[←hA,←hB,List.take_append_drop]
  have lz:(A ++ [46]++B).length=A.length+1+B.length:=by simp only[List.length_append,List.length_cons,List.length_nil]
  have dA:∀x∈A,48≤x.toNat∧x.toNat≤57:=fun x hx=>tdig x (by rw[←hAB]; exact List.mem_append_left _ hx)
  have dB:∀x∈B,48≤x.toNat∧x.toNat≤57:=fun x hx=>tdig x (by rw[←hAB]; exact List.mem_append_right _ hx)
  have gA:∀j,j<A.length→(A ++ [46]++B).getD j 0=A.getD j 0:=fun j hj=>by
   rw[List.append_assoc]; exact Q8 hj
  have gM:(A ++ [46]++B).getD A.length 0=46:=by rw[List.append_assoc]; exact YH
  have gB:∀j,j<B.length→(A ++ [46]++B).getD (A.length+1+j) 0=B.getD j 0:=fun j hj=>by
   have e:A.length+1+j=(A ++ [46]).length+j:=by simp
   rw[e];exact YQ _ _ _
  have he1:1≤d.exp.natAbs:=by omega
  refine ⟨by omega,by omega,fun j hj => ?_,?_, .inr ⟨?_,?_,by omega,?_⟩⟩
  ·rcases Nat.lt_trichotomy j A.length with h|h|h
   ·right; rw[gA j h]; exact dA _ (RI h)
   ·left; subst h; rw[gM]; exact ⟨rfl,by omega,by omega⟩
   ·right
    obtain ⟨q,rfl⟩:∃q,j=A.length+1+q:=⟨j - A.length - 1,by omega⟩;rw[gB q (by omega)]; exact dB _ (RI (by omega))
  ·rw[gA 0 (by omega)]; exact (dA _ (RI (by omega))).1
  ·rw[dots_app,dots_app,RH dA,RH dB]; rfl
  ·have e:(A ++ [46]++B).length - 1=A.length+1+(B.length - 1):=by omega
   rw[e,gB _ (by omega)];obtain ⟨l',hl'⟩:=tlast;have hBl:B.getD (B.length - 1) 0=UInt8.ofNat (48+d.aq.natAbs % 10):=by
    have e2:t.getD (t.length - 1) 0=UInt8.ofNat (48+d.aq.natAbs % 10):=by
     rw[hl'];have:(l' ++ [UInt8.ofNat (48+d.aq.natAbs % 10)]).length - 1=l'.length:=by simp
     rw[this];exact YH
    have e3:t.getD (t.length - 1) 0=B.getD (B.length - 1) 0:=by
     rw[←hAB];have:(A++B).length - 1=A.length+(B.length - 1):=by rw[List.length_append]; omega
     rw[this];exact YQ _ _ _
    rw[←e3,e2]
   rw[hBl,hU _ (by omega)];omega
  ·have hA0:A.getD 0 0=t.getD 0 0:=by rw[←hAB]; exact (Q8 (by omega)).symm
   rw[gA 0 (by omega),hA0,tfirst];by_cases hzz:z=0
   ·left; rw[if_pos hzz]; exact hx0
   ·right
    have:A.length=1:=by omega
    have e:(A ++ [46]++B).getD 1 0=46:=by rw[←this]; exact gM
    rw[e]; rfl
theorem Z2 (c:UInt8):∀l:ae,Go.Lib.indexByte l c<0↔l.contains c=false
 | []=>by simp[Go.Lib.indexByte]
 | x::l=>by
  have ih:=Z2 c l;have hg:=Go.Lib.indexByte_ge l c;unfold Go.Lib.indexByte;rw[List.contains_cons];by_cases h:x=c
  ·subst h; simp
  ·have h2:(c==x)=false:=by rw[beq_eq_false_iff_ne]; exact fun e=>h e.symm
   rw[h2,Bool.false_or,←ih];split
   ·rename_i h3; exact (h (beq_iff_eq.1 h3)).elim
   ·split
    ·rename_i h4;have:=beq_iff_eq.1 h4;omega
    ·rename_i h4;have:¬Go.Lib.indexByte l c = -1:=fun e=>h4 (beq_iff_eq.2 e)
     omega
def uF (MR s:ae):Nat×ae:=match s with | []=>(0, [])|b::t=>if MR.contains b then (b.toNat,t)else (0,b::t)
theorem Ii {R:Type} (MR s:ae) (hs:s.length≤4000000000) (k:Int→ae→Option R):bb MR s k=k ((uF MR s).1:Int) (uF MR s).2:=by
 have e:bb MR s k=k9 MR s k:=rfl;rw[e];unfold k9;cases s with
 | nil=>rfl
 | cons b t =>
  simp only[List.length_cons]at hs;have jW:((b::t:ae)==([]:ae))=false:=rfl;have hg:((b::t:ae).getD 0 0)=b:=rfl;have hd:((b::t:ae).drop 1).take (((b::t:ae).length:Int).toNat - 1)=t:=by
   rw[Int.toNat_natCast,List.drop_succ_cons,List.drop_zero,List.length_cons,Nat.add_sub_cancel,List.take_length]
  have hi:FP MR ((b.toNat:Nat):Int)=Go.Lib.indexByte MR b:=by
   unfold FP;rw[Int.toNat_natCast];simp
  have hl:(b::t:ae).length=t.length+1:=rfl;rw[jW,cond_false,hg,hd,hi,hl,ao (aE (by omega))];unfold uF;cases hc:MR.contains b with
  | false =>
   rw[aE ((Z2 b MR).2 hc),cond_true];simp only[hc,Bool.false_eq_true,if_false];rfl
  | true =>
   have:¬Go.Lib.indexByte MR b<0:=fun h=>by rw[(Z2 b MR).1 h]at hc; cases hc
   rw[bK this,cond_false,ao (aE (by omega)),ao (by rw[aE (show (0:Int)≤((t.length+1:Nat):Int) by omega),aE (by omega)]; rfl),ao (aE (by omega))];simp only[hc,if_true]
def digS:ae := [48,49,50,51,52,53,54,55,56,57]
def om (b:UInt8):Prop:=48≤b.toNat∧b.toNat≤57
theorem digS_all:∀n:Fin 256,digS.contains (UInt8.ofNat n.val)=decide (48≤n.val∧n.val≤57):=by decide +kernel
theorem digS_ok (b:UInt8):digS.contains b=decide (48≤b.toNat∧b.toNat≤57):=by
 have:=digS_all ⟨b.toNat,UInt8.toNat_lt b⟩;simpa using this
theorem Sg (p:UInt8→Bool):∀(a r:ae),(∀x∈a,p x=true)→(a++r).dropWhile p=r.dropWhile p
 | [],r,_=>rfl
 | x::a,r,h=>by
  rw[List.cons_append,List.dropWhile_cons,h x (by simp),if_pos rfl];exact Sg p a r fun y hy=>h y (by simp[hy])
theorem Us (p:UInt8→Bool) (r:ae) (h:∀b t,r=b::t→p b=false):r.dropWhile p=r:=by
 cases r with
 | nil=>rfl
 | cons b t=>rw[List.dropWhile_cons,h b t rfl]; rfl
theorem XY {R:Type} (a r:ae) (ha:∀x∈a,om x) (hr:∀b t,r=b::t→¬om b) (hl:(a++r).length≤4000000000) (k:ae→ae→Option R):aT (a++r) k=k a r:=by
 have e:aT (a++r) k=j0 (a++r) k:=rfl;rw[e];unfold j0;have ht:bx (a++r) ([48,49,50,51,52,53,54,55,56,57]:ae)=r:=by
  unfold bx;have h1:=Sg (fun x=>digS.contains x) a r (fun x hx=>by rw[digS_ok]; exact aE (ha x hx));have h2:=Us (fun x=>digS.contains x) r (fun b t hb=>by rw[digS_ok]; exact bK (hr b t hb));exact h1.trans h2
 rw[ht];have hlen:(a++r).length=a.length+r.length:=List.length_append;have hw:IntKind.i64.wrap (((a++r).length:Int) - (r.length:Int))=(a.length:Int):=by rw[hlen,cv (by omega) (by omega)]; omega
 rw[hw,ao (by rfl),ao (by rw[aE (by omega),aE (by omega)]; rfl),ao (aE (by omega)),List.drop_zero,Int.toNat_natCast,Nat.sub_zero,List.take_left]
theorem parse_ok {R:Type} (neg:Bool) (I F X:ae) (pt:Bool) (ev:Int) (hI:∀x∈I,om x) (hI0:I ≠ []) (hI1:1<I.length→(I.getD 0 0).toNat≠48) (hF:∀x∈F,om x) (hF0:pt=true→F ≠ []) (hF1:pt=false→F = [])
  (hX:(X = []∧ev=0)∨∃b Y,X=b::Y∧(b=101∨b=69)∧∀f:Int→Bool→ae→Option R,bC Y f=f ev true []) (hev : -1000000≤ev∧ev≤1000000)
  (hlen:((if neg then [45]else [])++(I++((if pt then 46::F else [])++X))).length≤400)
  (hsh:(cN (bx (I++F) [48]) [48]).length≤18) (k:fO→Bool→Option R) :
  ei ((if neg then [45]else [])++(I++((if pt then 46::F else [])++X))) k =
   bm (if neg then IntKind.i64.wrap (0 - eH (48::cN (bx (I++F) [48]) [48]))else eH (48::cN (bx (I++F) [48]) [48])) (-(F.length:Int)+ev+(((bx (I++F) [48]).length:Int) - ((cN (bx (I++F) [48]) [48]).length:Int))) k:=by
 generalize hS:(if neg then [45]else [])++(I++((if pt then 46::F else [])++X))=s at *;have e:ei s k=qx bm bb aT bC s k:=rfl;rw[e];unfold qx
 
 obtain ⟨i0,It,hIe⟩:∃b t,I=b::t:=by cases I with|nil=>exact (hI0 rfl).elim|cons b t=>exact ⟨b,t,rfl⟩
 have hi0:=hI i0 (by rw[hIe]; simp);have hXh:∀b t,X=b::t→¬om b∧b.toNat≠46:=by
  intro b t hb;rcases hX with ⟨rfl,_⟩|⟨c,Y,rfl,hc,_⟩
  ·cases hb
  ·cases hb;rcases hc with rfl|rfl <;> exact ⟨by unfold om; decide,by decide⟩
 have hs1:uF [45] s=(if neg then 45 else 0,I++((if pt then 46::F else [])++X)):=by
  rw[←hS];cases neg with
  | true=>rfl
  | false =>
   rw[hIe];have:([45]:ae).contains i0=false:=by
    have:i0≠45:=by rintro rfl; exact absurd hi0.1 (by decide)
    simp[this]
   simp only[Bool.false_eq_true,if_false,List.nil_append,List.cons_append,uF,this]
 have hsl:s.length≤400:=hlen;have Nr:s.length=(if neg then 1 else 0)+(I.length+((if pt then F.length+1 else 0)+X.length)):=by
  rw[←hS];cases neg <;> cases pt <;> simp <;> omega
 have hFl:F.length≤400:=by
  cases pt with
  | true=>simp at Nr; omega
  | false=>rw[hF1 rfl]; simp
 have hIl:I.length≤400:=by omega
 have hXl:X.length≤400:=by omega
 rw[Ii _ _ (by omega),hs1];simp only;have hPh:∀b t,(if pt then 46::F else [])++X=b::t→¬om b:=by
  intro b t hb;cases pt with
  | true=>simp at hb; rw[←hb.1]; unfold om; decide
  | false=>exact (hXh b t (by simpa using hb)).1
 have hl2:(I++((if pt then 46::F else [])++X)).length≤4000000000:=by
  have:(I++((if pt then 46::F else [])++X)).length=I.length+((if pt then F.length+1 else 0)+X.length):=by cases pt <;> simp <;> omega
  omega
 rw[XY I _ hI hPh hl2];have jW:(I==([]:ae))=false:=by rw[beq_eq_false_iff_ne]; exact hI0
 rw[bK (show ¬(s.length:Int)>400 by omega),cond_false,jW,cond_false];have q48:(((I.getD 0 0).toNat:Int)==48)=decide ((I.getD 0 0).toNat=48):=eqI _ 48
 
 have drop1:∀x:Option R,(bif (decide ((I.length:Int)>1))then (bX (decide ((0:Int)<I.length)) (bif (((I.getD 0 0).toNat:Int)==48)then (k ⟨0,0⟩ false)else x))else x)=x:=by
  intro x;by_cases h:1<I.length
  ·rw[aE (show (I.length:Int)>1 by omega),cond_true,ao (aE (by omega)),q48,bK (hI1 h),cond_false]
  ·rw[bK (show ¬(I.length:Int)>1 by omega),cond_false]
 rw[drop1];generalize hA:I++F=all at *;have uQ:all.length≤800:=by rw[←hA,List.length_append]; omega
 have htl:(bx all [48]).length≤all.length:=C2 _ _;have lone:([48]:ae).length=1:=rfl;have hc:(([48]:ae)++(cN (bx all ([48]:ae)) ([48]:ae)))=48::cN (bx all [48]) [48]:=rfl;have hbe:((([]:ae)==([]:ae)))=true:=rfl;have hs2:decide ((48::cN (bx all [48]) [48]:ae).length≤281474976710656)=true:=aE (by simp only[List.length_cons]; omega);have w0:IntKind.i64.wrap (((bx all [48]).length:Int) - ((cN (bx all [48]) [48]).length:Int))=((bx all [48]).length:Int) - ((cN (bx all [48]) [48]).length:Int):=cv (by omega) (by omega);have q1:decide (1+(cN (bx all [48]) [48]).length≤9223372036854775807)=true:=aE (by omega)
 have q2:decide (((cN (bx all [48]) [48]).length:Int)>18)=false:=bK (by omega);have q3:(xF ([48]:ae)&&decide (([48]:ae).length<4294967281))=true:=rfl;have qn:(((if neg then 45 else 0:Nat):Int) != 0)=neg:=by cases neg <;> rfl
 have sX:uF [101,69] X=match X with | []=>(0, [])|b::Y=>(b.toNat,Y):=by
  rcases hX with ⟨rfl,_⟩|⟨b,Y,rfl,hb,_⟩
  ·rfl
  ·rcases hb with rfl|rfl <;> rfl
 cases pt with
 | false =>
  have hFe:=hF1 rfl;subst hFe;rw[List.append_nil]at hA;subst hA;have s46:uF [46] X=(0,X):=by
   rcases hX with ⟨rfl,_⟩|⟨b,Y,rfl,hb,_⟩
   ·rfl
   ·rcases hb with rfl|rfl <;> rfl
  simp only[Bool.false_eq_true,if_false,List.nil_append];rw[Ii _ _ (by omega),s46];have z0:(((0:Nat):Int) != 0)=false:=rfl;simp only[z0,cond_false];rw[Ii _ _ (by omega),sX];rcases hX with ⟨rfl,rfl⟩|⟨b,Y,rfl,hb,hE⟩
  ·simp only[z0,cond_false,q3,ao rfl,hbe,Bool.not_true,q2,q1,hc,hs2,Bool.cond_self,w0,qn];rw[cv (n:=0+(((bx I [48]).length:Int) - ((cN (bx I [48]) [48]).length:Int))) (by omega) (by omega)];have e0 : -((([]:ae).length:Nat):Int)+0=0:=rfl;rw[e0];cases neg <;> rfl
  ·have zb:((b.toNat:Int) != 0)=true:=by rcases hb with rfl|rfl <;> rfl
   simp only[zb,cond_true,hE,Bool.not_true,cond_false,q3,ao rfl,hbe,q2,q1,hc,hs2,Bool.cond_self,w0,qn];rw[cv (n:=0+ev) (by omega) (by omega),cv (n:=0+ev+(((bx I [48]).length:Int) - ((cN (bx I [48]) [48]).length:Int))) (by omega) (by omega)];have e0 : -((([]:ae).length:Nat):Int)+ev=0+ev:=rfl;rw[e0];cases neg <;> rfl
 | true =>
  have hFe:=hF0 rfl;simp only[if_true,List.cons_append,List.nil_append];have s46:uF [46] (46::(F++X))=(46,F++X):=rfl;have lFX:(F++X).length=F.length+X.length:=List.length_append;rw[Ii _ _ (by simp only[List.length_cons]; omega),s46];have z46:(((46:Nat):Int) != 0)=true:=rfl;have z0:(((0:Nat):Int) != 0)=false:=rfl;simp only[z46,cond_true];rw[XY F X hF (fun b t hb=>(hXh b t hb).1) (by omega)];have hFn:(F==([]:ae))=false:=by rw[beq_eq_false_iff_ne]; exact hFe
  rw[hFn,cond_false,ao (aE (by omega)),hA,cv (n:=0 - (F.length:Int)) (by omega) (by omega)];rw[Ii _ _ (by omega),sX];rcases hX with ⟨rfl,rfl⟩|⟨b,Y,rfl,hb,hE⟩
  ·simp only[z0,cond_false,q3,ao rfl,hbe,Bool.not_true,q2,q1,hc,hs2,Bool.cond_self,w0,qn];rw[cv (n:=0 - (F.length:Int)+(((bx all [48]).length:Int) - ((cN (bx all [48]) [48]).length:Int))) (by omega) (by omega)];have e0 : -(F.length:Int)+0=0 - (F.length:Int):=by omega
   rw[e0];cases neg <;> rfl
  ·have zb:((b.toNat:Int) != 0)=true:=by rcases hb with rfl|rfl <;> rfl
   simp only[zb,cond_true,hE,Bool.not_true,cond_false,q3,ao rfl,hbe,q2,q1,hc,hs2,Bool.cond_self,w0,qn];rw[cv (n:=0 - (F.length:Int)+ev) (by omega) (by omega),cv (n:=0 - (F.length:Int)+ev+(((bx all [48]).length:Int) - ((cN (bx all [48]) [48]).length:Int))) (by omega) (by omega)];have e0 : -(F.length:Int)+ev=0 - (F.length:Int)+ev:=by omega
   rw[e0];cases neg <;> rfl
theorem uint_app:∀(l r:ae) (acc v:Nat),parseUint10 acc l = .ok v→parseUint10 acc (l++r)=parseUint10 v r
 | [],r,acc,v,h=>by
  simp only[parseUint10]at h
  injection h with h
  subst h;rfl
 | c::l,r,acc,v,h=>by
  simp only[parseUint10,List.cons_append]at h ⊢;split at h
  ·rename_i h1;rw[if_pos h1];split at h
   ·cases h
   ·rename_i h2;rw[if_neg h2];split at h
    ·cases h
    ·rename_i h3;rw[if_neg h3];exact uint_app l r _ v h
  ·cases h
theorem uint_dec (u:Nat) (hu:u<1000000000000000000):parseUint10 0 (decDigits u) = .ok u:=by
 induction u using Nat.strongRecOn with
 | _ u ih =>
  by_cases h:u<10
  ·rw[decDigits,dif_pos h];simp only[parseUint10,hU (48+u) (by omega)];rw[if_pos (by omega),if_neg (by omega),if_neg (by omega)];congr 1;omega
  ·rw[decDigits,dif_neg h,uint_app _ _ _ _ (ih (u / 10) (by omega) (by omega))];simp only[parseUint10,hU (48+u % 10) (by omega)];rw[if_pos (by omega),if_neg (by omega),if_neg (by omega)];congr 1;omega
theorem atoi_dec (u:Nat) (hu:u<1000000000000000000):eH (48::decDigits u)=(u:Int):=by
 have h1:parseMag (48::decDigits u) = .ok u:=by
  unfold parseMag;rw[if_neg (by simp)];have:=uint_dec u hu;simp only[parseUint10];exact this
 have h2:atoiAll (48::decDigits u) = .ok (u:Int):=by
  unfold atoiAll;simp only;have e:(if (48:UInt8).toNat=43∨(48:UInt8).toNat=45 then decDigits u else 48::decDigits u)=48::decDigits u:=if_neg (by decide);rw[e,h1];simp only;rw[if_neg (by omega),if_neg (fun h=>absurd h.1 (by decide)),if_neg (by decide)]
 unfold eH;rw[h2]
theorem trimL_z (n:Nat) (r:ae) (hr:∀b t,r=b::t→b≠48):bx (gi n++r) [48]=r:=by
 unfold bx;rw[Sg _ _ _ (fun x hx=>by have:=List.eq_of_mem_replicate hx; subst this; rfl)];exact Us _ _ fun b t hb=>by simp[hr b t hb]
theorem trimR_z (l:ae) (n:Nat) (b:UInt8) (hb:b≠48):cN (l ++ [b]++gi n) [48]=l ++ [b]:=by
 unfold cN;rw[List.reverse_append,List.reverse_append];have e:(gi n).reverse=gi n:=List.reverse_replicate;rw[e,Sg _ _ _ (fun x hx=>by have:=List.eq_of_mem_replicate hx; subst this; rfl)];have:List.dropWhile (fun x=>([48]:ae).contains x) (([b]:ae).reverse++l.reverse) = [b]++l.reverse:=Us _ _ fun c t hc=>by
  have:b=c:=by
   have:=congrArg List.head? hc;simpa using this
  subst this;simp[hb]
 rw[this,List.reverse_append,List.reverse_reverse];rfl
theorem trims {u:Nat} (hu:u % 10≠0) (a b:Nat):bx (gi a++(decDigits u++gi b)) [48]=decDigits u++gi b∧cN (decDigits u++gi b) [48]=decDigits u:=by
 obtain ⟨x,t,e,hx⟩:=Sf u (by omega);obtain ⟨l,hl⟩:=dec_last u;constructor
 ·apply trimL_z;intro c t' hc;rw[e]at hc;have:x=c:=by
   have:=congrArg List.head? hc;simpa using this
  subst this
  rintro rfl
  exact hx rfl
 ·rw[hl];apply trimR_z;intro h;have:=congrArg UInt8.toNat h;rw[hU _ (by omega)]at this;have e48:(48:UInt8).toNat=48:=rfl;omega
theorem XZ (d:fO) (hd:Fm d) (h0:d.aq≠0):∃(I F:ae) (pt:Bool) (a b:Nat),ZB d=(if decide (d.aq<0)then [45]else [])++(I++(if pt then 46::F else [])) ∧
  I++F=gi a++(decDigits d.aq.natAbs++gi b)∧I ≠ []∧(1<I.length→(I.getD 0 0).toNat≠48)∧(pt=true→F ≠ [])∧(pt=false→F = [])∧(F.length:Int)=(b:Int) - d.exp∧I.length+F.length≤40∧(∀x∈I,om x)∧(∀x∈F,om x):=by
 have bd:=hd.bounds;have uQ:=dec_all d.aq.natAbs;have hlen:(decDigits d.aq.natAbs).length≤16:=by rw[decDigits_length]; exact WG (by omega)
 have Nk:1≤(decDigits d.aq.natAbs).length:=by rw[decDigits_length]; exact nDigits_pos _
 obtain ⟨x0,t0,hfirst,hx0⟩:=Sf d.aq.natAbs (by omega);have hsg:(if d.aq<0 then ([45]:ae)else [])=if decide (d.aq<0)then [45]else []:=by by_cases h:d.aq<0 <;> simp[h]
 unfold ZB;rw[hsg];generalize decDigits d.aq.natAbs=L at *;by_cases he:0≤d.exp
 ·refine ⟨L++gi d.exp.toNat, [],false,0,d.exp.toNat,?_,by simp[gi],?_,fun _ => ?_,by simp,by simp,by simp; omega,?_,?_,by simp⟩
  ·unfold body; rw[if_pos he]; simp
  ·rw[hfirst]; simp
  ·rw[hfirst]; exact hx0
  ·rw[List.length_append,o8,List.length_nil]; omega
  ·intro x hx;rcases List.mem_append.1 hx with hx|hx
   ·exact uQ x hx
   ·have:=List.eq_of_mem_replicate hx;subst this; unfold om; decide
 ·have hz:∃z:Nat,(max 0 (1 - d.exp - (L.length:Int))).toNat=z:=⟨_,rfl⟩;obtain ⟨z,hz⟩:=hz;have tl:(gi z++L).length=z+L.length:=by rw[List.length_append,o8]
  have ZO:(((gi z++L).length:Int)+d.exp).toNat=(gi z++L).length - d.exp.natAbs:=by omega
  have h1:d.exp.natAbs+1≤(gi z++L).length:=by omega
  have tdig:∀x∈gi z++L,om x:=by
   intro x hx;rcases List.mem_append.1 hx with hx|hx
   ·have:=List.eq_of_mem_replicate hx;subst this; unfold om; decide
   ·exact uQ x hx
  have tfirst:z=0→((gi z++L).getD 0 0).toNat≠48:=by
   rintro rfl
   rw[hfirst];exact hx0
  refine ⟨(gi z++L).take ((gi z++L).length - d.exp.natAbs),(gi z++L).drop ((gi z++L).length - d.exp.natAbs),true,z,0,?_,?_,?_,?_,fun _ => ?_,(fun h=>by cases h),?_,?_,?_,?_⟩
  ·unfold body;rw[if_neg he];simp only[hz,ZO,if_true];simp
  ·rw[List.take_append_drop]; simp[gi]
  ·intro e;have:=congrArg List.length e;rw[List.length_take,List.length_nil]at this;omega
  ·intro hI;rw[List.length_take]at hI;have e:((gi z++L).take ((gi z++L).length - d.exp.natAbs)).getD 0 0=(gi z++L).getD 0 0:=by
    have:=(Q8 (s:=(gi z++L).take ((gi z++L).length - d.exp.natAbs)) (t:=(gi z++L).drop ((gi z++L).length - d.exp.natAbs)) (i:=0) (by rw[List.length_take]; omega)).symm;rw[List.take_append_drop]at this;exact this
   rw[e];exact tfirst (by omega)
  ·intro e;have:=congrArg List.length e;rw[List.length_drop,List.length_nil]at this;omega
  ·rw[List.length_drop]; omega
  ·rw[List.length_take,List.length_drop]; omega
  ·intro x hx; exact tdig x (List.mem_of_mem_take hx)
  ·intro x hx; exact tdig x (List.mem_of_mem_drop hx)
theorem parse_zero {R:Type} (k:fO→Bool→Option R):ei [48] k=k ⟨0,0⟩ true:=by kernel_rfl
theorem prt_zero:ZB ⟨0,0⟩ = [48]:=by
 show []++body (decDigits 0) 0 = [48];rw[decDigits_one (by omega)];rfl
theorem parse_prt {R:Type} {d:fO} (hd:Fm d) (h0:d.aq≠0) (X:ae) (ev:Int) (hX:(X = []∧ev=0)∨∃b Y,X=b::Y∧(b=101∨b=69)∧∀f:Int→Bool→ae→Option R,bC Y f=f ev true [])
  (hev : -1000000≤ev∧ev≤1000000) (hXl:X.length≤100) (k:fO→Bool→Option R):ei (ZB d++X) k=bm d.aq (d.exp+ev) k:=by
 have bd:=hd.bounds;obtain ⟨I,F,pt,a,b,e1,e2,i0,i1,f0,f1,fl,il,iD,fD⟩:=XZ d hd h0;obtain ⟨t1,t2⟩:=trims (u:=d.aq.natAbs) (tmod_abs (hd.nz h0)) a b;have hlen:(decDigits d.aq.natAbs).length≤16:=by rw[decDigits_length]; exact WG (by omega)
 have key:=parse_ok (R:=R) (decide (d.aq<0)) I F X pt ev iD i0 i1 fD f0 f1 hX hev (by
  cases hd2:decide (d.aq<0) <;> cases pt <;> simp <;> omega) (by rw[e2,t1,t2]; omega) k
 have e3:ZB d++X=(if decide (d.aq<0)then [45]else [])++(I++((if pt then 46::F else [])++X)):=by rw[e1]; simp only[List.append_assoc]
 rw[e3,key,e2,t1,t2,atoi_dec _ (by omega)];have e4:(if decide (d.aq<0)=true then IntKind.i64.wrap (0 - (d.aq.natAbs:Int))else (d.aq.natAbs:Int))=d.aq:=by
  by_cases h:d.aq<0
  ·rw[if_pos (by rw[aE h]),cv (by omega) (by omega)]; omega
  ·rw[if_neg (by rw[bK h]; simp)]; omega
 have e5 : -(F.length:Int)+ev+(((decDigits d.aq.natAbs++gi b).length:Int) - ((decDigits d.aq.natAbs).length:Int))=d.exp+ev:=by
  rw[List.length_append,o8];omega
 rw[e4,e5]
theorem make_same {R:Type} {d:fO} (hd:Fm d) (h0:d.aq≠0) (k:fO→Bool→Option R):bm d.aq d.exp k=k d true:=by
 have bd:=hd.bounds;obtain ⟨r,hr,hm⟩:=make_any (R:=R) d.aq d.exp (by unfold zm; omega) (by omega) (by omega);have e5:d.aq=d.aq*10 ^ 0:=by simp
 rw[e5]at hr;rw[hm,made_same hd h0 (j:=0) (x:=d.exp) (by omega) hr]
theorem prt_len (d:fO) (hd:Fm d):(ZB d).length≤40:=by
 obtain ⟨z,hz,z1,z2,_⟩:=body_ok d hd;unfold ZB;rw[←hz,List.length_append];split <;> simp <;> omega
abbrev isD (b:UInt8):Bool:=digS.contains b
theorem isD_ok (b:UInt8):isD b=decide (48≤b.toNat∧b.toNat≤57):=digS_ok b
abbrev takeD (s:ae):ae:=s.takeWhile isD
abbrev RJ (s:ae):ae:=s.dropWhile isD
theorem Jr (s:ae):∀x∈takeD s,om x:=fun x hx=>by
 have h:=List.all_takeWhile (l:=s) (p:=isD);have:=List.all_eq_true.1 h x hx;rw[isD_ok]at this;exact of_decide_eq_true (p:=48≤x.toNat∧x.toNat≤57) this
theorem drop_dig (s:ae):∀b t,RJ s=b::t→¬om b:=fun b t h hb=>by
 have h2:isD b=false:=by
  have:=List.head?_dropWhile_not isD s;have e:s.dropWhile isD=b::t:=h;rw[e]at this;simpa using this
 rw[isD_ok,aE (p:=48≤b.toNat∧b.toNat≤57) hb]at h2;cases h2
theorem take_le (s:ae):(takeD s).length≤s.length:=by
 have:=congrArg List.length (List.takeWhile_append_dropWhile (p:=isD) (l:=s));rw[List.length_append]at this;unfold takeD;omega
theorem dropD_le (s:ae):(RJ s).length≤s.length:=C2 _ _
theorem Ut {R:Type} (s:ae) (hl:s.length≤4000000000) (k:ae→ae→Option R):aT s k=k (takeD s) (RJ s):=by
 have e:takeD s++RJ s=s:=List.takeWhile_append_dropWhile;have h:=XY (R:=R) (takeD s) (RJ s) (Jr s) (drop_dig s) (by rw[e]; exact hl) k;rw[e]at h;exact h
theorem WM (g s:ae):(uF g s).2.length≤s.length:=by
 unfold uF;cases s with
 | nil=>simp
 | cons b t=>simp only; split <;> simp
def wh:ae→Nat→Nat
 | [],v=>v
 | b::s,v=>wh s (10*v+(b.toNat - 48))
theorem valD_app:∀(a b:ae) (v:Nat),wh (a++b) v=wh b (wh a v)
 | [],_,_=>rfl
 | x::a,b,v=>valD_app a b _
theorem valD_ge:∀(s:ae) (v:Nat),v*10 ^ s.length≤wh s v
 | [],v=>by simp[wh]
 | b::s,v=>by
  have:=valD_ge s (10*v+(b.toNat - 48));have h2:10*v*10 ^ s.length≤(10*v+(b.toNat - 48))*10 ^ s.length:=Nat.mul_le_mul_right _ (by omega);have e:v*10 ^ (b::s).length=10*v*10 ^ s.length:=by rw[List.length_cons,Nat.pow_succ,Nat.mul_comm 10,Nat.mul_assoc,Nat.mul_comm 10]
  simp only[wh];omega
theorem valD_self (s:ae) (v:Nat):v≤wh s v:=Nat.le_trans (Nat.le_mul_of_pos_right _ (Nat.pos_of_ne_zero (by simp))) (valD_ge s v)
theorem valD_lt:∀(s:ae) (v:Nat),(∀x∈s,om x)→wh s v<(v+1)*10 ^ s.length
 | [],v,_=>by simp[wh]
 | b::s,v,h=>by
  have hb:=h b (by simp);unfold om at hb;have:=valD_lt s (10*v+(b.toNat - 48)) fun x hx=>h x (by simp[hx])
  have h2:(10*v+(b.toNat - 48)+1)*10 ^ s.length≤((v+1)*10)*10 ^ s.length:=Nat.mul_le_mul_right _ (by omega);have e:(v+1)*10 ^ (b::s).length=((v+1)*10)*10 ^ s.length:=by rw[List.length_cons,Nat.pow_succ,Nat.mul_assoc,Nat.mul_comm 10]
  simp only[wh];omega
theorem uint_dig:∀(D:ae) (acc:Nat),(∀x∈D,om x) →
  (wh D acc<18446744073709551616→parseUint10 acc D = .ok (wh D acc))∧(acc<18446744073709551616→18446744073709551616≤wh D acc→parseUint10 acc D = .range)
 | [],acc,_=>⟨fun _=>rfl,fun h1 h2=>by simp only[wh]at h2; omega⟩
 | b::D,acc,h=>by
  have hb:=h b (by simp);unfold om at hb;obtain ⟨i1,i2⟩:=uint_dig D (10*acc+(b.toNat - 48)) fun x hx=>h x (by simp[hx])
  have hs:=valD_self D (10*acc+(b.toNat - 48));have e:acc*10+(b.toNat - 48)=10*acc+(b.toNat - 48):=by omega
  simp only[wh,parseUint10];rw[if_pos hb,e];refine ⟨fun h1 => ?_,fun h1 h2 => ?_⟩
  ·rw[if_neg (by omega),if_neg (by omega)];exact i1 h1
  ·by_cases g1:1844674407370955162≤acc
   ·rw[if_pos g1]
   ·rw[if_neg g1];by_cases g2:18446744073709551616≤10*acc+(b.toNat - 48)
    ·rw[if_pos g2]
    ·rw[if_neg g2];exact i2 (by omega) h2
theorem atoi_dig (D:ae) (hD:∀x∈D,om x) (h0:D ≠ []) :
  (wh D 0<9223372036854775808→atoiAll D = .ok (wh D 0:Int))∧(9223372036854775808≤wh D 0→atoiAll D = .range):=by
 obtain ⟨i1,i2⟩:=uint_dig D 0 hD;cases D with
 | nil=>exact (h0 rfl).elim
 | cons b D =>
  have hb:=hD b (by simp);unfold om at hb;have e:(if b.toNat=43∨b.toNat=45 then D else b::D)=b::D:=if_neg (by omega);have m:parseMag (b::D)=parseUint10 0 (b::D):=by unfold parseMag; rw[if_neg (by simp)]
  unfold atoiAll;simp only;rw[e,m];refine ⟨fun h => ?_,fun h => ?_⟩
  ·rw[i1 (by omega)];simp only;rw[if_neg (by omega),if_neg (fun h2=>absurd h2.1 (by omega)),if_neg (by omega)]
  ·by_cases h2:wh (b::D) 0<18446744073709551616
   ·rw[i1 h2];simp only;rw[if_pos ⟨by omega,h⟩]
   ·rw[i2 (by omega) (by omega)]
def expP (X:ae):Int×Bool×ae :=
 let q:=uF [43,45] X
 let v:Int:=min (wh (takeD q.2) 0:Int) 1000000
 (if q.1=45 then -v else v, !(takeD q.2 == []),RJ q.2)
theorem exp_any {R:Type} (X:ae) (hl:X.length≤4000000000) (k:Int→Bool→ae→Option R):bC X k=k (expP X).1 (expP X).2.1 (expP X).2.2:=by
 have e:bC X k=jl bb aT X k:=rfl;rw[e];unfold jl;have h1:=WM [43,45] X;rw[Ii _ _ hl];unfold expP;simp only;generalize uF [43,45] X=q at *;rw[Ut _ (by omega)];have h2:=take_le q.2;have hD:=Jr q.2;generalize takeD q.2=D at *;generalize RJ q.2=r at *;have q45:((q.1:Int)==45)=decide (q.1=45):=eqI _ 45;rw[ao (aE (by omega)),q45];by_cases h0:D = []
 ·subst h0;have a1:xG []=false:=rfl;have a2:eH []=0:=rfl;rw[a1,a2];simp only[cond_false,wh];by_cases hq:q.1=45
  ·rw[aE hq,if_pos hq]; rfl
  ·rw[bK hq,if_neg hq]; rfl
 ·have jW:(D==([]:ae))=false:=by rw[beq_eq_false_iff_ne]; exact h0
  obtain ⟨i1,i2⟩:=atoi_dig D hD h0;rw[jW];simp only[Bool.not_false,cond_true];by_cases hv:wh D 0<9223372036854775808
  ·have a1:xG D=true:=by unfold xG; rw[i1 hv]
   have a2:eH D=(wh D 0:Int):=by unfold eH; rw[i1 hv]
   rw[a1,a2,cond_true];by_cases hb:(wh D 0:Int)>1000000
   ·rw[aE hb,cond_true,Int.min_eq_right (by omega)];by_cases hq:q.1=45
    ·rw[aE hq,if_pos hq]; rfl
    ·rw[bK hq,if_neg hq]; rfl
   ·rw[bK hb,cond_false,Int.min_eq_left (by omega),cv (by omega) (by omega)];by_cases hq:q.1=45
    ·rw[aE hq,if_pos hq,cond_true]; congr 1; omega
    ·rw[bK hq,if_neg hq,cond_false]
  ·have a1:xG D=false:=by unfold xG; rw[i2 (by omega)]
   rw[a1,cond_false,Int.min_eq_right (by omega)];by_cases hq:q.1=45
   ·rw[aE hq,if_pos hq]; rfl
   ·rw[bK hq,if_neg hq]; rfl
theorem trimL_head (a:ae):∀b t,bx a [48]=b::t→b≠48:=fun b t h hb=>by
 have h2:=List.head?_dropWhile_not (([48]:ae).contains ·) a;have e:a.dropWhile (([48]:ae).contains ·)=b::t:=h;rw[e]at h2;subst hb;exact absurd (show (([48]:ae).contains 48)=false from h2) (by decide)
theorem trimL_sub (a:ae):∀x∈bx a [48],x∈a:=fun x hx=>(List.dropWhile_sublist _).subset hx
theorem trimR_cases (a:ae):cN a [48] = []∨∃l b,cN a [48]=l ++ [b]∧b≠48:=by
 unfold cN;have h2:=List.head?_dropWhile_not (([48]:ae).contains ·) a.reverse;cases h:a.reverse.dropWhile (([48]:ae).contains ·)with
 | nil=>exact .inl rfl
 | cons b t =>
  rw[h]at h2;refine .inr ⟨t.reverse,b,by simp,fun hb => ?_⟩;subst hb;exact absurd (show (([48]:ae).contains 48)=false from h2) (by decide)
theorem trimR_pre (a:ae):∃n,a=cN a [48]++gi n:=by
 have h:=List.takeWhile_append_dropWhile (p:=(([48]:ae).contains ·)) (l:=a.reverse);have h2:=congrArg List.reverse h;rw[List.reverse_append,List.reverse_reverse]at h2;refine ⟨(a.reverse.takeWhile (([48]:ae).contains ·)).length,?_⟩;have hz:(a.reverse.takeWhile (([48]:ae).contains ·)).reverse=gi (a.reverse.takeWhile (([48]:ae).contains ·)).length:=by
  unfold gi;rw[List.eq_replicate_iff];refine ⟨List.length_reverse,fun x hx => ?_⟩;have h3:=List.all_takeWhile (l:=a.reverse) (p:=(([48]:ae).contains ·));have:=List.all_eq_true.1 h3 x (List.mem_reverse.1 hx);simpa using this
 rw[←hz];exact h2.symm
def finD (neg:Bool) (all:ae) (x:Int):fO×Bool :=
 if cN (bx all [48]) [48] = []then (⟨0,0⟩,true)
 else YP (if neg then -(wh (cN (bx all [48]) [48]) 0:Int)else (wh (cN (bx all [48]) [48]) 0:Int)) (x+(((bx all [48]).length:Int) - ((cN (bx all [48]) [48]).length:Int)))
theorem make_min {R:Type} (m x:Int) (k:fO→Bool→Option R):bm m x k=bm m (min x 1000000) k:=by
 have e:∀x,bm m x k=kQ ay bG m x k:=fun _=>rfl
 rw[e,e];unfold kQ;have:min (min x 1000000) 1000000=min x 1000000:=by omega
 rw[this]
theorem mkD_min (u x:Int):YP u (min x 1000000)=YP u x:=by
 unfold YP;by_cases h:x≤1000000
 ·rw[Int.min_eq_left h]
 ·rw[if_neg (by omega),if_neg (by omega)]
theorem make_unit {R:Type} (u x:Int) (hu:Int.tmod u 10≠0) (hb:zm u) (hx : -9223372036854775808≤x) (k:fO→Bool→Option R):bm u x k=k (YP u x).1 (YP u x).2:=by
 rw[make_min,←mkD_min u x];have:=make_ok (R:=R) u 0 (min x 1000000) hu (by simpa using hb) (by omega) (by omega) k;simpa using this
theorem YR (all:ae) (h:∀x∈all,om x) (h0:cN (bx all [48]) [48] ≠ []) :
  (∀x∈cN (bx all [48]) [48],om x)∧wh (cN (bx all [48]) [48]) 0 % 10≠0∧10 ^ ((cN (bx all [48]) [48]).length - 1)≤wh (cN (bx all [48]) [48]) 0:=by
 obtain ⟨n,hn⟩:=trimR_pre (bx all [48]);have hd:∀x∈cN (bx all [48]) [48],om x:=fun x hx=>h x (trimL_sub _ _ (by rw[hn]; simp[hx]))
 refine ⟨hd,?_,?_⟩
 ·rcases trimR_cases (bx all [48])with e|⟨l,b,e,hb⟩
  ·exact (h0 e).elim
  ·have hbd:=hd b (by rw[e]; simp);rw[e,valD_app];simp only[wh];unfold om at hbd;have:b.toNat≠48:=fun h=>hb (UInt8.toNat_inj.1 h)
   omega
 ·cases e:cN (bx all [48]) [48]with
  | nil=>exact (h0 e).elim
  | cons b t =>
   have hb:b≠48:=trimL_head all b (t++gi n) (by rw[hn,e]; rfl);have hbd:=hd b (by rw[e]; simp);unfold om at hbd;have h48:b.toNat≠48:=fun h=>hb (UInt8.toNat_inj.1 h)
   have:=valD_ge t (10*0+(b.toNat - 48));have h2:1*10 ^ t.length≤(10*0+(b.toNat - 48))*10 ^ t.length:=Nat.mul_le_mul_right _ (by omega);simp only[wh,List.length_cons,Nat.add_sub_cancel];omega
theorem mkD_far {u:Int} (x:Int) (h:1000000000000000<u.natAbs):YP u x=(⟨0,0⟩,false):=by
 unfold YP;rw[if_neg (by omega)]
theorem fin_ok {R:Type} (y2:Int) (wk:ae) (z19:Int) (z20:ae) (h:∀x∈wk,om x) (hl:wk.length≤1000) (hx : -2000000≤z19∧z19≤2000000) (k0:fO→Bool→Option R) :
  (bX (xF ([48]:ae)&&decide (([48]:ae).length<4294967281)) (bX (xF ([48]:ae)&&decide (([48]:ae).length<4294967281)) (bif (!(z20==([]:ae)))then (k0 (⟨0,0⟩:fO) false)else (bif (decide (((cN (bx wk ([48]:ae)) ([48]:ae)).length:Int)>(18:Int)))then (k0 (⟨0,0⟩:fO) false)else (bX (decide (1+(cN (bx wk ([48]:ae)) ([48]:ae)).length≤9223372036854775807)) (bX (decide ((([48]:ae)++(cN (bx wk ([48]:ae)) ([48]:ae))).length≤281474976710656)) (bif xG (([48]:ae)++(cN (bx wk ([48]:ae)) ([48]:ae)))then (bif (y2 != 0)then (bm (IntKind.i64.wrap (0 - (eH (([48]:ae)++(cN (bx wk ([48]:ae)) ([48]:ae)))))) (IntKind.i64.wrap (z19+(IntKind.i64.wrap (((bx wk ([48]:ae)).length:Int) - ((cN (bx wk ([48]:ae)) ([48]:ae)).length:Int))))) (fun JF Sz=>k0 JF Sz))else (bm (eH (([48]:ae)++(cN (bx wk ([48]:ae)) ([48]:ae)))) (IntKind.i64.wrap (z19+(IntKind.i64.wrap (((bx wk ([48]:ae)).length:Int) - ((cN (bx wk ([48]:ae)) ([48]:ae)).length:Int))))) (fun Fi uR=>k0 Fi uR)))else (bif (y2 != 0)then (bm (IntKind.i64.wrap (0 - (eH (([48]:ae)++(cN (bx wk ([48]:ae)) ([48]:ae)))))) (IntKind.i64.wrap (z19+(IntKind.i64.wrap (((bx wk ([48]:ae)).length:Int) - ((cN (bx wk ([48]:ae)) ([48]:ae)).length:Int))))) (fun JF Sz=>k0 JF Sz))else (bm (eH (([48]:ae)++(cN (bx wk ([48]:ae)) ([48]:ae)))) (IntKind.i64.wrap (z19+(IntKind.i64.wrap (((bx wk ([48]:ae)).length:Int) - ((cN (bx wk ([48]:ae)) ([48]:ae)).length:Int))))) (fun Fi uR=>k0 Fi uR)))))))))) =
  if z20 = []then k0 (finD (y2 != 0) wk z19).1 (finD (y2 != 0) wk z19).2 else k0 ⟨0,0⟩ false:=by
 have q3:(xF ([48]:ae)&&decide (([48]:ae).length<4294967281))=true:=rfl;have htl:(bx wk [48]).length≤wk.length:=C2 _ _;obtain ⟨n,hn⟩:=trimR_pre (bx wk [48]);have htr:(bx wk [48]).length=(cN (bx wk [48]) [48]).length+n:=by have:=congrArg List.length hn; rw[List.length_append,o8]at this; exact this
 rw[q3,ao rfl,ao rfl];by_cases hz:z20 = []
 ·subst hz;have hbe:((([]:ae)==([]:ae)))=true:=rfl;rw[hbe,if_pos rfl];simp only[Bool.not_true,cond_false];have w0:IntKind.i64.wrap (((bx wk [48]).length:Int) - ((cN (bx wk [48]) [48]).length:Int))=((bx wk [48]).length:Int) - ((cN (bx wk [48]) [48]).length:Int):=cv (by omega) (by omega);have w1:IntKind.i64.wrap (z19+(((bx wk [48]).length:Int) - ((cN (bx wk [48]) [48]).length:Int)))=z19+(((bx wk [48]).length:Int) - ((cN (bx wk [48]) [48]).length:Int)):=cv (by omega) (by omega);rw[w0,w1,ao (aE (by omega)),ao (aE (by simp only[List.length_append,List.length_cons,List.length_nil]; omega)),Bool.cond_self]
  unfold finD;have hc:(([48]:ae)++(cN (bx wk ([48]:ae)) ([48]:ae)))=48::cN (bx wk [48]) [48]:=rfl;rw[hc];by_cases h0:cN (bx wk [48]) [48] = []
  ·rw[h0,if_pos rfl];have a0:eH (48::([]:ae))=0:=by decide +kernel
   have a1:decide (((([]:ae)).length:Int)>18)=false:=rfl;have a2:IntKind.i64.wrap (0 - 0)=0:=by decide
   rw[a0,a1,cond_false,a2,XX,Bool.cond_self]
  ·rw[if_neg h0];obtain ⟨f1,f2,f3⟩:=YR wk h h0;have hX : -3000000≤z19+(((bx wk [48]).length:Int) - ((cN (bx wk [48]) [48]).length:Int)):=by omega
   generalize cN (bx wk [48]) [48]=sh at *;generalize (z19+(((bx wk [48]).length:Int) - (sh.length:Int)))=X at *;have Nk:1≤sh.length:=by cases sh with|nil=>exact (h0 rfl).elim|cons _ _=>simp
   by_cases h18:sh.length≤18
   ·rw[bK (show ¬(sh.length:Int)>18 by omega),cond_false];have jz:=valD_lt sh 0 f1;have hp:(10:Nat) ^ sh.length≤10 ^ 18:=Nat.pow_le_pow_right (by omega) h18;have e18:(10:Nat) ^ 18=1000000000000000000:=rfl;have v48:wh (48::sh) 0=wh sh 0:=rfl;have ha:eH (48::sh)=(wh sh 0:Int):=by
     obtain ⟨i1,_⟩:=atoi_dig (48::sh) (fun x hx=>by rcases List.mem_cons.1 hx with rfl|hx; (unfold om; decide); exact f1 x hx) (by simp);unfold eH;rw[i1 (by rw[v48]; omega),v48]
    rw[ha];have hm:Int.tmod (wh sh 0:Int) 10≠0:=by rw[Int.tmod_eq_emod_of_nonneg (by omega)]; omega
    cases hy:(y2 != 0)with
    | true =>
     rw[cond_true,if_pos rfl,cv (by omega) (by omega)];have e0:(0 - (wh sh 0:Int)) = -(wh sh 0:Int):=by omega
     rw[e0];exact make_unit _ _ (tmod_neg hm) (by unfold zm; omega) (by omega) _
    | false =>
     rw[cond_false,if_neg (by simp)];exact make_unit _ _ hm (by unfold zm; omega) (by omega) _
   ·rw[aE (show (sh.length:Int)>18 by omega),cond_true];have hp:(10:Nat) ^ 18≤10 ^ (sh.length - 1):=Nat.pow_le_pow_right (by omega) (by omega);have e18:(10:Nat) ^ 18=1000000000000000000:=rfl;rw[mkD_far _ (by split <;> omega)]
 ·have hbe:(z20==([]:ae))=false:=by rw[beq_eq_false_iff_ne]; exact hz
  rw[hbe,if_neg hz];rfl
def noD:fO×Bool:=(⟨0,0⟩,false)
def tailD (neg:Bool) (all:ae) (x:Int) (X:ae):fO×Bool :=
 if (uF [101,69] X).1=0 then (if (uF [101,69] X).2 = []then finD neg all x else noD)
 else if (expP (uF [101,69] X).2).2.1=false then noD
 else if (expP (uF [101,69] X).2).2.2 = []then finD neg all (x+(expP (uF [101,69] X).2).1)else noD
def Ef (s:ae):fO×Bool :=
 let q:=uF [45] s
 let I:=takeD q.2
 let r:=RJ q.2
 if 400<s.length then noD else if I = []then noD else if 1<I.length∧(I.getD 0 0).toNat=48 then noD
 else if (uF [46] r).1=0 then tailD (q.1 != 0) I 0 (uF [46] r).2
 else if takeD (uF [46] r).2 = []then noD
 else tailD (q.1 != 0) (I++takeD (uF [46] r).2) (-((takeD (uF [46] r).2).length:Int)) (RJ (uF [46] r).2)
theorem expP_lim (X:ae) : -1000000≤(expP X).1∧(expP X).1≤1000000:=by
 unfold expP;simp only;split <;> omega
theorem neN (n:Nat):(((n:Nat):Int) != 0)=(n != 0):=by
 cases n with
 | zero=>rfl
 | succ n=>rw[bne_iff_ne.2 (by omega),bne_iff_ne.2 (by omega)]
theorem tailD_ok {R:Type} (q:Nat) (all:ae) (x:Int) (X:ae) (ha:∀c∈all,om c) (hl:all.length≤900) (h1 : -1000≤x) (h2:x≤0) (hX:X.length≤1000) (k:fO→Bool→Option R) :
  bb ([101,69]:ae) X (fun IT JG=>bif (IT != 0)then (bC JG (fun Hm Ql NH=>bif (!Ql)then (k (⟨0,0⟩:fO) false)else (bX (xF ([48]:ae)&&decide (([48]:ae).length<4294967281)) (bX (xF ([48]:ae)&&decide (([48]:ae).length<4294967281)) (bif (!(NH==([]:ae)))then (k (⟨0,0⟩:fO) false)else (bif (decide (((cN (bx all ([48]:ae)) ([48]:ae)).length:Int)>(18:Int)))then (k (⟨0,0⟩:fO) false)else (bX (decide (1+(cN (bx all ([48]:ae)) ([48]:ae)).length≤9223372036854775807)) (bX (decide ((([48]:ae)++(cN (bx all ([48]:ae)) ([48]:ae))).length≤281474976710656)) (bif xG (([48]:ae)++(cN (bx all ([48]:ae)) ([48]:ae)))then (bif ((q:Int) != 0)then (bm (IntKind.i64.wrap (0 - (eH (([48]:ae)++(cN (bx all ([48]:ae)) ([48]:ae)))))) (IntKind.i64.wrap ((IntKind.i64.wrap (x+Hm))+(IntKind.i64.wrap (((bx all ([48]:ae)).length:Int) - ((cN (bx all ([48]:ae)) ([48]:ae)).length:Int))))) (fun JF Sz=>k JF Sz))else (bm (eH (([48]:ae)++(cN (bx all ([48]:ae)) ([48]:ae)))) (IntKind.i64.wrap ((IntKind.i64.wrap (x+Hm))+(IntKind.i64.wrap (((bx all ([48]:ae)).length:Int) - ((cN (bx all ([48]:ae)) ([48]:ae)).length:Int))))) (fun Fi uR=>k Fi uR)))else (bif ((q:Int) != 0)then (bm (IntKind.i64.wrap (0 - (eH (([48]:ae)++(cN (bx all ([48]:ae)) ([48]:ae)))))) (IntKind.i64.wrap ((IntKind.i64.wrap (x+Hm))+(IntKind.i64.wrap (((bx all ([48]:ae)).length:Int) - ((cN (bx all ([48]:ae)) ([48]:ae)).length:Int))))) (fun JF Sz=>k JF Sz))else (bm (eH (([48]:ae)++(cN (bx all ([48]:ae)) ([48]:ae)))) (IntKind.i64.wrap ((IntKind.i64.wrap (x+Hm))+(IntKind.i64.wrap (((bx all ([48]:ae)).length:Int) - ((cN (bx all ([48]:ae)) ([48]:ae)).length:Int))))) (fun Fi uR=>k Fi uR))))))))))))else (bX (xF ([48]:ae)&&decide (([48]:ae).length<4294967281)) (bX (xF ([48]:ae)&&decide (([48]:ae).length<4294967281)) (bif (!(JG==([]:ae)))then (k (⟨0,0⟩:fO) false)else (bif (decide (((cN (bx all ([48]:ae)) ([48]:ae)).length:Int)>(18:Int)))then (k (⟨0,0⟩:fO) false)else (bX (decide (1+(cN (bx all ([48]:ae)) ([48]:ae)).length≤9223372036854775807)) (bX (decide ((([48]:ae)++(cN (bx all ([48]:ae)) ([48]:ae))).length≤281474976710656)) (bif xG (([48]:ae)++(cN (bx all ([48]:ae)) ([48]:ae)))then (bif ((q:Int) != 0)then (bm (IntKind.i64.wrap (0 - (eH (([48]:ae)++(cN (bx all ([48]:ae)) ([48]:ae)))))) (IntKind.i64.wrap (x+(IntKind.i64.wrap (((bx all ([48]:ae)).length:Int) - ((cN (bx all ([48]:ae)) ([48]:ae)).length:Int))))) (fun JF Sz=>k JF Sz))else (bm (eH (([48]:ae)++(cN (bx all ([48]:ae)) ([48]:ae)))) (IntKind.i64.wrap (x+(IntKind.i64.wrap (((bx all ([48]:ae)).length:Int) - ((cN (bx all ([48]:ae)) ([48]:ae)).length:Int))))) (fun Fi uR=>k Fi uR)))else (bif ((q:Int) != 0)then (bm (IntKind.i64.wrap (0 - (eH (([48]:ae)++(cN (bx all ([48]:ae)) ([48]:ae)))))) (IntKind.i64.wrap (x+(IntKind.i64.wrap (((bx all ([48]:ae)).length:Int) - ((cN (bx all ([48]:ae)) ([48]:ae)).length:Int))))) (fun JF Sz=>k JF Sz))else (bm (eH (([48]:ae)++(cN (bx all ([48]:ae)) ([48]:ae)))) (IntKind.i64.wrap (x+(IntKind.i64.wrap (((bx all ([48]:ae)).length:Int) - ((cN (bx all ([48]:ae)) ([48]:ae)).length:Int))))) (fun Fi uR=>k Fi uR)))))))))))=k (tailD (q != 0) all x X).1 (tailD (q != 0) all x X).2:=by
 rw[Ii _ _ (by omega)];unfold tailD;have l5:=WM [101,69] X;generalize uF [101,69] X=g at *;rw[neN];by_cases hg:g.1=0
 ·rw[if_pos hg,hg];simp only[bne_self_eq_false,cond_false];rw[fin_ok _ _ _ _ ha (by omega) (by omega),neN];split <;> rfl
 ·rw[if_neg hg,bne_iff_ne.2 hg,cond_true,exp_any _ (by omega)];have hlim:=expP_lim g.2;generalize expP g.2=z at *;rw[cv (n:=x+z.1) (by omega) (by omega)];cases hz:z.2.1 with
  | false=>rfl
  | true =>
   rw[Bool.not_true,cond_false,fin_ok _ _ _ _ ha (by omega) (by omega),neN,if_neg (show ¬(true=false) by simp)];split <;> rfl
theorem parse_any {R:Type} (s:ae) (hs:s.length≤4000000000) (k:fO→Bool→Option R):ei s k=k (Ef s).1 (Ef s).2:=by
 have e:ei s k=qx bm bb aT bC s k:=rfl;rw[e];unfold qx;have l1:=WM [45] s;rw[Ii _ _ hs];unfold Ef;simp only;generalize uF [45] s=q at *;rw[Ut _ (by omega)];have l2:=take_le q.2;have l3:=dropD_le q.2;have dI:=Jr q.2;generalize takeD q.2=I at *;generalize RJ q.2=r at *;by_cases h400:400<s.length
 ·rw[aE (show (s.length:Int)>400 by omega),cond_true,if_pos h400];rfl
 rw[bK (show ¬(s.length:Int)>400 by omega),cond_false,if_neg h400];by_cases hI:I = []
 ·subst hI;rw[if_pos rfl];rfl
 have jW:(I==([]:ae))=false:=by rw[beq_eq_false_iff_ne]; exact hI
 rw[jW,cond_false,if_neg hI];have Nk:1≤I.length:=by cases I with|nil=>exact (hI rfl).elim|cons _ _=>simp
 have q48:(((I.getD 0 0).toNat:Int)==48)=decide ((I.getD 0 0).toNat=48):=eqI _ 48;rw[ao (aE (show (0:Int)<I.length by omega)),q48];by_cases h48:1<I.length∧(I.getD 0 0).toNat=48
 ·rw[if_pos h48,aE (show (I.length:Int)>1 by omega),aE h48.2];rfl
 rw[if_neg h48];have cut:∀x:Option R,(bif decide ((I.length:Int)>1)then (bif decide ((I.getD 0 0).toNat=48)then k ⟨0,0⟩ false else x)else x)=x:=fun x=>by
  by_cases h1:1<I.length
  ·rw[aE (show (I.length:Int)>1 by omega),bK (fun h=>h48 ⟨h1,h⟩)]; rfl
  ·rw[bK (show ¬(I.length:Int)>1 by omega)]; rfl
 rw[cut];rw[Ii _ _ (by omega)];have l4:=WM [46] r;generalize uF [46] r=p at *;rw[neN];by_cases hp:p.1=0
 ·rw[if_pos hp,hp];simp only[bne_self_eq_false,cond_false];exact tailD_ok q.1 I 0 p.2 dI (by omega) (by omega) (by omega) (by omega) k
 ·rw[if_neg hp,bne_iff_ne.2 hp,cond_true,Ut _ (by omega)];have l5:=take_le p.2;have l6:=dropD_le p.2;have dF:=Jr p.2;generalize takeD p.2=F at *;generalize RJ p.2=Y at *;by_cases hF:F = []
  ·subst hF;rw[if_pos rfl];rfl
  have jW:(F==([]:ae))=false:=by rw[beq_eq_false_iff_ne]; exact hF
  rw[jW,cond_false,if_neg hF,ao (aE (by omega)),cv (n:=0 - (F.length:Int)) (by omega) (by omega)];have e0:(0:Int) - (F.length:Int) = -(F.length:Int):=by omega
  rw[e0];exact tailD_ok q.1 (I++F) (-(F.length:Int)) Y (fun c hc=>(List.mem_append.1 hc).elim (dI c) (dF c)) (by rw[List.length_append]; omega) (by omega) (by omega) (by omega) k
theorem longP_sfx {s r:ae} {c:Nat} (h:WJ s=some (c,r)):r <:+ s:=by
 unfold WJ at h;split at h
 ·cases h
 ·rename_i v r1 hu;obtain ⟨_,_,hr⟩:=Jq hu;have s1:r1 <:+ s:=by rw[hr]; exact List.drop_suffix _ _
  split at h
  ·cases h; exact s1
  ·split at h
   ·cases h
   ·split at h
    ·split at h
     ·cases h
     ·rename_i w r2 hu2;obtain ⟨_,_,hr2⟩:=Jq hu2;split at h
      ·simp only[Option.some.injEq,Prod.mk.injEq]at h;obtain ⟨_,rfl⟩:=h;rw[hr2];exact ((List.drop_suffix _ _).trans (List.drop_suffix _ _)).trans s1
      ·cases h
    ·cases h
theorem escP_sfx {s r:ae} {c:Nat} (h:escP s=some (c,r)):r <:+ s:=by
 cases s with
 | nil=>cases h
 | cons b t =>
  have st:t <:+ b::t:=List.suffix_cons b t;simp only[escP]at h;split at h
  ·cases h; exact st
  split at h
  ·cases h; exact st
  split at h
  ·cases h; exact st
  split at h
  ·cases h; exact st
  split at h
  ·cases h; exact st
  split at h
  ·cases h; exact st
  split at h
  ·exact (longP_sfx h).trans st
  ·cases h
theorem plainP_sfx {s r:ae} {c:Nat} (h:OS s=some (c,r)):r <:+ s:=by
 unfold OS at h;split at h
 ·cases h
 split at h
 ·cases h
 split at h
 ·cases h
 simp only[Option.some.injEq,Prod.mk.injEq]at h;rw[←h.2];exact List.drop_suffix _ _
theorem stepU_sfx {s r:ae} {c:Nat} (h:WL s=some (c,r)):r <:+ s:=by
 unfold WL at h;split at h
 ·exact (escP_sfx h).trans (List.drop_suffix _ _)
 ·exact plainP_sfx h
theorem uq_sfx:∀(n:Nat) (s o o' r:ae),uq n s o=some (o',r)→r <:+ s∧r.length<s.length∧∃rs:List Nat,(∀c∈rs,vr c)∧o'=o++fv rs
 | 0,_,_,_,_,h=>by cases h
 | n+1,s,o,o',r,h=>by
  simp only[uq]at h;split at h
  ·rename_i Tx;simp only[Option.some.injEq,Prod.mk.injEq]at h;obtain ⟨rfl,rfl⟩:=h;refine ⟨List.drop_suffix _ _,?_, [],by simp,by simp[fv]⟩;cases s with
   | nil=>cases Tx
   | cons b t=>simp
  ·split at h
   ·cases h
   ·rename_i c r1 hs;obtain ⟨h1,h2,rs,h3,h4⟩:=uq_sfx n r1 (o++enc c) o' r h;obtain ⟨hv,hl⟩:=stepU_ok hs;refine ⟨h1.trans (stepU_sfx hs),by omega,c::rs,fun x hx => ?_,?_⟩
    ·rcases List.mem_cons.1 hx with rfl|hx
     ·exact hv
     ·exact h3 x hx
    ·rw[h4]; simp[fv]
theorem uqS_sfx {s o r:ae} (h:uqS s=some (o,r)):r <:+ s∧r.length+1<s.length∧∃rs:List Nat,(∀c∈rs,vr c)∧o=fv rs:=by
 unfold uqS at h;split at h
 ·rename_i Tx;obtain ⟨h1,h2,rs,h3,h4⟩:=uq_sfx _ _ _ _ _ h;refine ⟨h1.trans (List.drop_suffix _ _),?_,rs,h3,by simpa using h4⟩;rw[List.length_drop]at h2;omega
 ·cases h
theorem sfx_drop {s r:ae} (h:r <:+ s):r=s.drop (s.length - r.length):=by
 obtain ⟨t,rfl⟩:=h;rw[List.length_append,Nat.add_sub_cancel,List.drop_left]
def numS:ae := [48,49,50,51,52,53,54,55,56,57,43,45,46,101,69]
def letS:ae := [97,98,99,100,101,102,103,104,105,106,107,108,109,110,111,112,113,114,115,116,117,118,119,120,121,122]
def blaS:ae := [32,9,10,13]
def sigS:ae := [123,125,91,93,44,58]
def GB (b:UInt8):Bool:=numS.contains b
def FF (b:UInt8):Bool:=letS.contains b
def sT (b:UInt8):Bool:=blaS.contains b
def Uu (b:UInt8):Bool:=sigS.contains b
def ym:ae := [116,114,117,101]
def lN:ae := [102,97,108,115,101]
def sP:ae := [110,117,108,108]
def tokS (s:ae):Option (Token×ae) :=
 match s with
 | []=>none
 | c::t =>
  if c.toNat=45∨(48≤c.toNat∧c.toNat≤57)then
   (if (Ef (s.takeWhile GB)).2 then some (⟨3,s.takeWhile GB,(Ef (s.takeWhile GB)).1,0⟩,s.dropWhile GB)else none)
  else if c.toNat=34 then (match uqS s with|some (o,r)=>some (⟨2,o,⟨0,0⟩,0⟩,r)|none=>none)
  else if Uu c then some (⟨1, [c],⟨0,0⟩,0⟩,t)
  else if s.takeWhile FF=ym∨s.takeWhile FF=lN∨s.takeWhile FF=sP then some (⟨4,s.takeWhile FF,⟨0,0⟩,0⟩,s.dropWhile FF)
  else none
theorem tw_nil {p:UInt8→Bool} {c:UInt8} {t:ae} (h:p c=true):((c::t).dropWhile p).length<(c::t:ae).length:=by
 rw[List.dropWhile_cons,if_pos h];have:=C2 p t;simp only[List.length_cons];omega
theorem tokS_sfx {s r:ae} {t:Token} (h:tokS s=some (t,r)):r <:+ s∧r.length<s.length:=by
 cases s with
 | nil=>cases h
 | cons c u =>
  simp only[tokS]at h;split at h
  ·rename_i hc;split at h
   ·simp only[Option.some.injEq,Prod.mk.injEq]at h;rw[←h.2];refine ⟨List.dropWhile_suffix _,tw_nil ?_⟩;have all:∀n:Fin 256,(n.val=45∨(48≤n.val∧n.val≤57))→GB (UInt8.ofNat n.val)=true:=by decide +kernel
    have:=all ⟨c.toNat,UInt8.toNat_lt c⟩ hc;simpa using this
   ·cases h
  ·split at h
   ·split at h
    ·rename_i o q hq;simp only[Option.some.injEq,Prod.mk.injEq]at h;obtain ⟨_,rfl⟩:=h;obtain ⟨h1,h2,_⟩:=uqS_sfx hq;exact ⟨h1,by omega⟩
    ·cases h
   ·split at h
    ·simp only[Option.some.injEq,Prod.mk.injEq]at h;rw[←h.2];exact ⟨List.suffix_cons _ _,by simp⟩
    ·split at h
     ·rename_i hw;simp only[Option.some.injEq,Prod.mk.injEq]at h;rw[←h.2];refine ⟨List.dropWhile_suffix _,tw_nil ?_⟩;cases hl:FF c with
      | true=>rfl
      | false =>
       have e:(c::u).takeWhile FF = []:=by rw[List.takeWhile_cons,hl]; rfl
       rw[e]at hw;rcases hw with hw|hw|hw <;> cases hw
     ·cases h
def putT (t:Token) (n:Int):Token:=⟨t.kind,t.text,t.num,n⟩
def zw:Nat→Nat→ae→List Token→List Token×Int×Int
 | 0,_,_,_=>([],0,0)
 | n+1,p,s,out =>
  if s.dropWhile sT = []then (out ++ [⟨5, [],⟨0,0⟩,((p+(s.takeWhile sT).length:Nat):Int)⟩],0,0)
  else match tokS (s.dropWhile sT)with
   | none=>([],30,((p+(s.takeWhile sT).length:Nat):Int))
   | some (t,r)=>zw n (p+(s.length - r.length)) r (out ++ [putT t ((p+(s.takeWhile sT).length:Nat):Int)])
def sQ (s:ae):List Token×Int×Int:=if 20000<s.length then ([],30,0)else zw (s.length+1) 0 s []
theorem scanN_fuel:∀(n m p:Nat) (s:ae) (out:List Token),s.length<n→s.length<m→zw n p s out=zw m p s out
 | 0,_,_,_,_,h,_=>by omega
 | _,0,_,_,_,_,h=>by omega
 | n+1,m+1,p,s,out,h1,h2=>by
  simp only[zw];split
  ·rfl
  ·split
   ·rfl
   ·rename_i t r hr;have h3:=(tokS_sfx hr).2;have h4:=C2 sT s;exact scanN_fuel n m _ r _ (by omega) (by omega)
abbrev rR:=ae×ae×Token
def uG:List rR→ae→ae
 | [],z=>z
 | x::l,z=>x.1++(x.2.1++uG l z)
def okW:List rR→ae→Prop
 | [],_=>True
 | x::l,z=>(∀b∈x.1,sT b=true)∧(∃c u,x.2.1=c::u∧sT c=false)∧tokS (x.2.1++uG l z)=some (x.2.2,uG l z)∧okW l z
def tokW:Nat→List rR→List Token
 | _, [] => []
 | p,x::l=>putT x.2.2 ((p+x.1.length:Nat):Int)::tokW (p+x.1.length+x.2.1.length) l
def LW:List rR→Nat
 | []=>0
 | x::l=>x.1.length+x.2.1.length+LW l
theorem WN:∀(l:List rR) (z:ae),(uG l z).length=LW l+z.length
 | [],z=>by simp[uG,LW]
 | x::l,z=>by simp only[uG,LW,List.length_append,WN l z]; omega
theorem tw_gap:∀(g r:ae),(∀b∈g,sT b=true)→(∃c u,r=c::u∧sT c=false)∨r = []→(g++r).takeWhile sT=g∧(g++r).dropWhile sT=r
 | [],r,_,h=>by
  rcases h with ⟨c,u,rfl,hc⟩|rfl
  ·exact ⟨by rw[List.nil_append,List.takeWhile_cons,hc]; rfl,by rw[List.nil_append,List.dropWhile_cons,hc]; rfl⟩
  ·exact ⟨rfl,rfl⟩
 | b::g,r,hg,h=>by
  have hb:=hg b (by simp);obtain ⟨h1,h2⟩:=tw_gap g r (fun x hx=>hg x (by simp[hx])) h;refine ⟨?_,?_⟩
  ·rw[List.cons_append,List.takeWhile_cons,hb,if_pos rfl,h1]
  ·rw[List.cons_append,List.dropWhile_cons,hb,if_pos rfl,h2]
theorem scan_words:∀(l:List rR) (z:ae) (n p:Nat) (out:List Token),okW l z→l.length<n→zw n p (uG l z) out=zw (n - l.length) (p+LW l) z (out++tokW p l)
 | [],z,n,p,out,_,_=>by simp[uG,LW,tokW]
 | x::l,z,n,p,out,h,hn=>by
  obtain ⟨h1,⟨c,u,h2,h3⟩,h4,h5⟩:=h;obtain ⟨n,rfl⟩:∃m,n=m+1:=⟨n - 1,by omega⟩;simp only[List.length_cons]at hn;obtain ⟨t1,t2⟩:=tw_gap x.1 (x.2.1++uG l z) h1 (.inl ⟨c,u++uG l z,by rw[h2]; rfl,h3⟩);have hlay:uG (x::l) z=x.1++(x.2.1++uG l z):=rfl;have jW:¬(x.2.1++uG l z = []):=by rw[h2]; simp
  have hw:0<x.2.1.length:=by rw[h2]; simp
  simp only[zw];rw[hlay,t1,t2,if_neg jW,h4];simp only;have e1:(x.1++(x.2.1++uG l z)).length - (uG l z).length=x.1.length+x.2.1.length:=by simp only[List.length_append]; omega
  rw[e1,scan_words l z n _ _ h5 (by omega)];have e2:n+1 - (x::l).length=n - l.length:=by simp
  have e3:p+(x.1.length+x.2.1.length)+LW l=p+LW (x::l):=by simp only[LW]; omega
  have e4:p+(x.1.length+x.2.1.length)=p+x.1.length+x.2.1.length:=by omega
  rw[e2,e3];simp only[tokW,List.append_assoc,List.singleton_append];rw[e4]
theorem scan_end {g:ae} (hg:∀b∈g,sT b=true) (n p:Nat) (out:List Token):zw (n+1) p g out=(out ++ [⟨5, [],⟨0,0⟩,((p+g.length:Nat):Int)⟩],0,0):=by
 obtain ⟨t1,t2⟩:=tw_gap g [] hg (.inr rfl);rw[List.append_nil]at t1 t2;simp only[zw];rw[t1,t2,if_pos rfl]
theorem YS (l:List rR) (g:ae) (hg:∀b∈g,sT b=true) (h:okW l g) (hl:LW l+g.length≤20000):sQ (uG l g)=(tokW 0 l ++ [⟨5, [],⟨0,0⟩,((LW l+g.length:Nat):Int)⟩],0,0):=by
 unfold sQ;have hlen:=WN l g;rw[if_neg (by omega)];have hcount:l.length≤LW l:=by
  clear hl hlen
  induction l with
  | nil=>simp[LW]
  | cons x l ih =>
   obtain ⟨_,⟨c,u,h2,_⟩,_,h5⟩:=h;have:=ih h5;have hw:0<x.2.1.length:=by rw[h2]; simp
   simp only[LW,List.length_cons];omega
 rw[scan_words l g _ 0 [] h (by omega),hlen];obtain ⟨m,hm⟩:∃m,LW l+g.length+1 - l.length=m+1:=⟨LW l+g.length - l.length,by omega⟩;rw[hm,scan_end hg];simp
def RL (r:ae):Prop:=r = []∨∃b u,r=b::u∧GB b=false∧FF b=false
def Word (w:ae) (t:Token):Prop:=(∃c u,w=c::u∧sT c=false)∧∀r,RL r→tokS (w++r)=some (t,r)
theorem tw_stop {p:UInt8→Bool}:∀(w r:ae),(∀b∈w,p b=true)→(r = []∨∃b u,r=b::u∧p b=false)→(w++r).takeWhile p=w∧(w++r).dropWhile p=r
 | [],r,_,h=>by
  rcases h with rfl|⟨b,u,rfl,hb⟩
  ·exact ⟨rfl,rfl⟩
  ·exact ⟨by rw[List.nil_append,List.takeWhile_cons,hb]; rfl,by rw[List.nil_append,List.dropWhile_cons,hb]; rfl⟩
 | b::w,r,hw,h=>by
  have hb:=hw b (by simp);obtain ⟨h1,h2⟩:=tw_stop w r (fun x hx=>hw x (by simp[hx])) h;exact ⟨by rw[List.cons_append,List.takeWhile_cons,hb,if_pos rfl,h1],by rw[List.cons_append,List.dropWhile_cons,hb,if_pos rfl,h2]⟩
theorem stop_num {r:ae} (h:RL r):r = []∨∃b u,r=b::u∧GB b=false:=h.imp id fun ⟨b,u,e,h1,_⟩=>⟨b,u,e,h1⟩
theorem stop_let {r:ae} (h:RL r):r = []∨∃b u,r=b::u∧FF b=false:=h.imp id fun ⟨b,u,e,_,h1⟩=>⟨b,u,e,h1⟩
theorem word_sign (c:UInt8) (h:Uu c=true):Word [c] ⟨1, [c],⟨0,0⟩,0⟩:=by
 have all:∀n:Fin 256,Uu (UInt8.ofNat n.val)=true→sT (UInt8.ofNat n.val)=false∧¬(n.val=45∨(48≤n.val∧n.val≤57))∧¬n.val=34:=by decide +kernel
 obtain ⟨h1,h2,h3⟩:=all ⟨c.toNat,UInt8.toNat_lt c⟩ (by simpa using h);refine ⟨⟨c, [],rfl,by simpa using h1⟩,fun r _ => ?_⟩;show tokS (c::r)=_;simp only[tokS];rw[if_neg h2,if_neg h3,if_pos h]
theorem Iq {w:ae} (h:w=ym∨w=lN∨w=sP):Word w ⟨4,w,⟨0,0⟩,0⟩:=by
 have hl:∀b∈w,FF b=true:=by rcases h with rfl|rfl|rfl <;> decide
 have hc:∃c u,w=c::u∧sT c=false∧¬(c.toNat=45∨(48≤c.toNat∧c.toNat≤57))∧¬c.toNat=34∧Uu c=false:=by
  rcases h with rfl|rfl|rfl <;> exact ⟨_,_,rfl,by decide,by decide,by decide,by decide⟩
 obtain ⟨c,u,rfl,h1,h2,h3,h4⟩:=hc;refine ⟨⟨c,u,rfl,h1⟩,fun r hr => ?_⟩;obtain ⟨t1,t2⟩:=tw_stop (c::u) r hl (stop_let hr);show tokS (c::(u++r))=_;have e:(c::(u++r):ae)=(c::u)++r:=rfl;simp only[tokS];rw[if_neg h2,if_neg h3,h4,if_neg (by simp),e,t1,t2,if_pos h]
theorem word_text {rs:List Nat} (hr:∀c∈rs,vr c):Word (qt rs) ⟨2,fv rs,⟨0,0⟩,0⟩:=by
 have e:qt rs=34::(WK rs ++ [34]):=by unfold qt; simp
 refine ⟨⟨34,_,e,by decide⟩,fun r _ => ?_⟩;have hu:=uqS_qt rs hr r;have e2:qt rs++r=34::(WK rs ++ [34]++r):=by rw[e]; rfl
 rw[e2]at hu ⊢;simp only[tokS];rw[if_neg (by decide),if_pos (by decide),hu]
theorem parseS_prt {d:fO} (hd:Fm d):Ef (ZB d)=(d,true):=by
 have key:∀k:fO→Bool→Option (fO×Bool),ei (ZB d) k=k d true:=fun k=>by
  by_cases h0:d.aq=0
  ·rw[hd.zero h0,prt_zero,parse_zero]
  ·have:=parse_prt hd h0 [] 0 (.inl ⟨rfl,rfl⟩) (by omega) (by simp) k;rw[List.append_nil,Int.add_zero,make_same hd h0]at this;exact this
 have hl:(ZB d).length≤4000000000:=by
  by_cases h0:d.aq=0
  ·rw[hd.zero h0,prt_zero]; simp
  ·obtain ⟨I,F,pt,a,b,e1,e2,i0,i1,f0,f1,fl,il,iD,fD⟩:=XZ d hd h0;rw[e1];cases hdn:decide (d.aq<0) <;> cases pt <;> simp <;> omega
 have h1:=parse_any (ZB d) hl (fun a b=>some (a,b));rw[key]at h1;simp only[Option.some.injEq]at h1;rw[h1]
theorem prt_chars {d:fO} (hd:Fm d):(∀b∈ZB d,GB b=true)∧(∃c u,ZB d=c::u∧(c.toNat=45∨(48≤c.toNat∧c.toNat≤57)))∧(ZB d).length≤60:=by
 have dig:∀b:UInt8,om b→GB b=true:=fun b hb=>by
  have all:∀n:Fin 256,(48≤n.val∧n.val≤57)→GB (UInt8.ofNat n.val)=true:=by decide +kernel
  have:=all ⟨b.toNat,UInt8.toNat_lt b⟩ hb;simpa using this
 by_cases h0:d.aq=0
 ·rw[hd.zero h0,prt_zero];exact ⟨by decide,⟨48, [],rfl,by decide⟩,by simp⟩
 ·obtain ⟨I,F,pt,a,b,e1,e2,i0,i1,f0,f1,fl,il,iD,fD⟩:=XZ d hd h0;rw[e1];refine ⟨fun x hx => ?_,?_,?_⟩
  ·rcases List.mem_append.1 hx with hx|hx
   ·split at hx
    ·simp at hx; subst hx; decide
    ·simp at hx
   ·rcases List.mem_append.1 hx with hx|hx
    ·exact dig x (iD x hx)
    ·split at hx
     ·rcases List.mem_cons.1 hx with rfl|hx
      ·decide
      ·exact dig x (fD x hx)
     ·simp at hx
  ·cases I with
   | nil=>exact (i0 rfl).elim
   | cons c I =>
    cases decide (d.aq<0)with
    | true=>exact ⟨45,_,rfl,by decide⟩
    | false=>exact ⟨c,_,rfl, .inr (iD c (by simp))⟩
  ·cases hdn:decide (d.aq<0) <;> cases pt <;> simp <;> omega
theorem word_num {d:fO} (hd:Fm d):Word (ZB d) ⟨3,ZB d,d,0⟩:=by
 obtain ⟨h1,⟨c,u,h2,h3⟩,_⟩:=prt_chars hd;have hp:=parseS_prt hd;have hb:sT c=false:=by
  have all:∀n:Fin 256,(n.val=45∨(48≤n.val∧n.val≤57))→sT (UInt8.ofNat n.val)=false:=by decide +kernel
  have:=all ⟨c.toNat,UInt8.toNat_lt c⟩ h3;simpa using this
 refine ⟨⟨c,u,h2,hb⟩,fun r hr => ?_⟩;obtain ⟨t1,t2⟩:=tw_stop (ZB d) r h1 (stop_num hr);have e:ZB d++r=c::(u++r):=by rw[h2]; rfl
 rw[e]at t1 t2 ⊢;simp only[tokS];rw[if_pos h3,t1,t2,hp];rfl
def sg (c:UInt8):rR:=([], [c],⟨1, [c],⟨0,0⟩,0⟩)
theorem GC:∀(a b:List rR) (z:ae),uG (a++b) z=uG a (uG b z)
 | [],_,_=>rfl
 | x::a,b,z=>by simp only[List.cons_append,uG,GC a b z]
theorem Eg:∀(a b:List rR) (z:ae),okW (a++b) z↔okW a (uG b z)∧okW b z
 | [],b,z=>by simp[okW]
 | x::a,b,z=>by simp only[List.cons_append,okW,Eg a b z,GC,and_assoc]
theorem GD {w:ae} {t:Token} (h:Word w t) {z:ae} (hz:RL z):okW [([],w,t)] z:=⟨by simp,h.1,h.2 z hz,trivial⟩
theorem GF {c:UInt8} (h:Uu c=true) (z:ae):okW [sg c] z:=by
 refine ⟨by simp[sg],(word_sign c h).1,?_,trivial⟩;have all:∀n:Fin 256,Uu (UInt8.ofNat n.val)=true→¬(n.val=45∨(48≤n.val∧n.val≤57))∧¬n.val=34:=by decide +kernel
 obtain ⟨h2,h3⟩:=all ⟨c.toNat,UInt8.toNat_lt c⟩ (by simpa using h);show tokS (c::z)=some (⟨1, [c],⟨0,0⟩,0⟩,z);simp only[tokS];rw[if_neg h2,if_neg h3,if_pos h]
theorem Sh {c:UInt8} (h:Uu c=true) (z:ae):RL (c::z):=by
 have all:∀n:Fin 256,Uu (UInt8.ofNat n.val)=true→GB (UInt8.ofNat n.val)=false∧FF (UInt8.ofNat n.val)=false:=by decide +kernel
 obtain ⟨h2,h3⟩:=all ⟨c.toNat,UInt8.toNat_lt c⟩ (by simpa using h);exact .inr ⟨c,z,rfl,by simpa using h2,by simpa using h3⟩
theorem refMake_end {R:Type} (u x:Int) (k:fO→Bool→Option R) :
  (bif (decide (u>(1000000000000000:Int)))then (k (⟨0,0⟩:fO) false)else (bif (decide (u<(-1000000000000000:Int)))then (k (⟨0,0⟩:fO) false)else (bif (decide (x>(9:Int)))then (k (⟨0,0⟩:fO) false)else (bif (decide (x<(-9:Int)))then (k (⟨0,0⟩:fO) false)else (k (⟨u,x⟩:fO) true)))))=k (YP u x).1 (YP u x).2:=by
 unfold YP;by_cases h1:u>1000000000000000
 ·rw[aE h1,if_neg (by omega)]; rfl
 ·rw[bK h1,cond_false];by_cases h2:u < -1000000000000000
  ·rw[aE h2,if_neg (by omega)]; rfl
  ·rw[bK h2,cond_false];by_cases h3:x>9
   ·rw[aE h3,if_neg (by omega)]; rfl
   ·rw[bK h3,cond_false];by_cases h4:x < -9
    ·rw[aE h4,if_neg (by omega)]; rfl
    ·rw[bK h4,cond_false,if_pos (by omega)]
theorem refMake_loop {R:Type} (k:fO→Bool→Option R):∀(j n:Nat) (u x:Int) (d:fO),j<n→Int.tmod u 10≠0→zm (u*10 ^ j)→zm x →
  cB n (u*10 ^ j) x d (fun y6 y7 y8=>bif (decide (y6>(1000000000000000:Int)))then (k (⟨0,0⟩:fO) false)else (bif (decide (y6<(-1000000000000000:Int)))then (k (⟨0,0⟩:fO) false)else (bif (decide (y7>(9:Int)))then (k (⟨0,0⟩:fO) false)else (bif (decide (y7<(-9:Int)))then (k (⟨0,0⟩:fO) false)else (k (⟨y6,y7⟩:fO) true))))) (fun y9 p9 n0 yp=>k yp n0)=k (YP u (x+j)).1 (YP u (x+j)).2:=by
 intro j
 induction j with
 | zero =>
  intro n u x d hn hu hb hx;obtain ⟨m,rfl⟩:∃m,n=m+1:=⟨n - 1,by omega⟩;rw[cB];unfold kn;have e1:u*10 ^ 0=u:=by simp
  have e2:(Int.tmod u 10==0)=false:=by rw[beq_eq_false_iff_ne]; exact hu
  have e3:x+((0:Nat):Int)=x:=by omega
  rw[e1,e2,cond_false,e3];exact refMake_end u x k
 | succ j ih =>
  intro n u x d hn hu hb hx;obtain ⟨m,rfl⟩:∃m,n=m+1:=⟨n - 1,by omega⟩;rw[cB];unfold kn;have ep:u*10 ^ (j+1)=u*10 ^ j*10:=by rw[Int.pow_succ,Int.mul_assoc]
  unfold zm at hb hx;rw[ep]at hb ⊢;have e1:(Int.tmod (u*10 ^ j*10) 10==0)=true:=by rw[Int.mul_tmod_left]; rfl
  have e2:Int.tdiv (u*10 ^ j*10) 10=u*10 ^ j:=Int.mul_tdiv_cancel _ (by omega);rw[e1,cond_true,e2,cv (n:=u*10 ^ j) (by omega) (by omega)];by_cases hx2:x>1099511627776
  ·rw[aE hx2,cond_true];unfold YP;rw[if_neg (by omega)]
  ·rw[bK hx2,cond_false,cv (n:=x+1) (by omega) (by omega)];refine (ih m u (x+1) d (by omega) hu (by unfold zm; omega) (by unfold zm; omega)).trans ?_;have:x+1+(j:Int)=x+((j+1:Nat):Int):=by omega
   rw[this]
theorem refMake_ok {R:Type} (u:Int) (j:Nat) (x:Int) (hu:Int.tmod u 10≠0) (hb:zm (u*10 ^ j)) (hx:zm x) (k:fO→Bool→Option R):vo (u*10 ^ j) x k=k (YP u (x+j)).1 (YP u (x+j)).2:=by
 have e:vo (u*10 ^ j) x k=vn cB (u*10 ^ j) x k:=rfl;rw[e];unfold vn;have hu0:u≠0:=by rintro rfl; exact hu rfl
 have ha:=Up u j;have h64:=noughts_64 hu0 hb;have h0:(u*10 ^ j==0)=false:=by rw[beq_eq_false_iff_ne]; omega
 rw[h0,cond_false];exact refMake_loop k j _ u x _ (by omega) hu hb hx
theorem refMake_zero {R:Type} (x:Int) (k:fO→Bool→Option R):vo 0 x k=k ⟨0,0⟩ true:=by
 have e:vo 0 x k=vn cB 0 x k:=rfl;rw[e];rfl
section
variable {R:Type} (k:fO→Bool→Option R) (s:ae) (hs:s.length≤4000000000) (sg:Int) (hsg:sg=1∨sg = -1) (all:ae) (x:Int) (ha:∀c∈all,om c) (h0:all ≠ []) (hl:all.length≤900) (hx : -1000≤x∧x≤0)
include hs hsg ha h0 hl hx
end
def fmB (d:fO):Bool:=(d.aq==0&&d.exp==0)||(Int.tmod d.aq 10 != 0&&(decide (-1000000000000000≤d.aq)&&decide (d.aq≤1000000000000000)&&(decide (-9≤d.exp)&&decide (d.exp≤9))))
theorem KW {d:fO}:fmB d=true↔Fm d:=by
 unfold fmB Fm;simp[and_assoc]
theorem right_any {R:Type} (d:fO) (k:Bool→Option R):bQ d k=k (fmB d):=by
 have e:bQ d k=jZ ay d k:=rfl;rw[e];unfold jZ fmB;by_cases h0:d.aq=0
 ·rw[h0];have t0:((0:Int)==0)=true:=rfl;have t1:(Int.tmod 0 10 != 0)=false:=rfl;rw[t0,t1,cond_true,Bool.true_and,Bool.false_and,Bool.or_false]
 ·have e0:(d.aq==0)=false:=by rw[beq_eq_false_iff_ne]; exact h0
  rw[e0,cond_false,Bool.false_and,Bool.false_or];cases ht:(Int.tmod d.aq 10 != 0)with
  | false=>rfl
  | true =>
   rw[cond_true,Bool.true_and,MO];cases (decide (-1000000000000000≤d.aq)&&decide (d.aq≤1000000000000000))with
   | false=>rfl
   | true=>rw[cond_true,MO,Bool.true_and]
theorem print_bad {R:Type} {d:fO} (hd:fmB d=false) (k:ae→Option R):bR d k=k []:=by
 have e:bR d k=qw bQ aj af ai d k:=rfl;rw[e];unfold qw;rw[right_any,hd];rfl
def B4 (d:fO):ae:=if fmB d then ZB d else []
theorem print_any {R:Type} (d:fO) (k:ae→Option R):bR d k=k (B4 d):=by
 unfold B4;cases h:fmB d with
 | true=>rw[print_ok (KW.1 h)]; rfl
 | false=>rw[print_bad h]; rfl
def uH:List ae→List ae→Bool
 | _, []=>true
 | seen,n::l => !seen.contains n&&ft n&&uH (n::seen) l
mutual
def dH:Json→Int→Bool
 | ⟨k,n,t,ns,is⟩,d=>decide (d≤16)&&(decide (1≤k)&&decide (k≤7))&&(k==4||(n.aq==0&&n.exp==0))&&(k==5||t.isEmpty)&&(k==7||ns.isEmpty)&&(k==6||k==7||is.isEmpty) &&
   (if k=4 then fmB n else if k=5 then ft t else if k=7 then decide (ns.length=is.length)&&uH [] ns&&dQ is (d+1)else dQ is (d+1))
def dQ:List Json→Int→Bool
 | [],_=>true
 | x::l,d=>dH x d&&dQ l d
end
theorem Uv {d:Int}:∀ {l:List Json} {x:Json},dQ l d=true→x∈l→dH x d=true
 | y::l,x,h,hx=>by
  simp only[dQ,Bool.and_eq_true]at h;rcases List.mem_cons.1 hx with rfl|hx
  ·exact h.1
  ·exact Uv h.2 hx
inductive X0:Json→Int→Prop where
 | name (k:Int) (d:Int) (hd:d≤16) (hk:k=1∨k=2∨k=3):X0 ⟨k,⟨0,0⟩, [], [], []⟩ d
 | num (n:fO) (d:Int) (hd:d≤16) (hn:Fm n):X0 ⟨4,n, [], [], []⟩ d
 | text (t:ae) (d:Int) (hd:d≤16) (ht:ft t=true):X0 ⟨5,⟨0,0⟩,t, [], []⟩ d
 | arr (is:List Json) (d:Int) (hd:d≤16) (hi:dQ is (d+1)=true):X0 ⟨6,⟨0,0⟩, [], [],is⟩ d
 | obj (ns:List ae) (is:List Json) (d:Int) (hd:d≤16) (hl:ns.length=is.length) (hu:uH [] ns=true) (hi:dQ is (d+1)=true):X0 ⟨7,⟨0,0⟩, [],ns,is⟩ d
theorem fp {v:Json} {d:Int}:dH v d=true↔X0 v d:=by
 obtain ⟨k,⟨m,e⟩,t,ns,is⟩:=v;constructor
 ·intro h;simp only[dH,Bool.and_eq_true,Bool.or_eq_true,decide_eq_true_eq,beq_iff_eq,List.isEmpty_iff]at h;obtain ⟨⟨⟨⟨⟨⟨hd,hk1,RZ⟩,hn⟩,ht⟩,TS⟩,Z3⟩,hx⟩:=h;have hk:k=1∨k=2∨k=3∨k=4∨k=5∨k=6∨k=7:=by omega
  rcases hk with rfl|rfl|rfl|rfl|rfl|rfl|rfl
  ·simp at hn ht TS Z3;obtain ⟨rfl,rfl⟩:=hn;subst ht TS Z3;exact .name 1 d hd (by omega)
  ·simp at hn ht TS Z3;obtain ⟨rfl,rfl⟩:=hn;subst ht TS Z3;exact .name 2 d hd (by omega)
  ·simp at hn ht TS Z3;obtain ⟨rfl,rfl⟩:=hn;subst ht TS Z3;exact .name 3 d hd (by omega)
  ·simp at ht TS Z3 hx;subst ht TS Z3;exact .num _ d hd (KW.1 hx)
  ·simp at hn TS Z3 hx;obtain ⟨rfl,rfl⟩:=hn;subst TS Z3;exact .text t d hd hx
  ·simp at hn ht TS hx;obtain ⟨rfl,rfl⟩:=hn;subst ht TS;exact .arr is d hd hx
  ·simp at hn ht hx;obtain ⟨rfl,rfl⟩:=hn;subst ht;exact .obj ns is d hd hx.1.1 hx.1.2 hx.2
 ·intro h;cases h with
  | name _ _ hd hk=>rcases hk with rfl|rfl|rfl <;> simp[dH,dQ,hd]
  | num _ _ hd hn=>simp[dH,hd,KW.2 hn]
  | text _ _ hd ht=>simp[dH,hd,ht]
  | arr _ _ hd hi=>simp[dH,hd,hi]
  | obj _ _ _ hd hl hu hi=>simp[dH,hd,hl,hu,hi]
def OT (t:ae):ae:=34::(t.flatMap qb ++ [34])
theorem Z4 {rs:List Nat} (hr:∀c∈rs,vr c):OT (fv rs)=qt rs:=by unfold OT qt; rw[qb_encL rs hr]
mutual
def cn:Json→ae
 | ⟨k,n,t,ns,is⟩=>if k=1 then sP else if k=2 then lN else if k=3 then ym else if k=4 then B4 n else if k=5 then OT t else if k=7 then 123::(ij ns is true ++ [125])else 91::(jx is true ++ [93])
def jx:List Json→Bool→ae
 | [],_ => []
 | x::l,first=>(if first then []else [44])++(cn x++jx l false)
def ij:List ae→List Json→Bool→ae
 | _, [],_ => []
 | ns,x::l,first=>(if first then []else [44])++(OT (ns.headD [])++(58::(cn x++ij ns.tail l false)))
end
def txW (t:ae):rR:=([],OT t,⟨2,t,⟨0,0⟩,0⟩)
mutual
def qu:Json→List rR
 | ⟨k,n,t,ns,is⟩=>if k=1 then [([],sP,⟨4,sP,⟨0,0⟩,0⟩)]else if k=2 then [([],lN,⟨4,lN,⟨0,0⟩,0⟩)]else if k=3 then [([],ym,⟨4,ym,⟨0,0⟩,0⟩)]
   else if k=4 then [([],B4 n,⟨3,B4 n,n,0⟩)]else if k=5 then [txW t]else if k=7 then sg 123::(nX ns is true ++ [sg 125])else sg 91::(sw is true ++ [sg 93])
def sw:List Json→Bool→List rR
 | [],_ => []
 | x::l,first=>(if first then []else [sg 44])++(qu x++sw l false)
def nX:List ae→List Json→Bool→List rR
 | _, [],_ => []
 | ns,x::l,first=>(if first then []else [sg 44])++(txW (ns.headD [])::sg 58::(qu x++nX ns.tail l false))
end
mutual
theorem Ir:∀(v:Json) (z:ae),uG (qu v) z=cn v++z
 | ⟨k,n,t,ns,is⟩,z=>by
  have hL:=lay_wordsL is true;have hO:=lay_wordsO ns is true;simp only[qu,cn];split
  ·simp[uG]
  split
  ·simp[uG]
  split
  ·simp[uG]
  split
  ·simp[uG]
  split
  ·simp[uG,txW]
  split
  ·simp only[uG,sg,GC,hO]; simp[uG,sg]
  ·simp only[uG,sg,GC,hL]; simp[uG,sg]
theorem lay_wordsL:∀(l:List Json) (first:Bool) (z:ae),uG (sw l first) z=jx l first++z
 | [],_,z=>rfl
 | x::l,first,z=>by
  have h1:=Ir x;have h2:=lay_wordsL l false;simp only[sw,jx];rw[GC,GC,h1,h2];cases first <;> simp[uG,sg]
theorem lay_wordsO:∀(ns:List ae) (l:List Json) (first:Bool) (z:ae),uG (nX ns l first) z=ij ns l first++z
 | ns, [],_,z=>by simp[nX,ij,uG]
 | ns,x::l,first,z=>by
  have h1:=Ir x;have h2:=lay_wordsO ns.tail l false;simp only[nX,ij];rw[GC];simp only[uG,txW,sg,GC,h1,h2];cases first <;> simp[uG,sg]
end
theorem text_any {t:ae} (ht:ft t=true) (z:ae):okW [txW t] z:=by
 obtain ⟨rs,hr,rfl⟩:=Io.1 ht;have e:=Z4 hr;have hw:=word_text hr;refine ⟨by simp[txW],by simp only[txW,e]; exact hw.1,?_,trivial⟩;show tokS (OT (fv rs)++z)=some (⟨2,fv rs,⟨0,0⟩,0⟩,z);have e2:qt rs=34::(WK rs ++ [34]):=by unfold qt; simp
 have hu:=uqS_qt rs hr z;have e3:qt rs++z=34::(WK rs ++ [34]++z):=by rw[e2]; rfl
 rw[e,e3];rw[e3]at hu;simp only[tokS];rw[if_neg (by decide),if_pos (by decide),hu]
mutual
theorem RM:∀(v:Json) (d:Int),dH v d=true→∀z,RL z→okW (qu v) z
 | ⟨k,n,t,ns,is⟩,d,h,z,hz=>by
  have hL:=words_okL is;have hO:=words_okO ns is;cases fp.1 h with
  | name _ _ hd hk =>
   rcases hk with rfl|rfl|rfl
   ·exact GD (Iq (.inr (.inr rfl))) hz
   ·exact GD (Iq (.inr (.inl rfl))) hz
   ·exact GD (Iq (.inl rfl)) hz
  | num _ _ hd hn =>
   have e:B4 n=ZB n:=by unfold B4; rw[KW.2 hn]; rfl
   show okW [([],B4 n,⟨3,B4 n,n,0⟩)] z;rw[e];exact GD (word_num hn) hz
  | text _ _ hd ht=>exact text_any ht z
  | arr _ _ hd hi =>
   show okW ([sg 91]++(sw is true ++ [sg 93])) z;rw[Eg,Eg];exact ⟨GF (by decide) _,hL true (d+1) hi _ (Sh (by decide) _),GF (by decide) _⟩
  | obj _ _ _ hd hl hu hi =>
   show okW ([sg 123]++(nX ns is true ++ [sg 125])) z;rw[Eg,Eg];exact ⟨GF (by decide) _,hO true (d+1) hi hl [] hu _ (Sh (by decide) _),GF (by decide) _⟩
theorem words_okL:∀(l:List Json) (first:Bool) (d:Int),dQ l d=true→∀z,RL z→okW (sw l first) z
 | [],_,_,_,_,_=>trivial
 | x::l,first,d,h,z,hz=>by
  simp only[dQ,Bool.and_eq_true]at h;have h1:=RM x d h.1;have h2:=words_okL l false d h.2 z hz;simp only[sw];rw[Eg,Eg];refine ⟨?_,h1 _ ?_,h2⟩
  ·cases first
   ·exact GF (by decide) _
   ·trivial
  ·cases l with
   | nil=>exact hz
   | cons y l =>
    simp only[sw];exact Sh (c:=44) (by decide) _
theorem words_okO:∀(ns:List ae) (l:List Json) (first:Bool) (d:Int),dQ l d=true→ns.length=l.length→∀seen,uH seen ns=true→∀z,RL z→okW (nX ns l first) z
 | ns, [],_,_,_,_,_,_,_,_=>by simp[nX,okW]
 | [],_::_,_,_,_,hl,_,_,_,_=>by simp at hl
 | n::ns,x::l,first,d,h,hl,seen,hu,z,hz=>by
  simp only[dQ,Bool.and_eq_true]at h;simp only[uH,Bool.and_eq_true]at hu;have h1:=RM x d h.1;have h2:=words_okO ns l false d h.2 (by simpa using hl) _ hu.2 z hz;simp only[nX,List.headD_cons,List.tail_cons];show okW ((if first=true then []else [sg 44])++([txW n]++([sg 58]++(qu x++nX ns l false)))) z;rw[Eg,Eg,Eg,Eg];refine ⟨?_,text_any hu.1.2 _,GF (by decide) _,h1 _ ?_,h2⟩
  ·cases first
   ·exact GF (by decide) _
   ·trivial
  ·cases l with
   | nil=>simp only[nX,uG]; exact hz
   | cons y l =>
    simp only[nX];exact Sh (c:=44) (by decide) _
end
mutual
def J8:Json→Bool
 | ⟨_,_,t,ns,is⟩=>decide (ns.length≤1099511627776)&&decide (is.length≤1099511627776)&&RN is&&(decide (t.length≤10000000000)&&ns.all fun n=>decide (n.length≤10000000000))
def RN:List Json→Bool
 | []=>true
 | x::l=>J8 x&&RN l
end
theorem WO:∀ {l:List Json} {x:Json},RN l=true→x∈l→J8 x=true
 | y::l,x,h,hx=>by
  simp only[RN,Bool.and_eq_true]at h;rcases List.mem_cons.1 hx with rfl|hx
  ·exact h.1
  ·exact WO h.2 hx
theorem Bd {v:Json}:J8 v=true↔v.names.length≤1099511627776∧v.items.length≤1099511627776∧RN v.items=true∧v.text.length≤10000000000∧∀n∈v.names,n.length≤10000000000:=by
 obtain ⟨k,n,t,ns,is⟩:=v;simp[J8,and_assoc]
theorem MS (a b:ae):EK .str a b=(a==b):=rfl
def seenM (m:List (ae×Bool)) (n:ae):Bool:=mO .str .bool n m
theorem seen_put (m:List (ae×Bool)) (a b:ae):seenM (CV .str .bool a true m) b=((b==a)||seenM m b):=by
 induction m with
 | nil =>
  show (bif EK .str b a then true else false)=_;rw[MS];cases b==a <;> rfl
 | cons e m ih =>
  unfold seenM at ih ⊢;show mO .str .bool b (bif EK .str a e.1 then (a,true)::m else e::CV .str .bool a true m)=((b==a)||(bif EK .str b e.1 then e.2 else mO .str .bool b m));rw[MS,MS];by_cases h1:a=e.1
  ·have h1':(a==e.1)=true:=by simpa using h1
   rw[h1',cond_true];show (bif EK .str b a then true else mO .str .bool b m)=_;rw[MS,←h1];cases b==a <;> rfl
  ·have h1':(a==e.1)=false:=by simpa using h1
   rw[h1',cond_false];show (bif EK .str b e.1 then e.2 else mO .str .bool b (CV .str .bool a true m))=_;rw[MS,ih];by_cases h2:b=a
   ·have h3:(b==e.1)=false:=by rw[h2]; exact h1'
    rw[h3];rfl
   ·have h3:(b==a)=false:=by simpa using h2
    rw[h3];rfl
theorem unique_loop {R:Type} (ns:List ae) (hl:ns.length≤1099511627776) (k:Bool→Option R):∀(F i:Nat) (m:List (ae×Bool)) (seen:List ae),i≤ns.length→ns.length - i<F→(∀n,seenM m n=seen.contains n) →
  di F ns (ns.length:Int) (i:Int) m (k true) k=k (uH seen (ns.drop i)):=by
 intro F
 induction F with
 | zero=>intro i m seen _ h; omega
 | succ F ih =>
  intro i m seen hi hF hm;show w7 bS (fun x0 x1 x2 x3=>di F x0 x1 x2 x3 (k true) k) ns (ns.length:Int) (i:Int) m (k true) k=_;unfold w7;by_cases h:i<ns.length
  ·have h1:decide ((i:Int)<(ns.length:Int))=true:=by simp; omega
   have h2:(decide ((0:Int)≤(i:Int))&&true)=true:=by simp
   have hw:IntKind.i64.wrap ((i:Int)+1)=((i+1:Nat):Int):=by rw[cv (by omega) (by omega)]; omega
   have hg:ns.getD (i:Int).toNat (Ty.aR .str)=ns[i]:=getD_at h _;have hsn:mO .str .bool ns[i] m=seen.contains ns[i]:=hm ns[i];rw[h1,cond_true,ao h2,hg,hsn,hw,whole_eq,List.drop_eq_getElem_cons h];simp only[uH];cases seen.contains ns[i]with
   | true=>rfl
   | false =>
    cases ft ns[i]with
    | false=>rfl
    | true =>
     simp only[cond_false,Bool.not_true,Bool.not_false,Bool.true_and];refine ih (i+1) _ (ns[i]::seen) (by omega) (by omega) fun n => ?_
     rw[seen_put,hm];simp only[List.contains_cons]
  ·have h1:decide ((i:Int)<(ns.length:Int))=false:=by simp; omega
   rw[h1,cond_false,List.drop_eq_nil_of_le (by omega)];rfl
theorem unique_any {R:Type} (ns:List ae) (hl:ns.length≤1099511627776) (k:Bool→Option R):lG ns k=k (uH [] ns):=by
 have:=unique_loop ns hl k (List.length ns+Int.natAbs (ns.length:Int)+Int.natAbs 0+List.length ([]:List (ae×Bool))+64) 0 [] [] (by omega) (by omega) fun n=>rfl
 rw[List.drop_zero]at this;exact this
theorem rightL_loop {R:Type} (f:cZ R) (is:List Json) (hl:is.length≤1099511627776) (d:Int) (hd:0≤d∧d≤16) (hf:∀x∈is,∀k:Bool→Option R,f x (d+1) k=k (dH x (d+1))) (k:Bool→Int→Option R):∀(F i:Nat),i≤is.length→is.length - i<F →
  aQ f F is (is.length:Int) (i:Int) d (fun y=>k (decide ((-1:Int)≥0)) y) (fun x y=>k (decide (x≥0)) y)=k (!dQ (is.drop i) (d+1)) d:=by
 intro F
 induction F with
 | zero=>intro i _ h; omega
 | succ F ih =>
  intro i hi hF;show gp (db f) (fun x0 x1 x2 x3=>aQ f F x0 x1 x2 x3 _ _) is (is.length:Int) (i:Int) d _ _=_;unfold gp;by_cases h:i<is.length
  ·have h1:decide ((i:Int)<(is.length:Int))=true:=by simp; omega
   have h2:(decide ((0:Int)≤(i:Int))&&true)=true:=by simp
   have hw:IntKind.i64.wrap ((i:Int)+1)=((i+1:Nat):Int):=by rw[cv (by omega) (by omega)]; omega
   have hwd:IntKind.i64.wrap (d+1)=d+1:=cv (by omega) (by omega);have hg:is.getD (i:Int).toNat (Ty.aR .json)=is[i]:=getD_at h _;have hj:(decide ((i:Int)≥0))=true:=by simp
   have he:∀(x:Json) (q:Bool→Int→Option R),db f x d q=f x (IntKind.i64.wrap (d+1)) fun y=>q (!y) d:=fun x q=>by
    show sW f x d q=_;unfold sW;simp only[Json.eta]
   rw[h1,cond_true,ao h2,hg,Json.eta,he,hwd,hf _ (List.getElem_mem h),List.drop_eq_getElem_cons h];simp only[dQ];cases dH is[i] (d+1)with
   | false=>simp only[Bool.not_false,cond_true,Bool.false_and,hj]
   | true =>
    simp only[Bool.not_true,cond_false,Bool.true_and];rw[hw];exact ih (i+1) (by omega) (by omega)
  ·have h1:decide ((i:Int)<(is.length:Int))=false:=by simp; omega
   rw[h1,cond_false,List.drop_eq_nil_of_le (by omega)];rfl
theorem containsFunc {R:Type} (f:cZ R) (is:List Json) (hl:is.length≤1099511627776) (d:Int) (hd:0≤d∧d≤16) (hf:∀x∈is,∀k:Bool→Option R,f x (d+1) k=k (dH x (d+1))) (k:Bool→Int→Option R) :
  aP f is d k=k (!dQ is (d+1)) d:=by
 have:=rightL_loop f is hl d hd hf k (List.length is+Int.natAbs (is.length:Int)+Int.natAbs 0+Int.natAbs d+64) 0 (by omega) (by omega);rw[List.drop_zero]at this;exact this
theorem jdepthL_mem {l:List Json} {y:Json} (h:y∈l):y.depth≤Json.IF l:=by
 induction l with
 | nil=>cases h
 | cons a l ih =>
  simp only[Json.IF];rcases List.mem_cons.1 h with rfl|h
  ·exact Nat.le_max_left _ _
  ·exact Nat.le_trans (ih h) (Nat.le_max_right _ _)
theorem jdepth_eq (x:Json):x.depth=Json.IF x.items+1:=by cases x; simp[Json.depth]
theorem YT {x y:Json} (h:y∈x.items):y.depth<x.depth:=by rw[jdepth_eq x]; exact Nat.lt_succ_of_le (jdepthL_mem h)
theorem bare_eq {R:Type} (k n1 n2:Int) (t:ae) (ns:List ae) (is:List Json) (q:Json→Option R):tj ⟨k,⟨n1,n2⟩,t,ns,is⟩ q =
  q ⟨k,if k=4 then ⟨0,0⟩else ⟨n1,n2⟩,if k=5 then []else t,if k=7 then []else ns,if k=6∨k=7 then []else is⟩:=by
 show Kx _ q=_;unfold Kx;simp only;by_cases h4:k=4
 ·subst h4; rfl
 by_cases h5:k=5
 ·subst h5; rfl
 by_cases h7:k=7
 ·subst h7; rfl
 by_cases h6:k=6
 ·subst h6; rfl
 have e4:(k==4)=false:=by simpa using h4
 have e5:(k==5)=false:=by simpa using h5
 have e6:(k==6)=false:=by simpa using h6
 have e7:(k==7)=false:=by simpa using h7
 rw[e4,e5,e6,e7];simp[h4,h5,h6,h7]
theorem chain {R:Type} (k:Bool→Option R) {a b c:Bool} {x:Option R} {r:Bool} (hx:a=true→b=true→c=false→x=k r) (hr:(a=true∧b=true∧c=false)∨r=false) :
  (bif !a then k false else (bif !b then k false else (bif c then k false else x)))=k r:=by
 cases a with
 | false =>
  rcases hr with ⟨h,_⟩|rfl
  ·cases h
  ·rfl
 | true =>
  cases b with
  | false =>
   rcases hr with ⟨_,h,_⟩|rfl
   ·cases h
   ·rfl
  | true =>
   cases c with
   | true =>
    rcases hr with ⟨_,_,h⟩|rfl
    ·cases h
    ·rfl
   | false=>exact hx rfl rfl rfl
theorem right_N {R:Type}:∀(n:Nat) (v:Json) (d:Int),J8 v=true→v.depth<n→0≤d→d≤17→∀k:Bool→Option R,fa n v d k=k (dH v d):=by
 intro n
 induction n with
 | zero=>intro v d _ h; omega
 | succ n ih =>
  intro v d hv hn hd0 hd1 k;obtain ⟨TS,Z3,hil,_⟩:=Bd.1 hv;have he:fa (n+1) v d k=HP bS bQ tj lG (aP (fa n)) v d k:=rfl;rw[he];have hcf:d≤16→∀q:Bool→Int→Option R,aP (fa n) v.items d q=q (!dQ v.items (d+1)) d:=fun h16 q =>
   containsFunc _ _ Z3 d ⟨hd0,h16⟩ (fun x hx k=>ih x (d+1) (WO hil hx) (by have:=YT hx; omega) (by omega) (by omega) k) q
  obtain ⟨kd,⟨n1,n2⟩,t,ns,is⟩:=v;unfold HP;simp only at TS Z3 hcf ⊢;rw[bare_eq];simp only;by_cases h16:d≤16;rotate_left
  ·have e1:decide (d>16)=true:=by simp; omega
   rw[e1,cond_true];simp[dH,h16]
  have e1:decide (d>16)=false:=by simp; omega
  rw[e1,cond_false];by_cases hk1:kd<1
  ·have e2:decide (kd<1)=true:=by simpa using hk1
   have:¬1≤kd:=by omega
   rw[e2,cond_true];simp[dH,this]
  have e2:decide (kd<1)=false:=by simpa using hk1
  rw[e2,cond_false];by_cases hk7:kd>7
  ·have e3:decide (kd>7)=true:=by simpa using hk7
   have:¬kd≤7:=by omega
   rw[e3,cond_true];simp[dH,this]
  have e3:decide (kd>7)=false:=by simpa using hk7
  rw[e3,cond_false];have hk:kd=1∨kd=2∨kd=3∨kd=4∨kd=5∨kd=6∨kd=7:=by omega
  have hsum:∀a b:Nat,a≤1099511627776→b≤1099511627776→decide (IntKind.i64.wrap ((a:Int)+(b:Int))>0) = !(a==0&&b==0):=by
   intro a b ha hb;rw[cv (by omega) (by omega)];rw[Bool.eq_iff_iff,decide_eq_true_eq];simp only[Bool.not_eq_true',Bool.and_eq_false_iff,beq_eq_false_iff_ne];omega
  have hie:∀l:List ae,(l.length==0)=l.isEmpty:=fun l=>by cases l <;> rfl
  have hje:∀l:List Json,(l.length==0)=l.isEmpty:=fun l=>by cases l <;> rfl
  have hte:∀l:ae,(l==([]:ae))=l.isEmpty:=fun l=>by cases l <;> rfl
  have E0:∀d:Int,dQ [] d=true:=fun _=>rfl
  have hnum:∀a b:Int,((a==0)&&((b==0)&&true))=(a==0&&b==0):=fun a b=>by cases a==0 <;> cases b==0 <;> rfl
  have hcf0:∀q:Bool→Int→Option R,is.isEmpty=true→aP (fa n) is d q=q false d:=fun q h=>by
   rw[hcf h16];obtain rfl:is = []:=List.isEmpty_iff.1 h;rfl
  have hbool:∀a b c:Bool,(a=true∧b=true∧(!c)=false)∨((a&&b)&&c)=false:=by decide
  have hb4:∀b c q:Bool,(true=true∧b=true∧(!c)=false)∨((b&&c)&&q)=false:=by decide
  have hb5:∀a c q:Bool,(a=true∧true=true∧(!c)=false)∨((a&&c)&&q)=false:=by decide
  have hb6:∀a b c q:Bool,(a=true∧b=true∧(!c)=false)∨(((a&&b)&&c)&&q)=false:=by decide
  have hb7:∀a b q:Bool,(a=true∧b=true∧false=false)∨((a&&b)&&q)=false:=by decide
  rcases hk with rfl|rfl|rfl|rfl|rfl|rfl|rfl
  ·have hr:dH ⟨1,⟨n1,n2⟩,t,ns,is⟩ d=(((n1==0&&n2==0)&&t.isEmpty)&&(ns.isEmpty&&is.isEmpty)):=by
    cases is <;> simp[dH,dQ,h16]
   simp only[Int.reduceEq,if_false,or_self,hnum];rw[hsum _ _ TS Z3,hie,hje,hte,hr];refine chain k (fun h1 h2 h3 => ?_) (hbool _ _ _);have h4:ns.isEmpty=true∧is.isEmpty=true:=by simpa using h3
   rw[h1,h2,h4.1,h4.2];show aP (fa n) is d (fun Im IT=>k (!Im))=k true;exact hcf0 _ h4.2
  ·have hr:dH ⟨2,⟨n1,n2⟩,t,ns,is⟩ d=(((n1==0&&n2==0)&&t.isEmpty)&&(ns.isEmpty&&is.isEmpty)):=by
    cases is <;> simp[dH,dQ,h16]
   simp only[Int.reduceEq,if_false,or_self,hnum];rw[hsum _ _ TS Z3,hie,hje,hte,hr];refine chain k (fun h1 h2 h3 => ?_) (hbool _ _ _);have h4:ns.isEmpty=true∧is.isEmpty=true:=by simpa using h3
   rw[h1,h2,h4.1,h4.2];show aP (fa n) is d (fun Im IT=>k (!Im))=k true;exact hcf0 _ h4.2
  ·have hr:dH ⟨3,⟨n1,n2⟩,t,ns,is⟩ d=(((n1==0&&n2==0)&&t.isEmpty)&&(ns.isEmpty&&is.isEmpty)):=by
    cases is <;> simp[dH,dQ,h16]
   simp only[Int.reduceEq,if_false,or_self,hnum];rw[hsum _ _ TS Z3,hie,hje,hte,hr];refine chain k (fun h1 h2 h3 => ?_) (hbool _ _ _);have h4:ns.isEmpty=true∧is.isEmpty=true:=by simpa using h3
   rw[h1,h2,h4.1,h4.2];show aP (fa n) is d (fun Im IT=>k (!Im))=k true;exact hcf0 _ h4.2
  ·have hr:dH ⟨4,⟨n1,n2⟩,t,ns,is⟩ d=((t.isEmpty&&(ns.isEmpty&&is.isEmpty))&&fmB ⟨n1,n2⟩):=by
    simp[dH,h16,Bool.and_assoc]
   simp only[Int.reduceEq,if_false,if_true,or_self];rw[hsum _ _ TS Z3,hie,hje,hte,hr];refine chain k (a:=true) (b:=t.isEmpty) (c := !(ns.isEmpty&&is.isEmpty)) (fun h1 h2 h3 => ?_) (hb4 _ _ _);have h4:ns.isEmpty=true∧is.isEmpty=true:=by simpa using h3
   rw[h2,h4.1,h4.2];exact right_any _ _
  ·have hr:dH ⟨5,⟨n1,n2⟩,t,ns,is⟩ d=(((n1==0&&n2==0)&&(ns.isEmpty&&is.isEmpty))&&ft t):=by
    simp[dH,h16,Bool.and_assoc]
   simp only[Int.reduceEq,if_false,if_true,or_self,hnum];rw[hsum _ _ TS Z3,hie,hje,hr];refine chain k (a:=(n1==0&&n2==0)) (b:=true) (c := !(ns.isEmpty&&is.isEmpty)) (fun h1 h2 h3 => ?_) (hb5 _ _ _);have h4:ns.isEmpty=true∧is.isEmpty=true:=by simpa using h3
   rw[h1,h4.1,h4.2];exact whole_eq _ _
  ·have hr:dH ⟨6,⟨n1,n2⟩,t,ns,is⟩ d=((((n1==0&&n2==0)&&t.isEmpty)&&ns.isEmpty)&&dQ is (d+1)):=by
    simp[dH,h16,Bool.and_assoc]
   simp only[Int.reduceEq,if_false,if_true,true_or,hnum];have hs2:=hsum ns.length 0 TS (by omega);have hq:((0:Nat)==0)=true:=rfl;rw[hq,Bool.and_true,hie]at hs2;rw[List.length_nil,hs2,hte,hr];refine chain k (a:=(n1==0&&n2==0)) (b:=t.isEmpty) (c := !ns.isEmpty) (fun h1 h2 h3 => ?_) (hb6 _ _ _ _);have h4:ns.isEmpty=true:=by simpa using h3
   rw[h1,h2,h4];show aP (fa n) is d (fun Im IT=>k (!Im))=k (dQ is (d+1));rw[hcf h16,Bool.not_not]
  ·have hr:dH ⟨7,⟨n1,n2⟩,t,ns,is⟩ d=(((n1==0&&n2==0)&&t.isEmpty)&&(decide (ns.length=is.length)&&uH [] ns&&dQ is (d+1))):=by
    simp[dH,h16,Bool.and_assoc]
   simp only[Int.reduceEq,if_false,if_true,or_true,hnum];have hs2:=hsum 0 0 (by omega) (by omega);rw[List.length_nil,List.length_nil,hs2,hte,hr];refine chain k (a:=(n1==0&&n2==0)) (b:=t.isEmpty) (c:=false) (fun h1 h2 h3 => ?_) (hb7 _ _ _);rw[h1,h2];show (bif ((ns.length:Int) != (is.length:Int))then k false else lG ns (fun y7=>bif !y7 then k false else aP (fa n) is d (fun n0 yp=>k (!n0))))=_;by_cases hl:ns.length=is.length
   ·have e9:((ns.length:Int) != (is.length:Int))=false:=by rw[hl]; simp
    rw[e9,cond_false,unique_any ns TS,hcf h16,Bool.not_not];cases uH [] ns <;> simp[hl]
   ·have e9:((ns.length:Int) != (is.length:Int))=true:=by simp; omega
    rw[e9,cond_true];simp[hl]
theorem right_json {R:Type} (v:Json) (hv:J8 v=true) (k:Bool→Option R):nL v k=k (dH v 1):=by
 have e:nL v k=HQ po v k:=rfl;rw[e];unfold HQ;simp only[Json.eta];exact right_N (v.depth+2) v 1 hv (by omega) (by omega) (by omega) k
theorem MT (p:UInt8→Bool) (s:ae):(s.takeWhile p).length+(s.dropWhile p).length=s.length:=by
 have:=congrArg List.length (List.takeWhile_append_dropWhile (p:=p) (l:=s));rwa [List.length_append]at this
theorem take_tw (p:UInt8→Bool) (s:ae):s.take (s.takeWhile p).length=s.takeWhile p:=by
 have:=List.take_left (l₁:=s.takeWhile p) (l₂:=s.dropWhile p);rwa [List.takeWhile_append_dropWhile]at this
theorem drop_tw (p:UInt8→Bool) (s:ae):s.drop (s.takeWhile p).length=s.dropWhile p:=by
 have:=List.drop_left (l₁:=s.takeWhile p) (l₂:=s.dropWhile p);rwa [List.takeWhile_append_dropWhile]at this
theorem while_ok {R:Type} (s cs:ae) (hs:s.length≤4000000000) (h1:xF cs=true) (h2:cs.length<4294967281) (k:ae→Option R):cR s cs k=k (s.takeWhile (cs.contains ·)):=by
 have e:cR s cs k=FV s cs k:=rfl;rw[e];unfold FV;have hl:=MT (cs.contains ·) s;have ht:(bx s cs).length=(s.dropWhile (cs.contains ·)).length:=rfl;have hw:IntKind.i64.wrap ((s.length:Int) - ((bx s cs).length:Int))=((s.takeWhile (cs.contains ·)).length:Int):=by rw[ht,cv (by omega) (by omega)]; omega
 rw[hw,h1,ao (by rw[aE h2]; rfl),ao (by rw[aE (by omega),aE (by omega)]; rfl),ao (aE (by omega)),List.drop_zero,Nat.sub_zero,Int.toNat_natCast,take_tw]
theorem sign_has (c:UInt8):decide (FP sigS (c.toNat:Int)≥0)=Uu c:=by
 have hi:FP sigS (c.toNat:Int)=Go.Lib.indexByte sigS c:=by
  unfold FP;rw[Int.toNat_natCast];simp
 have h:=Z2 c sigS;rw[hi];unfold Uu;cases hc:sigS.contains c with
 | true =>
  apply aE;have:¬Go.Lib.indexByte sigS c<0:=fun g=>by rw[h.1 g]at hc; cases hc
  omega
 | false =>
  apply bK;have:=h.2 hc;omega
theorem next_ok {R:Type} (s:ae) (hs:s.length≤4000000000) (h0:s ≠ []) (k:Token→Int→Option R) :
  ig s k=match tokS s with|some (t,r)=>k t ((s.length - r.length:Nat):Int)|none=>k ⟨0, [],⟨0,0⟩,0⟩ 0:=by
 have e:ig s k=HV fR ei cR s k:=rfl;rw[e];unfold HV;cases s with
 | nil=>exact (h0 rfl).elim
 | cons c u =>
  have hlen:(c::u:ae).length=u.length+1:=rfl;have hg:(c::u:ae).getD 0 0=c:=rfl;simp only[List.length_cons]at hs;rw[hg,ao (aE (by rw[hlen]; omega))];simp only;have q45:((c.toNat:Int)==45)=decide (c.toNat=45):=eqI _ 45;have q34:((c.toNat:Int)==34)=decide (c.toNat=34):=eqI _ 34;have l48:decide ((c.toNat:Int)≥48)=decide (48≤c.toNat):=by
   by_cases h:48≤c.toNat
   ·rw[aE h,aE (by omega)]
   ·rw[bK h,bK (by omega)]
  have l57:decide ((c.toNat:Int)≤57)=decide (c.toNat≤57):=by
   by_cases h:c.toNat≤57
   ·rw[aE h,aE (by omega)]
   ·rw[bK h,bK (by omega)]
  have hsg:decide (FP ([123,125,91,93,44,58]:ae) (c.toNat:Int)≥0)=Uu c:=sign_has c;have jz:∀p:UInt8→Bool,((c::u).takeWhile p).length≤(c::u).length:=fun p=>by have:=MT p (c::u); omega
  have num:∀k:Token→Int→Option R,cR (c::u) ([48,49,50,51,52,53,54,55,56,57,43,45,46,101,69]:ae) (fun y6=>ei y6 (fun y7 y8=>bif (!y8)then (k (⟨0,([]:ae),⟨0,0⟩,0⟩:Token) 0)else (k (⟨3,y6,⟨y7.aq,y7.exp⟩,0⟩:Token) (y6.length:Int)))) =
    (if (Ef ((c::u).takeWhile GB)).2 then k ⟨3,(c::u).takeWhile GB,(Ef ((c::u).takeWhile GB)).1,0⟩ (((c::u).length - ((c::u).dropWhile GB).length:Nat):Int)else k ⟨0, [],⟨0,0⟩,0⟩ 0):=fun k=>by
   rw[while_ok _ _ (by rw[hlen]; omega) rfl (by decide)];have e:(c::u).takeWhile (fun x=>List.contains [48,49,50,51,52,53,54,55,56,57,43,45,46,101,69] x)=(c::u).takeWhile GB:=rfl;have hl:=jz GB;have hd:=MT GB (c::u);rw[e,parse_any _ (by omega)];have el:(c::u).length - ((c::u).dropWhile GB).length=((c::u).takeWhile GB).length:=by omega
   rw[el];cases (Ef ((c::u).takeWhile GB)).2 <;> rfl
  have txt:∀k:Token→Int→Option R,fR (c::u) (fun JG Hm Ql=>bif (!Ql)then (k (⟨0,([]:ae),⟨0,0⟩,0⟩:Token) 0)else (k (⟨2,JG,⟨0,0⟩,0⟩:Token) Hm)) =
    match uqS (c::u)with|some (o,r)=>k ⟨2,o,⟨0,0⟩,0⟩ (((c::u).length - r.length:Nat):Int)|none=>k ⟨0, [],⟨0,0⟩,0⟩ 0:=fun k=>by
   rw[unquote_ok _ (by rw[hlen]; omega)];cases hu:uqS (c::u)with
   | none=>rfl
   | some p =>
    obtain ⟨o,r⟩:=p;obtain ⟨_,hr,_⟩:=uqS_sfx hu;simp only[Bool.not_true,cond_false];rw[cv (by omega) (by omega)];congr 1;omega
  have nam:∀k:Token→Int→Option R,cR (c::u) ([97,98,99,100,101,102,103,104,105,106,107,108,109,110,111,112,113,114,115,116,117,118,119,120,121,122]:ae) (fun Fe=>bif (Fe==([116,114,117,101]:ae))then (k (⟨4,Fe,⟨0,0⟩,0⟩:Token) (Fe.length:Int))else (bif (Fe==([102,97,108,115,101]:ae))then (k (⟨4,Fe,⟨0,0⟩,0⟩:Token) (Fe.length:Int))else (bif (!(Fe==([110,117,108,108]:ae)))then (k (⟨0,([]:ae),⟨0,0⟩,0⟩:Token) 0)else (k (⟨4,Fe,⟨0,0⟩,0⟩:Token) (Fe.length:Int))))) =
    (if (c::u).takeWhile FF=ym∨(c::u).takeWhile FF=lN∨(c::u).takeWhile FF=sP then k ⟨4,(c::u).takeWhile FF,⟨0,0⟩,0⟩ (((c::u).length - ((c::u).dropWhile FF).length:Nat):Int)else k ⟨0, [],⟨0,0⟩,0⟩ 0):=fun k=>by
   rw[while_ok _ _ (by rw[hlen]; omega) rfl (by decide)];have e:(c::u).takeWhile (fun x=>List.contains [97,98,99,100,101,102,103,104,105,106,107,108,109,110,111,112,113,114,115,116,117,118,119,120,121,122] x)=(c::u).takeWhile FF:=rfl;have hd:=MT FF (c::u);have el:(c::u).length - ((c::u).dropWhile FF).length=((c::u).takeWhile FF).length:=by omega
   rw[e,el];generalize (c::u).takeWhile FF=w;have eq:∀a:ae,(w==a)=decide (w=a):=fun a=>by
    by_cases h:w=a
    ·rw[aE h]; exact beq_iff_eq.2 h
    ·rw[bK h]; exact beq_eq_false_iff_ne.2 h
   rw[eq,eq,eq];by_cases h1:w=ym
   ·rw[aE (show w = [116,114,117,101]from h1),if_pos (.inl h1)]; rfl
   ·by_cases h2:w=lN
    ·rw[bK (show ¬w = [116,114,117,101]from h1),aE (show w = [102,97,108,115,101]from h2),if_pos (.inr (.inl h2))]; rfl
    ·by_cases h3:w=sP
     ·rw[bK (show ¬w = [116,114,117,101]from h1),bK (show ¬w = [102,97,108,115,101]from h2),aE (show w = [110,117,108,108]from h3),if_pos (.inr (.inr h3))]; rfl
     ·rw[bK (show ¬w = [116,114,117,101]from h1),bK (show ¬w = [102,97,108,115,101]from h2),bK (show ¬w = [110,117,108,108]from h3),if_neg (by rintro (h|h|h); exact h1 h; exact h2 h; exact h3 h)]; rfl
  have sgn1:∀k:Token→Int→Option R,bX (decide ((1:Int)≤((c::u:ae).length:Int))) (k (⟨1,(((c::u:ae).drop 0).take (1 - 0)),⟨0,0⟩,0⟩:Token) 1)=k ⟨1, [c],⟨0,0⟩,0⟩ (((c::u).length - u.length:Nat):Int):=fun k=>by
   have e1:(c::u).length - u.length=1:=by rw[hlen]; omega
   rw[ao (aE (by rw[hlen]; omega)),e1];rfl
  simp only[tokS];rw[q45,q34,l48,l57,hsg];by_cases h45:c.toNat=45
  ·rw[aE h45,cond_true,if_pos (.inl h45)];refine (num k).trans ?_;split <;> rfl
  ·rw[bK h45,cond_false];have rest:¬(48≤c.toNat∧c.toNat≤57)→(bif decide (c.toNat=34)then fR (c::u) (fun JG Hm Ql=>bif (!Ql)then (k (⟨0,([]:ae),⟨0,0⟩,0⟩:Token) 0)else (k (⟨2,JG,⟨0,0⟩,0⟩:Token) Hm))else (bif Uu c then bX (decide ((1:Int)≤((c::u:ae).length:Int))) (k (⟨1,(((c::u:ae).drop 0).take (1 - 0)),⟨0,0⟩,0⟩:Token) 1)else cR (c::u) ([97,98,99,100,101,102,103,104,105,106,107,108,109,110,111,112,113,114,115,116,117,118,119,120,121,122]:ae) (fun Fe=>bif (Fe==([116,114,117,101]:ae))then (k (⟨4,Fe,⟨0,0⟩,0⟩:Token) (Fe.length:Int))else (bif (Fe==([102,97,108,115,101]:ae))then (k (⟨4,Fe,⟨0,0⟩,0⟩:Token) (Fe.length:Int))else (bif (!(Fe==([110,117,108,108]:ae)))then (k (⟨0,([]:ae),⟨0,0⟩,0⟩:Token) 0)else (k (⟨4,Fe,⟨0,0⟩,0⟩:Token) (Fe.length:Int))))))) =
     match (if c.toNat=45∨(48≤c.toNat∧c.toNat≤57)then (if (Ef ((c::u).takeWhile GB)).2 then some (⟨3,(c::u).takeWhile GB,(Ef ((c::u).takeWhile GB)).1,0⟩,(c::u).dropWhile GB)else none)else if c.toNat=34 then (match uqS (c::u)with|some (o,r)=>some (⟨2,o,⟨0,0⟩,0⟩,r)|none=>none)else if Uu c then some ((⟨1, [c],⟨0,0⟩,0⟩:Token),u)else if (c::u).takeWhile FF=ym∨(c::u).takeWhile FF=lN∨(c::u).takeWhile FF=sP then some (⟨4,(c::u).takeWhile FF,⟨0,0⟩,0⟩,(c::u).dropWhile FF)else none)with
     | some (t,r)=>k t (((c::u).length - r.length:Nat):Int)|none=>k ⟨0, [],⟨0,0⟩,0⟩ 0:=by
    intro hd;rw[if_neg (by rintro (h|h); exact h45 h; exact hd h)];by_cases Tx:c.toNat=34
    ·rw[aE Tx,cond_true,if_pos Tx,txt];cases uqS (c::u)with
     | none=>rfl
     | some p=>rfl
    ·rw[bK Tx,cond_false,if_neg Tx];cases hs':Uu c with
     | true=>rw[cond_true,sgn1,if_pos rfl]
     | false =>
      rw[cond_false,nam,if_neg (show ¬(false=true) by simp)];split <;> rfl
   by_cases h48:48≤c.toNat
   ·rw[aE h48,cond_true];by_cases h57:c.toNat≤57
    ·rw[aE h57,cond_true,if_pos (.inr ⟨h48,h57⟩)];refine (num k).trans ?_;split <;> rfl
    ·rw[bK h57,cond_false];exact rest (fun h=>h57 h.2)
   ·rw[bK h48,cond_false];exact rest (fun h=>h48 h.1)
theorem scan_loop {R:Type} (s:ae) (hs:s.length≤20000) (e0:List Token→Int→Int→Option R) (e1:Int→Int→Option R) (hz:∀a b,e0 [] a b=e1 a b):∀(n p:Nat) (out:List Token),s.length - p<n→p≤s.length→out.length≤p →
  dk n s out (p:Int) e0 e1=e0 (zw n p (s.drop p) out).1 (zw n p (s.drop p) out).2.1 (zw n p (s.drop p) out).2.2:=by
 intro n
 induction n with
 | zero=>intro p out h; omega
 | succ n ih =>
  intro p out h1 h2 h3;rw[dk];unfold Fp;have hsub:∀q:Nat,(s.drop q).take ((s.length:Int).toNat - q)=s.drop q:=fun q=>List.take_of_length_le (by rw[List.length_drop,Int.toNat_natCast]; exact Nat.le_refl _)
  have hl:=MT sT (s.drop p);rw[List.length_drop]at hl;have hdl:(s.drop p).length=s.length - p:=List.length_drop;rw[ao (by rw[aE (by omega),aE (by omega)]; rfl),ao (by rw[aE (by omega),aE (by omega)]; rfl),Int.toNat_natCast p,hsub,while_ok _ _ (by omega) rfl (by decide)];have eb:(s.drop p).takeWhile (fun x=>List.contains [32,9,10,13] x)=(s.drop p).takeWhile sT:=rfl;rw[eb];have hdd:s.drop (p+((s.drop p).takeWhile sT).length)=(s.drop p).dropWhile sT:=by rw[←drop_tw sT (s.drop p),List.drop_drop]
  have hw:IntKind.i64.wrap ((p:Int)+(((s.drop p).takeWhile sT).length:Int))=((p+((s.drop p).takeWhile sT).length:Nat):Int):=by rw[cv (by omega) (by omega)]; omega
  rw[hw];simp only[zw];generalize hq:p+((s.drop p).takeWhile sT).length=q at *;by_cases hend:(s.drop p).dropWhile sT = []
  ·have hqe:q=s.length:=by rw[hend]at hl; simp at hl; omega
   have e1':(((q:Nat):Int)==(s.length:Int))=true:=by rw[hqe]; simp
   rw[e1',cond_true,ao (aE (by omega)),if_pos hend]
  ·have Nk:0<((s.drop p).dropWhile sT).length:=List.length_pos_iff.2 hend;have e1':(((q:Nat):Int)==(s.length:Int))=false:=by rw[beq_eq_false_iff_ne]; omega
   rw[e1',cond_false,ao (by rw[aE (by omega),aE (by omega)]; rfl),ao (by rw[aE (by omega),aE (by omega)]; rfl),Int.toNat_natCast q,hsub,hdd,next_ok _ (by omega) hend,if_neg hend];cases ht:tokS ((s.drop p).dropWhile sT)with
   | none =>
    have e0':((0:Int)==0)=true:=rfl;simp only;rw[e0',cond_true,hz]
   | some x =>
    obtain ⟨t,r⟩:=x;obtain ⟨f1,f2⟩:=tokS_sfx ht;have hn:((((s.drop p).dropWhile sT).length - r.length:Nat):Int)≠0:=by omega
    simp only;rw[beq_eq_false_iff_ne.2 hn,cond_false,ao (aE (by omega))];have hq2:IntKind.i64.wrap (((q:Nat):Int)+((((s.drop p).dropWhile sT).length - r.length:Nat):Int))=((p+((s.drop p).length - r.length):Nat):Int):=by rw[cv (by omega) (by omega)]; omega
    rw[hq2];have hr:s.drop (p+((s.drop p).length - r.length))=r:=by
     have:=sfx_drop (f1.trans (List.dropWhile_suffix sT));rw[←List.drop_drop,←this]
    have key:=ih (p+((s.drop p).length - r.length)) (out ++ [putT t ((q:Nat):Int)]) (by omega) (by omega) (by simp; omega);rw[hr]at key;exact key
theorem scan_ok {R:Type} (s:ae) (k:List Token→Int→Int→Option R):nR s k=k (sQ s).1 (sQ s).2.1 (sQ s).2.2:=by
 have e:nR s k=HW dk s k:=rfl;rw[e];unfold HW sQ;by_cases h:20000<s.length
 ·rw[aE (show (s.length:Int)>20000 by omega),cond_true,if_pos h]
 ·rw[bK (show ¬(s.length:Int)>20000 by omega),cond_false,if_neg h];have key:=scan_loop (R:=R) s (by omega) (fun y8 y9 p9=>k y8 y9 p9) (fun n0 yp=>k [] n0 yp) (fun _ _=>rfl) (List.length s+List.length ([]:List Token)+Int.natAbs 0+64) 0 [] (by omega) (by omega) (by simp);rw[List.drop_zero,scanN_fuel _ (s.length+1) 0 s [] (by omega) (by omega)]at key;exact key
abbrev ZD:=Int×List Token
def kI (x:ae):List Token→Option (List Token)
 | t::r=>if t.kind=1∧t.text=x then some r else none
 | []=>none
def KX (ns:List ae):List Token→Except ZD (ae×List Token)
 | t::r =>
  if t.kind≠2 then .error (40,t::r)else if ns.contains t.text then .error (42,t::r)else
   match kI [58] r with
   | some r' => .ok (t.text,r')
   | none => .error (40,r)
 | [] => .error (0, [])
def zx (f:List Token→Except ZD (Json×List Token)) (obj:Bool) (ns:List ae) (is:List Json) (ts:List Token):Except ZD ((List ae×List Json)×List Token) :=
 match obj with
 | true =>
  (match KX ns ts with
   | .error b => .error b
   | .ok (nm,ts1)=>(match f ts1 with | .error b => .error b | .ok (v,Uw) => .ok ((ns ++ [nm],is ++ [v]),Uw)))
 | false=>(match f ts with | .error b => .error b | .ok (v,Uw) => .ok ((ns,is ++ [v]),Uw))
def Be (f:List Token→Except ZD (Json×List Token)) (cl:ae) (obj:Bool):Nat→List ae→List Json→List Token→Except ZD ((List ae×List Json)×List Token)
 | 0,_,_,ts => .error (0,ts)
 | m+1,ns,is,ts =>
  match zx f obj ns is ts with
  | .error b => .error b
  | .ok (p,Uw) =>
   match kI cl Uw with
   | some r => .ok (p,r)
   | none =>
    match kI [44] Uw with
    | some r=>Be f cl obj m p.1 p.2 r
    | none => .error (40,Uw)
def FG (t:ae):Bool:=t==sP||(t==lN||t==ym)
def namesM:List (ae×Int) := [(sP,1),(lN,2),(ym,3)]
def Js (t:ae):Bool:=t == [91]||t == [123]
def vB (t:Token):Bool:=t.kind==2||(t.kind==3||(t.kind==4||(t.kind==1&&Js t.text)))
def yT:Nat→Int→List Token→Except ZD (Json×List Token)
 | 0,_,ts => .error (0,ts)
 | _+1,_, [] => .error (0, [])
 | n+1,d,t::r =>
  if vB t=false then .error (40,t::r)else
  if d>16 then .error (41,t::r)else
  if t.kind=1∧Js t.text=true then
   let obj:=t.text == [123]
   let k:Int:=if obj then 7 else 6
   let cl:ae:=if obj then [125]else [93]
   match kI cl r with
   | some r' => .ok (⟨k,⟨0,0⟩, [], [], []⟩,r')
   | none =>
    match Be (yT n (d+1)) cl obj (r.length+1) [] [] r with
    | .error b => .error b
    | .ok (p,r') => .ok (⟨k,⟨0,0⟩, [],p.1,p.2⟩,r')
  else if t.kind=4∧FG t.text=true then .ok (⟨mO .str (.int .i64) t.text namesM,⟨0,0⟩, [], [], []⟩,r)
  else if t.kind=3 then .ok (⟨4,t.num, [], [], []⟩,r)
  else .ok (⟨5,⟨0,0⟩,t.text, [], []⟩,r)
theorem Iu {x:ae} {ts r:List Token} (h:kI x ts=some r):r.length<ts.length:=by
 cases ts with
 | nil=>cases h
 | cons t ts =>
  simp only[kI]at h;split at h
  ·cases h; simp
  ·cases h
theorem nameS_len {ns:List ae} {ts:List Token} {p:ae×List Token} (h:KX ns ts = .ok p):p.2.length<ts.length:=by
 cases ts with
 | nil=>cases h
 | cons t ts =>
  simp only[KX]at h;split at h
  ·cases h
  ·split at h
   ·cases h
   ·split at h
    ·rename_i r hr;have:=Iu hr;cases h;simp; omega
    ·cases h
theorem X1 {f:List Token→Except ZD (Json×List Token)} (hf:∀ts p,f ts = .ok p→p.2.length<ts.length) {obj:Bool} {ns:List ae} {is:List Json} {ts:List Token} {p:(List ae×List Json)×List Token} (h:zx f obj ns is ts = .ok p) :
  p.2.length<ts.length:=by
 cases obj with
 | true =>
  simp only[zx]at h;split at h
  ·cases h
  ·rename_i nm ts1 hn;have h1:=nameS_len hn;split at h
   ·cases h
   ·rename_i v Uw hv;have h2:=hf _ _ hv;cases h;simp only at h1 h2 ⊢;omega
 | false =>
  simp only[zx]at h;split at h
  ·cases h
  ·rename_i v Uw hv;have h2:=hf _ _ hv;cases h;exact h2
theorem listS_len {f:List Token→Except ZD (Json×List Token)} (hf:∀ts p,f ts = .ok p→p.2.length<ts.length) {cl:ae} {obj:Bool}:∀(m:Nat) (ns:List ae) (is:List Json) (ts:List Token) (p:(List ae×List Json)×List Token),
  Be f cl obj m ns is ts = .ok p→p.2.length<ts.length
 | 0,_,_,_,_,h=>by cases h
 | m+1,ns,is,ts,p,h=>by
  simp only[Be]at h;split at h
  ·cases h
  ·rename_i q Uw hq;have h1:=X1 hf hq;split at h
   ·rename_i r hr;have h2:=Iu hr;cases h;simp only at h1 h2 ⊢;omega
   ·split at h
    ·rename_i r hr;have h2:=Iu hr;have h3:=listS_len hf m _ _ _ _ h;simp only at h1 h2 h3 ⊢;omega
    ·cases h
theorem valS_len:∀(n:Nat) (d:Int) (ts:List Token) (p:Json×List Token),yT n d ts = .ok p→p.2.length<ts.length
 | 0,_,_,_,h=>by cases h
 | _+1,_, [],_,h=>by cases h
 | n+1,d,t::r,p,h=>by
  simp only[yT]at h;split at h
  ·cases h
  split at h
  ·cases h
  split at h
  ·split at h
   ·rename_i r' hr;have:=Iu hr;cases h;simp; omega
   ·split at h
    ·cases h
    ·rename_i q r' hq;have:=listS_len (fun ts p=>valS_len n (d+1) ts p) _ _ _ _ _ hq;cases h;simp only[List.length_cons]at this ⊢;omega
  split at h
  ·cases h; simp
  split at h
  ·cases h; simp
  ·cases h; simp
theorem listS_fuel {f:List Token→Except ZD (Json×List Token)} (hf:∀ts p,f ts = .ok p→p.2.length<ts.length) {cl:ae} {obj:Bool}:∀(m m':Nat) (ns:List ae) (is:List Json) (ts:List Token),ts.length<m→ts.length<m' →
  Be f cl obj m ns is ts=Be f cl obj m' ns is ts
 | 0,_,_,_,_,h,_=>by omega
 | _+1,0,_,_,_,_,h=>by omega
 | m+1,m'+1,ns,is,ts,h,h'=>by
  simp only[Be];cases hq:zx f obj ns is ts with
  | error b=>rfl
  | ok q =>
   obtain ⟨p,Uw⟩:=q;have h1:=X1 hf hq;simp only;cases kI cl Uw with
   | some r=>rfl
   | none =>
    simp only;cases hr:kI [44] Uw with
    | none=>rfl
    | some r =>
     have h2:=Iu hr;simp only at h1 h2 ⊢;exact listS_fuel hf m m' _ _ _ (by omega) (by omega)
def Both {α:Type} (P:α→Prop) (Q:ZD→Prop):Except ZD α→Prop
 | .ok p=>P p
 | .error b=>Q b
def EJ (ts:List Token):Prop:=∃e,ts.getLast? = some e∧e.kind=5
theorem EJ.ne {ts:List Token} (h:EJ ts):ts ≠ []:=by
 rintro rfl
 obtain ⟨e,h,_⟩:=h;cases h
theorem EJ.tail {t:Token} {r:List Token} (h:EJ (t::r)) (ht:t.kind≠5):EJ r:=by
 obtain ⟨e,h1,h2⟩:=h;cases r with
 | nil =>
  simp at h1;subst h1;exact (ht h2).elim
 | cons u r=>exact ⟨e,by simpa [List.getLast?_cons_cons]using h1,h2⟩
theorem MU {x:ae} {ts r:List Token} (he:EJ ts) (h:kI x ts=some r):EJ r:=by
 cases ts with
 | nil=>cases h
 | cons t ts =>
  simp only[kI]at h;split at h
  ·rename_i hc;cases h;exact he.tail (by rw[hc.1]; decide)
  ·cases h
theorem nameS_end {ns:List ae} {ts:List Token} (he:EJ ts):Both (fun p:ae×List Token=>EJ p.2) (fun b=>EJ b.2∧b.1≠0) (KX ns ts):=by
 cases ts with
 | nil=>exact (he.ne rfl).elim
 | cons t ts =>
  simp only[KX];by_cases hk:t.kind=2
  ·rw[if_neg (by simp[hk])];have h1:=he.tail (by rw[hk]; decide);by_cases hc:ns.contains t.text=true
   ·rw[if_pos hc];exact ⟨he,by show (_:Int)≠0; simp⟩
   ·rw[if_neg hc];cases hr:kI [58] ts with
    | some r=>exact MU h1 hr
    | none=>exact ⟨h1,by show (_:Int)≠0; simp⟩
  ·rw[if_pos hk];exact ⟨he,by show (_:Int)≠0; simp⟩
theorem F3 {t:Token} {r:List Token}:decide ((0:Int)<((t::r).length:Int))=true:=by rw[decide_eq_true_eq,List.length_cons]; omega
theorem Z5 {t:Token} {r:List Token}:decide ((1:Int)≤((t::r).length:Int))=true:=by rw[decide_eq_true_eq,List.length_cons]; omega
theorem RO {R:Type} (x:ae) {ts:List Token} (hn:ts ≠ []) (k:Bool→List Token→Int→Option R):ax x ts 0 k=match kI x ts with|some r=>k true r 0|none=>k false ts 0:=by
 cases ts with
 | nil=>exact (hn rfl).elim
 | cons t r =>
  have e0:ax x (t::r) 0 k=bX (decide ((0:Int)<((t::r).length:Int))) (bif (t.kind != 1)then (k false (t::r) 0)else (bif (!(t.text==x))then (k false (t::r) 0)else (bX (decide ((1:Int)≤((t::r).length:Int))) (k true r 0)))):=rfl;rw[e0,ao F3];simp only[kI];by_cases h1:t.kind=1
  ·by_cases h2:t.text=x
   ·rw[if_pos ⟨h1,h2⟩];have e1:(t.kind != 1)=false:=by simp[h1]
    have e2:(!(t.text==x))=false:=by simp[h2]
    rw[e1,e2,ao Z5];rfl
   ·rw[if_neg (fun h=>h2 h.2)];have e1:(t.kind != 1)=false:=by simp[h1]
    have e2:(!(t.text==x))=true:=by simp[h2]
    rw[e1,e2];rfl
  ·rw[if_neg (fun h=>h1 h.1)];have e1:(t.kind != 1)=true:=by simp[h1]
   rw[e1];rfl
theorem Uc {R:Type} (ns:List ae) (x:ae) (hl:ns.length≤1099511627776) (k:Bool→Option R):∀(F i:Nat),i≤ns.length→ns.length - i<F →
  aV F ns x (ns.length:Int) (i:Int) (k (decide ((-1:Int)≥0))) (fun y=>k (decide (y≥0)))=k ((ns.drop i).contains x):=by
 intro F
 induction F with
 | zero=>intro i _ h; omega
 | succ F ih =>
  intro i hi hF;show eY (fun x0 x1 x2 x3=>aV F x0 x1 x2 x3 _ _) ns x (ns.length:Int) (i:Int) _ _=_;unfold eY;by_cases h:i<ns.length
  ·have h1:decide ((i:Int)<(ns.length:Int))=true:=by simp; omega
   have h2:(decide ((0:Int)≤(i:Int))&&true)=true:=by simp
   have hw:IntKind.i64.wrap ((i:Int)+1)=((i+1:Nat):Int):=by rw[cv (by omega) (by omega)]; omega
   have hg:ns.getD (i:Int).toNat (Ty.aR .str)=ns[i]:=getD_at h _;have hj:(decide ((i:Int)≥0))=true:=by simp
   rw[h1,cond_true,ao h2,hg,List.drop_eq_getElem_cons h,List.contains_cons];cases hq:x==ns[i]with
   | true =>
    rw[cond_true,Bool.true_or];show k (decide ((i:Int)≥0))=k true;rw[hj]
   | false =>
    rw[cond_false,Bool.false_or,hw];exact ih (i+1) (by omega) (by omega)
  ·have h1:decide ((i:Int)<(ns.length:Int))=false:=by simp; omega
   rw[h1,cond_false,List.drop_eq_nil_of_le (by omega)];rfl
theorem OU {R:Type} (ns:List ae) (x:ae) (hl:ns.length≤1099511627776) (k:Bool→Option R):aC ns x k=k (ns.contains x):=by
 have:=Uc ns x hl k (List.length ns+List.length x+Int.natAbs (ns.length:Int)+Int.natAbs 0+64) 0 (by omega) (by omega);rw[List.drop_zero]at this;exact this
theorem name_ok {R:Type} (ns:List ae) (hl:ns.length≤1099511627776) {ts:List Token} (he:EJ ts):Both (fun p:ae×List Token=>∀k:ae→List Token→Int→Option R,dm ns ts 0 k=k p.1 p.2 0)
  (fun b=>∃nm,∀k:ae→List Token→Int→Option R,dm ns ts 0 k=k nm b.2 b.1) (KX ns ts):=by
 cases ts with
 | nil=>exact (he.ne rfl).elim
 | cons t r =>
  have e0:∀k:ae→List Token→Int→Option R,dm ns (t::r) 0 k=bX (decide ((0:Int)<((t::r).length:Int))) (bif (t.kind != 2)then (k t.text (t::r) 40)else (aC ns t.text (fun y6=>bif y6 then (k t.text (t::r) 42)else (bX (decide ((1:Int)≤((t::r).length:Int))) (ax [58] r 0 (fun y9 p9 n0=>bif (!y9)then (au 40 p9 n0 (fun yp Im=>k t.text yp Im))else (k t.text p9 n0))))))):=fun k=>rfl
  simp only[KX];by_cases hk:t.kind=2
  ·have e1:(t.kind != 2)=false:=by simp[hk]
   have hr:=he.tail (by rw[hk]; decide);rw[if_neg (by simp[hk])];cases hc:ns.contains t.text with
   | true =>
    rw[if_pos rfl];refine ⟨t.text,fun k => ?_⟩;rw[e0,ao F3,e1,cond_false,OU ns _ hl,hc];rfl
   | false =>
    rw[if_neg (by simp)];have hs:=fun k:Bool→List Token→Int→Option R=>RO [58] hr.ne k
    cases hq:kI [58] r with
    | some r' =>
     rw[hq]at hs;intro k;rw[e0,ao F3,e1,cond_false,OU ns _ hl,hc,cond_false,ao Z5];exact hs _
    | none =>
     rw[hq]at hs;refine ⟨t.text,fun k => ?_⟩;rw[e0,ao F3,e1,cond_false,OU ns _ hl,hc,cond_false,ao Z5];exact hs _
  ·have e1:(t.kind != 2)=true:=by simp[hk]
   rw[if_pos hk];refine ⟨t.text,fun k => ?_⟩;rw[e0,ao F3,e1];rfl
def Hval {R:Type} (kv:aD R) (f:List Token→Except ZD (Json×List Token)) (d:Int) (B:Nat):Prop :=
 ∀ts,EJ ts→ts.length≤B→Both (fun p:Json×List Token=>EJ p.2∧∀k:Json→List Token→Int→Option R,kv d ts 0 k=k p.1 p.2 0)
  (fun b=>(EJ b.2∧b.1≠0)∧∃v,∀k:Json→List Token→Int→Option R,kv d ts 0 k=k v b.2 b.1) (f ts)
theorem Z6 {α:Type} (l:List α) (a b:α):(l ++ [a]).set ((l.length:Int)).toNat b=l ++ [b]:=by
 rw[Int.toNat_natCast,List.set_append_right _ _ (Nat.le_refl _),Nat.sub_self];rfl
abbrev PartG (R:Type):=Bool→Int→Int→Int→ae→List ae→Nat→Int→List Json→List Token→Int→Option R
theorem parts_ok {R:Type} (kv:aD R) (f:List Token→Except ZD (Json×List Token)) (d:Int) (hd:0≤d∧d≤16) (B:Nat) (hv:Hval kv f (d+1) B) (obj:Bool) (kd a b:Int) (tx:ae) (ns:List ae) (is:List Json) (ts:List Token)
  (he:EJ ts) (hB:ts.length≤B) (TS:ns.length≤1000000000) (Z3:is.length≤1000000000) :
  Both (fun p:(List ae×List Json)×List Token=>EJ p.2∧∀G:PartG R,bn kv obj kd a b tx ns is.length d is ts 0 (fun a1 a2 a3 a4 a5 a6 a7 a8 t e i=>G a1 a2 a3 a4 a5 a6 a7 a8 i t e) G (fun a1 a2 a3 a4 a5 a6 a7 a8 t e i=>G a1 a2 a3 a4 a5 a6 a7 a8 i t e) G=G obj kd a b tx p.1.1 p.1.2.length d p.1.2 p.2 0)
   (fun q=>(EJ q.2∧q.1≠0)∧∃ns' n' is',∀G:PartG R,bn kv obj kd a b tx ns is.length d is ts 0 (fun a1 a2 a3 a4 a5 a6 a7 a8 t e i=>G a1 a2 a3 a4 a5 a6 a7 a8 i t e) G (fun a1 a2 a3 a4 a5 a6 a7 a8 t e i=>G a1 a2 a3 a4 a5 a6 a7 a8 i t e) G=G obj kd a b tx ns' n' d is' q.2 q.1)
   (zx f obj ns is ts):=by
 have e0:∀k0 k1 k2 k3,bn kv obj kd a b tx ns is.length d is ts 0 k0 k1 k2 k3=eE dm kv obj kd a b tx ns is.length d is ts 0 k0 k1 k2 k3:=fun _ _ _ _=>rfl
 have c1:decide ((ns.length+1)*16≤140737488355328)=true:=by rw[decide_eq_true_eq]; omega
 have c2:decide ((is.length+1)*88≤140737488355328)=true:=by rw[decide_eq_true_eq]; omega
 have hw:IntKind.i64.wrap (d+1)=d+1:=cv (by omega) (by omega);have jW:∀c:Int,c≠0→(c==0)=false:=fun c hc=>by simpa using hc
 cases obj with
 | true =>
  have hn:=name_ok (R:=R) ns (by omega) he;have hnE:=nameS_end (ns:=ns) he;have hnL:=fun p=>nameS_len (ns:=ns) (ts:=ts) (p:=p)
  simp only[zx];cases hq:KX ns ts with
  | error q =>
   rw[hq]at hn hnE;obtain ⟨nm,hn⟩:=hn;refine ⟨hnE,ns ++ [nm],is.length,is,fun G => ?_⟩;rw[e0];unfold eE;rw[cond_true,hn,ao c1,jW _ hnE.2];rfl
  | ok q =>
   obtain ⟨nm,ts1⟩:=q;rw[hq]at hn hnE hnL;have hl1:=hnL _ rfl;have h2:=hv ts1 hnE (by simp only at hl1; omega);simp only;cases hf:f ts1 with
   | error q =>
    rw[hf]at h2;obtain ⟨h2,v,h3⟩:=h2;refine ⟨h2,ns ++ [nm],is.length+1,is ++ [v],fun G => ?_⟩;rw[e0];unfold eE;rw[cond_true,hn,ao c1];show (kv (IntKind.i64.wrap (d+1)) ts1 0 _)=_;rw[hw,h3,ao c2,ao (by simp; omega),ao (by simp),Z6,Json.eta]
   | ok q =>
    obtain ⟨v,Uw⟩:=q;rw[hf]at h2;obtain ⟨h2,h3⟩:=h2;refine ⟨h2,fun G => ?_⟩;rw[e0];unfold eE;rw[cond_true,hn,ao c1];show (kv (IntKind.i64.wrap (d+1)) ts1 0 _)=_;rw[hw,h3,ao c2,ao (by simp; omega),ao (by simp),Z6,Json.eta];simp only[List.length_append,List.length_cons,List.length_nil]
 | false =>
  have h2:=hv ts he hB;simp only[zx];cases hf:f ts with
  | error q =>
   rw[hf]at h2;obtain ⟨h2,v,h3⟩:=h2;refine ⟨h2,ns,is.length+1,is ++ [v],fun G => ?_⟩;rw[e0];unfold eE;show (kv (IntKind.i64.wrap (d+1)) ts 0 _)=_;rw[hw,h3,ao c2,ao (by simp; omega),ao (by simp),Z6,Json.eta]
  | ok q =>
   obtain ⟨v,Uw⟩:=q;rw[hf]at h2;obtain ⟨h2,h3⟩:=h2;refine ⟨h2,fun G => ?_⟩;rw[e0];unfold eE;show (kv (IntKind.i64.wrap (d+1)) ts 0 _)=_;rw[hw,h3,ao c2,ao (by simp; omega),ao (by simp),Z6,Json.eta];simp only[List.length_append,List.length_cons,List.length_nil]
theorem partS_out {f:List Token→Except ZD (Json×List Token)} {obj:Bool} {ns:List ae} {is:List Json} {ts:List Token} {p:(List ae×List Json)×List Token} (h:zx f obj ns is ts = .ok p) :
  p.1.1.length≤ns.length+1∧p.1.2.length=is.length+1:=by
 cases obj with
 | true =>
  simp only[zx]at h;split at h
  ·cases h
  ·split at h
   ·cases h
   ·cases h; simp
 | false =>
  simp only[zx]at h;split at h
  ·cases h
  ·cases h; simp
theorem loop_ok {R:Type} (kv:aD R) (f:List Token→Except ZD (Json×List Token)) (hfl:∀ts p,f ts = .ok p→p.2.length<ts.length) (d:Int) (hd:0≤d∧d≤16) (B:Nat) (hBB:B≤100000000) (hv:Hval kv f (d+1) B) (obj:Bool) (kd a b:Int) (tx cl:ae) :
  ∀(F:Nat) (ns:List ae) (is:List Json) (ts:List Token),ts.length<F→EJ ts→ts.length≤B→ns.length+ts.length≤1000000000→is.length+ts.length≤1000000000 →
  Both (fun p:(List ae×List Json)×List Token=>EJ p.2∧∀e0,aK kv F cl ts 0 obj kd a b tx ns is.length d is e0=e0 p.2 0 obj kd a b tx p.1.1 p.1.2.length d p.1.2)
   (fun q=>(EJ q.2∧q.1≠0)∧∃ns' n' is',∀e0,aK kv F cl ts 0 obj kd a b tx ns is.length d is e0=e0 q.2 q.1 obj kd a b tx ns' n' d is')
   (Be f cl obj F ns is ts):=by
 intro F
 induction F with
 | zero=>intro ns is ts h; omega
 | succ F ih =>
  intro ns is ts hF he hB TS Z3;have e1:∀e0,aK kv (F+1) cl ts 0 obj kd a b tx ns is.length d is e0=oH au (bn kv) ax (fun gf gk gw mA wC xH EC Gc JK JL qm zF=>aK kv F gf gk gw mA wC xH EC Gc JK JL qm zF e0) cl ts 0 obj kd a b tx ns is.length d is e0:=fun e0=>rfl
  let G:(List Token→Int→Bool→Int→Int→Int→ae→List ae→Nat→Int→List Json→Option R)→PartG R:=fun e0 y36 y37 y38 Yq ZZ y41 y42 Z0 y44 y45 y46 =>
   bif (y46 != 0)then (e0 y45 y46 y36 y37 y38 Yq ZZ y41 y42 Z0 y44)else (ax cl y45 y46 (fun y80 y81 y82=>bif y80 then (e0 y81 y82 y36 y37 y38 Yq ZZ y41 y42 Z0 y44)else (ax [44] y81 y82 (fun y86 y87 y88=>bif (!y86)then (au 40 y87 y88 (fun y89 y90=>e0 y89 y90 y36 y37 y38 Yq ZZ y41 y42 Z0 y44))else (aK kv F cl y87 y88 y36 y37 y38 Yq ZZ y41 y42 Z0 y44 e0)))))
  have e2:∀e0,aK kv (F+1) cl ts 0 obj kd a b tx ns is.length d is e0=bn kv obj kd a b tx ns is.length d is ts 0 (fun a1 a2 a3 a4 a5 a6 a7 a8 t e i=>G e0 a1 a2 a3 a4 a5 a6 a7 a8 i t e) (G e0) (fun a1 a2 a3 a4 a5 a6 a7 a8 t e i=>G e0 a1 a2 a3 a4 a5 a6 a7 a8 i t e) (G e0):=fun e0=>rfl
  have hp:=parts_ok kv f d hd B hv obj kd a b tx ns is ts he hB (by omega) (by omega);simp only[Be];cases hq:zx f obj ns is ts with
  | error q =>
   rw[hq]at hp;obtain ⟨h1,ns',n',is',h2⟩:=hp;refine ⟨h1,ns',n',is',fun e0 => ?_⟩;rw[e2,h2];show (bif (q.1 != 0)then _ else _)=_;have:(q.1 != 0)=true:=by simpa using h1.2
   rw[this,cond_true]
  | ok q =>
   obtain ⟨⟨ns1,is1⟩,Uw⟩:=q;rw[hq]at hp;obtain ⟨h1,h2⟩:=hp;have hlen:=X1 hfl hq;have hout:=partS_out hq;simp only at h1 h2 hlen hout ⊢;have s1:=fun k:Bool→List Token→Int→Option R=>RO cl h1.ne k
   cases hs:kI cl Uw with
   | some r =>
    rw[hs]at s1;refine ⟨MU h1 hs,fun e0 => ?_⟩;rw[e2,h2];show ax cl Uw 0 _=_;rw[s1];rfl
   | none =>
    rw[hs]at s1;have s2:=fun k:Bool→List Token→Int→Option R=>RO [44] h1.ne k
    simp only;cases hs2:kI [44] Uw with
    | none =>
     rw[hs2]at s2;refine ⟨⟨h1,by show (_:Int)≠0; simp⟩,ns1,is1.length,is1,fun e0 => ?_⟩;rw[e2,h2];show ax cl Uw 0 _=_;rw[s1];show ax [44] Uw 0 _=_;rw[s2];rfl
    | some r =>
     rw[hs2]at s2;have hl3:=Iu hs2;have hih:=ih ns1 is1 r (by omega) (MU h1 hs2) (by omega) (by omega) (by omega);have e3:∀e0,aK kv (F+1) cl ts 0 obj kd a b tx ns is.length d is e0=aK kv F cl r 0 obj kd a b tx ns1 is1.length d is1 e0:=fun e0=>by
      rw[e2,h2];show ax cl Uw 0 _=_;rw[s1];show ax [44] Uw 0 _=_;rw[s2];rfl
     simp only[e3];exact hih
theorem list_ok {R:Type} (kv:aD R) (f:List Token→Except ZD (Json×List Token)) (hfl:∀ts p,f ts = .ok p→p.2.length<ts.length) (d:Int) (hd:0≤d∧d≤16) (B:Nat) (hBB:B≤100000000) (hv:Hval kv f (d+1) B) (obj:Bool) (kd a b:Int) (tx cl:ae)
  (r:List Token) (he:EJ r) (hB:r.length≤B) (hs:kI cl r=none) :
  Both (fun p:(List ae×List Json)×List Token=>EJ p.2∧∀K0 (K:Json→List Token→Int→Option R),cj kv cl r 0 obj kd a b tx d K0 (fun Im IT JG Hm Ql NH U5 Sw Fe y22 ZY=>K ⟨Hm,⟨Ql,NH⟩,U5,Sw,ZY⟩ Im IT)=K ⟨kd,⟨a,b⟩,tx,p.1.1,p.1.2⟩ p.2 0)
   (fun q=>(EJ q.2∧q.1≠0)∧∃v,∀K0 (K:Json→List Token→Int→Option R),cj kv cl r 0 obj kd a b tx d K0 (fun Im IT JG Hm Ql NH U5 Sw Fe y22 ZY=>K ⟨Hm,⟨Ql,NH⟩,U5,Sw,ZY⟩ Im IT)=K v q.2 q.1) (Be f cl obj (r.length+1) [] [] r):=by
 have e1:∀K0 K1,cj kv cl r 0 obj kd a b tx d K0 K1=ax cl r 0 (fun p9 n0 yp=>bif p9 then (K0 n0 yp obj kd a b tx d)else (aK kv (List.length cl+List.length n0+Int.natAbs yp+Int.natAbs kd+Int.natAbs a+Int.natAbs b+List.length tx+List.length ([]:List ae)+Int.natAbs d+List.length ([]:List Json)+64) cl n0 yp obj kd a b tx ([]:List ae) 0 d ([]:List Json) K1)):=fun K0 K1=>rfl
 have s1:=fun k:Bool→List Token→Int→Option R=>RO cl he.ne k
 rw[hs]at s1;have hl:=loop_ok kv f hfl d hd B hBB hv obj kd a b tx cl (List.length cl+List.length r+Int.natAbs 0+Int.natAbs kd+Int.natAbs a+Int.natAbs b+List.length tx+List.length ([]:List ae)+Int.natAbs d+List.length ([]:List Json)+64) [] [] r (by omega) he hB (by simp; omega) (by simp; omega);have e2:∀K0 K1,cj kv cl r 0 obj kd a b tx d K0 K1=aK kv (List.length cl+List.length r+Int.natAbs 0+Int.natAbs kd+Int.natAbs a+Int.natAbs b+List.length tx+List.length ([]:List ae)+Int.natAbs d+List.length ([]:List Json)+64) cl r 0 obj kd a b tx ([]:List ae) ([]:List Json).length d ([]:List Json) K1:=fun K0 K1=>by
  rw[e1,s1];rfl
 rw[listS_fuel hfl _ (r.length+1) [] [] r (by omega) (by omega)]at hl;cases hq:Be f cl obj (r.length+1) [] [] r with
 | error q =>
  rw[hq]at hl;obtain ⟨h1,ns',n',is',h2⟩:=hl;exact ⟨h1,⟨kd,⟨a,b⟩,tx,ns',is'⟩,fun K0 K=>by rw[e2,h2]⟩
 | ok p =>
  rw[hq]at hl;obtain ⟨h1,h2⟩:=hl;exact ⟨h1,fun K0 K=>by rw[e2,h2]⟩
theorem list_none {R:Type} (kv:aD R) (obj:Bool) (kd a b d:Int) (tx cl:ae) (r r':List Token) (hn:r ≠ []) (hs:kI cl r=some r') (K0 K1) :
  cj (R:=R) kv cl r 0 obj kd a b tx d K0 K1=K0 r' 0 obj kd a b tx d:=by
 have e1:cj kv cl r 0 obj kd a b tx d K0 K1=ax cl r 0 (fun p9 n0 yp=>bif p9 then (K0 n0 yp obj kd a b tx d)else (aK kv (List.length cl+List.length n0+Int.natAbs yp+Int.natAbs kd+Int.natAbs a+Int.natAbs b+List.length tx+List.length ([]:List ae)+Int.natAbs d+List.length ([]:List Json)+64) cl n0 yp obj kd a b tx ([]:List ae) 0 d ([]:List Json) K1)):=rfl;rw[e1,RO cl hn,hs];rfl
theorem parts_t {R:Type} (kv:aD R) (d:Int) (r:List Token) (q:Json→List Token→Int→Option R):dh kv true d r 0 q =
  cj kv [125] r 0 true 7 0 0 [] d (fun y5 y6 y7 y8 y9 p9 n0 yp=>q ⟨y8,⟨y9,p9⟩,n0, [], []⟩ y5 y6) (fun Im IT JG Hm Ql NH U5 Sw Fe y22 ZY=>q ⟨Hm,⟨Ql,NH⟩,U5,Sw,ZY⟩ Im IT):=rfl
theorem parts_f {R:Type} (kv:aD R) (d:Int) (r:List Token) (q:Json→List Token→Int→Option R):dh kv false d r 0 q =
  cj kv [93] r 0 false 6 0 0 [] d (fun y5 y6 y7 y8 y9 p9 n0 yp=>q ⟨y8,⟨y9,p9⟩,n0, [], []⟩ y5 y6) (fun Im IT JG Hm Ql NH U5 Sw Fe y22 ZY=>q ⟨Hm,⟨Ql,NH⟩,U5,Sw,ZY⟩ Im IT):=rfl
section
variable {R:Type} (kv:aD R) (d:Int) (t:Token) (r:List Token) (k:Json→List Token→Int→Option R)
def J18:Option R:=bif (t.kind==3)then k ⟨4,⟨t.num.aq,t.num.exp⟩, [], [], []⟩ r 0 else k ⟨5,⟨0,0⟩,t.text, [], []⟩ r 0
def J16 (z:Bool):Option R:=bif z then (bif (t.kind==4)then k ⟨mO .str (.int .i64) t.text namesM,⟨0,0⟩, [], [], []⟩ r 0 else J18 t r k)else J18 t r k
def J17 (z:Bool):Option R:=bif z then (bif (t.kind==1)then dh kv (t.text == [123]) d r 0 (fun yp Im IT=>k ⟨yp.kind,⟨yp.num.aq,yp.num.exp⟩,yp.text,yp.names,yp.items⟩ Im IT)else J18 t r k)
 else (bif (t.text==sP)then J16 t r k (t.text==sP)else (bif (t.text==lN)then J16 t r k (t.text==lN)else J16 t r k (t.text==ym)))
def J19:Option R:=bX (decide ((1:Int)≤((t::r).length:Int))) (bif (t.text == [91])then J17 kv d t r k (t.text == [91])else J17 kv d t r k (t.text == [123]))
def J20 (z:Bool):Option R:=bif (!z)then k ⟨0,⟨0,0⟩, [], [], []⟩ (t::r) 40 else (bif (decide (d>16))then k ⟨0,⟨0,0⟩, [], [], []⟩ (t::r) 41 else J19 kv d t r k)
end
theorem value_head {R:Type} (n:Nat) (d:Int) (t:Token) (r:List Token) (k:Json→List Token→Int→Option R):bt (n+1) d (t::r) 0 k=J20 (bt n) d t r k (vB t):=by
 have e0:bt (n+1) d (t::r) 0 k=bX (decide ((0:Int)<((t::r).length:Int))) (let j:=J20 (bt n) d t r k; bif (t.kind==2)then j true else (bif (t.kind==3)then j true else (bif (t.kind==4)then j true else (bif (t.kind==1)then (bif (t.text == [91])then j true else j (t.text == [123]))else j false)))):=rfl;rw[e0,ao F3];unfold vB Js;simp only;cases t.kind==2 <;> cases t.kind==3 <;> cases t.kind==4 <;> cases t.kind==1 <;> cases t.text == [91] <;> rfl
theorem open_named {x:ae} (h:Js x=true):FG x=false:=by
 unfold Js at h;rw[Bool.or_eq_true,beq_iff_eq,beq_iff_eq]at h;rcases h with rfl|rfl <;> rfl
theorem value_ok {R:Type} (B:Nat) (hBB:B≤100000000):∀(n:Nat) (d:Int),0≤d→d≤17→17 - d<n→Hval (R:=R) (bt n) (yT n d) d B:=by
 intro n
 induction n with
 | zero=>intro d h0 h1 h2; omega
 | succ n ih =>
  intro d h0 h1 h2 ts he hB;cases ts with
  | nil=>exact (he.ne rfl).elim
  | cons t r =>
   simp only[yT];have hv:=fun k=>value_head (R:=R) n d t r k
   cases hst:vB t with
   | false =>
    rw[if_pos rfl];rw[hst]at hv;exact ⟨⟨he,by show (_:Int)≠0; simp⟩,_,fun k=>hv k⟩
   | true =>
    rw[if_neg (by simp)];rw[hst]at hv;by_cases hd:d>16
    ·rw[if_pos hd];refine ⟨⟨he,by show (_:Int)≠0; simp⟩,⟨0,⟨0,0⟩, [], [], []⟩,fun k => ?_⟩;rw[hv];unfold J20;have e1:decide (d>16)=true:=by simpa using hd
     rw[e1];rfl
    ·rw[if_neg hd];have hk5:t.kind≠5:=by
      intro h5;simp[vB,h5]at hst
     have her:=he.tail hk5;have hrB:r.length≤B:=by simp only[List.length_cons]at hB; omega
     have hv2:∀k,bt (n+1) d (t::r) 0 k=J17 (bt n) d t r k (Js t.text):=fun k=>by
      rw[hv];unfold J20;have e1:decide (d>16)=false:=by simpa using hd
      rw[e1,Bool.not_true,cond_false,cond_false];unfold J19;rw[ao Z5];unfold Js;cases t.text == [91] <;> rfl
     have h18:¬(t.kind=1∧Js t.text=true)→¬(t.kind=4∧FG t.text=true)→∀k,bt (n+1) d (t::r) 0 k=J18 t r k:=fun g1 g2 k=>by
      rw[hv2];unfold J17;cases ho:Js t.text with
      | true =>
       have:(t.kind==1)=false:=by
        rw[beq_eq_false_iff_ne];exact fun h=>g1 ⟨h,ho⟩
       rw[cond_true,this,cond_false]
      | false =>
       rw[cond_false];have hnm:(bif (t.text==sP)then J16 t r k (t.text==sP)else (bif (t.text==lN)then J16 t r k (t.text==lN)else J16 t r k (t.text==ym)))=J16 t r k (FG t.text):=by
        unfold FG;cases t.text==sP <;> cases t.text==lN <;> rfl
       rw[hnm];unfold J16;cases hn:FG t.text with
       | false=>rfl
       | true =>
        have:(t.kind==4)=false:=by
         rw[beq_eq_false_iff_ne];exact fun h=>g2 ⟨h,hn⟩
        rw[cond_true,this,cond_false]
     by_cases hop:t.kind=1∧Js t.text=true
     ·rw[if_pos hop];have ek:(t.kind==1)=true:=by simpa using hop.1
      have hvp:∀k,bt (n+1) d (t::r) 0 k=dh (bt n) (t.text == [123]) d r 0 k:=fun k=>by
       rw[hv2];unfold J17;rw[hop.2,cond_true,ek,cond_true];simp only[Json.eta]
      have kv:=ih (d+1) (by omega) (by omega) (by omega);have hfl:=fun ts p=>valS_len n (d+1) ts p
      cases hobj:t.text == [123]with
      | true =>
       simp only[if_true];rw[hobj]at hvp;cases hs:kI [125] r with
       | some r' =>
        refine ⟨MU her hs,fun k => ?_⟩;rw[hvp];rw[parts_t];rw[list_none _ _ _ _ _ _ _ _ _ _ her.ne hs]
       | none =>
        have hl:=list_ok (R:=R) _ _ hfl d ⟨h0,by omega⟩ B hBB kv true 7 0 0 [] [125] r her hrB hs;simp only;cases hq:Be (yT n (d+1)) [125] true (r.length+1) [] [] r with
        | error q =>
         rw[hq]at hl;obtain ⟨g1,v,g2⟩:=hl;refine ⟨g1,v,fun k => ?_⟩;rw[hvp];rw[parts_t];exact g2 _ k
        | ok p =>
         rw[hq]at hl;obtain ⟨g1,g2⟩:=hl;refine ⟨g1,fun k => ?_⟩;rw[hvp];rw[parts_t];exact g2 _ k
      | false =>
       simp only[Bool.false_eq_true,if_false];rw[hobj]at hvp;cases hs:kI [93] r with
       | some r' =>
        refine ⟨MU her hs,fun k => ?_⟩;rw[hvp];rw[parts_f];rw[list_none _ _ _ _ _ _ _ _ _ _ her.ne hs]
       | none =>
        have hl:=list_ok (R:=R) _ _ hfl d ⟨h0,by omega⟩ B hBB kv false 6 0 0 [] [93] r her hrB hs;simp only;cases hq:Be (yT n (d+1)) [93] false (r.length+1) [] [] r with
        | error q =>
         rw[hq]at hl;obtain ⟨g1,v,g2⟩:=hl;refine ⟨g1,v,fun k => ?_⟩;rw[hvp];rw[parts_f];exact g2 _ k
        | ok p =>
         rw[hq]at hl;obtain ⟨g1,g2⟩:=hl;refine ⟨g1,fun k => ?_⟩;rw[hvp];rw[parts_f];exact g2 _ k
     ·rw[if_neg hop];by_cases hnm:t.kind=4∧FG t.text=true
      ·rw[if_pos hnm];refine ⟨her,fun k => ?_⟩;rw[hv2];have ho:Js t.text=false:=by
        cases ho:Js t.text with
        | false=>rfl
        | true=>rw[open_named ho]at hnm; cases hnm.2
       have ek:(t.kind==4)=true:=by simpa using hnm.1
       unfold J17;rw[ho,cond_false];have TL:(bif (t.text==sP)then J16 t r k (t.text==sP)else (bif (t.text==lN)then J16 t r k (t.text==lN)else J16 t r k (t.text==ym)))=J16 t r k (FG t.text):=by
        unfold FG;cases t.text==sP <;> cases t.text==lN <;> rfl
       rw[TL,hnm.2];unfold J16;rw[ek];rfl
      ·rw[if_neg hnm];have h:=h18 hop hnm;by_cases hk3:t.kind=3
       ·rw[if_pos hk3];refine ⟨her,fun k => ?_⟩;rw[h];unfold J18;have ek:(t.kind==3)=true:=by simpa using hk3
        rw[ek];rfl
       ·rw[if_neg hk3];refine ⟨her,fun k => ?_⟩;rw[h];unfold J18;have ek:(t.kind==3)=false:=by simpa using hk3
        rw[ek];rfl
theorem scanN_len:∀(n p:Nat) (s:ae) (out:List Token),(zw n p s out).1.length≤out.length+s.length+1
 | 0,_,_,_=>by simp[zw]
 | n+1,p,s,out=>by
  simp only[zw];split
  ·simp <;> omega
  ·split
   ·simp
   ·rename_i t r hr;have h1:=(tokS_sfx hr).2;have h2:=C2 sT s;have h3:=scanN_len n (p+(s.length - r.length)) r (out ++ [putT t ((p+(s.takeWhile sT).length:Nat):Int)]);rw[List.length_append,List.length_cons,List.length_nil]at h3;omega
theorem scanS_len (s:ae):(sQ s).1.length≤20002:=by
 unfold sQ;split
 ·simp
 ·have:=scanN_len (s.length+1) 0 s [];simp at this;omega
def stT (t:Token):Int×ae×fO:=(t.kind,t.text,t.num)
theorem tokW_st:∀(l:List rR) (p:Nat),(tokW p l).map stT=l.map fun x=>stT x.2.2
 | [],_=>rfl
 | x::l,p=>by simp only[tokW,List.map_cons,tokW_st l]; rfl
theorem scanN_end:∀(n p:Nat) (s:ae) (out:List Token),s.length<n→(zw n p s out).2.1=0→EJ (zw n p s out).1
 | 0,_,_,_,h,_=>by omega
 | n+1,p,s,out,h,he=>by
  simp only[zw]at he ⊢;by_cases hd:s.dropWhile sT = []
  ·rw[if_pos hd];exact ⟨_,List.getLast?_concat ..,rfl⟩
  ·rw[if_neg hd]at he ⊢;cases hr:tokS (s.dropWhile sT)with
   | none=>rw[hr]at he; cases he
   | some q =>
    obtain ⟨t,r⟩:=q;rw[hr]at he;have h3:=(tokS_sfx hr).2;have h4:=C2 sT s;exact scanN_end n _ r _ (by omega) he
theorem scanS_end (s:ae) (he:(sQ s).2.1=0):EJ (sQ s).1:=by
 unfold sQ at he ⊢;split at he
 ·cases he
 ·rename_i h;rw[if_neg h];exact scanN_end _ _ _ _ (by omega) he
def nY (s:ae):Json×Int×Int :=
 if (sQ s).2.1≠0 then (⟨0,⟨0,0⟩, [], [], []⟩,(sQ s).2.1,(sQ s).2.2)else
 match yT 40 1 (sQ s).1 with
 | .error b=>(⟨0,⟨0,0⟩, [], [], []⟩,b.1,(b.2.getD 0 ⟨0, [],⟨0,0⟩,0⟩).at_)
 | .ok (v,r)=>if (r.getD 0 ⟨0, [],⟨0,0⟩,0⟩).kind≠5 then (⟨0,⟨0,0⟩, [], [], []⟩,40,(r.getD 0 ⟨0, [],⟨0,0⟩,0⟩).at_)else (v,0,0)
theorem jparse_ok {R:Type} (s:ae) (k:Json→Int→Int→Option R):cW s k=k (nY s).1 (nY s).2.1 (nY s).2.2:=by
 have e0:cW s k=H5 au du nR s k:=rfl;rw[e0];unfold H5 nY;rw[scan_ok];by_cases h:(sQ s).2.1=0;rotate_left
 ·have e1:((sQ s).2.1 != 0)=true:=by simpa using h
  rw[if_pos h,e1];rfl
 have e1:((sQ s).2.1 != 0)=false:=by simpa using h
 rw[if_neg (by simpa using h),e1,cond_false];have hE:=scanS_end s h;have hL:=scanS_len s;have hv:=value_ok (R:=R) 20002 (by omega) 40 1 (by omega) (by omega) (by omega) (sQ s).1 hE hL;have e2:∀q,du (R:=R) 1 (sQ s).1 0 q=bt 40 1 (sQ s).1 0 q:=fun q=>rfl
 rw[e2];cases hq:yT 40 1 (sQ s).1 with
 | error b =>
  rw[hq]at hv;obtain ⟨⟨g1,g2⟩,v,g3⟩:=hv;rw[g3];obtain ⟨c,r⟩:=b;cases r with
  | nil=>exact (g1.ne rfl).elim
  | cons t r =>
   have e3:(c != 0)=true:=by simpa using g2
   have hf:∀q:List Token→Int→Option R,au 40 (t::r) c q=q (t::r) c:=fun q=>by
    show (bif c==0 then q (t::r) 40 else q (t::r) c)=_;have e4:(c==0)=false:=by simpa using g2
    rw[e4]; rfl
   rw[ao F3];simp only[hf];have hz:∀z:Bool,(bif z then (bif (c != 0)then bX (decide ((0:Int)<((t::r).length:Int))) (k ⟨0,⟨0,0⟩, [], [], []⟩ c t.at_)else k v 0 0)else (bif (c != 0)then bX (decide ((0:Int)<((t::r).length:Int))) (k ⟨0,⟨0,0⟩, [], [], []⟩ c t.at_)else k v 0 0))=k ⟨0,⟨0,0⟩, [], [], []⟩ c t.at_:=fun z=>by
    rw[e3,ao F3];cases z <;> rfl
   have:=hz (t.kind != 5);obtain ⟨kd,⟨n1,n2⟩,tx,ns,is⟩:=v;exact this
 | ok p =>
  rw[hq]at hv;obtain ⟨g1,g2⟩:=hv;obtain ⟨v,r⟩:=p;rw[g2];cases r with
  | nil=>exact (g1.ne rfl).elim
  | cons t r =>
   rw[ao F3];by_cases hk:t.kind=5
   ·have e3:(t.kind != 5)=false:=by simpa using hk
    have:((((v,t::r):Json×List Token).2).getD 0 (Ty.aR .token)).kind=t.kind:=rfl;show (bif (t.kind != 5)then _ else _)=_;rw[e3,cond_false];obtain ⟨kd,⟨n1,n2⟩,tx,ns,is⟩:=v;show k ⟨kd,⟨n1,n2⟩,tx,ns,is⟩ 0 0=_;have vH:¬(((t::r).getD 0 ⟨0, [],⟨0,0⟩,0⟩).kind≠5):=fun h=>h hk
    simp only;rw[if_neg vH]
   ·have e3:(t.kind != 5)=true:=by simpa using hk
    show (bif (t.kind != 5)then _ else _)=_;rw[e3,cond_true];show bX (decide ((0:Int)<((t::r).length:Int))) (k ⟨0,⟨0,0⟩, [], [], []⟩ 40 t.at_)=_;rw[ao F3];have vH:(((t::r).getD 0 ⟨0, [],⟨0,0⟩,0⟩).kind≠5):=hk;simp only;rw[if_pos vH];rfl
def stW (x:rR):Int×ae×fO:=stT x.2.2
theorem OV {ts:List Token} {x:rR} {l:List rR} (h:ts.map stT=(x::l).map stW):∃t r,ts=t::r∧stT t=stW x∧r.map stT=l.map stW:=by
 cases ts with
 | nil=>cases h
 | cons t r =>
  simp only[List.map_cons,List.cons.injEq]at h;exact ⟨t,r,rfl,h.1,h.2⟩
theorem st_app {ts:List Token} {a b:List rR} (h:ts.map stT=(a++b).map stW):∃u v,ts=u++v∧u.map stT=a.map stW∧v.map stT=b.map stW:=by
 rw[List.map_append]at h;obtain ⟨u,v,e,h1,h2⟩:=List.map_eq_append_iff.1 h;exact ⟨u,v,e,h1,h2⟩
theorem st_one {ts:List Token} {x:rR} (h:ts.map stT = [x].map stW):∃t,ts = [t]∧stT t=stW x:=by
 obtain ⟨t,r,e,h1,h2⟩:=OV h;cases r with
 | nil=>exact ⟨t,e,h1⟩
 | cons u r=>cases h2
theorem Eh {t:Token} {x:rR} (h:stT t=stW x):t.kind=x.2.2.kind∧t.text=x.2.2.text∧t.num=x.2.2.num:=by
 unfold stW stT at h;simp only[Prod.mk.injEq]at h;exact h
theorem val_name {n:Nat} {d:Int} (hd:d≤16) {t:Token} {rest:List Token} {x:ae} (hx:x=sP∨x=lN∨x=ym) (hk:t.kind=4) (ht:t.text=x) :
  yT (n+1) d (t::rest) = .ok (⟨mO .str (.int .i64) x namesM,⟨0,0⟩, [], [], []⟩,rest):=by
 have h1:vB t=true:=by simp[vB,hk]
 have h2:FG t.text=true:=by
  rw[ht];rcases hx with rfl|rfl|rfl <;> rfl
 simp only[yT];rw[if_neg (by rw[h1]; simp),if_neg (by omega),if_neg (by rw[hk]; simp),if_pos ⟨hk,h2⟩,ht]
theorem valS_sign {n:Nat} {d:Int} {ts:List Token} {p:Json×List Token} (h:yT n d ts = .ok p):kI [93] ts=none∧kI [125] ts=none:=by
 cases n with
 | zero=>cases h
 | succ n =>
  cases ts with
  | nil=>cases h
  | cons t r =>
   simp only[yT]at h;by_cases hs:vB t=false
   ·rw[if_pos hs]at h; cases h
   ·have jW:∀x:ae,x = [93]∨x = [125]→¬(t.kind=1∧t.text=x):=fun x hx ⟨h1,h2⟩=>by
     apply hs;rcases hx with rfl|rfl <;> simp[vB,Js,h1,h2]
    simp only[kI];rw[if_neg (jW _ (.inl rfl)),if_neg (jW _ (.inr rfl))];exact ⟨rfl,rfl⟩
mutual
theorem Ux:∀(v:Json) (d:Int) (n:Nat) (ts rest:List Token),dH v d=true→17 - d<n→ts.map stT=(qu v).map stW→yT n d (ts++rest) = .ok (v,rest)
 | ⟨k,nm,t,ns,is⟩,d,0,ts,rest,h,hn,hw=>by
  have:d≤16:=by
   cases fp.1 h <;> assumption
  omega
 | ⟨k,nm,t,ns,is⟩,d,n+1,ts,rest,h,hn,hw=>by
  have hL:=listS_wL is;have hO:=listS_wO ns is;cases fp.1 h with
  | name _ _ hd hk =>
   have Vv:∀x:ae,(x=sP∨x=lN∨x=ym)→ts.map stT = [(([],x,⟨4,x,⟨0,0⟩,0⟩):rR)].map stW→yT (n+1) d (ts++rest) = .ok (⟨mO .str (.int .i64) x namesM,⟨0,0⟩, [], [], []⟩,rest):=fun x hx hw=>by
    obtain ⟨u,rfl,hu⟩:=st_one hw;obtain ⟨h1,h2,_⟩:=Eh hu;exact val_name hd hx h1 h2
   rcases hk with rfl|rfl|rfl
   ·exact Vv sP (.inl rfl) hw
   ·exact Vv lN (.inr (.inl rfl)) hw
   ·exact Vv ym (.inr (.inr rfl)) hw
  | num _ _ hd hnm =>
   obtain ⟨u,rfl,hu⟩:=st_one (x:=([],B4 nm,⟨3,B4 nm,nm,0⟩)) hw;obtain ⟨h1,h2,h3⟩:=Eh hu;simp only at h1 h2 h3;have hs:vB u=true:=by simp[vB,h1]
   show yT (n+1) d (u::rest)=_;simp only[yT];rw[if_neg (by rw[hs]; simp),if_neg (by omega),if_neg (by rw[h1]; simp),if_neg (by rw[h1]; simp),if_pos h1,h3]
  | text _ _ hd ht =>
   obtain ⟨u,rfl,hu⟩:=st_one (x:=txW t) hw;obtain ⟨h1,h2,h3⟩:=Eh hu;simp only[txW]at h1 h2 h3;have hs:vB u=true:=by simp[vB,h1]
   show yT (n+1) d (u::rest)=_;simp only[yT];rw[if_neg (by rw[hs]; simp),if_neg (by omega),if_neg (by rw[h1]; simp),if_neg (by rw[h1]; simp),if_neg (by rw[h1]; simp),h2]
  | arr _ _ hd hi =>
   obtain ⟨u,Uw,rfl,hu,hw2⟩:=OV (x:=sg 91) (l:=sw is true ++ [sg 93]) hw;obtain ⟨tl,tc,rfl,hl,SU⟩:=st_app hw2;obtain ⟨c,rfl,hc⟩:=st_one SU;obtain ⟨h1,h2,_⟩:=Eh hu;obtain ⟨c1,c2,_⟩:=Eh hc;simp only[sg]at h1 h2 c1 c2;have JH:Js u.text=true:=by rw[h2]; rfl
   have hs:vB u=true:=by simp[vB,h1,JH]
   have ho7:(u.text==([123]:ae))=false:=by rw[h2]; rfl
   show yT (n+1) d (u::(tl ++ [c]++rest))=_;simp only[yT];rw[if_neg (by rw[hs]; simp),if_neg (by omega),if_pos ⟨h1,JH⟩,ho7];simp only[Bool.false_eq_true,if_false];cases is with
   | nil =>
    obtain rfl:tl = []:=by simpa [sw]using hl
    show (match kI [93] (c::rest)with|some r'=>_|none=>_)=_;have:kI [93] (c::rest)=some rest:=by
     show (if c.kind=1∧c.text = [93]then some rest else none)=some rest;rw[if_pos ⟨c1,c2⟩]
    rw[this]
   | cons x l =>
    obtain ⟨e1,e2⟩:=hL d n (tl ++ [c]++rest).length.succ [] [] tl c rest (by simp) hi (by omega) (by simp; omega) hl c1 c2;rw[e1,e2];rfl
  | obj _ _ _ hd hlen hu7 hi =>
   obtain ⟨u,Uw,rfl,hu,hw2⟩:=OV (x:=sg 123) (l:=nX ns is true ++ [sg 125]) hw;obtain ⟨tl,tc,rfl,hl,SU⟩:=st_app hw2;obtain ⟨c,rfl,hc⟩:=st_one SU;obtain ⟨h1,h2,_⟩:=Eh hu;obtain ⟨c1,c2,_⟩:=Eh hc;simp only[sg]at h1 h2 c1 c2;have JH:Js u.text=true:=by rw[h2]; rfl
   have hs:vB u=true:=by simp[vB,h1,JH]
   have ho7:(u.text==([123]:ae))=true:=by rw[h2]; rfl
   show yT (n+1) d (u::(tl ++ [c]++rest))=_;simp only[yT];rw[if_neg (by rw[hs]; simp),if_neg (by omega),if_pos ⟨h1,JH⟩,ho7];simp only[if_true];cases is with
   | nil =>
    obtain rfl:ns = []:=List.eq_nil_of_length_eq_zero hlen;obtain rfl:tl = []:=by simpa [nX]using hl
    show (match kI [125] (c::rest)with|some r'=>_|none=>_)=_;have:kI [125] (c::rest)=some rest:=by
     show (if c.kind=1∧c.text = [125]then some rest else none)=some rest;rw[if_pos ⟨c1,c2⟩]
    rw[this]
   | cons x l =>
    obtain ⟨e1,e2⟩:=hO d n (tl ++ [c]++rest).length.succ [] [] [] tl c rest (by simp) hlen hi hu7 (fun n=>rfl) (by omega) (by simp; omega) hl c1 c2;rw[e1,e2];rfl
theorem listS_wL:∀(is:List Json) (d:Int) (n m:Nat) (ns0:List ae) (is0:List Json) (tl:List Token) (c:Token) (rest:List Token),is ≠ []→dQ is (d+1)=true→17 - (d+1)<n→tl.length<m →
  tl.map stT=(sw is true).map stW→c.kind=1→c.text = [93]→kI [93] (tl ++ [c]++rest)=none∧Be (yT n (d+1)) [93] false m ns0 is0 (tl ++ [c]++rest) = .ok ((ns0,is0++is),rest)
 | [],_,_,_,_,_,_,_,_,h,_,_,_,_,_,_=>(h rfl).elim
 | x::l,d,n,0,ns0,is0,tl,c,rest,_,hr,hn,hm,hw,c1,c2=>by omega
 | x::l,d,n,m+1,ns0,is0,tl,c,rest,_,hr,hn,hm,hw,c1,c2=>by
  obtain ⟨tv,tr,rfl,hv,ht⟩:=st_app (a:=qu x) (b:=sw l false) hw;simp only[dQ,Bool.and_eq_true]at hr;have hx:=Ux x (d+1) n tv (tr ++ [c]++rest) hr.1 hn hv;have hL:=listS_wL l;rw[show tv++tr ++ [c]++rest=tv++(tr ++ [c]++rest) by simp];refine ⟨(valS_sign hx).1,?_⟩;have hp:zx (yT n (d+1)) false ns0 is0 (tv++(tr ++ [c]++rest)) = .ok ((ns0,is0 ++ [x]),tr ++ [c]++rest):=by
   simp only[zx,hx]
  simp only[Be,hp];cases l with
  | nil =>
   obtain rfl:tr = []:=by simpa [sw]using ht
   have:kI [93] ([] ++ [c]++rest)=some rest:=by
    show (if c.kind=1∧c.text = [93]then some rest else none)=some rest;rw[if_pos ⟨c1,c2⟩]
   rw[this]
  | cons y l' =>
   obtain ⟨u,tr',rfl,hu,ht'⟩:=OV (x:=sg 44) (l:=sw (y::l') true) ht;obtain ⟨u1,u2,_⟩:=Eh hu;simp only[sg]at u1 u2;have s1:kI [93] (u::tr' ++ [c]++rest)=none:=by
    show (if u.kind=1∧u.text = [93]then some (tr' ++ [c]++rest)else none)=none;rw[if_neg (by rw[u2]; rintro ⟨_,h⟩; cases h)]
   have s2:kI [44] (u::tr' ++ [c]++rest)=some (tr' ++ [c]++rest):=by
    show (if u.kind=1∧u.text = [44]then some (tr' ++ [c]++rest)else none)=_;rw[if_pos ⟨u1,u2⟩]
   rw[s1,s2];obtain ⟨_,e2⟩:=hL d n m ns0 (is0 ++ [x]) tr' c rest (by simp) hr.2 hn (by simp at hm; omega) ht' c1 c2;simp only;rw[e2];simp
theorem listS_wO:∀(ns:List ae) (is:List Json) (d:Int) (n m:Nat) (ns0:List ae) (is0:List Json) (seen:List ae) (tl:List Token) (c:Token) (rest:List Token),is ≠ []→ns.length=is.length→dQ is (d+1)=true→uH seen ns=true→(∀n,ns0.contains n=seen.contains n) →
  17 - (d+1)<n→tl.length<m →
  tl.map stT=(nX ns is true).map stW→c.kind=1→c.text = [125]→kI [125] (tl ++ [c]++rest)=none∧Be (yT n (d+1)) [125] true m ns0 is0 (tl ++ [c]++rest) = .ok ((ns0++ns,is0++is),rest)
 | _, [],_,_,_,_,_,_,_,_,_,h,_,_,_,_,_,_,_,_,_=>(h rfl).elim
 | [],x::l,d,n,m,ns0,is0,seen,tl,c,rest,_,hlen,hr,hu,hsn,hn,hm,hw,c1,c2=>by cases hlen
 | nm::ns,x::l,d,n,0,ns0,is0,seen,tl,c,rest,_,hlen,hr,hu,hsn,hn,hm,hw,c1,c2=>by omega
 | nm::ns,x::l,d,n,m+1,ns0,is0,seen,tl,c,rest,_,hlen,hr,hu,hsn,hn,hm,hw,c1,c2=>by
  obtain ⟨tn,tl1,rfl,hn1,hw1⟩:=OV (x:=txW nm) (l:=sg 58::(qu x++nX ns l false)) hw;obtain ⟨tk,tl2,rfl,hk1,hw2⟩:=OV hw1;obtain ⟨tv,tr,rfl,hv,ht⟩:=st_app hw2;obtain ⟨n1,n2,_⟩:=Eh hn1;obtain ⟨k1,k2,_⟩:=Eh hk1;simp only[txW]at n1 n2;simp only[sg]at k1 k2;simp only[dQ,Bool.and_eq_true]at hr;simp only[uH,Bool.and_eq_true,Bool.not_eq_true']at hu;have hx:=Ux x (d+1) n tv (tr ++ [c]++rest) hr.1 hn hv;have hO:=listS_wO ns l;rw[show tn::tk::(tv++tr) ++ [c]++rest=tn::tk::(tv++(tr ++ [c]++rest)) by simp];refine ⟨?_,?_⟩
  ·show (if tn.kind=1∧tn.text = [125]then some _ else none)=none;rw[if_neg (by rw[n1]; rintro ⟨h,_⟩; cases h)]
  have hnm:KX ns0 (tn::tk::(tv++(tr ++ [c]++rest))) = .ok (nm,tv++(tr ++ [c]++rest)):=by
   simp only[KX];rw[if_neg (by rw[n1]; simp),if_neg (by rw[n2,hsn,hu.1.1]; simp)];have:kI [58] (tk::(tv++(tr ++ [c]++rest)))=some (tv++(tr ++ [c]++rest)):=by
    show (if tk.kind=1∧tk.text = [58]then some (tv++(tr ++ [c]++rest))else none)=_;rw[if_pos ⟨k1,k2⟩]
   rw[this,n2]
  have hp:zx (yT n (d+1)) true ns0 is0 (tn::tk::(tv++(tr ++ [c]++rest))) = .ok ((ns0 ++ [nm],is0 ++ [x]),tr ++ [c]++rest):=by
   simp only[zx,hnm,hx]
  simp only[Be,hp];cases l with
  | nil =>
   obtain rfl:ns = []:=List.eq_nil_of_length_eq_zero (by simpa using hlen);obtain rfl:tr = []:=by simpa [nX]using ht
   have:kI [125] ([] ++ [c]++rest)=some rest:=by
    show (if c.kind=1∧c.text = [125]then some rest else none)=some rest;rw[if_pos ⟨c1,c2⟩]
   rw[this]
  | cons y l' =>
   obtain ⟨u,tr',rfl,hu2,ht'⟩:=OV (x:=sg 44) (l:=nX ns (y::l') true) ht;obtain ⟨u1,u2,_⟩:=Eh hu2;simp only[sg]at u1 u2;have s1:kI [125] (u::tr' ++ [c]++rest)=none:=by
    show (if u.kind=1∧u.text = [125]then some (tr' ++ [c]++rest)else none)=none;rw[if_neg (by rw[u2]; rintro ⟨_,h⟩; cases h)]
   have s2:kI [44] (u::tr' ++ [c]++rest)=some (tr' ++ [c]++rest):=by
    show (if u.kind=1∧u.text = [44]then some (tr' ++ [c]++rest)else none)=_;rw[if_pos ⟨u1,u2⟩]
   rw[s1,s2];obtain ⟨_,e2⟩:=hO d n m (ns0 ++ [nm]) (is0 ++ [x]) (nm::seen) tr' c rest (by simp) (by simpa using hlen) hr.2 hu.2 (fun z=>by
    rw[List.contains_append,hsn,List.contains_cons,List.contains_cons,List.contains_nil,Bool.or_false,Bool.or_comm]) hn (by simp at hm; omega) ht' c1 c2
   simp only;rw[e2];simp
end
theorem val_tail {v:Json} (h:dH v 1=true) (ts:List Token) (rest:List Token) (hw:ts.map stT=(qu v).map stW):yT 40 1 (ts++rest) = .ok (v,rest):=Ux v 1 40 ts rest h (by omega) hw
theorem RP {v:Json} (h:dH v 1=true) (hl:(cn v).length≤20000):nY (cn v)=(v,0,0):=by
 have hlay:=Ir v [];rw[List.append_nil]at hlay;have sR:=RM v 1 h [] (.inl rfl);have hlen:=WN (qu v) [];have hs:=YS (qu v) [] (by simp) sR (by rw[hlay]at hlen; simp at hlen ⊢; omega);rw[hlay]at hs;have hv:=val_tail h (tokW 0 (qu v)) [⟨5, [],⟨0,0⟩,((LW (qu v)+0:Nat):Int)⟩] (tokW_st _ _);unfold nY;rw[hs];simp only[ne_eq,not_true_eq_false,if_false,List.length_nil];rw[hv];rfl
def tight (l:List rR):Prop:=∀x∈l,x.1 = []
mutual
theorem tightJ:∀v:Json,tight (qu v)
 | ⟨k,n,t,ns,is⟩=>by
  have hL:=tightL is;have hO:=tightO ns is;intro x hx;simp only[qu]at hx;split at hx
  ·simp at hx; rw[hx]
  split at hx
  ·simp at hx; rw[hx]
  split at hx
  ·simp at hx; rw[hx]
  split at hx
  ·simp at hx; rw[hx]
  split at hx
  ·simp[txW]at hx; rw[hx]
  split at hx
  ·simp only[List.mem_cons,List.mem_append,List.not_mem_nil,or_false]at hx;rcases hx with rfl|hx|rfl
   ·rfl
   ·exact hO true x hx
   ·rfl
  ·simp only[List.mem_cons,List.mem_append,List.not_mem_nil,or_false]at hx;rcases hx with rfl|hx|rfl
   ·rfl
   ·exact hL true x hx
   ·rfl
theorem tightL:∀(l:List Json) (first:Bool),tight (sw l first)
 | [],_=>by intro x hx; simp[sw]at hx
 | y::l,first=>by
  have h1:=tightJ y;have h2:=tightL l false;intro x hx;simp only[sw,List.mem_append]at hx;rcases hx with hx|hx|hx
  ·cases first
   ·simp at hx; rw[hx]; rfl
   ·simp at hx
  ·exact h1 x hx
  ·exact h2 x hx
theorem tightO:∀(ns:List ae) (l:List Json) (first:Bool),tight (nX ns l first)
 | _, [],_=>by intro x hx; simp[nX]at hx
 | ns,y::l,first=>by
  have h1:=tightJ y;have h2:=tightO ns.tail l false;intro x hx;simp only[nX,List.mem_append,List.mem_cons]at hx;rcases hx with hx|rfl|rfl|hx|hx
  ·cases first
   ·simp at hx; rw[hx]; rfl
   ·simp at hx
  ·rfl
  ·rfl
  ·exact h1 x hx
  ·exact h2 x hx
end
theorem print_ne (v:Json) (h:dH v 1=true):cn v ≠ []:=by
 intro e;have h1:=Ir v [];rw[List.append_nil,e]at h1;have sR:=RM v 1 h [] (.inl rfl);have hv:=val_tail h (tokW 0 (qu v)) [] (tokW_st _ _);cases hw:qu v with
 | nil=>rw[hw]at hv; cases hv
 | cons x l =>
  rw[hw]at h1 sR;obtain ⟨_,⟨c,u,hc,_⟩,_⟩:=sR;simp[uG,hc]at h1
theorem wq {R:Type} (t s:ae) (hv:ft t=true) (ht:t.length≤10000000000) (hl:(s++OT t).length≤100000000000) (k:List Int→Option R):aM t (zs s) k=k (zs (s++OT t)):=by
 obtain ⟨rs,hr,hc,rfl,_,hq⟩|⟨h,_⟩:=quote_any (R:=R) t ht
 ·have e:aM (fv rs) (zs s) k=eF (fv rs) (fun y3 y4=>af y3 (zs s) (fun y5 y6=>k y6)):=rfl;rw[Z4 hr]at hl ⊢;rw[List.length_append]at hl;rw[e,hq];exact ws (qt rs) s (by omega) (by unfold WH; omega) _
 ·rw[hv]at h; cases h
def GG (v:Json) (i:Nat):ae:=if v.kind=7 then ij (v.names.drop i) (v.items.drop i) (i==0)else jx (v.items.drop i) (i==0)
theorem write_loop {R:Type} (f:dv R) (z:ae) (v:Json) (hl:v.items.length≤1099511627776) (h7:v.kind=7→v.names.length=v.items.length∧∀t∈v.names,ft t=true∧t.length≤10000000000)
  (hf:∀x∈v.items,∀(s:ae) (k:List Int→Option R),(s++cn x).length≤100000000000→f x (zs s) k=k (zs (s++cn x))) (e0:ae→List Int→Option R):∀(F i:Nat) (s:ae),i≤v.items.length→v.items.length - i<F→(s++GG v i).length≤100000000000 →
  aW f F z v.items (v.items.length:Int) (i:Int) (zs s) v e0=e0 z (zs (s++GG v i)):=by
 intro F
 induction F with
 | zero=>intro i s _ h; omega
 | succ F ih =>
  intro i s hi hF hb;have eL:aW f (F+1) z v.items (v.items.length:Int) (i:Int) (zs s) v e0=js ad f aM (fun gf gk gw mA wC xH=>aW f F gf gk gw mA wC xH e0) z v.items (v.items.length:Int) (i:Int) (zs s) v e0:=rfl;rw[eL];unfold js;simp only[Json.eta];by_cases h:i<v.items.length;rotate_left
  ·have h1:decide ((i:Int)<(v.items.length:Int))=false:=by simp; omega
   rw[h1,cond_false];have hd:v.items.drop i = []:=List.drop_eq_nil_of_le (by omega);have:GG v i = []:=by
    unfold GG;rw[hd];split
    ·cases v.names.drop i <;> rfl
    ·rfl
   rw[this,List.append_nil]
  have h1:decide ((i:Int)<(v.items.length:Int))=true:=by simp; omega
  have h2:(decide ((0:Int)≤(i:Int))&&true)=true:=by simp
  have hw:IntKind.i64.wrap ((i:Int)+1)=((i+1:Nat):Int):=by rw[cv (by omega) (by omega)]; omega
  have hg:v.items.getD (i:Int).toNat (Ty.aR .json)=v.items[i]:=getD_at h _;have hr:GG v i=(if i=0 then []else [44])++((if v.kind=7 then OT (v.names.getD i []) ++ [58]else [])++(cn v.items[i]++GG v (i+1))):=by
   unfold GG;rw[List.drop_eq_getElem_cons h];by_cases h7':v.kind=7
   ·rw[if_pos h7',if_pos h7',if_pos h7'];have hn:=(h7 h7').1;have hni:i<v.names.length:=by omega
    rw[List.drop_eq_getElem_cons hni];simp only[ij,List.headD_cons,List.tail_cons];have:v.names.getD i []=v.names[i]:=getD_at hni _;rw[this];by_cases h0:i=0
    ·subst h0; simp
    ·have e1:(i==0)=false:=by simpa using h0
     have e2:(i+1==0)=false:=rfl;rw[e1,e2];simp[h0]
   ·rw[if_neg h7',if_neg h7',if_neg h7'];simp only[jx];by_cases h0:i=0
    ·subst h0; simp
    ·have e1:(i==0)=false:=by simpa using h0
     have e2:(i+1==0)=false:=rfl;rw[e1,e2];simp[h0]
  rw[hr]at hb ⊢;rw[h1,cond_true,ao h2,hg,hw]
  
  have key:∀s':ae,(s'++((if v.kind=7 then OT (v.names.getD i []) ++ [58]else [])++(cn v.items[i]++GG v (i+1)))).length≤100000000000 →
    (bif (v.kind==7)then (bX (decide ((0:Int)≤(i:Int))&&decide ((i:Int)<(v.names.length:Int))) (aM (v.names.getD (i:Int).toNat (Ty.aR .str)) (zs s') (fun Sz=>ad 58 Sz (fun Fi=>f v.items[i] Fi (fun uR=>aW f F z v.items (v.items.length:Int) ((i+1:Nat):Int) uR v e0)))))else (f v.items[i] (zs s') (fun U6=>aW f F z v.items (v.items.length:Int) ((i+1:Nat):Int) U6 v e0))) =
    e0 z (zs (s'++((if v.kind=7 then OT (v.names.getD i []) ++ [58]else [])++(cn v.items[i]++GG v (i+1))))):=by
   intro s' pX;by_cases h7':v.kind=7
   ·rw[if_pos h7']at pX ⊢;have hk:(v.kind==7)=true:=by simpa using h7'
    have hn:=(h7 h7').1;have hni:i<v.names.length:=by omega
    have hgn:v.names.getD (i:Int).toNat (Ty.aR .str)=v.names.getD i []:=rfl;have hgi:v.names.getD i []=v.names[i]:=getD_at hni _;obtain ⟨hv1,hv2⟩:=(h7 h7').2 v.names[i] (List.getElem_mem hni);rw[hk,cond_true,ao (by simp; omega),hgn];rw[hgi]at pX ⊢;have e58:((58:UInt8).toNat:Int)=58:=rfl;simp only[List.length_append,List.length_cons,List.length_nil]at pX;rw[wq _ _ hv1 hv2 (by rw[List.length_append]; omega),←e58,wb _ _ (by unfold WH; rw[List.length_append]; omega),hf _ (List.getElem_mem h) _ _ (by simp only[List.length_append,List.length_cons,List.length_nil]; omega),
     ih (i+1) _ (by omega) (by omega) (by simp only[List.length_append,List.length_cons,List.length_nil]; omega)]
    simp only[List.append_assoc]
   ·rw[if_neg h7']at pX ⊢;have hk:(v.kind==7)=false:=by simpa using h7'
    rw[List.nil_append]at pX ⊢;simp only[List.length_append]at pX;rw[hk,cond_false,hf _ (List.getElem_mem h) _ _ (by rw[List.length_append]; omega),ih (i+1) _ (by omega) (by omega) (by simp only[List.length_append]; omega)];simp only[List.append_assoc]
  by_cases h0:i=0
  ·subst h0;rw[if_pos rfl,List.nil_append]at hb ⊢;exact key s hb
  ·rw[if_neg h0]at hb ⊢;have e3:decide ((i:Int)>0)=true:=by simp; omega
   have e44:((44:UInt8).toNat:Int)=44:=rfl;have WZ:=hb;simp only[List.length_append,List.length_cons,List.length_nil]at WZ;rw[e3,cond_true,←e44,wb _ _ (by unfold WH; omega)];have:=key (s ++ [44]) (by simp only[List.length_append,List.length_cons,List.length_nil]; omega);rw[List.append_assoc]at this;exact this
theorem OW:∀(ns:List ae) (seen:List ae),uH seen ns=true→∀t∈ns,ft t=true
 | [],_,_,t,h=>by cases h
 | n::ns,seen,h,t,ht=>by
  simp only[uH,Bool.and_eq_true]at h;rcases List.mem_cons.1 ht with rfl|ht
  ·exact h.1.2
  ·exact OW ns _ h.2 t ht
theorem write_N {R:Type}:∀(n:Nat) (v:Json) (d:Int),dH v d=true→J8 v=true→v.depth<n→∀(s:ae) (k:List Int→Option R),(s++cn v).length≤100000000000→dw n v (zs s) k=k (zs (s++cn v)):=by
 intro n
 induction n with
 | zero=>intro v d _ _ h; omega
 | succ n ih =>
  intro v d hr hl hn s k hb;obtain ⟨TS,Z3,hil,htx,hnl⟩:=Bd.1 hl;have e0:dw (n+1) v (zs s) k=DM bR ad af aM (aW (dw n)) v (zs s) k:=rfl;rw[e0];have MV:∀(z:ae) (e:ae→List Int→Option R) (F:Nat) (s':ae),(v.kind=7→v.names.length=v.items.length∧∀t∈v.names,ft t=true∧t.length≤10000000000)→dQ v.items (d+1)=true→v.items.length<F→(s'++GG v 0).length≤100000000000 →
    aW (dw n) F z v.items (v.items.length:Int) 0 (zs s') v e=e z (zs (s'++GG v 0)):=fun z e F s' h7 hi hF pX =>
   write_loop (dw n) z v Z3 h7 (fun x hx s k hb=>ih x (d+1) (Uv hi hx) (WO hil hx) (by have:=YT hx; omega) s k hb) e F 0 s' (by omega) (by omega) pX
  cases fp.1 hr with
  | name kd _ hd hk =>
   rcases hk with rfl|rfl|rfl
   ·show af sP (zs s) (fun y3 y4=>k y4)=k (zs (s++sP));exact ws sP s (by decide) (by unfold WH; rw[List.length_append]at hb; omega) _
   ·show af lN (zs s) (fun y3 y4=>k y4)=k (zs (s++lN));exact ws lN s (by decide) (by unfold WH; rw[List.length_append]at hb; omega) _
   ·show af ym (zs s) (fun y3 y4=>k y4)=k (zs (s++ym));exact ws ym s (by decide) (by unfold WH; rw[List.length_append]at hb; omega) _
  | num nm _ hd hnm =>
   have WZ:(s++B4 nm).length≤100000000000:=hb;rw[List.length_append]at WZ;show bR ⟨nm.aq,nm.exp⟩ (fun y9=>af y9 (zs s) (fun p9 n0=>k n0))=k (zs (s++B4 nm));rw[print_any];exact ws (B4 nm) s (by omega) (by unfold WH; omega) _
  | text t _ hd ht=>exact wq t s ht htx hb k
  | arr is _ hd hi =>
   have WZ:(s++(91::(jx is true ++ [93]))).length≤100000000000:=hb;simp only[List.length_append,List.length_cons,List.length_nil]at WZ;have e91:((91:UInt8).toNat:Int)=91:=rfl;have e93:((93:UInt8).toNat:Int)=93:=rfl;show ad ((91:UInt8).toNat:Int) (zs s) (fun IT=>aW (dw n) _ [91,93] is (is.length:Int) 0 IT ⟨6,⟨0,0⟩, [], [],is⟩ (fun W0 y31=>bX (decide ((1:Int)<(W0.length:Int))) (ad ((W0.getD 1 0).toNat:Int) y31 (fun V0=>k V0))))=k (zs (s++(91::(jx is true ++ [93]))));rw[wb _ _ (by unfold WH; omega)];simp only at MV;have hz:GG ⟨6,⟨0,0⟩, [], [],is⟩ 0=jx is true:=rfl;rw[hz]at MV;rw[MV _ _ _ _ (fun h=>by cases h) hi]
   rotate_left
   ·simp only[List.length_cons,List.length_nil]; omega
   ·simp only[List.length_append,List.length_cons,List.length_nil]; omega
   show ad ((93:UInt8).toNat:Int) (zs ((s ++ [91])++jx is true)) (fun V0=>k V0)=_;rw[wb _ _ (by unfold WH; simp only[List.length_append,List.length_cons,List.length_nil]; omega)];simp only[List.append_assoc,List.cons_append,List.nil_append]
  | obj ns is _ hd hlen hu hi =>
   have WZ:(s++(123::(ij ns is true ++ [125]))).length≤100000000000:=hb;simp only[List.length_append,List.length_cons,List.length_nil]at WZ;show ad ((123:UInt8).toNat:Int) (zs s) (fun IT=>aW (dw n) _ [123,125] is (is.length:Int) 0 IT ⟨7,⟨0,0⟩, [],ns,is⟩ (fun W0 y31=>bX (decide ((1:Int)<(W0.length:Int))) (ad ((W0.getD 1 0).toNat:Int) y31 (fun V0=>k V0))))=k (zs (s++(123::(ij ns is true ++ [125]))));rw[wb _ _ (by unfold WH; omega)];simp only at MV;have hz:GG ⟨7,⟨0,0⟩, [],ns,is⟩ 0=ij ns is true:=rfl;rw[hz]at MV;rw[MV _ _ _ _ (fun _=>⟨hlen,fun t ht=>⟨OW ns [] hu t ht,hnl t ht⟩⟩) hi];rotate_left
   ·simp only[List.length_cons,List.length_nil]; omega
   ·simp only[List.length_append,List.length_cons,List.length_nil]; omega
   show ad ((125:UInt8).toNat:Int) (zs ((s ++ [123])++ij ns is true)) (fun V0=>k V0)=_;rw[wb _ _ (by unfold WH; simp only[List.length_append,List.length_cons,List.length_nil]; omega)];simp only[List.append_assoc,List.cons_append,List.nil_append]
theorem loops_same {R:Type}:∀(F:Nat) (a:ae) (b:List Json) (c d:Int) (e:List Int) (f:Json) (g:ae→List Int→Option R),bD F a b c d e f g=aW cg F a b c d e f g:=by
 intro F
 induction F with
 | zero=>intros; rfl
 | succ F ih =>
  intro a b c d e f g;have h1:bD (F+1) a b c d e f g=js ad cg aM (fun gf gk gw mA wC xH=>bD F gf gk gw mA wC xH g) a b c d e f g:=rfl;have h2:aW cg (F+1) a b c d e f g=js ad cg aM (fun gf gk gw mA wC xH=>aW cg F gf gk gw mA wC xH g) a b c d e f g:=rfl;rw[h1,h2];simp only[ih]
theorem print_json {R:Type} (v:Json) (hr:dH v 1=true) (hl:J8 v=true) (hb:(cn v).length≤100000000000) (k:ae→Option R):eG v k=k (cn v):=by
 have e0:eG v k=H9 nL hY v k:=rfl;rw[e0];unfold H9;simp only[Json.eta];rw[right_json v hl,hr,Bool.not_true,cond_false];have e1:hY v (fun y3=>k (xq y3))=DU bR aj ad ai dL bD v (fun y3=>k (xq y3)):=rfl;rw[e1];obtain ⟨TS,Z3,hil,htx,hnl⟩:=Bd.1 hl;have MV:∀(z:ae) (e:ae→List Int→Option R) (F:Nat) (s':ae),(v.kind=7→v.names.length=v.items.length∧∀t∈v.names,ft t=true∧t.length≤10000000000)→dQ v.items (1+1)=true→v.items.length<F→(s'++GG v 0).length≤100000000000 →
   aW cg F z v.items (v.items.length:Int) 0 (zs s') v e=e z (zs (s'++GG v 0)):=fun z e F s' h7 hi hF pX =>
  write_loop cg z v Z3 h7 (fun x hx s k hb=>write_N (x.depth+2) x (1+1) (Uv hi hx) (WO hil hx) (by omega) s k hb) e F 0 s' (by omega) (by omega) pX
 cases fp.1 hr with
 | name kd _ hd hk =>
  rcases hk with rfl|rfl|rfl
  ·show ai sP (fun y3 y4=>k (xq y4))=k sP;rw[wsn sP (by decide),vA]
  ·show ai lN (fun y3 y4=>k (xq y4))=k lN;rw[wsn lN (by decide),vA]
  ·show ai ym (fun y3 y4=>k (xq y4))=k ym;rw[wsn ym (by decide),vA]
 | num nm _ hd hnm =>
  have WZ:(B4 nm).length≤100000000000:=hb;show bR ⟨nm.aq,nm.exp⟩ (fun y9=>ai y9 (fun p9 n0=>k (xq n0)))=k (B4 nm);rw[print_any];show ai (B4 nm) (fun p9 n0=>k (xq n0))=k (B4 nm);rw[wsn _ WZ,vA]
 | text t _ hd ht =>
  have WZ:(OT t).length≤100000000000:=hb;show eF t (fun y2 y3=>ai y2 (fun y4 y5=>k (xq y5)))=k (OT t);obtain ⟨rs,hrs,hc,rfl,_,hq⟩|⟨h,_⟩:=quote_any (R:=R) t htx
  ·rw[hq,Z4 hrs];rw[Z4 hrs]at WZ;show ai (qt rs) (fun y4 y5=>k (xq y5))=k (qt rs);rw[wsn _ WZ,vA]
  ·rw[ht]at h; cases h
 | arr is _ hd hi =>
   have WZ:(91::(jx is true ++ [93]):ae).length≤100000000000:=hb;simp only[List.length_append,List.length_cons,List.length_nil]at WZ;show bD _ [91,93] is (is.length:Int) 0 (zs ([] ++ [91])) ⟨6,⟨0,0⟩, [], [],is⟩ (fun U6 W0=>bX (decide ((1:Int)<(U6.length:Int))) (ad ((U6.getD 1 0).toNat:Int) W0 (fun y31=>k (xq y31))))=k (91::(jx is true ++ [93]));simp only at MV;have hz:GG ⟨6,⟨0,0⟩, [], [],is⟩ 0=jx is true:=rfl;rw[hz]at MV;rw[loops_same,MV _ _ _ _ (fun h=>by cases h) hi];rotate_left
   ·simp only[List.length_cons,List.length_nil]; omega
   ·simp only[List.length_append,List.length_cons,List.length_nil]; omega
   show ad ((93:UInt8).toNat:Int) (zs (([] ++ [91])++jx is true)) (fun V0=>k (xq V0))=_;rw[wb _ _ (by unfold WH; simp only[List.length_append,List.length_cons,List.length_nil]; omega),vA];simp only[List.append_assoc,List.cons_append,List.nil_append]
 | obj ns is _ hd hlen hu hi =>
   have WZ:(123::(ij ns is true ++ [125]):ae).length≤100000000000:=hb;simp only[List.length_append,List.length_cons,List.length_nil]at WZ;show bD _ [123,125] is (is.length:Int) 0 (zs ([] ++ [123])) ⟨7,⟨0,0⟩, [],ns,is⟩ (fun U6 W0=>bX (decide ((1:Int)<(U6.length:Int))) (ad ((U6.getD 1 0).toNat:Int) W0 (fun y31=>k (xq y31))))=k (123::(ij ns is true ++ [125]));simp only at MV;have hz:GG ⟨7,⟨0,0⟩, [],ns,is⟩ 0=ij ns is true:=rfl;rw[hz]at MV;rw[loops_same,MV _ _ _ _ (fun _=>⟨hlen,fun t ht=>⟨OW ns [] hu t ht,hnl t ht⟩⟩) hi];rotate_left
   ·simp only[List.length_cons,List.length_nil]; omega
   ·simp only[List.length_append,List.length_cons,List.length_nil]; omega
   show ad ((125:UInt8).toNat:Int) (zs (([] ++ [123])++ij ns is true)) (fun V0=>k (xq V0))=_;rw[wb _ _ (by unfold WH; simp only[List.length_append,List.length_cons,List.length_nil]; omega),vA];simp only[List.append_assoc,List.cons_append,List.nil_append]
end Go.Proofs.YtidfokedcnhahaaGreatDoor
namespace Go.aA
open Go.RowKit Go.Proofs.YtidfokedcnhahaaGreatDoor Go.ChangeShapes Go.WideShapes
mutual
inductive Wt:Nat→V→Prop where
 | int {n:Nat} {k:IntKind} {z:Int} (h1:1≤n) (h:k.has z):Wt n (.int k z)
 | bool {n:Nat} (h1:1≤n) (b:Bool):Wt n (.bool b)
 | str {n:Nat} {s:ae} (h:s.length+1≤n):Wt n (.str s)
 | sl {n m:Nat} {T:Ty} {l:List T.den} (h:m+1≤n) (he:WtLL m (l.map T.cells)):Wt n (.sl T l .no)
inductive WtL:Nat→List V→Prop where
 | nil:WtL 0 []
 | cons {a b:Nat} {v:V} {vs:List V} (h:Wt a v) (t:WtL b vs):WtL (a+b) (v::vs)
inductive WtLL:Nat→List (List V)→Prop where
 | nil:WtLL 0 []
 | cons {a b:Nat} {v:List V} {vs:List (List V)} (h:WtL a v) (t:WtLL b vs):WtLL (a+b) (v::vs)
end
section
variable {H:Type} {enc:TypeId×Value→H} {P:Program} {tt:dn} {w:World} {spare:Nat→Bool} {held:Bool}
def ReadsW (w:World) (N:Nat) (ls:List fj) (cs:List Value):Prop:=∃vs n,Ki ls vs∧cz w [] Vy vs cs∧WtL n vs∧n≤N
theorem ReadsW.nil {N:Nat}:ReadsW w N [] []:=⟨[],0, .nil, .nil, .nil,Nat.zero_le _⟩
end
end Go.aA
set_option maxRecDepth 100000
namespace Go.Proofs.YtidfokedcnhahaaGreatDoor
open Go Go.aA Go.Lib
mutual
def Raw.tot:Raw→Nat
 | ⟨_,_,_,_,is⟩=>Raw.totL is+1
def Raw.totL:List Raw→Nat
 | []=>0
 | x::l=>Raw.tot x+Raw.totL l
end
mutual
def Raw.ok:Raw→Prop
 | ⟨k,m,e,t,is⟩=>(zm k∧zm m∧zm e∧∀c∈t,zm c)∧(t.length≤1048576∧is.length≤1048576)∧Raw.okL is
def Raw.okL:List Raw→Prop
 | []=>True
 | x::l=>Raw.ok x∧Raw.okL l
end
theorem wtll_len {T:Ty}:∀(l:List T.den) (m:Nat),WtLL m (l.map T.cells)→(∀(x:T.den) n,WtL n (T.cells x)→1≤n)→l.length≤m
 | [],_,_,_=>Nat.zero_le _
 | x::l,_, .cons h t,hh=>by
  have h1:=hh x _ h;have h2:=wtll_len l _ t hh;simp only[List.length_cons];omega
theorem wt_pos {n:Nat} {v:V} (h:Wt n v):1≤n:=by
 cases h <;> omega
theorem wt_ints:∀(l:List (Ty.den (.int .i64))) (m:Nat),WtLL m (l.map (Ty.cells (.int .i64)))→∀c∈(l:List Int),zm c
 | [],_,_,c,hc=>by cases hc
 | x::l,_, .cons h t,c,hc=>by
  rcases List.mem_cons.1 hc with rfl|hc
  ·have h':WtL _ [V.int .i64 c]:=h;cases h' with
   | cons a b=>cases a with|int _ hk=>exact rD.1 hk
  ·exact wt_ints l _ t c hc
mutual
theorem wt_raw:∀(x:Raw) (n:Nat),n≤1048576→WtL n (Ty.cells .raw x)→Raw.tot x≤n∧Raw.ok x
 | ⟨k,m,e,t,is⟩,n,hn,h=>by
  have hL:=wt_rawL is;have h':WtL n [.int .i64 k, .int .i64 m, .int .i64 e, .sl (.int .i64) t .no, .sl .raw is .no]:=h;cases h' with
  | cons a1 h'=>cases h' with
   | cons a2 h'=>cases h' with
    | cons a3 h'=>cases h' with
     | cons a4 h'=>cases h' with
      | cons a5 h' =>
       cases h';cases a1 with|int p1 k1 =>
       cases a2 with|int p2 k2 =>
       cases a3 with|int p3 k3 =>
       cases a4 with|sl p4 w4 =>
       cases a5 with|sl p5 w5 =>
       have hl4:=wtll_len (T := .int .i64) t _ w4 (fun x n h=>by
        have h':WtL n [V.int .i64 x]:=h;cases h' with|cons a b=>have:=wt_pos a; omega)
       have hl5:=wtll_len (T := .raw) is _ w5 (fun x n h=>by
        have h':WtL n (.int .i64 x.kind::_):=h;cases h' with|cons a b=>have:=wt_pos a; omega)
       obtain ⟨g1,g2⟩:=hL _ (by omega) w5;refine ⟨by simp only[Raw.tot]; omega,⟨rD.1 k1,rD.1 k2,rD.1 k3,wt_ints t _ w4⟩,⟨Nat.le_trans hl4 (by omega),Nat.le_trans hl5 (by omega)⟩,g2⟩
theorem wt_rawL:∀(l:List Raw) (n:Nat),n≤1048576→WtLL n (l.map (Ty.cells .raw))→Raw.totL l≤n∧Raw.okL l
 | [],_,_,_=>⟨Nat.zero_le _,trivial⟩
 | x::l,_,hn, .cons h t=>by
  obtain ⟨a1,a2⟩:=wt_raw x _ (by omega) h;obtain ⟨b1,b2⟩:=wt_rawL l _ (by omega) t;exact ⟨by simp only[Raw.totL]; omega,a2,b2⟩
end
theorem uniq_end:∀(ns seen:List ae) (n:ae),uH seen (ns ++ [n])=(uH seen ns&&((!(seen.contains n||ns.contains n))&&ft n))
 | [],seen,n=>by simp[uH]
 | m::ns,seen,n=>by
  simp only[List.cons_append,uH,uniq_end ns (m::seen) n,List.contains_cons];cases seen.contains m <;> cases ft m <;> cases uH (m::seen) ns <;> cases n==m <;> cases seen.contains n <;> rfl
theorem Si (t:ae):(OT t).length≤6*t.length+2:=by
 unfold OT;have:∀l:ae,(l.flatMap qb).length≤6*l.length:=by
  intro l
  induction l with
  | nil=>simp
  | cons b l ih =>
   have:=qb_len b;simp only[List.flatMap_cons,List.length_append,List.length_cons];omega
 have:=this t;simp only[List.length_cons,List.length_append,List.length_nil];omega
structure FitV (R:Type) (v:Json) (d:Int) (n:Nat):Prop where
 right:dH v d=true
 len:J8 v=true
 size:(cn v).length+5000≤10000*n
theorem printL_end:∀(l:List Json) (x:Json) (b:Bool),(jx (l ++ [x]) b).length≤(jx l b).length+1+(cn x).length
 | [],x,b=>by cases b <;> simp[jx] <;> omega
 | y::l,x,b=>by
  have:=printL_end l x false;simp only[List.cons_append,jx,List.length_append];omega
theorem printO_end:∀(ns:List ae) (l:List Json) (n:ae) (x:Json) (b:Bool),ns.length=l.length→(ij (ns ++ [n]) (l ++ [x]) b).length≤(ij ns l b).length+2+(OT n).length+(cn x).length
 | [], [],n,x,b,_=>by cases b <;> simp[ij] <;> omega
 | m::ns,y::l,n,x,b,h=>by
  have:=printO_end ns l n x false (by simpa using h);simp only[List.cons_append,ij,List.headD_cons,List.tail_cons,List.length_append,List.length_cons];omega
 | [],_::_,_,_,_,h=>by cases h
 | _::_, [],_,_,_,h=>by cases h
theorem Uy:∀(l:List Json) (x:Json) (d:Int),dQ (l ++ [x]) d=(dQ l d&&dH x d)
 | [],x,d=>by simp[dQ]
 | y::l,x,d=>by simp only[List.cons_append,dQ,Uy l x d,Bool.and_assoc]
structure Held (q:Int) (d:Int) (ns:List ae) (is:List Json) (n:Nat):Prop where
 right:dQ is (d+1)=true
 len:RN is=true
 count:is.length≤12
 names:(q=7∧ns.length=is.length∧uH [] ns=true∧(∀t∈ns,t.length≤1000)∧(ij ns is true).length≤10000*n)∨(q=6∧ns = []∧(jx is true).length≤10000*n)
theorem prtA_len {d:fO} (h:Fm d):(B4 d).length≤60:=by
 have e:B4 d=ZB d:=by unfold B4; rw[KW.2 h]; rfl
 rw[e];exact (prt_chars h).2.2
structure Lone (x:rR):Prop where
 head:∃c u,x.2.1=c::u∧sT c=false
 met:∀r,RL r→tokS (x.2.1++r)=some (x.2.2,r)
 quo:x.2.2.kind=2→ft x.2.2.text=true∧x.2.1=OT x.2.2.text
 own:x.2.2.kind≠2→x.2.2.text=x.2.1
theorem Sj {x:rR} (h:∀r,RL r→okW [x] r) (h2:x.2.2.kind=2→ft x.2.2.text=true∧x.2.1=OT x.2.2.text) (h3:x.2.2.kind≠2→x.2.2.text=x.2.1):Lone x:=by
 obtain ⟨_,g2,_⟩:=h [] (.inl rfl);exact ⟨g2,fun r hr=>(h r hr).2.2.1,h2,h3⟩
theorem OX {c:UInt8} (hc:Uu c=true):Lone (sg c):=Sj (fun r _=>GF hc r) (fun h=>by cases h) (fun _=>rfl)
theorem lone_tx {t:ae} (ht:ft t=true):Lone (txW t):=Sj (fun r _=>text_any ht r) (fun _=>⟨ht,rfl⟩) (fun h=>(h rfl).elim)
mutual
theorem loneJ:∀(v:Json) (d:Int),dH v d=true→∀x∈qu v,Lone x
 | ⟨k,n,t,ns,is⟩,d,h,x,hx=>by
  have hL:=loneL is;have hO:=loneO ns is;cases fp.1 h with
  | name _ _ hd hk =>
   rcases hk with rfl|rfl|rfl
   ·obtain rfl:=List.mem_singleton.1 hx;exact Sj (fun r hr=>GD (Iq (.inr (.inr rfl))) hr) (fun h=>by cases h) (fun _=>rfl)
   ·obtain rfl:=List.mem_singleton.1 hx;exact Sj (fun r hr=>GD (Iq (.inr (.inl rfl))) hr) (fun h=>by cases h) (fun _=>rfl)
   ·obtain rfl:=List.mem_singleton.1 hx;exact Sj (fun r hr=>GD (Iq (.inl rfl)) hr) (fun h=>by cases h) (fun _=>rfl)
  | num _ _ hd hn =>
   have e:B4 n=ZB n:=by unfold B4; rw[KW.2 hn]; rfl
   have hx':x∈([([],B4 n,⟨3,B4 n,n,0⟩)]:List rR):=hx;obtain rfl:=List.mem_singleton.1 hx';refine Sj (fun r hr => ?_) (fun h=>by cases h) (fun _=>rfl);rw[e];exact GD (word_num hn) hr
  | text _ _ hd ht =>
   have hx':x∈([txW t]:List rR):=hx;obtain rfl:=List.mem_singleton.1 hx';exact lone_tx ht
  | arr _ _ hd hi =>
   have hx':x∈([sg 91]++(sw is true ++ [sg 93]):List rR):=hx;rw[List.mem_append,List.mem_append,List.mem_singleton,List.mem_singleton]at hx';rcases hx' with rfl|hx|rfl
   ·exact OX (by decide)
   ·exact hL true (d+1) hi x hx
   ·exact OX (by decide)
  | obj _ _ _ hd hl hu hi =>
   have hx':x∈([sg 123]++(nX ns is true ++ [sg 125]):List rR):=hx;rw[List.mem_append,List.mem_append,List.mem_singleton,List.mem_singleton]at hx';rcases hx' with rfl|hx|rfl
   ·exact OX (by decide)
   ·exact hO true (d+1) hi hl (fun t ht=>OW ns [] hu t ht) x hx
   ·exact OX (by decide)
theorem loneL:∀(l:List Json) (first:Bool) (d:Int),dQ l d=true→∀x∈sw l first,Lone x
 | [],_,_,_,x,hx=>by simp[sw]at hx
 | y::l,first,d,h,x,hx=>by
  simp only[dQ,Bool.and_eq_true]at h;have h1:=loneJ y d h.1;have h2:=loneL l false d h.2;simp only[sw,List.mem_append]at hx;rcases hx with hx|hx|hx
  ·cases first
   ·simp at hx; rw[hx]; exact OX (by decide)
   ·simp at hx
  ·exact h1 x hx
  ·exact h2 x hx
theorem loneO:∀(ns:List ae) (l:List Json) (first:Bool) (d:Int),dQ l d=true→ns.length=l.length→(∀t∈ns,ft t=true)→∀x∈nX ns l first,Lone x
 | _, [],_,_,_,_,_,x,hx=>by simp[nX]at hx
 | [],y::l,_,_,_,hl,_,_,_=>by cases hl
 | n::ns,y::l,first,d,h,hl,hv,x,hx=>by
  simp only[dQ,Bool.and_eq_true]at h;have h1:=loneJ y d h.1;have h2:=loneO ns l false d h.2 (by simpa using hl) (fun t ht=>hv t (by simp[ht]));simp only[nX,List.headD_cons,List.tail_cons,List.mem_append,List.mem_cons]at hx;rcases hx with hx|rfl|rfl|hx|hx
  ·cases first
   ·simp at hx; rw[hx]; exact OX (by decide)
   ·simp at hx
  ·exact lone_tx (hv n (by simp))
  ·exact OX (by decide)
  ·exact h1 x hx
  ·exact h2 x hx
end
theorem qb_pos (b:UInt8):1≤(qb b).length:=by unfold qb; (repeat' split) <;> simp
theorem qtS_ge (t:ae):t.length≤(OT t).length:=by
 have:∀l:ae,l.length≤(l.flatMap qb).length:=by
  intro l
  induction l with
  | nil=>simp
  | cons b l ih =>
   have:=qb_pos b;simp only[List.flatMap_cons,List.length_append,List.length_cons];omega
 have:=this t;unfold OT;simp only[List.length_cons,List.length_append];omega
def GH (t:Token):Prop:=(t.kind=3→Fm t.num)∧(t.kind=2→ft t.text=true)∧(t.kind=4→FG t.text=true)
theorem named_kind {x:ae} (h:FG x=true):∃k:Int,(k=1∨k=2∨k=3)∧mO .str (.int .i64) x namesM=k:=by
 unfold FG at h;rw[Bool.or_eq_true,Bool.or_eq_true,beq_iff_eq,beq_iff_eq,beq_iff_eq]at h;rcases h with rfl|rfl|rfl
 ·exact ⟨1, .inl rfl,rfl⟩
 ·exact ⟨2, .inr (.inl rfl),rfl⟩
 ·exact ⟨3, .inr (.inr rfl),rfl⟩
theorem MW {x:ae} {ts r:List Token} (h:∀t∈ts,GH t) (hs:kI x ts=some r):∀t∈r,GH t:=by
 cases ts with
 | nil=>cases hs
 | cons t ts =>
  simp only[kI]at hs;split at hs
  ·cases hs; exact fun u hu=>h u (by simp[hu])
  ·cases hs
theorem nameS_ok {ns:List ae} {ts:List Token} {p:ae×List Token} (h:∀t∈ts,GH t) (hs:KX ns ts = .ok p):ft p.1=true∧ns.contains p.1=false∧∀t∈p.2,GH t:=by
 cases ts with
 | nil=>cases hs
 | cons t ts =>
  simp only[KX]at hs;split at hs
  ·cases hs
  ·rename_i hk;split at hs
   ·cases hs
   ·rename_i hc;split at hs
    ·rename_i r hr;cases hs;exact ⟨(h t (by simp)).2.1 (by simpa using hk),by simpa using hc,MW (fun u hu=>h u (by simp[hu])) hr⟩
    ·cases hs
def Sound (f:List Token→Except ZD (Json×List Token)) (d:Int):Prop:=∀ts p,(∀t∈ts,GH t)→f ts = .ok p→dH p.1 d=true∧∀t∈p.2,GH t
def Inv (obj:Bool) (d:Int) (ns:List ae) (is:List Json):Prop:=dQ is d=true∧(obj=true→ns.length=is.length∧uH [] ns=true)∧(obj=false→ns = [])
theorem partS_ok {f:List Token→Except ZD (Json×List Token)} {d:Int} (hf:Sound f d) {obj:Bool} {ns:List ae} {is:List Json} {ts:List Token} {p:(List ae×List Json)×List Token} (h:∀t∈ts,GH t) (hi:Inv obj d ns is) (hs:zx f obj ns is ts = .ok p) :
  Inv obj d p.1.1 p.1.2∧∀t∈p.2,GH t:=by
 obtain ⟨i1,i2,i3⟩:=hi;cases obj with
 | true =>
  simp only[zx]at hs;split at hs
  ·cases hs
  ·rename_i nm ts1 hn;obtain ⟨g1,g2,g3⟩:=nameS_ok h hn;split at hs
   ·cases hs
   ·rename_i v Uw hv;obtain ⟨k1,k2⟩:=hf _ _ g3 hv;cases hs;obtain ⟨j1,j2⟩:=i2 rfl;refine ⟨⟨by rw[Uy,i1,k1]; rfl,fun _=>⟨by simp[j1],?_⟩,fun h=>by cases h⟩,k2⟩;simp only at g1 g2;rw[uniq_end,j2,g2,g1];rfl
 | false =>
  simp only[zx]at hs;split at hs
  ·cases hs
  ·rename_i v Uw hv;obtain ⟨k1,k2⟩:=hf _ _ h hv;cases hs;exact ⟨⟨by rw[Uy,i1,k1]; rfl,(fun h=>by cases h),i3⟩,k2⟩
theorem listS_ok {f:List Token→Except ZD (Json×List Token)} {d:Int} (hf:Sound f d) {cl:ae} {obj:Bool}:∀(m:Nat) (ns:List ae) (is:List Json) (ts:List Token) (p:(List ae×List Json)×List Token),
  (∀t∈ts,GH t)→Inv obj d ns is→Be f cl obj m ns is ts = .ok p→Inv obj d p.1.1 p.1.2∧∀t∈p.2,GH t
 | 0,_,_,_,_,_,_,h=>by cases h
 | m+1,ns,is,ts,p,h,hi,hs=>by
  simp only[Be]at hs;split at hs
  ·cases hs
  ·rename_i q Uw hq;obtain ⟨g1,g2⟩:=partS_ok hf h hi hq;split at hs
   ·rename_i r hr;cases hs;exact ⟨g1,MW g2 hr⟩
   ·split at hs
    ·rename_i r hr;exact listS_ok hf m _ _ _ _ (MW g2 hr) g1 hs
    ·cases hs
theorem WQ:∀(n:Nat) (d:Int),Sound (yT n d) d
 | 0,_,_,_,_,h=>by cases h
 | _+1,_, [],_,_,h=>by cases h
 | n+1,d,t::r,p,ht,h=>by
  have h0:=ht t (by simp);have hr0:∀u∈r,GH u:=fun u hu=>ht u (by simp[hu])
  simp only[yT]at h;split at h
  ·cases h
  rename_i hst;split at h
  ·cases h
  rename_i hd;have hd16:d≤16:=by omega
  split at h
  ·cases JH:t.text==([123]:ae)with
   | true =>
    rw[JH]at h;simp only[if_true]at h;split at h
    ·rename_i r' hr;cases h;exact ⟨fp.2 (.obj [] [] d hd16 rfl rfl rfl),MW hr0 hr⟩
    ·split at h
     ·cases h
     ·rename_i q r' hq;cases h;obtain ⟨⟨g1,g2,_⟩,g4⟩:=listS_ok (WQ n (d+1)) _ _ _ _ _ hr0 ⟨rfl,fun _=>⟨rfl,rfl⟩,fun _=>rfl⟩ hq;obtain ⟨g5,g6⟩:=g2 rfl;exact ⟨fp.2 (.obj _ _ d hd16 g5 g6 g1),g4⟩
   | false =>
    rw[JH]at h;simp only[Bool.false_eq_true,if_false]at h;split at h
    ·rename_i r' hr;cases h;exact ⟨fp.2 (.arr [] d hd16 rfl),MW hr0 hr⟩
    ·split at h
     ·cases h
     ·rename_i q r' hq;cases h;obtain ⟨⟨g1,_,g3⟩,g4⟩:=listS_ok (WQ n (d+1)) _ _ _ _ _ hr0 ⟨rfl,(fun h=>by cases h),fun _=>rfl⟩ hq;have:=g3 rfl;simp only at this ⊢;rw[this];exact ⟨fp.2 (.arr _ d hd16 g1),g4⟩
  rename_i hop;split at h
  ·rename_i hnm;cases h;obtain ⟨k,hk,e⟩:=named_kind hnm.2;simp only[e];exact ⟨fp.2 (.name k d hd16 hk),hr0⟩
  rename_i hnm;split at h
  ·rename_i hk3;cases h;exact ⟨fp.2 (.num _ d hd16 (h0.1 hk3)),hr0⟩
  ·rename_i hk3;cases h;have RZ:t.kind=2:=by
    have hst':vB t=true:=by simpa using hst
    simp only[vB,Bool.or_eq_true,Bool.and_eq_true,beq_iff_eq]at hst';rcases hst' with h|h|h|⟨h,h'⟩
    ·exact h
    ·exact (hk3 h).elim
    ·exact (hnm ⟨h,h0.2.2 h⟩).elim
    ·exact (hop ⟨h,h'⟩).elim
   exact ⟨fp.2 (.text _ d hd16 (h0.2.1 RZ)),hr0⟩
theorem finD_fm (neg:Bool) (all:ae) (x:Int) (h:∀c∈all,om c) (ok:(finD neg all x).2=true):Fm (finD neg all x).1:=by
 unfold finD at ok ⊢;by_cases h0:cN (bx all [48]) [48] = []
 ·rw[if_pos h0];exact Fm.mk0
 rw[if_neg h0]at ok ⊢;obtain ⟨f1,f2,f3⟩:=YR all h h0;have hm:Int.tmod (wh (cN (bx all [48]) [48]) 0:Int) 10≠0:=by rw[Int.tmod_eq_emod_of_nonneg (by omega)]; omega
 cases neg with
 | true =>
  rw[if_pos rfl]at ok ⊢;obtain ⟨e,g⟩:=mkD_fm (tmod_neg hm) ok;rw[e];exact g
 | false =>
  rw[if_neg (by simp)]at ok ⊢;obtain ⟨e,g⟩:=mkD_fm hm ok;rw[e];exact g
theorem tailD_fm (neg:Bool) (all:ae) (x:Int) (X:ae) (h:∀c∈all,om c) (ok:(tailD neg all x X).2=true):Fm (tailD neg all x X).1:=by
 unfold tailD at ok ⊢;split
 ·rename_i h1;rw[if_pos h1]at ok;split
  ·rename_i h2;rw[if_pos h2]at ok;exact finD_fm _ _ _ h ok
  ·exact Fm.mk0
 ·rename_i h1;rw[if_neg h1]at ok;split
  ·exact Fm.mk0
  ·rename_i h2;rw[if_neg h2]at ok;split
   ·rename_i h3;rw[if_pos h3]at ok;exact finD_fm _ _ _ h ok
   ·exact Fm.mk0
theorem parseS_fm (s:ae) (ok:(Ef s).2=true):Fm (Ef s).1:=by
 unfold Ef at ok ⊢;simp only at ok ⊢;split
 ·exact Fm.mk0
 rename_i h1;rw[if_neg h1]at ok;split
 ·exact Fm.mk0
 rename_i h2;rw[if_neg h2]at ok;split
 ·exact Fm.mk0
 rename_i h3;rw[if_neg h3]at ok;split
 ·rename_i h4;rw[if_pos h4]at ok;exact tailD_fm _ _ _ _ (Jr _) ok
 ·rename_i h4;rw[if_neg h4]at ok;split
  ·exact Fm.mk0
  ·rename_i h5;rw[if_neg h5]at ok;exact tailD_fm _ _ _ _ (fun c hc=>(List.mem_append.1 hc).elim (Jr _ c) (Jr _ c)) ok
theorem uq_len:∀(n:Nat) (s o o' r:ae),uq n s o=some (o',r)→o'.length+4*r.length≤o.length+4*s.length
 | 0,_,_,_,_,h=>by cases h
 | n+1,s,o,o',r,h=>by
  simp only[uq]at h;split at h
  ·simp only[Option.some.injEq,Prod.mk.injEq]at h;obtain ⟨rfl,rfl⟩:=h;rw[List.length_drop];omega
  ·split at h
   ·cases h
   ·rename_i c r1 hs;have h1:=uq_len n r1 (o++enc c) o' r h;obtain ⟨hv,hl⟩:=stepU_ok hs;have h2:=(KD hv).2;simp only[List.length_append]at h1;omega
theorem tokS_ok {s r:ae} {t:Token} (h:tokS s=some (t,r)):GH t∧t.text.length≤4*s.length:=by
 cases s with
 | nil=>cases h
 | cons c u =>
  simp only[tokS]at h;split at h
  ·split at h
   ·rename_i hp;simp only[Option.some.injEq,Prod.mk.injEq]at h;rw[←h.1];refine ⟨⟨fun _=>parseS_fm _ hp,(fun h=>by cases h),(fun h=>by cases h)⟩,?_⟩;have:=(List.takeWhile_prefix (l:=c::u) GB).length_le;simp only;omega
   ·cases h
  ·split at h
   ·split at h
    ·rename_i o q hq;simp only[Option.some.injEq,Prod.mk.injEq]at h;rw[←h.1];obtain ⟨_,_,rs,h3,h4⟩:=uqS_sfx hq;refine ⟨⟨(fun h=>by cases h),fun _=>Io.2 ⟨rs,h3,h4⟩,(fun h=>by cases h)⟩,?_⟩;unfold uqS at hq;split at hq
     ·have:=uq_len _ _ _ _ _ hq;rw[List.length_drop]at this;simp only[List.length_nil,List.length_cons]at this ⊢;omega
     ·cases hq
    ·cases h
   ·split at h
    ·simp only[Option.some.injEq,Prod.mk.injEq]at h;rw[←h.1];exact ⟨⟨(fun h=>by cases h),(fun h=>by cases h),(fun h=>by cases h)⟩,by simp; omega⟩
    ·split at h
     ·rename_i hw;simp only[Option.some.injEq,Prod.mk.injEq]at h;rw[←h.1];refine ⟨⟨(fun h=>by cases h),(fun h=>by cases h),fun _ => ?_⟩,?_⟩
      ·rcases hw with hw|hw|hw <;> simp only[hw] <;> rfl
      ·have:=(List.takeWhile_prefix (l:=c::u) FF).length_le;simp only;omega
     ·cases h
def fineT (t:Token):Prop:=GH t∧t.text.length≤80000
theorem scanN_fine:∀(n p:Nat) (s:ae) (out:List Token),s.length≤20000→(∀t∈out,fineT t)→∀t∈(zw n p s out).1,fineT t
 | 0,_,_,_,_,_=>by intro t ht; cases ht
 | n+1,p,s,out,hs,ho=>by
  simp only[zw];split
  ·intro t ht;rcases List.mem_append.1 ht with ht|ht
   ·exact ho t ht
   ·obtain rfl:=List.mem_singleton.1 ht;exact ⟨⟨(fun h=>by cases h),(fun h=>by cases h),(fun h=>by cases h)⟩,by simp⟩
  ·have hd:=C2 sT s;split
   ·intro t ht; cases ht
   ·rename_i t r hr;have h3:=(tokS_sfx hr).2;obtain ⟨g1,g2⟩:=tokS_ok hr;refine scanN_fine n _ r _ (by omega) fun x hx => ?_
    rcases List.mem_append.1 hx with hx|hx
    ·exact ho x hx
    ·obtain rfl:=List.mem_singleton.1 hx;exact ⟨g1,by show t.text.length≤80000; omega⟩
theorem scanS_fine (s:ae):∀t∈(sQ s).1,fineT t:=by
 unfold sQ;split
 ·intro t ht; cases ht
 ·exact scanN_fine _ _ _ _ (by omega) (by intro t ht; cases ht)
def tokN (t:Token):Nat:=6*t.text.length+70
def tokL:List Token→Nat
 | []=>0
 | t::l=>tokN t+tokL l
theorem tokL_le:∀(l:List Token),(∀t∈l,fineT t)→tokL l≤l.length*480070
 | [],_=>Nat.le_refl _
 | t::l,h=>by
  have h1:=tokL_le l fun x hx=>h x (by simp[hx])
  have h2:=(h t (by simp)).2;simp only[tokL,tokN,List.length_cons];omega
theorem Jt {x:ae} {ts r:List Token} (hs:kI x ts=some r):tokL r+70≤tokL ts:=by
 cases ts with
 | nil=>cases hs
 | cons t ts =>
  simp only[kI]at hs;split at hs
  ·cases hs; simp only[tokL,tokN]; omega
  ·cases hs
theorem nameS_size {ns:List ae} {ts:List Token} {p:ae×List Token} (hs:KX ns ts = .ok p):(OT p.1).length+tokL p.2+130≤tokL ts:=by
 cases ts with
 | nil=>cases hs
 | cons t ts =>
  simp only[KX]at hs;split at hs
  ·cases hs
  ·split at hs
   ·cases hs
   ·split at hs
    ·rename_i r hr;cases hs;have h1:=Jt hr;have h2:=Si t.text;simp only[tokL,tokN];omega
    ·cases hs
def Sized (f:List Token→Except ZD (Json×List Token)):Prop:=∀ts p,(∀t∈ts,GH t)→f ts = .ok p→(cn p.1).length+tokL p.2≤tokL ts
def YU (obj:Bool) (ns:List ae) (is:List Json):Nat:=if obj then (ij ns is true).length else (jx is true).length
theorem partS_size {f:List Token→Except ZD (Json×List Token)} {d:Int} (hs0:Sound f d) (hf:Sized f) {obj:Bool} {ns:List ae} {is:List Json} {ts:List Token} {p:(List ae×List Json)×List Token} (h:∀t∈ts,GH t) (hi:Inv obj d ns is) (hs:zx f obj ns is ts = .ok p) :
  YU obj p.1.1 p.1.2+tokL p.2≤YU obj ns is+1+tokL ts:=by
 obtain ⟨i1,i2,i3⟩:=hi;cases obj with
 | true =>
  simp only[zx]at hs;split at hs
  ·cases hs
  ·rename_i nm ts1 hn;obtain ⟨_,_,g3⟩:=nameS_ok h hn;have g4:=nameS_size hn;split at hs
   ·cases hs
   ·rename_i v Uw hv;have k1:=hf _ _ g3 hv;cases hs;have:=printO_end ns is nm v true (i2 rfl).1;simp only[YU,if_true]at g4 k1 ⊢;omega
 | false =>
  simp only[zx]at hs;split at hs
  ·cases hs
  ·rename_i v Uw hv;have k1:=hf _ _ h hv;cases hs;have:=printL_end is v true;simp only[YU,Bool.false_eq_true,if_false]at k1 ⊢;omega
theorem Uz {f:List Token→Except ZD (Json×List Token)} {d:Int} (hs0:Sound f d) (hf:Sized f) {cl:ae} {obj:Bool}:∀(m:Nat) (ns:List ae) (is:List Json) (ts:List Token) (p:(List ae×List Json)×List Token),
  (∀t∈ts,GH t)→Inv obj d ns is→Be f cl obj m ns is ts = .ok p→YU obj p.1.1 p.1.2+tokL p.2+60≤YU obj ns is+1+tokL ts
 | 0,_,_,_,_,_,_,h=>by cases h
 | m+1,ns,is,ts,p,h,hi,hs=>by
  simp only[Be]at hs;split at hs
  ·cases hs
  ·rename_i q Uw hq;obtain ⟨g1,g2⟩:=partS_ok hs0 h hi hq;have g3:=partS_size hs0 hf h hi hq;split at hs
   ·rename_i r hr;cases hs;have g4:=Jt hr;simp only at g3 g4 ⊢;omega
   ·split at hs
    ·rename_i r hr;have g4:=Jt hr;have g5:=Uz hs0 hf m _ _ _ _ (MW g2 hr) g1 hs;simp only at g3 g4 g5 ⊢;omega
    ·cases hs
theorem printJ_name {k:Int} (hk:k=1∨k=2∨k=3):(cn ⟨k,⟨0,0⟩, [], [], []⟩).length≤60:=by
 rcases hk with rfl|rfl|rfl <;> decide
theorem X2:∀(n:Nat) (d:Int),Sized (yT n d)
 | 0,_,_,_,_,h=>by cases h
 | _+1,_, [],_,_,h=>by cases h
 | n+1,d,t::r,p,ht,h=>by
  have h0:=ht t (by simp);have hr0:∀u∈r,GH u:=fun u hu=>ht u (by simp[hu])
  have et:tokL (t::r)=tokN t+tokL r:=rfl;have en:tokN t=6*t.text.length+70:=rfl;simp only[yT]at h;split at h
  ·cases h
  split at h
  ·cases h
  split at h
  ·cases JH:t.text==([123]:ae)with
   | true =>
    rw[JH]at h;simp only[if_true]at h;split at h
    ·rename_i r' hr;cases h;have:=Jt hr;show 2+tokL r'≤_;omega
    ·split at h
     ·cases h
     ·rename_i q r' hq;cases h;have g:=Uz (WQ n (d+1)) (X2 n (d+1)) _ _ _ _ _ hr0 ⟨rfl,fun _=>⟨rfl,rfl⟩,fun _=>rfl⟩ hq;have e:cn ⟨7,⟨0,0⟩, [],q.1,q.2⟩=123::(ij q.1 q.2 true ++ [125]):=by simp only[cn]; rfl
      simp only[YU,if_true,ij,List.length_nil]at g;show (cn ⟨7,⟨0,0⟩, [],q.1,q.2⟩).length+tokL r'≤_;rw[e];simp only[List.length_cons,List.length_append,List.length_nil];omega
   | false =>
    rw[JH]at h;simp only[Bool.false_eq_true,if_false]at h;split at h
    ·rename_i r' hr;cases h;have:=Jt hr;show 2+tokL r'≤_;omega
    ·split at h
     ·cases h
     ·rename_i q r' hq;cases h;have g:=Uz (WQ n (d+1)) (X2 n (d+1)) _ _ _ _ _ hr0 ⟨rfl,(fun h=>by cases h),fun _=>rfl⟩ hq;have e:cn ⟨6,⟨0,0⟩, [],q.1,q.2⟩=91::(jx q.2 true ++ [93]):=by simp only[cn]; rfl
      simp only[YU,Bool.false_eq_true,if_false,jx,List.length_nil]at g;show (cn ⟨6,⟨0,0⟩, [],q.1,q.2⟩).length+tokL r'≤_;rw[e];simp only[List.length_cons,List.length_append,List.length_nil];omega
  rename_i hop;split at h
  ·rename_i hnm;cases h;obtain ⟨k,hk,e⟩:=named_kind hnm.2;have:=printJ_name hk;simp only[e];omega
  rename_i hnm;split at h
  ·rename_i hk3;cases h;have:=prtA_len (h0.1 hk3);have e:cn ⟨4,t.num, [], [], []⟩=B4 t.num:=by simp only[cn]; rfl
   simp only[e];omega
  ·cases h;have:=Si t.text;have e:cn ⟨5,⟨0,0⟩,t.text, [], []⟩=OT t.text:=by simp only[cn]; rfl
   simp only[e];omega
mutual
theorem MX:∀(v:Json) (d:Int),dH v d=true→(cn v).length≤10000000000→J8 v=true∧1≤(cn v).length
 | ⟨k,n,t,ns,is⟩,d,h,hl=>by
  have hL:=len_printL is true;have hO:=len_printO ns is true;cases fp.1 h with
  | name _ _ hd hk=>rcases hk with rfl|rfl|rfl <;> exact ⟨rfl,by decide⟩
  | num _ _ hd hn =>
   refine ⟨rfl,?_⟩;have:=print_ne ⟨4,n, [], [], []⟩ (by rw[fp]; exact .num n 1 (by omega) hn);cases hp:cn ⟨4,n, [], [], []⟩with
   | nil=>exact (this hp).elim
   | cons _ _=>simp
  | text _ _ hd ht =>
   have e:cn ⟨5,⟨0,0⟩,t, [], []⟩=OT t:=by simp only[cn]; rfl
   have:=qtS_ge t;rw[e]at hl ⊢;exact ⟨Bd.2 ⟨by simp,by simp,rfl,by simp only; omega,by simp⟩,by simp[OT]⟩
  | arr _ _ hd hi =>
   have e:cn ⟨6,⟨0,0⟩, [], [],is⟩=91::(jx is true ++ [93]):=by simp only[cn]; rfl
   rw[e]at hl ⊢;simp only[List.length_cons,List.length_append,List.length_nil]at hl;obtain ⟨g1,g2⟩:=hL (d+1) hi (by omega);exact ⟨Bd.2 ⟨by simp,by simp only; omega,g1,by simp,by simp⟩,by simp⟩
  | obj _ _ _ hd hlen hu hi =>
   have e:cn ⟨7,⟨0,0⟩, [],ns,is⟩=123::(ij ns is true ++ [125]):=by simp only[cn]; rfl
   rw[e]at hl ⊢;simp only[List.length_cons,List.length_append,List.length_nil]at hl;obtain ⟨g1,g2,g3⟩:=hO (d+1) hi hlen (by omega);exact ⟨Bd.2 ⟨by simp only; omega,by simp only; omega,g1,by simp,g3⟩,by simp⟩
theorem len_printL:∀(l:List Json) (first:Bool) (d:Int),dQ l d=true→(jx l first).length≤10000000000→RN l=true∧l.length≤(jx l first).length
 | [],_,_,_,_=>⟨rfl,by simp⟩
 | x::l,first,d,h,hl=>by
  simp only[dQ,Bool.and_eq_true]at h;have h1:=MX x d h.1;have h2:=len_printL l false d h.2;simp only[jx,List.length_append]at hl ⊢;obtain ⟨a1,a2⟩:=h1 (by omega);obtain ⟨b1,b2⟩:=h2 (by omega);refine ⟨by simp only[RN,a1,b1]; rfl,?_⟩;simp only[List.length_cons];omega
theorem len_printO:∀(ns:List ae) (l:List Json) (first:Bool) (d:Int),dQ l d=true→ns.length=l.length→(ij ns l first).length≤10000000000→RN l=true∧l.length≤(ij ns l first).length∧∀n∈ns,n.length≤10000000000
 | ns, [],_,_,_,hlen,_=>by
  obtain rfl:ns = []:=List.eq_nil_of_length_eq_zero hlen;exact ⟨rfl,by simp,by simp⟩
 | [],x::l,_,_,_,hlen,_=>by cases hlen
 | n::ns,x::l,first,d,h,hlen,hl=>by
  simp only[dQ,Bool.and_eq_true]at h;have h1:=MX x d h.1;have h2:=len_printO ns l false d h.2 (by simpa using hlen);simp only[ij,List.length_append,List.headD_cons,List.tail_cons,List.length_cons]at hl ⊢;obtain ⟨a1,a2⟩:=h1 (by omega);obtain ⟨b1,b2,b3⟩:=h2 (by omega);have h3:=qtS_ge n;refine ⟨by simp only[RN,a1,b1]; rfl,by omega,fun m hm => ?_⟩;rcases List.mem_cons.1 hm with rfl|hm
  ·omega
  ·exact b3 m hm
end
theorem parseJ_ok (s:ae) (h:(nY s).2.1=0):dH (nY s).1 1=true∧J8 (nY s).1=true∧(cn (nY s).1).length≤10000000000:=by
 unfold nY at h ⊢;by_cases h0:(sQ s).2.1=0;rotate_left
 ·rw[if_pos h0]at h;exact (h0 h).elim
 rw[if_neg (by simpa using h0)]at h ⊢;have hf:=scanS_fine s;have hlen:=scanS_len s;cases hq:yT 40 1 (sQ s).1 with
 | error b =>
  rw[hq]at h;simp only at h;have hb:b.1≠0:=by
   have hv:=value_ok (R:=Unit) 20002 (by omega) 40 1 (by omega) (by omega) (by omega) (sQ s).1 (scanS_end s h0) hlen;rw[hq]at hv;exact hv.1.2
  exact (hb h).elim
 | ok p =>
  rw[hq]at h;obtain ⟨v,r⟩:=p;simp only at h ⊢;split
  ·rename_i hk;rw[if_pos hk]at h;cases h
  ·obtain ⟨g1,_⟩:=WQ 40 1 _ _ (fun t ht=>(hf t ht).1) hq;have g2:=X2 40 1 _ _ (fun t ht=>(hf t ht).1) hq;have g3:=tokL_le _ hf;simp only at g1 g2 ⊢;have g4:(cn v).length≤10000000000:=by
    have:(sQ s).1.length*480070≤20002*480070:=Nat.mul_le_mul_right _ hlen;omega
   exact ⟨g1,(MX v 1 g1 g4).1,g4⟩
end Go.Proofs.YtidfokedcnhahaaGreatDoor
end
