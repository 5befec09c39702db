/-
  OrderApart, part 8 of 10.
-/
import Derived.Test.YtidfokedcnhahaaGreatDoorOrderApartB7
set_option linter.unusedSimpArgs false
set_option linter.unnecessarySimpa false
set_option linter.unusedVariables false
set_option linter.unusedSectionVars false
noncomputable section
set_option maxRecDepth 100000
namespace Go.Proofs.YtidfokedcnhahaaGreatDoor
open Go Go.aC Go.Lib
theorem Y5:∀(l:ah) (v u:Nat),TO l v=some u→u<(v+1)*16 ^ l.length
 | [],v,u,h=>by cases h; simp
 | b::t,v,u,h=>by
  simp only[TO]at h
  cases hx:WO b with
  | none=>rw[hx]at h; cases h
  | some d =>
   rw[hx]at h
   have h1:=Y5 t _ _ h
   have hd:=hexv_lt hx
   have h2:(16*v+d+1)*16 ^ t.length≤((v+1)*16)*16 ^ t.length:=Nat.mul_le_mul_right _ (by omega)
   rw[List.length_cons,Nat.pow_succ]
   have h3:(v+1)*16*16 ^ t.length=(v+1)*(16 ^ t.length*16):=by rw[Nat.mul_assoc,Nat.mul_comm 16]
   omega
theorem hexN_all:∀(l:ah) (v u:Nat),TO l v=some u→∀b∈l,(WO b).isSome=true
 | [],v,u,h=>by simp
 | b::t,v,u,h=>by
  simp only[TO]at h
  cases hx:WO b with
  | none=>rw[hx]at h; cases h
  | some d =>
   rw[hx]at h
   intro c hc
   rcases List.mem_cons.1 hc with rfl|hc
   ·rw[hx]; rfl
   ·exact hexN_all t _ _ h c hc
theorem hexv_asc {b:UInt8} (h:(WO b).isSome=true):b.toNat<128∧b.toNat≠43∧b.toNat≠45∧b.toNat≠95:=by
 unfold WO at h
 simp only at h
 revert h
 (repeat' split) <;> intro h <;> first|omega|cases h
theorem hasAny_none (cs:ah):∀s:ah,(∀b∈s,cs.contains b=false)→Yi s cs=false:=by
 have key:∀s:ah,(∀b∈s,cs.contains b=false)→indexAny s cs = -1:=by
  intro s
  induction s with
  | nil=>intro _; rfl
  | cons b s ih =>
   intro h
   unfold indexAny
   rw[h b (by simp)]
   have:=ih fun x hx=>h x (by simp[hx])
   simp[this]
 intro s h
 unfold Yi containsAny
 rw[key s h]
 rfl
def Nh (s:ah):Option (Nat×ah):=if s.length<4 then none else match TO (s.take 4) 0 with|some v=>some (v,s.drop 4)|none=>none
theorem Hz {s r:ah} {v:Nat} (h:Nh s=some (v,r)):v<65536∧4≤s.length∧r=s.drop 4:=by
 unfold Nh at h
 split at h
 ·cases h
 ·rename_i hl
  split at h
  ·rename_i u hu
   cases h
   have:=Y5 _ _ _ hu
   rw[List.length_take,Nat.min_eq_left (by omega)]at this
   exact ⟨by omega,by omega,rfl⟩
  ·cases h
theorem PS {n:Nat} (h:n<1114112):IntKind.i32.wrap (n:Int)=(n:Int):=wrap32_id (by omega) (by omega)
theorem unit_ok {R:Type} (s:ah) (hs:s.length≤9000000000000000000) (k:Int→ah→Option R) :
  dd s k=match Nh s with|some (v,r)=>k (v:Int) r|none=>k (-1) s:=by
 show ma ft s k=_
 unfold ma
 by_cases hl:s.length<4
 ·rw[aM (show (s.length:Int)<4 by omega),cond_true]
  unfold Nh
  rw[if_pos hl]
 ·rw[bJ (show ¬(s.length:Int)<4 by omega),cond_false,aw (aM (by omega))]
  have h4:(s.drop 0).take (4 - 0)=s.take 4:=rfl
  rw[h4,parse4 (by rw[List.length_take]; omega)]
  unfold Nh
  rw[if_neg hl]
  cases hu:TO (s.take 4) 0 with
  | none=>rfl
  | some v =>
   have wT:=hexN_all _ _ _ hu
   have hasc:v7 (s.take 4)=true:=List.all_eq_true.2 fun b hb=>aM (hexv_asc (wT b hb)).1
   have hno:Yi (s.take 4) [43,45,95]=false:=hasAny_none _ _ fun b hb=>by
    obtain ⟨_,g1,g2,g3⟩:=hexv_asc (wT b hb)
    have e:∀x:UInt8,b.toNat≠x.toNat→(b==x)=false:=fun x hx=>by
     rw[beq_eq_false_iff_ne]; rintro rfl; exact hx rfl
    simp only[List.contains_cons,List.contains_nil,e 43 g1,e 45 g2,e 95 g3]
    rfl
   have hv:=(Hz (s:=s) (r:=s.drop 4) (v:=v) (by unfold Nh; rw[if_neg hl,hu])).1
   have W2:v7 ([43,45,95]:ah)=true:=by decide
   simp only
   rw[aw (by rw[hasc,W2,aM (show (s.take 4).length<4294967281 by rw[List.length_take]; omega)]; rfl),hno,cond_false,aw (by rw[aM (show (0:Int)≤(s.length:Int) by omega),aM (show (s.length:Int)≤s.length by omega)]; rfl),aw (aM (by omega))]
   rw[PS (by omega),Int.toNat_natCast,List.take_of_length_le (by rw[List.length_drop]; exact Nat.le_refl _)]
def TP (s:ah):Option (Nat×ah) :=
 match Nh s with
 | none=>none
 | some (v,r) =>
  if v<55296∨57344≤v then some (v,r)else if 56320≤v then none
  else if ([92,117]:ah).isPrefixOf r then
   match Nh (r.drop 2)with
   | none=>none
   | some (w,r2)=>if 56320≤w∧w<57344 then some (65536+(v - 55296)*1024+(w - 56320),r2)else none
  else none
theorem shl10 (n:Nat) (h:n<1024):IntKind.i32.wrap ((n:Int)*2 ^ (min 10 IntKind.i32.bits))=((n*1024:Nat):Int):=by
 have e:(n:Int)*2 ^ (min 10 IntKind.i32.bits)=((n*1024:Nat):Int):=by
  show (n:Int)*2 ^ 10=_
  omega
 rw[e,PS (by omega)]
theorem long_ok {R:Type} (s:ah) (hs:s.length≤9000000000000000000) (k:Int→ah→Option R) :
  match TP s with|some (c,r)=>cT s k=k (c:Int) r|none=>∃r,cT s k=k (-1) r:=by
 have e0:cT s k=mb aK dd s k:=rfl
 rw[e0]
 unfold mb
 rw[unit_ok s hs]
 unfold TP
 cases hu:Nh s with
 | none =>
  simp only
  exact ⟨s,by rw[aM (show (-1:Int)<55296 by omega),cond_true]⟩
 | some p =>
  obtain ⟨v,r⟩:=p
  obtain ⟨hv,hl,hr⟩:=Hz hu
  have hrl:r.length≤9000000000000000000:=by rw[hr,List.length_drop]; omega
  simp only
  by_cases h1:v<55296
  ·rw[if_pos (.inl h1),aM (show (v:Int)<55296 by omega)]
   simp only[cond_true]
  rw[bJ (show ¬(v:Int)<55296 by omega),cond_false]
  by_cases h2:57344≤v
  ·rw[if_pos (.inr h2),aM (show (v:Int)≥57344 by omega)]
   simp only[cond_true]
  rw[if_neg (by omega),bJ (show ¬(v:Int)≥57344 by omega),cond_false]
  by_cases h3:56320≤v
  ·rw[if_pos h3]
   exact ⟨r,by rw[aM (show (v:Int)≥56320 by omega),cond_true]⟩
  rw[if_neg h3,bJ (show ¬(v:Int)≥56320 by omega),cond_false,Xb _ _ (by simp) hrl]
  cases hp:([92,117]:ah).isPrefixOf r with
  | false =>
   simp only[Bool.false_eq_true,if_false]
   exact ⟨r,rfl⟩
  | true =>
   simp only[if_true]
   have hrl2:(r.drop 2).length≤9000000000000000000:=by rw[List.length_drop]; omega
   have e2:r.drop ([92,117]:ah).length=r.drop 2:=rfl
   rw[Bool.not_true,cond_false,e2,unit_ok _ hrl2]
   cases hu2:Nh (r.drop 2)with
   | none =>
    simp only
    exact ⟨r.drop 2,by rw[aM (show (-1:Int)<56320 by omega),cond_true]⟩
   | some q =>
    obtain ⟨w,r2⟩:=q
    obtain ⟨hw,hl2,hr2⟩:=Hz hu2
    simp only
    by_cases h4:56320≤w∧w<57344
    ·rw[if_pos h4]
     simp only
     rw[bJ (show ¬(w:Int)<56320 by omega),cond_false,bJ (show ¬(w:Int)≥57344 by omega),cond_false]
     have k1:IntKind.i32.wrap ((v:Int) - 55296)=((v - 55296:Nat):Int):=by
      have:(v:Int) - 55296=((v - 55296:Nat):Int):=by omega
      rw[this,PS (by omega)]
     rw[k1,shl10 _ (by omega)]
     have k2:IntKind.i32.wrap (65536+(((v - 55296)*1024:Nat):Int))=((65536+(v - 55296)*1024:Nat):Int):=by
      have:65536+(((v - 55296)*1024:Nat):Int)=((65536+(v - 55296)*1024:Nat):Int):=by omega
      rw[this,PS (by omega)]
     have k3:IntKind.i32.wrap (((65536+(v - 55296)*1024:Nat):Int)+(w:Int))=((65536+(v - 55296)*1024+w:Nat):Int):=by
      have:((65536+(v - 55296)*1024:Nat):Int)+(w:Int)=((65536+(v - 55296)*1024+w:Nat):Int):=by omega
      rw[this]
      simp only[IntKind.wrap,IntKind.bits,IntKind.signed]
      simp
      omega
     have k4:IntKind.i32.wrap (((65536+(v - 55296)*1024+w:Nat):Int) - 56320)=((65536+(v - 55296)*1024+(w - 56320):Nat):Int):=by
      have:((65536+(v - 55296)*1024+w:Nat):Int) - 56320=((65536+(v - 55296)*1024+(w - 56320):Nat):Int):=by omega
      rw[this,PS (by omega)]
     rw[k2,k3,k4]
    ·rw[if_neg h4]
     refine ⟨r2,?_⟩
     by_cases h5:w<56320
     ·rw[aM (show (w:Int)<56320 by omega),cond_true]
     ·rw[bJ (show ¬(w:Int)<56320 by omega),cond_false,aM (show (w:Int)≥57344 by omega),cond_true]
def escP:ah→Option (Nat×ah)
 | []=>none
 | b::t =>
  if b.toNat=34∨b.toNat=92∨b.toNat=47 then some (b.toNat,t)else if b.toNat=98 then some (8,t)else if b.toNat=102 then some (12,t)else if b.toNat=110 then some (10,t)
  else if b.toNat=114 then some (13,t)else if b.toNat=116 then some (9,t)else if b.toNat=117 then TP t else none
theorem esc_ok {R:Type} (s:ah) (hs:s.length≤9000000000000000000) (k:Int→ah→Option R) :
  match escP s with|some (c,r)=>bn s k=k (c:Int) r|none=>∃r,bn s k=k (-1) r:=by
 have e0:bn s k=j0 cT s k:=rfl
 rw[e0]
 unfold j0
 cases s with
 | nil=>exact ⟨[],rfl⟩
 | cons b t =>
  have jT:((b::t:ah)==([]:ah))=false:=rfl
  simp only[List.length_cons]at hs
  have ht:(((b::t:ah).drop 1).take (((b::t:ah).length:Int).toNat - 1))=t:=by
   rw[Int.toNat_natCast,List.drop_succ_cons,List.drop_zero,List.length_cons,Nat.add_sub_cancel,List.take_length]
  have hg:((b::t:ah).getD 0 0).toNat=b.toNat:=rfl
  rw[jT,cond_false,aw (aM (show (0:Int)<((b::t:ah).length:Int) by simp only[List.length_cons]; omega)),
   aw (by rw[aM (show (0:Int)≤((b::t:ah).length:Int) by omega),aM (show ((b::t:ah).length:Int)≤(b::t:ah).length by omega)]; rfl),
   aw (aM (show (1:Int)≤((b::t:ah).length:Int) by simp only[List.length_cons]; omega))]
  simp only[ht,hg]
  have hb:=UInt8.toNat_lt b
  simp only[escP]
  generalize b.toNat=n at *
  have q:∀m:Nat,((n:Int)==(m:Int))=decide (n=m):=fun m=>by
   by_cases h:n=m
   ·subst h; simp
   ·have:¬((n:Int)=(m:Int)):=by omega
    simp[h,this]
  have q34:((n:Int)==34)=decide (n=34):=q 34
  have q92:((n:Int)==92)=decide (n=92):=q 92
  have q47:((n:Int)==47)=decide (n=47):=q 47
  have q98:((n:Int)==98)=decide (n=98):=q 98
  have q102:((n:Int)==102)=decide (n=102):=q 102
  have q110:((n:Int)==110)=decide (n=110):=q 110
  have q114:((n:Int)==114)=decide (n=114):=q 114
  have q116:((n:Int)==116)=decide (n=116):=q 116
  have q117:((n:Int)==117)=decide (n=117):=q 117
  simp only[q34,q92,q47,q98,q102,q110,q114,q116,q117,PS (show n<1114112 by omega)]
  by_cases Q7:n=34
  ·subst Q7; simp
  by_cases h92:n=92
  ·subst h92; simp
  by_cases h47:n=47
  ·subst h47; simp
  simp only[Q7,h92,h47,decide_false,cond_false,or_self,if_false]
  by_cases h98:n=98
  ·subst h98; simp
  by_cases h102:n=102
  ·subst h102; simp
  by_cases h110:n=110
  ·subst h110; simp
  by_cases h114:n=114
  ·subst h114; simp
  by_cases h116:n=116
  ·subst h116; simp
  by_cases h117:n=117
  ·subst h117
   have:=long_ok (R:=R) t (by omega) k
   simp only[decide_true,decide_false,cond_true,cond_false,if_true,show ¬((117:Nat)=98) by decide,show ¬((117:Nat)=102) by decide,show ¬((117:Nat)=110) by decide,show ¬((117:Nat)=114) by decide,show ¬((117:Nat)=116) by decide,if_false]
   exact this
  simp only[h98,h102,h110,h114,h116,h117,decide_false,cond_false,if_false]
  exact ⟨t,rfl⟩
def NJ:ah := [48,49,50,51,52,53,54,55,56,57,97,98,99,100,101,102]
def rj (c:Nat):Nat:=if c=34∨c=92 then c else if c=8 then 98 else if c=12 then 102 else if c=10 then 110 else if c=13 then 114 else if c=9 then 116 else 0
def qc (c:Nat):ah:=if rj c≠0 then [92,UInt8.ofNat (rj c)]else if c<32 then [92,117,48,48,NJ.getD (c / 16) 0,NJ.getD (c % 16) 0]else enc c
def TQ (rs:List Nat):ah:=rs.flatMap qc
def qt (rs:List Nat):ah:=34::(TQ rs ++ [34])
theorem shortC_lt (c:Nat):rj c<256:=by unfold rj; (repeat' split) <;> omega
theorem short_ok {R:Type} (c:Nat) (k:Int→Option R):eX (c:Int) k=k (rj c:Int):=by
 show DX (c:Int) k=_
 unfold DX rj
 have b:∀n:Nat,((c:Int)==(n:Int))=decide (c=n):=fun n=>by
  by_cases h:c=n
  ·subst h; simp
  ·have:¬((c:Int)=(n:Int)):=by omega
   simp[h,this]
 have b34:((c:Int)==34)=decide (c=34):=b 34
 have b92:((c:Int)==92)=decide (c=92):=b 92
 have b8:((c:Int)==8)=decide (c=8):=b 8
 have b12:((c:Int)==12)=decide (c=12):=b 12
 have b10:((c:Int)==10)=decide (c=10):=b 10
 have b13:((c:Int)==13)=decide (c=13):=b 13
 have b9:((c:Int)==9)=decide (c=9):=b 9
 rw[b34,b92,b8,b12,b10,b13,b9]
 have w:IntKind.u8.wrap (c:Int)=((c % 256:Nat):Int):=wrap8 c
 by_cases Q7:c=34
 ·subst Q7; rfl
 by_cases h92:c=92
 ·subst h92; rfl
 simp only[Q7,h92,decide_false,cond_false,or_self,if_false]
 by_cases h8:c=8
 ·subst h8; rfl
 by_cases h12:c=12
 ·subst h12; rfl
 by_cases h10:c=10
 ·subst h10; rfl
 by_cases h13:c=13
 ·subst h13; rfl
 by_cases h9:c=9
 ·subst h9; rfl
 simp[h8,h12,h10,h13,h9]
theorem runeAt_drop (s:ah) (pos:Nat):mm s pos=decodeL (s.drop pos):=by
 unfold mm
 exact (decodeL_drop ⟨s.toArray⟩ pos).symm
theorem enc_head (rs:List Nat) (c:Nat) (t:List Nat):fg (rs++c::t)=fg rs++(enc c++fg t):=by simp[fg]
theorem hexdig:∀c:Fin 32,(Int.fdiv (c.val:Int) (2 ^ (min 4 IntKind.i32.bits)))=((c.val / 16:Nat):Int)∧IntKind.i32.wrap ((BitVec.ofInt IntKind.i32.bits (c.val:Int) &&& BitVec.ofInt IntKind.i32.bits 15).toNat:Int)=((c.val % 16:Nat):Int):=by decide +kernel
theorem qc_len {c:Nat} (hv:vr c):(qc c).length≤6:=by
 unfold qc
 split
 ·simp
 ·split
  ·simp
  ·have:=IF hv; omega
theorem quote_round {R:Type} {x:ah} {pos c:Nat} (hp:pos<x.length) {t:ah} (hd:x.drop pos=enc c++t) (hv:vr c) (o:ah) (ho:o.length≤90000000000) (dz:List Int→ah→Nat→Option R) (e0:List Int→Option R) :
  kQ ad eX ae ak dz (zs o) x pos e0=dz (zs (o++qc c)) x (pos+(enc c).length):=by
 unfold kQ
 have hr:mm x pos=(c,(enc c).length):=by rw[runeAt_drop,hd,Tn hv]
 rw[hr,aM hp,cond_true]
 simp only
 rw[short_ok]
 have hlim:∀z:ah,z.length≤10→TN (o++z):=fun z hz=>by unfold TN; rw[List.length_append]; omega
 have hlim0:TN o:=by unfold TN; omega
 by_cases hs:rj c≠0
 ·have e:((rj c:Int) != 0)=true:=by
   exact bne_iff_ne.2 (by omega)
  rw[e,cond_true]
  have h92:(92:Int)=((92:UInt8).toNat:Int):=rfl
  rw[h92,wb _ o hlim0]
  have h2:(rj c:Int)=((UInt8.ofNat (rj c)).toNat:Int):=by rw[gP _ (shortC_lt c)]
  rw[h2,wb _ _ (hlim [92] (by simp))]
  have:qc c = [92,UInt8.ofNat (rj c)]:=by unfold qc; rw[if_pos hs]
  rw[this,List.append_assoc]
  rfl
 ·have hs0:rj c=0:=by omega
  have e:((rj c:Int) != 0)=false:=by rw[hs0]; rfl
  rw[e,cond_false]
  by_cases h32:c<32
  ·rw[aM (show (c:Int)<32 by omega),cond_true,ws _ o (by simp) hlim0]
   obtain ⟨k1,k2⟩:=hexdig ⟨c,h32⟩
   simp only at k1 k2
   rw[k1,k2,aw (by rw[aM (by omega),aM (by omega)]; rfl)]
   rw[Int.toNat_natCast,Int.toNat_natCast,wb _ _ (hlim [92,117,48,48] (by simp)),aw (by rw[aM (by omega),aM (by omega)]; rfl)]
   rw[List.append_assoc o,wb _ _ (hlim _ (by simp))]
   have:qc c = [92,117,48,48,NJ.getD (c / 16) 0,NJ.getD (c % 16) 0]:=by unfold qc; rw[if_neg hs,if_pos h32]
   rw[this,List.append_assoc o]
   rfl
  ·rw[bJ (show ¬(c:Int)<32 by omega),cond_false]
   obtain ⟨n,hn⟩:=wr hv o hlim0 (fun G1 Iy=>dz Iy x (pos+(enc c).length))
   rw[hn]
   have:qc c=enc c:=by unfold qc; rw[if_neg hs,if_neg h32]
   rw[this]
theorem quote_loop {R:Type} (rs:List Nat):∀(n:Nat) (done:List Nat) (o:ah),rs.length<n→(∀c∈rs,vr c)→(∀c∈done,vr c)→o.length+6*rs.length≤80000000000→∀e0:List Int→Option R,
  cD n (zs o) (fg (done++rs)) (fg done).length e0=e0 (zs (o++TQ rs)):=by
 induction rs with
 | nil =>
  intro n done o hn _ _ _ e0
  obtain ⟨m,rfl⟩:∃m,n=m+1:=⟨n - 1,by simp at hn; omega⟩
  show kQ ad eX ae ak _ (zs o) (fg (done ++ [])) (fg done).length e0=_
  unfold kQ
  rw[List.append_nil,bJ (Nat.lt_irrefl _),cond_false]
  simp[TQ]
 | cons c rs ih =>
  intro n done o hn hr hd hl e0
  obtain ⟨m,rfl⟩:∃m,n=m+1:=⟨n - 1,by simp at hn; omega⟩
  have hv:=hr c (by simp)
  have he:=IF hv
  have hq:=qc_len hv
  simp only[List.length_cons]at hn hl
  show kQ ad eX ae ak (fun gk gn gw=>cD m gk gn gw e0) (zs o) (fg (done++c::rs)) (fg done).length e0=_
  rw[quote_round (c:=c) (t:=fg rs) (by rw[enc_head,List.length_append,List.length_append]; omega) (by rw[enc_head,List.drop_left]) hv o (by omega)]
  have e1:done++c::rs=(done ++ [c])++rs:=by simp
  have e2:(fg done).length+(enc c).length=(fg (done ++ [c])).length:=by rw[encL_snoc,List.length_append]
  rw[e1,e2,ih m (done ++ [c]) (o++qc c) (by omega) (fun x hx=>hr x (by simp[hx])) (fun x hx=>by
   rcases List.mem_append.1 hx with h|h
   ·exact hd x h
   ·simp at h; subst h; exact hv) (by rw[List.length_append]; omega)]
  rw[List.append_assoc]
  rfl
theorem RX:∀(rs:List Nat),(∀c∈rs,vr c)→rs.length≤(fg rs).length∧(fg rs).length≤4*rs.length
 | [],_=>by simp[fg]
 | c::rs,h=>by
  have h1:=IF (h c (by simp))
  have h2:=RX rs (fun x hx=>h x (by simp[hx]))
  have:fg (c::rs)=enc c++fg rs:=by simp[fg]
  rw[this,List.length_append,List.length_cons]
  omega
theorem qcL_count:∀(rs:List Nat),(∀c∈rs,vr c)→(TQ rs).length≤6*rs.length
 | [],_=>by simp[TQ]
 | c::rs,h=>by
  have h1:=qc_len (h c (by simp))
  have h2:=qcL_count rs (fun x hx=>h x (by simp[hx]))
  have:TQ (c::rs)=qc c++TQ rs:=by simp[TQ]
  rw[this,List.length_append,List.length_cons]
  omega
theorem quote_ok {R:Type} (rs:List Nat) (hr:∀c∈rs,vr c) (hl:rs.length≤10000000000) (k:ah→Bool→Option R):dZ (fg rs) k=k (qt rs) true:=by
 have hc:=RX rs hr
 have hq:=qcL_count rs hr
 have hw:fW (fg rs)=true:=Kt.2 ⟨rs,hr,rfl⟩
 show uY bN aj ad cD (fg rs) k=_
 unfold uY
 have q:∀(x:ah) (f:Bool→Option R),bN x f=f (fW x):=fun _ _=>rfl
 have q2:∀(x:Int) (f:List Int→Option R),aj x f=f [x]:=fun _ _=>rfl
 rw[q,hw,Bool.not_true,cond_false,q2]
 have e34:([34]:List Int)=zs [34]:=rfl
 rw[e34]
 have:=quote_loop (R:=R) rs (List.length (zs [34])+List.length (fg rs)+64) [] [34] (by omega) hr (by simp) (by simp; omega)
 rw[List.nil_append]at this
 have e0:(fg []).length=0:=rfl
 rw[e0]at this
 rw[this]
 have Q7:(34:Int)=((34:UInt8).toNat:Int):=rfl
 rw[Q7,wb _ _ (by unfold TN; rw[List.length_append]; simp; omega),vL]
 rfl
theorem quote_bad {R:Type} (s:ah) (h:fW s=false) (k:ah→Bool→Option R):dZ s k=k [] false:=by
 show uY bN aj ad cD s k=_
 unfold uY
 have q:∀(x:ah) (f:Bool→Option R),bN x f=f (fW x):=fun _ _=>rfl
 rw[q,h]
 rfl
def TR (s:ah):Option (Nat×ah):=if ([92]:ah).isPrefixOf s then escP (s.drop 1)else MB s
def uq:Nat→ah→ah→Option (ah×ah)
 | 0,_,_=>none
 | n+1,s,o=>if ([34]:ah).isPrefixOf s then some (o,s.drop 1)else match TR s with|none=>none|some (c,r)=>uq n r (o++enc c)
theorem longP_ok {s r:ah} {c:Nat} (h:TP s=some (c,r)):vr c∧r.length+4≤s.length:=by
 unfold TP at h
 split at h
 ·cases h
 ·rename_i v r1 hu
  obtain ⟨hv,hl,hr⟩:=Hz hu
  split at h
  ·cases h
   refine ⟨by unfold vr; omega,?_⟩
   rw[hr,List.length_drop]; omega
  ·split at h
   ·cases h
   ·split at h
    ·split at h
     ·cases h
     ·rename_i w r2 hu2
      obtain ⟨hw,hl2,hr2⟩:=Hz hu2
      split at h
      ·simp only[Option.some.injEq,Prod.mk.injEq]at h
       obtain ⟨hc,rfl⟩:=h
       refine ⟨by unfold vr; omega,?_⟩
       rw[hr2,hr]
       simp only[List.length_drop]
       rw[hr]at hl2
       simp only[List.length_drop]at hl2
       omega
      ·cases h
    ·cases h
theorem escP_ok {s r:ah} {c:Nat} (h:escP s=some (c,r)):vr c∧r.length<s.length:=by
 cases s with
 | nil=>cases h
 | cons b t =>
  simp only[escP]at h
  have hb:=UInt8.toNat_lt b
  split at h
  ·cases h; exact ⟨by unfold vr; omega,by simp⟩
  split at h
  ·cases h; exact ⟨by unfold vr; omega,by simp⟩
  split at h
  ·cases h; exact ⟨by unfold vr; omega,by simp⟩
  split at h
  ·cases h; exact ⟨by unfold vr; omega,by simp⟩
  split at h
  ·cases h; exact ⟨by unfold vr; omega,by simp⟩
  split at h
  ·cases h; exact ⟨by unfold vr; omega,by simp⟩
  split at h
  ·obtain ⟨h1,h2⟩:=longP_ok h
   exact ⟨h1,by simp only[List.length_cons]; omega⟩
  ·cases h
theorem plainP_ok {s r:ah} {c:Nat} (h:MB s=some (c,r)):vr c∧r.length<s.length:=by
 unfold MB at h
 split at h
 ·cases h
 ·rename_i jT
  split at h
  ·cases h
  ·split at h
   ·cases h
   ·cases h
    have h1:=decodeL_width s
    have h2:0<s.length:=List.length_pos_iff.2 jT
    exact ⟨dec_vr s,by rw[List.length_drop]; omega⟩
theorem Y6 {s r:ah} {c:Nat} (h:TR s=some (c,r)):vr c∧r.length<s.length:=by
 unfold TR at h
 split at h
 ·obtain ⟨h1,h2⟩:=escP_ok h
  exact ⟨h1,by rw[List.length_drop]at h2; omega⟩
 ·exact plainP_ok h
theorem uq_fuel:∀(n m:Nat) (s o:ah),s.length<n→s.length<m→uq n s o=uq m s o
 | 0,_,_,_,h,_=>by omega
 | _+1,0,_,_,_,h=>by omega
 | n+1,m+1,s,o,hn,hm=>by
  unfold uq
  split
  ·rfl
  ·cases hs:TR s with
   | none=>rfl
   | some p =>
    obtain ⟨c,r⟩:=p
    obtain ⟨_,h2⟩:=Y6 hs
    exact uq_fuel n m r _ (by omega) (by omega)
theorem unq_loop {R:Type} (x:ah) (e0:ah→ah→List Int→Option R) (e1:ah→ah→Int→Bool→ah→List Int→Option R):∀(n:Nat) (s o:ah),s.length<n→o.length+4*s.length≤90000000000 →
  (match uq n s o with
   | some (o',r)=>br n x s (zs o) e0 e1=e0 x r (zs o')
   | none=>∃a b,br n x s (zs o) e0 e1=e1 x [] 0 false a b):=by
 intro n
 induction n with
 | zero=>intro s o h; omega
 | succ n ih =>
  intro s o h hb
  have hL:br (n+1) x s (zs o) e0 e1=rW ak aK bP bn (fun gk gn gw=>br n gk gn gw e0 e1) x s (zs o) e0 e1:=rfl
  rw[hL]
  unfold rW
  rw[Xb _ _ (by simp) (by omega)]
  simp only[uq]
  have hlim:TN o:=by unfold TN; omega
  by_cases Q7:([34]:ah).isPrefixOf s=true
  ·rw[if_pos Q7,if_pos Q7]
   rfl
  ·rw[if_neg Q7,if_neg Q7,Bool.not_false,cond_true,Xb _ _ (by simp) (by omega)]
   have fin:∀(c:Nat) (r:ah),vr c→r.length<s.length →
     (match uq n r (o++enc c)with
      | some (o',r')=>br n x r (zs (o++enc c)) e0 e1=e0 x r' (zs o')
      | none=>∃a b,br n x r (zs (o++enc c)) e0 e1=e1 x [] 0 false a b):=fun c r hv hr=>by
    have:=IF hv
    exact ih r (o++enc c) (by omega) (by rw[List.length_append]; omega)
   unfold TR
   by_cases h92:([92]:ah).isPrefixOf s=true
   ·rw[if_pos h92,if_pos h92]
    have e1':s.drop ([92]:ah).length=s.drop 1:=rfl
    rw[e1',cond_true]
    have hk:=esc_ok (R:=R) (s.drop 1) (by rw[List.length_drop]; omega) (fun vQ yK=>bif (decide (vQ<(0:Int)))then (e1 x ([]:ah) 0 false yK (zs o))else (ak vQ (zs o) (fun HJ G1=>br n x yK G1 e0 e1)))
    cases he:escP (s.drop 1)with
    | none =>
     rw[he]at hk
     obtain ⟨r,hk⟩:=hk
     exact ⟨r,zs o,hk.trans (by rw[aM (show (-1:Int)<0 by omega),cond_true])⟩
    | some p =>
     obtain ⟨c,r⟩:=p
     rw[he]at hk
     obtain ⟨hv,hr⟩:=escP_ok he
     rw[List.length_drop]at hr
     simp only at hk ⊢
     rw[hk,bJ (show ¬(c:Int)<0 by omega),cond_false]
     obtain ⟨q,hq⟩:=wr hv o hlim (fun HJ G1=>br n x r G1 e0 e1)
     rw[hq]
     exact fin c r hv (by omega)
   ·rw[if_neg h92,if_neg h92,cond_false]
    have hk:=plain_ok (R:=R) s (by omega) (fun Iy EN=>bif (decide (Iy<(0:Int)))then (e1 x ([]:ah) 0 false EN (zs o))else (ak Iy (zs o) (fun Sb Nr=>br n x EN Nr e0 e1)))
    cases he:MB s with
    | none =>
     rw[he]at hk
     simp only at hk ⊢
     exact ⟨s,zs o,hk.trans (by rw[aM (show (-1:Int)<0 by omega),cond_true])⟩
    | some p =>
     obtain ⟨c,r⟩:=p
     rw[he]at hk
     obtain ⟨hv,hr⟩:=plainP_ok he
     simp only at hk ⊢
     rw[hk,bJ (show ¬(c:Int)<0 by omega),cond_false]
     obtain ⟨q,hq⟩:=wr hv o hlim (fun Sb Nr=>br n x r Nr e0 e1)
     rw[hq]
     exact fin c r hv (by omega)
def uqS (s:ah):Option (ah×ah):=if ([34]:ah).isPrefixOf s then uq (s.length+1) (s.drop 1) []else none
theorem unquote_ok {R:Type} (s:ah) (hs:s.length≤20000000000) (k:ah→Int→Bool→Option R) :
  fy s k=match uqS s with|some (o,r)=>k o (IntKind.i64.wrap ((s.length:Int) - (r.length:Int))) true|none=>k [] 0 false:=by
 have e:fy s k=zG aK br s k:=rfl
 rw[e]
 unfold zG uqS
 rw[Xb _ _ (by simp) (by omega)]
 by_cases Q7:([34]:ah).isPrefixOf s=true
 ·rw[if_pos Q7,if_pos Q7,Bool.not_true,cond_false]
  have e1:s.drop ([34]:ah).length=s.drop 1:=rfl
  rw[e1]
  have hd:(s.drop 1).length≤s.length:=by rw[List.length_drop]; omega
  have key:=unq_loop (R:=R) s (fun ZM V9 GQ=>k (vO GQ) (IntKind.i64.wrap ((ZM.length:Int) - (V9.length:Int))) true) (fun y22 y23 y24 Qx SP Jh=>k y23 y24 Qx) (List.length s+List.length (s.drop 1)+List.length ([]:List Int)+64) (s.drop 1) [] (by omega) (by simp only[List.length_nil]; omega)
  rw[uq_fuel _ (s.length+1) (s.drop 1) [] (by omega) (by omega)]at key
  cases hu:uq (s.length+1) (s.drop 1) []with
  | none =>
   rw[hu]at key
   obtain ⟨a,b,key⟩:=key
   exact key
  | some p =>
   obtain ⟨o,r⟩:=p
   rw[hu]at key
   simp only at key ⊢
   refine Eq.trans key ?_
   rw[vL]
 ·rw[if_neg Q7,if_neg Q7]
  rfl
theorem Y7 (a b:UInt8) (t:ah):([a]:ah).isPrefixOf (b::t)=(a==b):=by
 simp[List.isPrefixOf]
theorem hex_back:∀c:Fin 32,TO [48,48,NJ.getD (c.val / 16) 0,NJ.getD (c.val % 16) 0] 0=some c.val:=by decide +kernel
theorem u8_ne {b:UInt8} {n:Nat} (hn:n<256) (h:b.toNat≠n):((UInt8.ofNat n)==b)=false:=by
 rw[beq_eq_false_iff_ne]
 rintro rfl
 rw[gP n hn]at h
 exact h rfl
theorem enc_first {c:Nat} (hv:vr c) (h:32≤c) (Q7:c≠34) (h92:c≠92):∃b t,enc c=b::t∧b.toNat≠34∧b.toNat≠92:=by
 have kj:=vr_lt hv
 rcases Ks hv with ⟨h1,e⟩|⟨h0,h1,e⟩|⟨h0,h1,e⟩|⟨h0,e⟩
 ·exact ⟨_,_,e,by rw[gP _ (by omega)]; exact Q7,by rw[gP _ (by omega)]; exact h92⟩
 ·exact ⟨_,_,e,by rw[gP _ (by omega)]; omega,by rw[gP _ (by omega)]; omega⟩
 ·exact ⟨_,_,e,by rw[gP _ (by omega)]; omega,by rw[gP _ (by omega)]; omega⟩
 ·exact ⟨_,_,e,by rw[gP _ (by omega)]; omega,by rw[gP _ (by omega)]; omega⟩
theorem shortC_cases (c:Nat):(rj c=0∧c≠34∧c≠92)∨c=34∨c=92∨c=8∨c=12∨c=10∨c=13∨c=9:=by
 unfold rj
 by_cases h1:c=34 <;> by_cases h2:c=92 <;> by_cases h3:c=8 <;> by_cases h4:c=12 <;> by_cases h5:c=10 <;> by_cases h6:c=13 <;> by_cases h7:c=9 <;> simp[h1,h2,h3,h4,h5,h6,h7]
theorem qc_hex {c:Nat} (h0:rj c=0) (h:c<32):qc c = [92,117,48,48,NJ.getD (c / 16) 0,NJ.getD (c % 16) 0]:=by unfold qc; rw[if_neg (by omega),if_pos h]
theorem qc_enc {c:Nat} (h0:rj c=0) (h:¬c<32):qc c=enc c:=by unfold qc; rw[if_neg (by omega),if_neg h]
theorem step_qc {c:Nat} (hv:vr c) (t:ah):([34]:ah).isPrefixOf (qc c++t)=false∧TR (qc c++t)=some (c,t):=by
 rcases shortC_cases c with ⟨h0,Q7,h92⟩|rfl|rfl|rfl|rfl|rfl|rfl|rfl
 ·by_cases h32:c<32
  ·rw[qc_hex h0 h32]
   refine ⟨rfl,?_⟩
   have hb:=hex_back ⟨c,h32⟩
   simp only at hb
   show TP (48::48::NJ.getD (c / 16) 0::NJ.getD (c % 16) 0::t)=some (c,t)
   have hu:Nh (48::48::NJ.getD (c / 16) 0::NJ.getD (c % 16) 0::t)=some (c,t):=by
    unfold Nh
    rw[if_neg (by simp only[List.length_cons]; omega)]
    have e:List.take 4 (48::48::NJ.getD (c / 16) 0::NJ.getD (c % 16) 0::t) = [48,48,NJ.getD (c / 16) 0,NJ.getD (c % 16) 0]:=rfl
    rw[e,hb]
    rfl
   unfold TP
   rw[hu]
   simp only
   rw[if_pos (.inl (by omega))]
  ·rw[qc_enc h0 h32]
   obtain ⟨b,u,e,g1,g2⟩:=enc_first hv (by omega) Q7 h92
   have e2:enc c++t=b::(u++t):=by rw[e]; rfl
   refine ⟨?_,?_⟩
   ·rw[e2,Y7]
    exact u8_ne (n:=34) (by omega) g1
   ·unfold TR
    have:([92]:ah).isPrefixOf (enc c++t)=false:=by
     rw[e2,Y7]
     exact u8_ne (n:=92) (by omega) g2
    rw[this]
    simp only[Bool.false_eq_true,if_false]
    unfold MB
    rw[if_neg (enc_ne hv t),Tn hv t]
    simp only
    have hg:=good_enc hv t
    unfold good at hg
    rw[Tn hv t]at hg
    simp only at hg
    rw[if_neg hg,if_neg h32,List.drop_left]
 ·exact ⟨rfl,rfl⟩
 ·exact ⟨rfl,rfl⟩
 ·exact ⟨rfl,rfl⟩
 ·exact ⟨rfl,rfl⟩
 ·exact ⟨rfl,rfl⟩
 ·exact ⟨rfl,rfl⟩
 ·exact ⟨rfl,rfl⟩
theorem uq_qc:∀(rs:List Nat),(∀c∈rs,vr c)→∀(n:Nat) (o more:ah),rs.length<n→uq n (TQ rs++34::more) o=some (o++fg rs,more)
 | [],_,n,o,more,hn=>by
  obtain ⟨m,rfl⟩:∃m,n=m+1:=⟨n - 1,by simp at hn; omega⟩
  have:TQ []++34::more=34::more:=rfl
  rw[this]
  simp[uq,List.isPrefixOf,fg]
 | c::rs,hr,n,o,more,hn=>by
  obtain ⟨m,rfl⟩:∃m,n=m+1:=⟨n - 1,by simp at hn; omega⟩
  have hv:=hr c (by simp)
  have e:TQ (c::rs)++34::more=qc c++(TQ rs++34::more):=by simp[TQ]
  obtain ⟨h1,h2⟩:=step_qc hv (TQ rs++34::more)
  rw[e]
  simp only[uq,h1,h2,Bool.false_eq_true,if_false]
  rw[uq_qc rs (fun x hx=>hr x (by simp[hx])) m (o++enc c) more (by simp at hn; omega)]
  simp[fg]
theorem qc_pos {c:Nat} (hv:vr c):1≤(qc c).length:=by
 unfold qc
 split
 ·simp
 ·split
  ·simp
  ·exact (IF hv).1
theorem qcL_pos:∀(rs:List Nat),(∀c∈rs,vr c)→rs.length≤(TQ rs).length
 | [],_=>by simp[TQ]
 | c::rs,h=>by
  have h1:=qc_pos (h c (by simp))
  have h2:=qcL_pos rs (fun x hx=>h x (by simp[hx]))
  have:TQ (c::rs)=qc c++TQ rs:=by simp[TQ]
  rw[this,List.length_append,List.length_cons]
  omega
theorem uqS_qt (rs:List Nat) (hr:∀c∈rs,vr c) (more:ah):uqS (qt rs++more)=some (fg rs,more):=by
 have e:qt rs++more=34::(TQ rs++34::more):=by unfold qt; simp
 have hq:=qcL_pos rs hr
 rw[e]
 unfold uqS
 rw[Y7]
 simp only[BEq.rfl,if_true,List.drop_succ_cons,List.drop_zero]
 have:=uq_qc rs hr ((34::(TQ rs++34::more)).length+1) [] more (by simp only[List.length_cons,List.length_append]; omega)
 rw[this]
 rfl
theorem whole_eq {R:Type} (x:ah) (f:Bool→Option R):bN x f=f (fW x):=rfl
theorem quote_any {R:Type} (s:ah) (hl:s.length≤10000000000):(∃rs:List Nat,(∀c∈rs,vr c)∧rs.length≤s.length∧s=fg rs∧fW s=true∧∀k:ah→Bool→Option R,dZ s k=k (qt rs) true) ∨
  (fW s=false∧∀k:ah→Bool→Option R,dZ s k=k [] false):=by
 cases h:fW s with
 | true =>
  obtain ⟨rs,hr,rfl⟩:=Kt.1 h
  have:=RX rs hr
  exact .inl ⟨rs,hr,this.1,rfl,rfl,fun k=>quote_ok rs hr (by omega) k⟩
 | false=>exact .inr ⟨rfl,fun k=>quote_bad s h k⟩
def tail (low v n:Nat):Nat:=if v<low∨1114111<v∨(55296≤v∧v≤57343)then 0 else n
theorem eqI (n m:Nat):((n:Int)==(m:Int))=decide (n=m):=by
 by_cases h:n=m
 ·subst h; simp
 ·have:¬((n:Int)=(m:Int)):=by omega
  simp[h,this]
def qb (b:UInt8):ah :=
 if b.toNat=34∨b.toNat=92 then [92,b]else if b.toNat=8 then [92,98]else if b.toNat=9 then [92,116]else if b.toNat=10 then [92,110]else if b.toNat=12 then [92,102]else if b.toNat=13 then [92,114]
 else if b.toNat<32 then [92,117,48,48,NJ.getD (b.toNat / 16) 0,NJ.getD (b.toNat % 16) 0]else [b]
theorem qb_len (b:UInt8):(qb b).length≤6:=by unfold qb; (repeat' split) <;> simp
theorem Gn {b:UInt8} (h:128≤b.toNat):qb b = [b]:=by
 unfold qb
 rw[if_neg (by omega),if_neg (by omega),if_neg (by omega),if_neg (by omega),if_neg (by omega),if_neg (by omega),if_neg (by omega)]
theorem qb_enc {c:Nat} (hv:vr c):(enc c).flatMap qb=qc c:=by
 have kj:=vr_lt hv
 rcases Ks hv with ⟨h1,e⟩|⟨h0,h1,e⟩|⟨h0,h1,e⟩|⟨h0,e⟩
 ·rw[e]
  simp only[List.flatMap_cons,List.flatMap_nil,List.append_nil]
  have hu:=gP c (by omega)
  unfold qb qc rj
  rw[hu]
  by_cases Q7:c=34
  ·subst Q7; rfl
  by_cases h92:c=92
  ·subst h92; rfl
  by_cases h8:c=8
  ·subst h8; rfl
  by_cases h9:c=9
  ·subst h9; rfl
  by_cases h10:c=10
  ·subst h10; rfl
  by_cases h12:c=12
  ·subst h12; rfl
  by_cases h13:c=13
  ·subst h13; rfl
  simp only[Q7,h92,h8,h9,h10,h12,h13,or_self,if_false,ne_eq,not_true_eq_false]
  by_cases h32:c<32
  ·simp only[h32,if_true]
  ·simp only[h32,if_false]
   rw[e]
 ·have hq:qc c=enc c:=qc_enc (by unfold rj; rw[if_neg (by omega),if_neg (by omega),if_neg (by omega),if_neg (by omega),if_neg (by omega),if_neg (by omega)]) (by omega)
  rw[hq,e]
  simp only[List.flatMap_cons,List.flatMap_nil,List.append_nil]
  rw[Gn (by rw[gP _ (by omega)]; omega),Gn (by rw[gP _ (by omega)]; omega)]; rfl
 ·have hq:qc c=enc c:=qc_enc (by unfold rj; rw[if_neg (by omega),if_neg (by omega),if_neg (by omega),if_neg (by omega),if_neg (by omega),if_neg (by omega)]) (by omega)
  rw[hq,e]
  simp only[List.flatMap_cons,List.flatMap_nil,List.append_nil]
  rw[Gn (by rw[gP _ (by omega)]; omega),Gn (by rw[gP _ (by omega)]; omega),Gn (by rw[gP _ (by omega)]; omega)]; rfl
 ·have hq:qc c=enc c:=qc_enc (by unfold rj; rw[if_neg (by omega),if_neg (by omega),if_neg (by omega),if_neg (by omega),if_neg (by omega),if_neg (by omega)]) (by omega)
  rw[hq,e]
  simp only[List.flatMap_cons,List.flatMap_nil,List.append_nil]
  rw[Gn (by rw[gP _ (by omega)]; omega),Gn (by rw[gP _ (by omega)]; omega),Gn (by rw[gP _ (by omega)]; omega),Gn (by rw[gP _ (by omega)]; omega)]; rfl
theorem qb_encL:∀(rs:List Nat),(∀c∈rs,vr c)→(fg rs).flatMap qb=TQ rs
 | [],_=>rfl
 | c::rs,h=>by
  have e:fg (c::rs)=enc c++fg rs:=by simp[fg]
  have e2:TQ (c::rs)=qc c++TQ rs:=by simp[TQ]
  rw[e,e2,List.flatMap_append,qb_enc (h c (by simp)),qb_encL rs (fun x hx=>h x (by simp[hx]))]
theorem dec_all (u:Nat):∀b∈decDigits u,48≤b.toNat∧b.toNat≤57:=by
 induction u using Nat.strongRecOn with
 | _ u ih =>
  intro b hb
  by_cases h:u<10
  ·rw[decDigits,dif_pos h]at hb
   simp only[List.mem_cons,List.not_mem_nil,or_false]at hb
   subst hb
   rw[gP _ (by omega)]; omega
  ·rw[decDigits,dif_neg h]at hb
   rcases List.mem_append.1 hb with hb|hb
   ·exact ih (u / 10) (by omega) b hb
   ·simp only[List.mem_cons,List.not_mem_nil,or_false]at hb
    subst hb
    rw[gP _ (by omega)]; omega
theorem PT (u:Nat) (hu:0<u):∃b t,decDigits u=b::t∧b.toNat≠48:=by
 induction u using Nat.strongRecOn with
 | _ u ih =>
  by_cases h:u<10
  ·exact ⟨_, [],by rw[decDigits,dif_pos h],by rw[gP _ (by omega)]; omega⟩
  ·obtain ⟨b,t,e,hb⟩:=ih (u / 10) (by omega) (by omega)
   exact ⟨b,t ++ [UInt8.ofNat (48+u % 10)],by rw[decDigits,dif_neg h,e]; rfl,hb⟩
theorem dec_last (u:Nat):∃l,decDigits u=l ++ [UInt8.ofNat (48+u % 10)]:=by
 by_cases h:u<10
 ·exact ⟨[],by rw[decDigits,dif_pos h,Nat.mod_eq_of_lt h]; rfl⟩
 ·exact ⟨decDigits (u / 10),by rw[decDigits,dif_neg h]⟩
theorem tmod_abs {m:Int} (h:Int.tmod m 10≠0):m.natAbs % 10≠0:=by
 intro h2
 apply h
 have e:m=(m / 10)*10:=by omega
 rw[e]
 exact Int.mul_tmod_left _ _
theorem VW (a b:ah) (j:Nat):(a++b).getD (a.length+j) 0=b.getD j 0:=by
 show ((a++b)[a.length+j]?).getD 0=(b[j]?).getD 0
 rw[List.getElem?_append_right (by omega),Nat.add_sub_cancel_left]
def okAt (z:ah) (j:Nat):Prop:=((z.getD j 0).toNat=46∧j≠0∧j+1≠z.length)∨(48≤(z.getD j 0).toNat∧(z.getD j 0).toNat≤57)
def dots (z:ah):Nat:=(z.filter fun b=>decide (b.toNat=46)).length
theorem dots_app (a b:ah):dots (a++b)=dots a+dots b:=by unfold dots; rw[List.filter_append,List.length_append]
theorem Pr {z:ah} (h:∀b∈z,48≤b.toNat∧b.toNat≤57):dots z=0:=by
 unfold dots
 rw[List.length_eq_zero_iff,List.filter_eq_nil_iff]
 intro b hb
 have:=h b hb
 simp
 omega
theorem Ps {z:ah} {j:Nat} (h:j<z.length):z.getD j 0∈z:=by
 have:z.getD j 0=z[j]:=by simp[List.getD,h]
 rw[this]
 exact List.getElem_mem h
theorem body_ok (d:fv) (hd:Fm d):∃z:ah,z=body (decDigits d.ao.natAbs) d.exp∧1≤z.length∧z.length≤30∧(∀j,j<z.length→okAt z j)∧48≤(z.getD 0 0).toNat ∧
  ((dots z=0∧((z.getD 0 0).toNat≠48∨z.length=1))∨(dots z=1∧(z.getD (z.length - 1) 0).toNat≠48∧2≤z.length∧((z.getD 0 0).toNat≠48∨(z.getD 1 0).toNat=46))):=by
 have b:=hd.bounds
 refine ⟨_,rfl,?_⟩
 have wT:=dec_all d.ao.natAbs
 have hlen:(decDigits d.ao.natAbs).length≤16:=by rw[decDigits_length]; exact TM (by omega)
 have Nk:1≤(decDigits d.ao.natAbs).length:=by rw[decDigits_length]; exact nDigits_pos _
 by_cases he:0≤d.exp
 ·have hb:body (decDigits d.ao.natAbs) d.exp=decDigits d.ao.natAbs++fP d.exp.toNat:=by unfold body; rw[if_pos he]
  rw[hb]
  have hdig:∀x∈decDigits d.ao.natAbs++fP d.exp.toNat,48≤x.toNat∧x.toNat≤57:=by
   intro x hx
   rcases List.mem_append.1 hx with hx|hx
   ·exact wT x hx
   ·have:=List.eq_of_mem_replicate hx
    subst this; decide
  have hl:(decDigits d.ao.natAbs++fP d.exp.toNat).length=(decDigits d.ao.natAbs).length+d.exp.toNat:=by rw[List.length_append,oB]
  refine ⟨by omega,by omega,fun j hj => .inr (hdig _ (Ps hj)),(hdig _ (Ps (by omega))).1, .inl ⟨Pr hdig,?_⟩⟩
  by_cases h0:d.ao=0
  ·right
   have:=hd.zero h0
   subst this
   show (decDigits 0++fP 0).length=1
   rw[decDigits_one (by omega)]
   rfl
  ·left
   obtain ⟨x,t,e,hx⟩:=PT d.ao.natAbs (by omega)
   rw[e]
   exact hx
 ·have h0:d.ao≠0:=by
   intro h
   have:=hd.zero h
   rw[this]at he
   exact he (Int.le_refl _)
  obtain ⟨l,hlast⟩:=dec_last d.ao.natAbs
  have hmod:=tmod_abs (hd.nz h0)
  obtain ⟨x0,t0,Y8,hx0⟩:=PT d.ao.natAbs (by omega)
  generalize hL:decDigits d.ao.natAbs=L at *
  have hb:body L d.exp=(fP (max 0 (1 - d.exp - (L.length:Int))).toNat++L).take (((fP (max 0 (1 - d.exp - (L.length:Int))).toNat++L).length:Int)+d.exp).toNat ++ [46]++(fP (max 0 (1 - d.exp - (L.length:Int))).toNat++L).drop (((fP (max 0 (1 - d.exp - (L.length:Int))).toNat++L).length:Int)+d.exp).toNat:=by
   unfold body; rw[if_neg he]
  rw[hb]
  have tl:(fP (max 0 (1 - d.exp - (L.length:Int))).toNat++L).length=(max 0 (1 - d.exp - (L.length:Int))).toNat+L.length:=by rw[List.length_append,oB]
  have tdig:∀x∈fP (max 0 (1 - d.exp - (L.length:Int))).toNat++L,48≤x.toNat∧x.toNat≤57:=by
   intro x hx
   rcases List.mem_append.1 hx with hx|hx
   ·have:=List.eq_of_mem_replicate hx
    subst this; decide
   ·exact wT x hx
  have tlast:∃l',fP (max 0 (1 - d.exp - (L.length:Int))).toNat++L=l' ++ [UInt8.ofNat (48+d.ao.natAbs % 10)]:=⟨fP (max 0 (1 - d.exp - (L.length:Int))).toNat++l,by rw[hlast,List.append_assoc]⟩
  have tfirst:(fP (max 0 (1 - d.exp - (L.length:Int))).toNat++L).getD 0 0=(if (max 0 (1 - d.exp - (L.length:Int))).toNat=0 then x0 else 48):=by
   rw[Y8]
   cases hz:(max 0 (1 - d.exp - ((x0::t0).length:Int))).toNat with
   | zero=>rfl
   | succ q=>rfl
  generalize hz:(max 0 (1 - d.exp - (L.length:Int))).toNat=z at *
  generalize ht:fP z++L=t at *
  have hat:((t.length:Int)+d.exp).toNat=t.length - d.exp.natAbs:=by omega
  rw[hat]
  have h1:d.exp.natAbs+1≤t.length:=by omega
  have la:(t.take (t.length - d.exp.natAbs)).length=t.length - d.exp.natAbs:=by rw[List.length_take]; omega
  have lb:(t.drop (t.length - d.exp.natAbs)).length=d.exp.natAbs:=by rw[List.length_drop]; omega
  generalize hA:t.take (t.length - d.exp.natAbs)=A at *
  generalize hB:t.drop (t.length - d.exp.natAbs)=B at *
  have hAB:A++B=t:=by rw[←hA,←hB,List.take_append_drop]
  have lz:(A ++ [46]++B).length=A.length+1+B.length:=by simp only[List.length_append,List.length_cons,List.length_nil]
  have dA:∀x∈A,48≤x.toNat∧x.toNat≤57:=fun x hx=>tdig x (by rw[←hAB]; exact List.mem_append_left _ hx)
  have dB:∀x∈B,48≤x.toNat∧x.toNat≤57:=fun x hx=>tdig x (by rw[←hAB]; exact List.mem_append_right _ hx)
  have gA:∀j,j<A.length→(A ++ [46]++B).getD j 0=A.getD j 0:=fun j hj=>by
   rw[List.append_assoc]; exact OT hj
  have gM:(A ++ [46]++B).getD A.length 0=46:=by rw[List.append_assoc]; exact VK
  have gB:∀j,j<B.length→(A ++ [46]++B).getD (A.length+1+j) 0=B.getD j 0:=fun j hj=>by
   have e:A.length+1+j=(A ++ [46]).length+j:=by simp
   rw[e]
   exact VW _ _ _
  have he1:1≤d.exp.natAbs:=by omega
  refine ⟨by omega,by omega,fun j hj => ?_,?_, .inr ⟨?_,?_,by omega,?_⟩⟩
  ·rcases Nat.lt_trichotomy j A.length with h|h|h
   ·right; rw[gA j h]; exact dA _ (Ps h)
   ·left; subst h; rw[gM]; exact ⟨rfl,by omega,by omega⟩
   ·right
    obtain ⟨q,rfl⟩:∃q,j=A.length+1+q:=⟨j - A.length - 1,by omega⟩
    rw[gB q (by omega)]; exact dB _ (Ps (by omega))
  ·rw[gA 0 (by omega)]; exact (dA _ (Ps (by omega))).1
  ·rw[dots_app,dots_app,Pr dA,Pr dB]; rfl
  ·have e:(A ++ [46]++B).length - 1=A.length+1+(B.length - 1):=by omega
   rw[e,gB _ (by omega)]
   obtain ⟨l',hl'⟩:=tlast
   have hBl:B.getD (B.length - 1) 0=UInt8.ofNat (48+d.ao.natAbs % 10):=by
    have e2:t.getD (t.length - 1) 0=UInt8.ofNat (48+d.ao.natAbs % 10):=by
     rw[hl']
     have:(l' ++ [UInt8.ofNat (48+d.ao.natAbs % 10)]).length - 1=l'.length:=by simp
     rw[this]
     exact VK
    have e3:t.getD (t.length - 1) 0=B.getD (B.length - 1) 0:=by
     rw[←hAB]
     have:(A++B).length - 1=A.length+(B.length - 1):=by rw[List.length_append]; omega
     rw[this]
     exact VW _ _ _
    rw[←e3,e2]
   rw[hBl,gP _ (by omega)]
   omega
  ·have hA0:A.getD 0 0=t.getD 0 0:=by rw[←hAB]; exact (OT (by omega)).symm
   rw[gA 0 (by omega),hA0,tfirst]
   by_cases hzz:z=0
   ·left; rw[if_pos hzz]; exact hx0
   ·right
    have:A.length=1:=by omega
    have e:(A ++ [46]++B).getD 1 0=46:=by rw[←this]; exact gM
    rw[e]; rfl
theorem Xc (c:UInt8):∀l:ah,Go.Lib.indexByte l c<0↔l.contains c=false
 | []=>by simp[Go.Lib.indexByte]
 | x::l=>by
  have ih:=Xc c l
  have hg:=Go.Lib.indexByte_ge l c
  unfold Go.Lib.indexByte
  rw[List.contains_cons]
  by_cases h:x=c
  ·subst h; simp
  ·have h2:(c==x)=false:=by rw[beq_eq_false_iff_ne]; exact fun e=>h e.symm
   rw[h2,Bool.false_or,←ih]
   split
   ·rename_i h3; exact (h (beq_iff_eq.1 h3)).elim
   ·split
    ·rename_i h4
     have:=beq_iff_eq.1 h4
     omega
    ·rename_i h4
     have:¬Go.Lib.indexByte l c = -1:=fun e=>h4 (beq_iff_eq.2 e)
     omega
def ti (KP s:ah):Nat×ah:=match s with | []=>(0, [])|b::t=>if KP.contains b then (b.toNat,t)else (0,b::t)
theorem Gp {R:Type} (KP s:ah) (hs:s.length≤4000000000) (k:Int→ah→Option R):aV KP s k=k ((ti KP s).1:Int) (ti KP s).2:=by
 have e:aV KP s k=kJ KP s k:=rfl
 rw[e]
 unfold kJ
 cases s with
 | nil=>rfl
 | cons b t =>
  simp only[List.length_cons]at hs
  have jT:((b::t:ah)==([]:ah))=false:=rfl
  have hg:((b::t:ah).getD 0 0)=b:=rfl
  have hd:((b::t:ah).drop 1).take (((b::t:ah).length:Int).toNat - 1)=t:=by
   rw[Int.toNat_natCast,List.drop_succ_cons,List.drop_zero,List.length_cons,Nat.add_sub_cancel,List.take_length]
  have hi:DS KP ((b.toNat:Nat):Int)=Go.Lib.indexByte KP b:=by
   unfold DS
   rw[Int.toNat_natCast]
   simp
  have hl:(b::t:ah).length=t.length+1:=rfl
  rw[jT,cond_false,hg,hd,hi,hl,aw (aM (by omega))]
  unfold ti
  cases hc:KP.contains b with
  | false =>
   rw[aM ((Xc b KP).2 hc),cond_true]
   simp only[hc,Bool.false_eq_true,if_false]
   rfl
  | true =>
   have:¬Go.Lib.indexByte KP b<0:=fun h=>by rw[(Xc b KP).1 h]at hc; cases hc
   rw[bJ this,cond_false,aw (aM (by omega)),aw (by rw[aM (show (0:Int)≤((t.length+1:Nat):Int) by omega),aM (by omega)]; rfl),aw (aM (by omega))]
   simp only[hc,if_true]
def digS:ah := [48,49,50,51,52,53,54,55,56,57]
def nI (b:UInt8):Prop:=48≤b.toNat∧b.toNat≤57
theorem digS_all:∀n:Fin 256,digS.contains (UInt8.ofNat n.val)=decide (48≤n.val∧n.val≤57):=by decide +kernel
theorem digS_ok (b:UInt8):digS.contains b=decide (48≤b.toNat∧b.toNat≤57):=by
 have:=digS_all ⟨b.toNat,UInt8.toNat_lt b⟩
 simpa using this
theorem PV (p:UInt8→Bool):∀(a r:ah),(∀x∈a,p x=true)→(a++r).dropWhile p=r.dropWhile p
 | [],r,_=>rfl
 | x::a,r,h=>by
  rw[List.cons_append,List.dropWhile_cons,h x (by simp),if_pos rfl]
  exact PV p a r fun y hy=>h y (by simp[hy])
theorem RY (p:UInt8→Bool) (r:ah) (h:∀b t,r=b::t→p b=false):r.dropWhile p=r:=by
 cases r with
 | nil=>rfl
 | cons b t=>rw[List.dropWhile_cons,h b t rfl]; rfl
theorem U4 {R:Type} (a r:ah) (ha:∀x∈a,nI x) (hr:∀b t,r=b::t→¬nI b) (hl:(a++r).length≤4000000000) (k:ah→ah→Option R):aR (a++r) k=k a r:=by
 have e:aR (a++r) k=jF (a++r) k:=rfl
 rw[e]
 unfold jF
 have ht:bu (a++r) ([48,49,50,51,52,53,54,55,56,57]:ah)=r:=by
  unfold bu
  have h1:=PV (fun x=>digS.contains x) a r (fun x hx=>by rw[digS_ok]; exact aM (ha x hx))
  have h2:=RY (fun x=>digS.contains x) r (fun b t hb=>by rw[digS_ok]; exact bJ (hr b t hb))
  exact h1.trans h2
 rw[ht]
 have hlen:(a++r).length=a.length+r.length:=List.length_append
 have hw:IntKind.i64.wrap (((a++r).length:Int) - (r.length:Int))=(a.length:Int):=by rw[hlen,cA (by omega) (by omega)]; omega
 rw[hw,aw (by rfl),aw (by rw[aM (by omega),aM (by omega)]; rfl),aw (aM (by omega)),List.drop_zero,Int.toNat_natCast,Nat.sub_zero,List.take_left]
theorem parse_ok {R:Type} (neg:Bool) (I F X:ah) (pt:Bool) (ev:Int) (hI:∀x∈I,nI x) (hI0:I ≠ []) (hI1:1<I.length→(I.getD 0 0).toNat≠48) (hF:∀x∈F,nI x) (hF0:pt=true→F ≠ []) (hF1:pt=false→F = [])
  (hX:(X = []∧ev=0)∨∃b Y,X=b::Y∧(b=101∨b=69)∧∀f:Int→Bool→ah→Option R,bz Y f=f ev true []) (hev : -1000000≤ev∧ev≤1000000)
  (hlen:((if neg then [45]else [])++(I++((if pt then 46::F else [])++X))).length≤400)
  (hsh:(cB (bu (I++F) [48]) [48]).length≤18) (k:fv→Bool→Option R) :
  dR ((if neg then [45]else [])++(I++((if pt then 46::F else [])++X))) k =
   bk (if neg then IntKind.i64.wrap (0 - ef (48::cB (bu (I++F) [48]) [48]))else ef (48::cB (bu (I++F) [48]) [48])) (-(F.length:Int)+ev+(((bu (I++F) [48]).length:Int) - ((cB (bu (I++F) [48]) [48]).length:Int))) k:=by
 generalize hS:(if neg then [45]else [])++(I++((if pt then 46::F else [])++X))=s at *
 have e:dR s k=pL bk aV aR bz s k:=rfl
 rw[e]
 unfold pL
 -- the pieces
 obtain ⟨i0,It,hIe⟩:∃b t,I=b::t:=by cases I with|nil=>exact (hI0 rfl).elim|cons b t=>exact ⟨b,t,rfl⟩
 have hi0:=hI i0 (by rw[hIe]; simp)
 have hXh:∀b t,X=b::t→¬nI b∧b.toNat≠46:=by
  intro b t hb
  rcases hX with ⟨rfl,_⟩|⟨c,Y,rfl,hc,_⟩
  ·cases hb
  ·cases hb
   rcases hc with rfl|rfl <;> exact ⟨by unfold nI; decide,by decide⟩
 have hs1:ti [45] s=(if neg then 45 else 0,I++((if pt then 46::F else [])++X)):=by
  rw[←hS]
  cases neg with
  | true=>rfl
  | false =>
   rw[hIe]
   have:([45]:ah).contains i0=false:=by
    have:i0≠45:=by rintro rfl; exact absurd hi0.1 (by decide)
    simp[this]
   simp only[Bool.false_eq_true,if_false,List.nil_append,List.cons_append,ti,this]
 have hsl:s.length≤400:=hlen
 have Lf:s.length=(if neg then 1 else 0)+(I.length+((if pt then F.length+1 else 0)+X.length)):=by
  rw[←hS]
  cases neg <;> cases pt <;> simp <;> omega
 have hFl:F.length≤400:=by
  cases pt with
  | true=>simp at Lf; omega
  | false=>rw[hF1 rfl]; simp
 have hIl:I.length≤400:=by omega
 have hXl:X.length≤400:=by omega
 rw[Gp _ _ (by omega),hs1]
 simp only
 have hPh:∀b t,(if pt then 46::F else [])++X=b::t→¬nI b:=by
  intro b t hb
  cases pt with
  | true=>simp at hb; rw[←hb.1]; unfold nI; decide
  | false=>exact (hXh b t (by simpa using hb)).1
 have hl2:(I++((if pt then 46::F else [])++X)).length≤4000000000:=by
  have:(I++((if pt then 46::F else [])++X)).length=I.length+((if pt then F.length+1 else 0)+X.length):=by cases pt <;> simp <;> omega
  omega
 rw[U4 I _ hI hPh hl2]
 have jT:(I==([]:ah))=false:=by rw[beq_eq_false_iff_ne]; exact hI0
 rw[bJ (show ¬(s.length:Int)>400 by omega),cond_false,jT,cond_false]
 have q48:(((I.getD 0 0).toNat:Int)==48)=decide ((I.getD 0 0).toNat=48):=eqI _ 48
 -- the rest, behind the first test
 have drop1:∀x:Option R,(bif (decide ((I.length:Int)>1))then (cb (decide ((0:Int)<I.length)) (bif (((I.getD 0 0).toNat:Int)==48)then (k ⟨0,0⟩ false)else x))else x)=x:=by
  intro x
  by_cases h:1<I.length
  ·rw[aM (show (I.length:Int)>1 by omega),cond_true,aw (aM (by omega)),q48,bJ (hI1 h),cond_false]
  ·rw[bJ (show ¬(I.length:Int)>1 by omega),cond_false]
 rw[drop1]
 generalize hA:I++F=all at *
 have wT:all.length≤800:=by rw[←hA,List.length_append]; omega
 have htl:(bu all [48]).length≤all.length:=Bw _ _
 have lone:([48]:ah).length=1:=rfl
 have hc:(([48]:ah)++(cB (bu all ([48]:ah)) ([48]:ah)))=48::cB (bu all [48]) [48]:=rfl
 have hbe:((([]:ah)==([]:ah)))=true:=rfl
 have hs2:decide ((48::cB (bu all [48]) [48]:ah).length≤281474976710656)=true:=aM (by simp only[List.length_cons]; omega)
 have w0:IntKind.i64.wrap (((bu all [48]).length:Int) - ((cB (bu all [48]) [48]).length:Int))=((bu all [48]).length:Int) - ((cB (bu all [48]) [48]).length:Int):=cA (by omega) (by omega)
 have q1:decide (1+(cB (bu all [48]) [48]).length≤9223372036854775807)=true:=aM (by omega)
 have q2:decide (((cB (bu all [48]) [48]).length:Int)>18)=false:=bJ (by omega)
 have q3:(v7 ([48]:ah)&&decide (([48]:ah).length<4294967281))=true:=rfl
 have qn:(((if neg then 45 else 0:Nat):Int) != 0)=neg:=by cases neg <;> rfl
 have sX:ti [101,69] X=match X with | []=>(0, [])|b::Y=>(b.toNat,Y):=by
  rcases hX with ⟨rfl,_⟩|⟨b,Y,rfl,hb,_⟩
  ·rfl
  ·rcases hb with rfl|rfl <;> rfl
 cases pt with
 | false =>
  have hFe:=hF1 rfl
  subst hFe
  rw[List.append_nil]at hA
  subst hA
  have s46:ti [46] X=(0,X):=by
   rcases hX with ⟨rfl,_⟩|⟨b,Y,rfl,hb,_⟩
   ·rfl
   ·rcases hb with rfl|rfl <;> rfl
  simp only[Bool.false_eq_true,if_false,List.nil_append]
  rw[Gp _ _ (by omega),s46]
  have z0:(((0:Nat):Int) != 0)=false:=rfl
  simp only[z0,cond_false]
  rw[Gp _ _ (by omega),sX]
  rcases hX with ⟨rfl,rfl⟩|⟨b,Y,rfl,hb,hE⟩
  ·simp only[z0,cond_false,q3,aw rfl,hbe,Bool.not_true,q2,q1,hc,hs2,Bool.cond_self,w0,qn]
   rw[cA (n:=0+(((bu I [48]).length:Int) - ((cB (bu I [48]) [48]).length:Int))) (by omega) (by omega)]
   have e0 : -((([]:ah).length:Nat):Int)+0=0:=rfl
   rw[e0]
   cases neg <;> rfl
  ·have zb:((b.toNat:Int) != 0)=true:=by rcases hb with rfl|rfl <;> rfl
   simp only[zb,cond_true,hE,Bool.not_true,cond_false,q3,aw rfl,hbe,q2,q1,hc,hs2,Bool.cond_self,w0,qn]
   rw[cA (n:=0+ev) (by omega) (by omega),cA (n:=0+ev+(((bu I [48]).length:Int) - ((cB (bu I [48]) [48]).length:Int))) (by omega) (by omega)]
   have e0 : -((([]:ah).length:Nat):Int)+ev=0+ev:=rfl
   rw[e0]
   cases neg <;> rfl
 | true =>
  have hFe:=hF0 rfl
  simp only[if_true,List.cons_append,List.nil_append]
  have s46:ti [46] (46::(F++X))=(46,F++X):=rfl
  have lFX:(F++X).length=F.length+X.length:=List.length_append
  rw[Gp _ _ (by simp only[List.length_cons]; omega),s46]
  have z46:(((46:Nat):Int) != 0)=true:=rfl
  have z0:(((0:Nat):Int) != 0)=false:=rfl
  simp only[z46,cond_true]
  rw[U4 F X hF (fun b t hb=>(hXh b t hb).1) (by omega)]
  have hFn:(F==([]:ah))=false:=by rw[beq_eq_false_iff_ne]; exact hFe
  rw[hFn,cond_false,aw (aM (by omega)),hA,cA (n:=0 - (F.length:Int)) (by omega) (by omega)]
  rw[Gp _ _ (by omega),sX]
  rcases hX with ⟨rfl,rfl⟩|⟨b,Y,rfl,hb,hE⟩
  ·simp only[z0,cond_false,q3,aw rfl,hbe,Bool.not_true,q2,q1,hc,hs2,Bool.cond_self,w0,qn]
   rw[cA (n:=0 - (F.length:Int)+(((bu all [48]).length:Int) - ((cB (bu all [48]) [48]).length:Int))) (by omega) (by omega)]
   have e0 : -(F.length:Int)+0=0 - (F.length:Int):=by omega
   rw[e0]
   cases neg <;> rfl
  ·have zb:((b.toNat:Int) != 0)=true:=by rcases hb with rfl|rfl <;> rfl
   simp only[zb,cond_true,hE,Bool.not_true,cond_false,q3,aw rfl,hbe,q2,q1,hc,hs2,Bool.cond_self,w0,qn]
   rw[cA (n:=0 - (F.length:Int)+ev) (by omega) (by omega),cA (n:=0 - (F.length:Int)+ev+(((bu all [48]).length:Int) - ((cB (bu all [48]) [48]).length:Int))) (by omega) (by omega)]
   have e0 : -(F.length:Int)+ev=0 - (F.length:Int)+ev:=by omega
   rw[e0]
   cases neg <;> rfl
theorem uint_app:∀(l r:ah) (acc v:Nat),parseUint10 acc l = .ok v→parseUint10 acc (l++r)=parseUint10 v r
 | [],r,acc,v,h=>by
  simp only[parseUint10]at h
  injection h with h
  subst h
  rfl
 | c::l,r,acc,v,h=>by
  simp only[parseUint10,List.cons_append]at h ⊢
  split at h
  ·rename_i h1
   rw[if_pos h1]
   split at h
   ·cases h
   ·rename_i h2
    rw[if_neg h2]
    split at h
    ·cases h
    ·rename_i h3
     rw[if_neg h3]
     exact uint_app l r _ v h
  ·cases h
theorem uint_dec (u:Nat) (hu:u<1000000000000000000):parseUint10 0 (decDigits u) = .ok u:=by
 induction u using Nat.strongRecOn with
 | _ u ih =>
  by_cases h:u<10
  ·rw[decDigits,dif_pos h]
   simp only[parseUint10,gP (48+u) (by omega)]
   rw[if_pos (by omega),if_neg (by omega),if_neg (by omega)]
   congr 1
   omega
  ·rw[decDigits,dif_neg h,uint_app _ _ _ _ (ih (u / 10) (by omega) (by omega))]
   simp only[parseUint10,gP (48+u % 10) (by omega)]
   rw[if_pos (by omega),if_neg (by omega),if_neg (by omega)]
   congr 1
   omega
theorem atoi_dec (u:Nat) (hu:u<1000000000000000000):ef (48::decDigits u)=(u:Int):=by
 have h1:parseMag (48::decDigits u) = .ok u:=by
  unfold parseMag
  rw[if_neg (by simp)]
  have:=uint_dec u hu
  simp only[parseUint10]
  exact this
 have h2:atoiAll (48::decDigits u) = .ok (u:Int):=by
  unfold atoiAll
  simp only
  have e:(if (48:UInt8).toNat=43∨(48:UInt8).toNat=45 then decDigits u else 48::decDigits u)=48::decDigits u:=if_neg (by decide)
  rw[e,h1]
  simp only
  rw[if_neg (by omega),if_neg (fun h=>absurd h.1 (by decide)),if_neg (by decide)]
 unfold ef
 rw[h2]
theorem trimL_z (n:Nat) (r:ah) (hr:∀b t,r=b::t→b≠48):bu (fP n++r) [48]=r:=by
 unfold bu
 rw[PV _ _ _ (fun x hx=>by have:=List.eq_of_mem_replicate hx; subst this; rfl)]
 exact RY _ _ fun b t hb=>by simp[hr b t hb]
theorem trimR_z (l:ah) (n:Nat) (b:UInt8) (hb:b≠48):cB (l ++ [b]++fP n) [48]=l ++ [b]:=by
 unfold cB
 rw[List.reverse_append,List.reverse_append]
 have e:(fP n).reverse=fP n:=List.reverse_replicate
 rw[e,PV _ _ _ (fun x hx=>by have:=List.eq_of_mem_replicate hx; subst this; rfl)]
 have:List.dropWhile (fun x=>([48]:ah).contains x) (([b]:ah).reverse++l.reverse) = [b]++l.reverse:=RY _ _ fun c t hc=>by
  have:b=c:=by
   have:=congrArg List.head? hc
   simpa using this
  subst this
  simp[hb]
 rw[this,List.reverse_append,List.reverse_reverse]
 rfl
theorem trims {u:Nat} (hu:u % 10≠0) (a b:Nat):bu (fP a++(decDigits u++fP b)) [48]=decDigits u++fP b∧cB (decDigits u++fP b) [48]=decDigits u:=by
 obtain ⟨x,t,e,hx⟩:=PT u (by omega)
 obtain ⟨l,hl⟩:=dec_last u
 constructor
 ·apply trimL_z
  intro c t' hc
  rw[e]at hc
  have:x=c:=by
   have:=congrArg List.head? hc
   simpa using this
  subst this
  rintro rfl
  exact hx rfl
 ·rw[hl]
  apply trimR_z
  intro h
  have:=congrArg UInt8.toNat h
  rw[gP _ (by omega)]at this
  have e48:(48:UInt8).toNat=48:=rfl
  omega
theorem U5 (d:fv) (hd:Fm d) (h0:d.ao≠0):∃(I F:ah) (pt:Bool) (a b:Nat),WN d=(if decide (d.ao<0)then [45]else [])++(I++(if pt then 46::F else [])) ∧
  I++F=fP a++(decDigits d.ao.natAbs++fP b)∧I ≠ []∧(1<I.length→(I.getD 0 0).toNat≠48)∧(pt=true→F ≠ [])∧(pt=false→F = [])∧(F.length:Int)=(b:Int) - d.exp∧I.length+F.length≤40∧(∀x∈I,nI x)∧(∀x∈F,nI x):=by
 have bd:=hd.bounds
 have wT:=dec_all d.ao.natAbs
 have hlen:(decDigits d.ao.natAbs).length≤16:=by rw[decDigits_length]; exact TM (by omega)
 have Nk:1≤(decDigits d.ao.natAbs).length:=by rw[decDigits_length]; exact nDigits_pos _
 obtain ⟨x0,t0,Y8,hx0⟩:=PT d.ao.natAbs (by omega)
 have hsg:(if d.ao<0 then ([45]:ah)else [])=if decide (d.ao<0)then [45]else []:=by by_cases h:d.ao<0 <;> simp[h]
 unfold WN
 rw[hsg]
 generalize decDigits d.ao.natAbs=L at *
 by_cases he:0≤d.exp
 ·refine ⟨L++fP d.exp.toNat, [],false,0,d.exp.toNat,?_,by simp[fP],?_,fun _ => ?_,by simp,by simp,by simp; omega,?_,?_,by simp⟩
  ·unfold body; rw[if_pos he]; simp
  ·rw[Y8]; simp
  ·rw[Y8]; exact hx0
  ·rw[List.length_append,oB,List.length_nil]; omega
  ·intro x hx
   rcases List.mem_append.1 hx with hx|hx
   ·exact wT x hx
   ·have:=List.eq_of_mem_replicate hx
    subst this; unfold nI; decide
 ·have hz:∃z:Nat,(max 0 (1 - d.exp - (L.length:Int))).toNat=z:=⟨_,rfl⟩
  obtain ⟨z,hz⟩:=hz
  have tl:(fP z++L).length=z+L.length:=by rw[List.length_append,oB]
  have hat:(((fP z++L).length:Int)+d.exp).toNat=(fP z++L).length - d.exp.natAbs:=by omega
  have h1:d.exp.natAbs+1≤(fP z++L).length:=by omega
  have tdig:∀x∈fP z++L,nI x:=by
   intro x hx
   rcases List.mem_append.1 hx with hx|hx
   ·have:=List.eq_of_mem_replicate hx
    subst this; unfold nI; decide
   ·exact wT x hx
  have tfirst:z=0→((fP z++L).getD 0 0).toNat≠48:=by
   rintro rfl
   rw[Y8]
   exact hx0
  refine ⟨(fP z++L).take ((fP z++L).length - d.exp.natAbs),(fP z++L).drop ((fP z++L).length - d.exp.natAbs),true,z,0,?_,?_,?_,?_,fun _ => ?_,(fun h=>by cases h),?_,?_,?_,?_⟩
  ·unfold body
   rw[if_neg he]
   simp only[hz,hat,if_true]
   simp
  ·rw[List.take_append_drop]; simp[fP]
  ·intro e
   have:=congrArg List.length e
   rw[List.length_take,List.length_nil]at this
   omega
  ·intro hI
   rw[List.length_take]at hI
   have e:((fP z++L).take ((fP z++L).length - d.exp.natAbs)).getD 0 0=(fP z++L).getD 0 0:=by
    have:=(OT (s:=(fP z++L).take ((fP z++L).length - d.exp.natAbs)) (t:=(fP z++L).drop ((fP z++L).length - d.exp.natAbs)) (i:=0) (by rw[List.length_take]; omega)).symm
    rw[List.take_append_drop]at this
    exact this
   rw[e]
   exact tfirst (by omega)
  ·intro e
   have:=congrArg List.length e
   rw[List.length_drop,List.length_nil]at this
   omega
  ·rw[List.length_drop]; omega
  ·rw[List.length_take,List.length_drop]; omega
  ·intro x hx; exact tdig x (List.mem_of_mem_take hx)
  ·intro x hx; exact tdig x (List.mem_of_mem_drop hx)
theorem parse_zero {R:Type} (k:fv→Bool→Option R):dR [48] k=k ⟨0,0⟩ true:=by kernel_rfl
theorem Y9:WN ⟨0,0⟩ = [48]:=by
 show []++body (decDigits 0) 0 = [48]
 rw[decDigits_one (by omega)]
 rfl
theorem parse_prt {R:Type} {d:fv} (hd:Fm d) (h0:d.ao≠0) (X:ah) (ev:Int) (hX:(X = []∧ev=0)∨∃b Y,X=b::Y∧(b=101∨b=69)∧∀f:Int→Bool→ah→Option R,bz Y f=f ev true [])
  (hev : -1000000≤ev∧ev≤1000000) (hXl:X.length≤100) (k:fv→Bool→Option R):dR (WN d++X) k=bk d.ao (d.exp+ev) k:=by
 have bd:=hd.bounds
 obtain ⟨I,F,pt,a,b,e1,e2,i0,i1,f0,f1,fl,il,iD,fD⟩:=U5 d hd h0
 obtain ⟨t1,t2⟩:=trims (u:=d.ao.natAbs) (tmod_abs (hd.nz h0)) a b
 have hlen:(decDigits d.ao.natAbs).length≤16:=by rw[decDigits_length]; exact TM (by omega)
 have key:=parse_ok (R:=R) (decide (d.ao<0)) I F X pt ev iD i0 i1 fD f0 f1 hX hev (by
  cases hd2:decide (d.ao<0) <;> cases pt <;> simp <;> omega) (by rw[e2,t1,t2]; omega) k
 have e3:WN d++X=(if decide (d.ao<0)then [45]else [])++(I++((if pt then 46::F else [])++X)):=by rw[e1]; simp only[List.append_assoc]
 rw[e3,key,e2,t1,t2,atoi_dec _ (by omega)]
 have e4:(if decide (d.ao<0)=true then IntKind.i64.wrap (0 - (d.ao.natAbs:Int))else (d.ao.natAbs:Int))=d.ao:=by
  by_cases h:d.ao<0
  ·rw[if_pos (by rw[aM h]),cA (by omega) (by omega)]; omega
  ·rw[if_neg (by rw[bJ h]; simp)]; omega
 have e5 : -(F.length:Int)+ev+(((decDigits d.ao.natAbs++fP b).length:Int) - ((decDigits d.ao.natAbs).length:Int))=d.exp+ev:=by
  rw[List.length_append,oB]
  omega
 rw[e4,e5]
theorem make_same {R:Type} {d:fv} (hd:Fm d) (h0:d.ao≠0) (k:fv→Bool→Option R):bk d.ao d.exp k=k d true:=by
 have bd:=hd.bounds
 obtain ⟨r,hr,hm⟩:=make_any (R:=R) d.ao d.exp (by unfold xF; omega) (by omega) (by omega)
 have e5:d.ao=d.ao*10 ^ 0:=by simp
 rw[e5]at hr
 rw[hm,made_same hd h0 (j:=0) (x:=d.exp) (by omega) hr]
theorem prt_len (d:fv) (hd:Fm d):(WN d).length≤40:=by
 obtain ⟨z,hz,z1,z2,_⟩:=body_ok d hd
 unfold WN
 rw[←hz,List.length_append]
 split <;> simp <;> omega
abbrev isD (b:UInt8):Bool:=digS.contains b
theorem isD_ok (b:UInt8):isD b=decide (48≤b.toNat∧b.toNat≤57):=digS_ok b
abbrev takeD (s:ah):ah:=s.takeWhile isD
abbrev Pt (s:ah):ah:=s.dropWhile isD
theorem HA (s:ah):∀x∈takeD s,nI x:=fun x hx=>by
 have h:=List.all_takeWhile (l:=s) (p:=isD)
 have:=List.all_eq_true.1 h x hx
 rw[isD_ok]at this
 exact of_decide_eq_true (p:=48≤x.toNat∧x.toNat≤57) this
theorem drop_dig (s:ah):∀b t,Pt s=b::t→¬nI b:=fun b t h hb=>by
 have h2:isD b=false:=by
  have:=List.head?_dropWhile_not isD s
  have e:s.dropWhile isD=b::t:=h
  rw[e]at this
  simpa using this
 rw[isD_ok,aM (p:=48≤b.toNat∧b.toNat≤57) hb]at h2
 cases h2
theorem take_le (s:ah):(takeD s).length≤s.length:=by
 have:=congrArg List.length (List.takeWhile_append_dropWhile (p:=isD) (l:=s))
 rw[List.length_append]at this
 unfold takeD
 omega
theorem dropD_le (s:ah):(Pt s).length≤s.length:=Bw _ _
theorem RZ {R:Type} (s:ah) (hl:s.length≤4000000000) (k:ah→ah→Option R):aR s k=k (takeD s) (Pt s):=by
 have e:takeD s++Pt s=s:=List.takeWhile_append_dropWhile
 have h:=U4 (R:=R) (takeD s) (Pt s) (HA s) (drop_dig s) (by rw[e]; exact hl) k
 rw[e]at h
 exact h
theorem TS (g s:ah):(ti g s).2.length≤s.length:=by
 unfold ti
 cases s with
 | nil=>simp
 | cons b t=>simp only; split <;> simp
def uO:ah→Nat→Nat
 | [],v=>v
 | b::s,v=>uO s (10*v+(b.toNat - 48))
theorem valD_app:∀(a b:ah) (v:Nat),uO (a++b) v=uO b (uO a v)
 | [],_,_=>rfl
 | x::a,b,v=>valD_app a b _
theorem valD_ge:∀(s:ah) (v:Nat),v*10 ^ s.length≤uO s v
 | [],v=>by simp[uO]
 | b::s,v=>by
  have:=valD_ge s (10*v+(b.toNat - 48))
  have h2:10*v*10 ^ s.length≤(10*v+(b.toNat - 48))*10 ^ s.length:=Nat.mul_le_mul_right _ (by omega)
  have e:v*10 ^ (b::s).length=10*v*10 ^ s.length:=by rw[List.length_cons,Nat.pow_succ,Nat.mul_comm 10,Nat.mul_assoc,Nat.mul_comm 10]
  simp only[uO]
  omega
theorem valD_self (s:ah) (v:Nat):v≤uO s v:=Nat.le_trans (Nat.le_mul_of_pos_right _ (Nat.pos_of_ne_zero (by simp))) (valD_ge s v)
theorem valD_lt:∀(s:ah) (v:Nat),(∀x∈s,nI x)→uO s v<(v+1)*10 ^ s.length
 | [],v,_=>by simp[uO]
 | b::s,v,h=>by
  have hb:=h b (by simp)
  unfold nI at hb
  have:=valD_lt s (10*v+(b.toNat - 48)) fun x hx=>h x (by simp[hx])
  have h2:(10*v+(b.toNat - 48)+1)*10 ^ s.length≤((v+1)*10)*10 ^ s.length:=Nat.mul_le_mul_right _ (by omega)
  have e:(v+1)*10 ^ (b::s).length=((v+1)*10)*10 ^ s.length:=by rw[List.length_cons,Nat.pow_succ,Nat.mul_assoc,Nat.mul_comm 10]
  simp only[uO]
  omega
theorem uint_dig:∀(D:ah) (acc:Nat),(∀x∈D,nI x) →
  (uO D acc<18446744073709551616→parseUint10 acc D = .ok (uO D acc))∧(acc<18446744073709551616→18446744073709551616≤uO D acc→parseUint10 acc D = .range)
 | [],acc,_=>⟨fun _=>rfl,fun h1 h2=>by simp only[uO]at h2; omega⟩
 | b::D,acc,h=>by
  have hb:=h b (by simp)
  unfold nI at hb
  obtain ⟨i1,i2⟩:=uint_dig D (10*acc+(b.toNat - 48)) fun x hx=>h x (by simp[hx])
  have hs:=valD_self D (10*acc+(b.toNat - 48))
  have e:acc*10+(b.toNat - 48)=10*acc+(b.toNat - 48):=by omega
  simp only[uO,parseUint10]
  rw[if_pos hb,e]
  refine ⟨fun h1 => ?_,fun h1 h2 => ?_⟩
  ·rw[if_neg (by omega),if_neg (by omega)]
   exact i1 h1
  ·by_cases g1:1844674407370955162≤acc
   ·rw[if_pos g1]
   ·rw[if_neg g1]
    by_cases g2:18446744073709551616≤10*acc+(b.toNat - 48)
    ·rw[if_pos g2]
    ·rw[if_neg g2]
     exact i2 (by omega) h2
theorem atoi_dig (D:ah) (hD:∀x∈D,nI x) (h0:D ≠ []) :
  (uO D 0<9223372036854775808→atoiAll D = .ok (uO D 0:Int))∧(9223372036854775808≤uO D 0→atoiAll D = .range):=by
 obtain ⟨i1,i2⟩:=uint_dig D 0 hD
 cases D with
 | nil=>exact (h0 rfl).elim
 | cons b D =>
  have hb:=hD b (by simp)
  unfold nI at hb
  have e:(if b.toNat=43∨b.toNat=45 then D else b::D)=b::D:=if_neg (by omega)
  have m:parseMag (b::D)=parseUint10 0 (b::D):=by unfold parseMag; rw[if_neg (by simp)]
  unfold atoiAll
  simp only
  rw[e,m]
  refine ⟨fun h => ?_,fun h => ?_⟩
  ·rw[i1 (by omega)]
   simp only
   rw[if_neg (by omega),if_neg (fun h2=>absurd h2.1 (by omega)),if_neg (by omega)]
  ·by_cases h2:uO (b::D) 0<18446744073709551616
   ·rw[i1 h2]
    simp only
    rw[if_pos ⟨by omega,h⟩]
   ·rw[i2 (by omega) (by omega)]
def Za (X:ah):Int×Bool×ah :=
 let q:=ti [43,45] X
 let v:Int:=min (uO (takeD q.2) 0:Int) 1000000
 (if q.1=45 then -v else v, !(takeD q.2 == []),Pt q.2)
theorem exp_any {R:Type} (X:ah) (hl:X.length≤4000000000) (k:Int→Bool→ah→Option R):bz X k=k (Za X).1 (Za X).2.1 (Za X).2.2:=by
 have e:bz X k=iS aV aR X k:=rfl
 rw[e]
 unfold iS
 have h1:=TS [43,45] X
 rw[Gp _ _ hl]
 unfold Za
 simp only
 generalize ti [43,45] X=q at *
 rw[RZ _ (by omega)]
 have h2:=take_le q.2
 have hD:=HA q.2
 generalize takeD q.2=D at *
 generalize Pt q.2=r at *
 have q45:((q.1:Int)==45)=decide (q.1=45):=eqI _ 45
 rw[aw (aM (by omega)),q45]
 by_cases h0:D = []
 ·subst h0
  have a1:v8 []=false:=rfl
  have a2:ef []=0:=rfl
  rw[a1,a2]
  simp only[cond_false,uO]
  by_cases hq:q.1=45
  ·rw[aM hq,if_pos hq]; rfl
  ·rw[bJ hq,if_neg hq]; rfl
 ·have jT:(D==([]:ah))=false:=by rw[beq_eq_false_iff_ne]; exact h0
  obtain ⟨i1,i2⟩:=atoi_dig D hD h0
  rw[jT]
  simp only[Bool.not_false,cond_true]
  by_cases hv:uO D 0<9223372036854775808
  ·have a1:v8 D=true:=by unfold v8; rw[i1 hv]
   have a2:ef D=(uO D 0:Int):=by unfold ef; rw[i1 hv]
   rw[a1,a2,cond_true]
   by_cases hb:(uO D 0:Int)>1000000
   ·rw[aM hb,cond_true,Int.min_eq_right (by omega)]
    by_cases hq:q.1=45
    ·rw[aM hq,if_pos hq]; rfl
    ·rw[bJ hq,if_neg hq]; rfl
   ·rw[bJ hb,cond_false,Int.min_eq_left (by omega),cA (by omega) (by omega)]
    by_cases hq:q.1=45
    ·rw[aM hq,if_pos hq,cond_true]; congr 1; omega
    ·rw[bJ hq,if_neg hq,cond_false]
  ·have a1:v8 D=false:=by unfold v8; rw[i2 (by omega)]
   rw[a1,cond_false,Int.min_eq_right (by omega)]
   by_cases hq:q.1=45
   ·rw[aM hq,if_pos hq]; rfl
   ·rw[bJ hq,if_neg hq]; rfl
theorem trimL_head (a:ah):∀b t,bu a [48]=b::t→b≠48:=fun b t h hb=>by
 have h2:=List.head?_dropWhile_not (([48]:ah).contains ·) a
 have e:a.dropWhile (([48]:ah).contains ·)=b::t:=h
 rw[e]at h2
 subst hb
 exact absurd (show (([48]:ah).contains 48)=false from h2) (by decide)
theorem trimL_sub (a:ah):∀x∈bu a [48],x∈a:=fun x hx=>(List.dropWhile_sublist _).subset hx
theorem trimR_cases (a:ah):cB a [48] = []∨∃l b,cB a [48]=l ++ [b]∧b≠48:=by
 unfold cB
 have h2:=List.head?_dropWhile_not (([48]:ah).contains ·) a.reverse
 cases h:a.reverse.dropWhile (([48]:ah).contains ·)with
 | nil=>exact .inl rfl
 | cons b t =>
  rw[h]at h2
  refine .inr ⟨t.reverse,b,by simp,fun hb => ?_⟩
  subst hb
  exact absurd (show (([48]:ah).contains 48)=false from h2) (by decide)
theorem trimR_pre (a:ah):∃n,a=cB a [48]++fP n:=by
 have h:=List.takeWhile_append_dropWhile (p:=(([48]:ah).contains ·)) (l:=a.reverse)
 have h2:=congrArg List.reverse h
 rw[List.reverse_append,List.reverse_reverse]at h2
 refine ⟨(a.reverse.takeWhile (([48]:ah).contains ·)).length,?_⟩
 have hz:(a.reverse.takeWhile (([48]:ah).contains ·)).reverse=fP (a.reverse.takeWhile (([48]:ah).contains ·)).length:=by
  unfold fP
  rw[List.eq_replicate_iff]
  refine ⟨List.length_reverse,fun x hx => ?_⟩
  have h3:=List.all_takeWhile (l:=a.reverse) (p:=(([48]:ah).contains ·))
  have:=List.all_eq_true.1 h3 x (List.mem_reverse.1 hx)
  simpa using this
 rw[←hz]
 exact h2.symm
def finD (neg:Bool) (all:ah) (x:Int):fv×Bool :=
 if cB (bu all [48]) [48] = []then (⟨0,0⟩,true)
 else VV (if neg then -(uO (cB (bu all [48]) [48]) 0:Int)else (uO (cB (bu all [48]) [48]) 0:Int)) (x+(((bu all [48]).length:Int) - ((cB (bu all [48]) [48]).length:Int)))
theorem make_min {R:Type} (m x:Int) (k:fv→Bool→Option R):bk m x k=bk m (min x 1000000) k:=by
 have e:∀x,bk m x k=kr ay bC m x k:=fun _=>rfl
 rw[e,e]
 unfold kr
 have:min (min x 1000000) 1000000=min x 1000000:=by omega
 rw[this]
theorem mkD_min (u x:Int):VV u (min x 1000000)=VV u x:=by
 unfold VV
 by_cases h:x≤1000000
 ·rw[Int.min_eq_left h]
 ·rw[if_neg (by omega),if_neg (by omega)]
theorem make_unit {R:Type} (u x:Int) (hu:Int.tmod u 10≠0) (hb:xF u) (hx : -9223372036854775808≤x) (k:fv→Bool→Option R):bk u x k=k (VV u x).1 (VV u x).2:=by
 rw[make_min,←mkD_min u x]
 have:=make_ok (R:=R) u 0 (min x 1000000) hu (by simpa using hb) (by omega) (by omega) k
 simpa using this
theorem VX (all:ah) (h:∀x∈all,nI x) (h0:cB (bu all [48]) [48] ≠ []) :
  (∀x∈cB (bu all [48]) [48],nI x)∧uO (cB (bu all [48]) [48]) 0 % 10≠0∧10 ^ ((cB (bu all [48]) [48]).length - 1)≤uO (cB (bu all [48]) [48]) 0:=by
 obtain ⟨n,hn⟩:=trimR_pre (bu all [48])
 have hd:∀x∈cB (bu all [48]) [48],nI x:=fun x hx=>h x (trimL_sub _ _ (by rw[hn]; simp[hx]))
 refine ⟨hd,?_,?_⟩
 ·rcases trimR_cases (bu all [48])with e|⟨l,b,e,hb⟩
  ·exact (h0 e).elim
  ·have hbd:=hd b (by rw[e]; simp)
   rw[e,valD_app]
   simp only[uO]
   unfold nI at hbd
   have:b.toNat≠48:=fun h=>hb (UInt8.toNat_inj.1 h)
   omega
 ·cases e:cB (bu all [48]) [48]with
  | nil=>exact (h0 e).elim
  | cons b t =>
   have hb:b≠48:=trimL_head all b (t++fP n) (by rw[hn,e]; rfl)
   have hbd:=hd b (by rw[e]; simp)
   unfold nI at hbd
   have h48:b.toNat≠48:=fun h=>hb (UInt8.toNat_inj.1 h)
   have:=valD_ge t (10*0+(b.toNat - 48))
   have h2:1*10 ^ t.length≤(10*0+(b.toNat - 48))*10 ^ t.length:=Nat.mul_le_mul_right _ (by omega)
   simp only[uO,List.length_cons,Nat.add_sub_cancel]
   omega
theorem mkD_far {u:Int} (x:Int) (h:1000000000000000<u.natAbs):VV u x=(⟨0,0⟩,false):=by
 unfold VV
 rw[if_neg (by omega)]
theorem fin_ok {R:Type} (y2:Int) (vP:ah) (z19:Int) (z20:ah) (h:∀x∈vP,nI x) (hl:vP.length≤1000) (hx : -2000000≤z19∧z19≤2000000) (k0:fv→Bool→Option R) :
  (cb (v7 ([48]:ah)&&decide (([48]:ah).length<4294967281)) (cb (v7 ([48]:ah)&&decide (([48]:ah).length<4294967281)) (bif (!(z20==([]:ah)))then (k0 (⟨0,0⟩:fv) false)else (bif (decide (((cB (bu vP ([48]:ah)) ([48]:ah)).length:Int)>(18:Int)))then (k0 (⟨0,0⟩:fv) false)else (cb (decide (1+(cB (bu vP ([48]:ah)) ([48]:ah)).length≤9223372036854775807)) (cb (decide ((([48]:ah)++(cB (bu vP ([48]:ah)) ([48]:ah))).length≤281474976710656)) (bif v8 (([48]:ah)++(cB (bu vP ([48]:ah)) ([48]:ah)))then (bif (y2 != 0)then (bk (IntKind.i64.wrap (0 - (ef (([48]:ah)++(cB (bu vP ([48]:ah)) ([48]:ah)))))) (IntKind.i64.wrap (z19+(IntKind.i64.wrap (((bu vP ([48]:ah)).length:Int) - ((cB (bu vP ([48]:ah)) ([48]:ah)).length:Int))))) (fun Qx SP=>k0 Qx SP))else (bk (ef (([48]:ah)++(cB (bu vP ([48]:ah)) ([48]:ah)))) (IntKind.i64.wrap (z19+(IntKind.i64.wrap (((bu vP ([48]:ah)).length:Int) - ((cB (bu vP ([48]:ah)) ([48]:ah)).length:Int))))) (fun Jh Qy=>k0 Jh Qy)))else (bif (y2 != 0)then (bk (IntKind.i64.wrap (0 - (ef (([48]:ah)++(cB (bu vP ([48]:ah)) ([48]:ah)))))) (IntKind.i64.wrap (z19+(IntKind.i64.wrap (((bu vP ([48]:ah)).length:Int) - ((cB (bu vP ([48]:ah)) ([48]:ah)).length:Int))))) (fun Qx SP=>k0 Qx SP))else (bk (ef (([48]:ah)++(cB (bu vP ([48]:ah)) ([48]:ah)))) (IntKind.i64.wrap (z19+(IntKind.i64.wrap (((bu vP ([48]:ah)).length:Int) - ((cB (bu vP ([48]:ah)) ([48]:ah)).length:Int))))) (fun Jh Qy=>k0 Jh Qy)))))))))) =
  if z20 = []then k0 (finD (y2 != 0) vP z19).1 (finD (y2 != 0) vP z19).2 else k0 ⟨0,0⟩ false:=by
 have q3:(v7 ([48]:ah)&&decide (([48]:ah).length<4294967281))=true:=rfl
 have htl:(bu vP [48]).length≤vP.length:=Bw _ _
 obtain ⟨n,hn⟩:=trimR_pre (bu vP [48])
 have htr:(bu vP [48]).length=(cB (bu vP [48]) [48]).length+n:=by have:=congrArg List.length hn; rw[List.length_append,oB]at this; exact this
 rw[q3,aw rfl,aw rfl]
 by_cases hz:z20 = []
 ·subst hz
  have hbe:((([]:ah)==([]:ah)))=true:=rfl
  rw[hbe,if_pos rfl]
  simp only[Bool.not_true,cond_false]
  have w0:IntKind.i64.wrap (((bu vP [48]).length:Int) - ((cB (bu vP [48]) [48]).length:Int))=((bu vP [48]).length:Int) - ((cB (bu vP [48]) [48]).length:Int):=cA (by omega) (by omega)
  have w1:IntKind.i64.wrap (z19+(((bu vP [48]).length:Int) - ((cB (bu vP [48]) [48]).length:Int)))=z19+(((bu vP [48]).length:Int) - ((cB (bu vP [48]) [48]).length:Int)):=cA (by omega) (by omega)
  rw[w0,w1,aw (aM (by omega)),aw (aM (by simp only[List.length_append,List.length_cons,List.length_nil]; omega)),Bool.cond_self]
  unfold finD
  have hc:(([48]:ah)++(cB (bu vP ([48]:ah)) ([48]:ah)))=48::cB (bu vP [48]) [48]:=rfl
  rw[hc]
  by_cases h0:cB (bu vP [48]) [48] = []
  ·rw[h0,if_pos rfl]
   have a0:ef (48::([]:ah))=0:=by decide +kernel
   have a1:decide (((([]:ah)).length:Int)>18)=false:=rfl
   have a2:IntKind.i64.wrap (0 - 0)=0:=by decide
   rw[a0,a1,cond_false,a2,U3,Bool.cond_self]
  ·rw[if_neg h0]
   obtain ⟨f1,f2,f3⟩:=VX vP h h0
   have hX : -3000000≤z19+(((bu vP [48]).length:Int) - ((cB (bu vP [48]) [48]).length:Int)):=by omega
   generalize cB (bu vP [48]) [48]=sh at *
   generalize (z19+(((bu vP [48]).length:Int) - (sh.length:Int)))=X at *
   have Nk:1≤sh.length:=by cases sh with|nil=>exact (h0 rfl).elim|cons _ _=>simp
   by_cases h18:sh.length≤18
   ·rw[bJ (show ¬(sh.length:Int)>18 by omega),cond_false]
    have kj:=valD_lt sh 0 f1
    have hp:(10:Nat) ^ sh.length≤10 ^ 18:=Nat.pow_le_pow_right (by omega) h18
    have e18:(10:Nat) ^ 18=1000000000000000000:=rfl
    have v48:uO (48::sh) 0=uO sh 0:=rfl
    have ha:ef (48::sh)=(uO sh 0:Int):=by
     obtain ⟨i1,_⟩:=atoi_dig (48::sh) (fun x hx=>by rcases List.mem_cons.1 hx with rfl|hx; (unfold nI; decide); exact f1 x hx) (by simp)
     unfold ef
     rw[i1 (by rw[v48]; omega),v48]
    rw[ha]
    have hm:Int.tmod (uO sh 0:Int) 10≠0:=by rw[Int.tmod_eq_emod_of_nonneg (by omega)]; omega
    cases hy:(y2 != 0)with
    | true =>
     rw[cond_true,if_pos rfl,cA (by omega) (by omega)]
     have e0:(0 - (uO sh 0:Int)) = -(uO sh 0:Int):=by omega
     rw[e0]
     exact make_unit _ _ (tmod_neg hm) (by unfold xF; omega) (by omega) _
    | false =>
     rw[cond_false,if_neg (by simp)]
     exact make_unit _ _ hm (by unfold xF; omega) (by omega) _
   ·rw[aM (show (sh.length:Int)>18 by omega),cond_true]
    have hp:(10:Nat) ^ 18≤10 ^ (sh.length - 1):=Nat.pow_le_pow_right (by omega) (by omega)
    have e18:(10:Nat) ^ 18=1000000000000000000:=rfl
    rw[mkD_far _ (by split <;> omega)]
 ·have hbe:(z20==([]:ah))=false:=by rw[beq_eq_false_iff_ne]; exact hz
  rw[hbe,if_neg hz]
  rfl
def noD:fv×Bool:=(⟨0,0⟩,false)
def tailD (neg:Bool) (all:ah) (x:Int) (X:ah):fv×Bool :=
 if (ti [101,69] X).1=0 then (if (ti [101,69] X).2 = []then finD neg all x else noD)
 else if (Za (ti [101,69] X).2).2.1=false then noD
 else if (Za (ti [101,69] X).2).2.2 = []then finD neg all (x+(Za (ti [101,69] X).2).1)else noD
def CE (s:ah):fv×Bool :=
 let q:=ti [45] s
 let I:=takeD q.2
 let r:=Pt q.2
 if 400<s.length then noD else if I = []then noD else if 1<I.length∧(I.getD 0 0).toNat=48 then noD
 else if (ti [46] r).1=0 then tailD (q.1 != 0) I 0 (ti [46] r).2
 else if takeD (ti [46] r).2 = []then noD
 else tailD (q.1 != 0) (I++takeD (ti [46] r).2) (-((takeD (ti [46] r).2).length:Int)) (Pt (ti [46] r).2)
theorem expP_lim (X:ah) : -1000000≤(Za X).1∧(Za X).1≤1000000:=by
 unfold Za
 simp only
 split <;> omega
theorem neN (n:Nat):(((n:Nat):Int) != 0)=(n != 0):=by
 cases n with
 | zero=>rfl
 | succ n=>rw[bne_iff_ne.2 (by omega),bne_iff_ne.2 (by omega)]
theorem tailD_ok {R:Type} (q:Nat) (all:ah) (x:Int) (X:ah) (ha:∀c∈all,nI c) (hl:all.length≤900) (h1 : -1000≤x) (h2:x≤0) (hX:X.length≤1000) (k:fv→Bool→Option R) :
  aV ([101,69]:ah) X (fun G1 Iy=>bif (G1 != 0)then (bz Iy (fun EN Sb Nr=>bif (!Sb)then (k (⟨0,0⟩:fv) false)else (cb (v7 ([48]:ah)&&decide (([48]:ah).length<4294967281)) (cb (v7 ([48]:ah)&&decide (([48]:ah).length<4294967281)) (bif (!(Nr==([]:ah)))then (k (⟨0,0⟩:fv) false)else (bif (decide (((cB (bu all ([48]:ah)) ([48]:ah)).length:Int)>(18:Int)))then (k (⟨0,0⟩:fv) false)else (cb (decide (1+(cB (bu all ([48]:ah)) ([48]:ah)).length≤9223372036854775807)) (cb (decide ((([48]:ah)++(cB (bu all ([48]:ah)) ([48]:ah))).length≤281474976710656)) (bif v8 (([48]:ah)++(cB (bu all ([48]:ah)) ([48]:ah)))then (bif ((q:Int) != 0)then (bk (IntKind.i64.wrap (0 - (ef (([48]:ah)++(cB (bu all ([48]:ah)) ([48]:ah)))))) (IntKind.i64.wrap ((IntKind.i64.wrap (x+EN))+(IntKind.i64.wrap (((bu all ([48]:ah)).length:Int) - ((cB (bu all ([48]:ah)) ([48]:ah)).length:Int))))) (fun Qx SP=>k Qx SP))else (bk (ef (([48]:ah)++(cB (bu all ([48]:ah)) ([48]:ah)))) (IntKind.i64.wrap ((IntKind.i64.wrap (x+EN))+(IntKind.i64.wrap (((bu all ([48]:ah)).length:Int) - ((cB (bu all ([48]:ah)) ([48]:ah)).length:Int))))) (fun Jh Qy=>k Jh Qy)))else (bif ((q:Int) != 0)then (bk (IntKind.i64.wrap (0 - (ef (([48]:ah)++(cB (bu all ([48]:ah)) ([48]:ah)))))) (IntKind.i64.wrap ((IntKind.i64.wrap (x+EN))+(IntKind.i64.wrap (((bu all ([48]:ah)).length:Int) - ((cB (bu all ([48]:ah)) ([48]:ah)).length:Int))))) (fun Qx SP=>k Qx SP))else (bk (ef (([48]:ah)++(cB (bu all ([48]:ah)) ([48]:ah)))) (IntKind.i64.wrap ((IntKind.i64.wrap (x+EN))+(IntKind.i64.wrap (((bu all ([48]:ah)).length:Int) - ((cB (bu all ([48]:ah)) ([48]:ah)).length:Int))))) (fun Jh Qy=>k Jh Qy))))))))))))else (cb (v7 ([48]:ah)&&decide (([48]:ah).length<4294967281)) (cb (v7 ([48]:ah)&&decide (([48]:ah).length<4294967281)) (bif (!(Iy==([]:ah)))then (k (⟨0,0⟩:fv) false)else (bif (decide (((cB (bu all ([48]:ah)) ([48]:ah)).length:Int)>(18:Int)))then (k (⟨0,0⟩:fv) false)else (cb (decide (1+(cB (bu all ([48]:ah)) ([48]:ah)).length≤9223372036854775807)) (cb (decide ((([48]:ah)++(cB (bu all ([48]:ah)) ([48]:ah))).length≤281474976710656)) (bif v8 (([48]:ah)++(cB (bu all ([48]:ah)) ([48]:ah)))then (bif ((q:Int) != 0)then (bk (IntKind.i64.wrap (0 - (ef (([48]:ah)++(cB (bu all ([48]:ah)) ([48]:ah)))))) (IntKind.i64.wrap (x+(IntKind.i64.wrap (((bu all ([48]:ah)).length:Int) - ((cB (bu all ([48]:ah)) ([48]:ah)).length:Int))))) (fun Qx SP=>k Qx SP))else (bk (ef (([48]:ah)++(cB (bu all ([48]:ah)) ([48]:ah)))) (IntKind.i64.wrap (x+(IntKind.i64.wrap (((bu all ([48]:ah)).length:Int) - ((cB (bu all ([48]:ah)) ([48]:ah)).length:Int))))) (fun Jh Qy=>k Jh Qy)))else (bif ((q:Int) != 0)then (bk (IntKind.i64.wrap (0 - (ef (([48]:ah)++(cB (bu all ([48]:ah)) ([48]:ah)))))) (IntKind.i64.wrap (x+(IntKind.i64.wrap (((bu all ([48]:ah)).length:Int) - ((cB (bu all ([48]:ah)) ([48]:ah)).length:Int))))) (fun Qx SP=>k Qx SP))else (bk (ef (([48]:ah)++(cB (bu all ([48]:ah)) ([48]:ah)))) (IntKind.i64.wrap (x+(IntKind.i64.wrap (((bu all ([48]:ah)).length:Int) - ((cB (bu all ([48]:ah)) ([48]:ah)).length:Int))))) (fun Jh Qy=>k Jh Qy)))))))))))=k (tailD (q != 0) all x X).1 (tailD (q != 0) all x X).2:=by
 rw[Gp _ _ (by omega)]
 unfold tailD
 have l5:=TS [101,69] X
 generalize ti [101,69] X=g at *
 rw[neN]
 by_cases hg:g.1=0
 ·rw[if_pos hg,hg]
  simp only[bne_self_eq_false,cond_false]
  rw[fin_ok _ _ _ _ ha (by omega) (by omega),neN]
  split <;> rfl
 ·rw[if_neg hg,bne_iff_ne.2 hg,cond_true,exp_any _ (by omega)]
  have hlim:=expP_lim g.2
  generalize Za g.2=z at *
  rw[cA (n:=x+z.1) (by omega) (by omega)]
  cases hz:z.2.1 with
  | false=>rfl
  | true =>
   rw[Bool.not_true,cond_false,fin_ok _ _ _ _ ha (by omega) (by omega),neN,if_neg (show ¬(true=false) by simp)]
   split <;> rfl
theorem parse_any {R:Type} (s:ah) (hs:s.length≤4000000000) (k:fv→Bool→Option R):dR s k=k (CE s).1 (CE s).2:=by
 have e:dR s k=pL bk aV aR bz s k:=rfl
 rw[e]
 unfold pL
 have l1:=TS [45] s
 rw[Gp _ _ hs]
 unfold CE
 simp only
 generalize ti [45] s=q at *
 rw[RZ _ (by omega)]
 have l2:=take_le q.2
 have l3:=dropD_le q.2
 have dI:=HA q.2
 generalize takeD q.2=I at *
 generalize Pt q.2=r at *
 by_cases h400:400<s.length
 ·rw[aM (show (s.length:Int)>400 by omega),cond_true,if_pos h400]
  rfl
 rw[bJ (show ¬(s.length:Int)>400 by omega),cond_false,if_neg h400]
 by_cases hI:I = []
 ·subst hI
  rw[if_pos rfl]
  rfl
 have jT:(I==([]:ah))=false:=by rw[beq_eq_false_iff_ne]; exact hI
 rw[jT,cond_false,if_neg hI]
 have Nk:1≤I.length:=by cases I with|nil=>exact (hI rfl).elim|cons _ _=>simp
 have q48:(((I.getD 0 0).toNat:Int)==48)=decide ((I.getD 0 0).toNat=48):=eqI _ 48
 rw[aw (aM (show (0:Int)<I.length by omega)),q48]
 by_cases h48:1<I.length∧(I.getD 0 0).toNat=48
 ·rw[if_pos h48,aM (show (I.length:Int)>1 by omega),aM h48.2]
  rfl
 rw[if_neg h48]
 have cut:∀x:Option R,(bif decide ((I.length:Int)>1)then (bif decide ((I.getD 0 0).toNat=48)then k ⟨0,0⟩ false else x)else x)=x:=fun x=>by
  by_cases h1:1<I.length
  ·rw[aM (show (I.length:Int)>1 by omega),bJ (fun h=>h48 ⟨h1,h⟩)]; rfl
  ·rw[bJ (show ¬(I.length:Int)>1 by omega)]; rfl
 rw[cut]
 rw[Gp _ _ (by omega)]
 have l4:=TS [46] r
 generalize ti [46] r=p at *
 rw[neN]
 by_cases hp:p.1=0
 ·rw[if_pos hp,hp]
  simp only[bne_self_eq_false,cond_false]
  exact tailD_ok q.1 I 0 p.2 dI (by omega) (by omega) (by omega) (by omega) k
 ·rw[if_neg hp,bne_iff_ne.2 hp,cond_true,RZ _ (by omega)]
  have l5:=take_le p.2
  have l6:=dropD_le p.2
  have dF:=HA p.2
  generalize takeD p.2=F at *
  generalize Pt p.2=Y at *
  by_cases hF:F = []
  ·subst hF
   rw[if_pos rfl]
   rfl
  have jT:(F==([]:ah))=false:=by rw[beq_eq_false_iff_ne]; exact hF
  rw[jT,cond_false,if_neg hF,aw (aM (by omega)),cA (n:=0 - (F.length:Int)) (by omega) (by omega)]
  have e0:(0:Int) - (F.length:Int) = -(F.length:Int):=by omega
  rw[e0]
  exact tailD_ok q.1 (I++F) (-(F.length:Int)) Y (fun c hc=>(List.mem_append.1 hc).elim (dI c) (dF c)) (by rw[List.length_append]; omega) (by omega) (by omega) (by omega) k
theorem longP_sfx {s r:ah} {c:Nat} (h:TP s=some (c,r)):r <:+ s:=by
 unfold TP at h
 split at h
 ·cases h
 ·rename_i v r1 hu
  obtain ⟨_,_,hr⟩:=Hz hu
  have s1:r1 <:+ s:=by rw[hr]; exact List.drop_suffix _ _
  split at h
  ·cases h; exact s1
  ·split at h
   ·cases h
   ·split at h
    ·split at h
     ·cases h
     ·rename_i w r2 hu2
      obtain ⟨_,_,hr2⟩:=Hz hu2
      split at h
      ·simp only[Option.some.injEq,Prod.mk.injEq]at h
       obtain ⟨_,rfl⟩:=h
       rw[hr2]
       exact ((List.drop_suffix _ _).trans (List.drop_suffix _ _)).trans s1
      ·cases h
    ·cases h
theorem escP_sfx {s r:ah} {c:Nat} (h:escP s=some (c,r)):r <:+ s:=by
 cases s with
 | nil=>cases h
 | cons b t =>
  have st:t <:+ b::t:=List.suffix_cons b t
  simp only[escP]at h
  split at h
  ·cases h; exact st
  split at h
  ·cases h; exact st
  split at h
  ·cases h; exact st
  split at h
  ·cases h; exact st
  split at h
  ·cases h; exact st
  split at h
  ·cases h; exact st
  split at h
  ·exact (longP_sfx h).trans st
  ·cases h
theorem plainP_sfx {s r:ah} {c:Nat} (h:MB s=some (c,r)):r <:+ s:=by
 unfold MB at h
 split at h
 ·cases h
 split at h
 ·cases h
 split at h
 ·cases h
 simp only[Option.some.injEq,Prod.mk.injEq]at h
 rw[←h.2]
 exact List.drop_suffix _ _
theorem stepU_sfx {s r:ah} {c:Nat} (h:TR s=some (c,r)):r <:+ s:=by
 unfold TR at h
 split at h
 ·exact (escP_sfx h).trans (List.drop_suffix _ _)
 ·exact plainP_sfx h
theorem uq_sfx:∀(n:Nat) (s o o' r:ah),uq n s o=some (o',r)→r <:+ s∧r.length<s.length∧∃rs:List Nat,(∀c∈rs,vr c)∧o'=o++fg rs
 | 0,_,_,_,_,h=>by cases h
 | n+1,s,o,o',r,h=>by
  simp only[uq]at h
  split at h
  ·rename_i Q7
   simp only[Option.some.injEq,Prod.mk.injEq]at h
   obtain ⟨rfl,rfl⟩:=h
   refine ⟨List.drop_suffix _ _,?_, [],by simp,by simp[fg]⟩
   cases s with
   | nil=>cases Q7
   | cons b t=>simp
  ·split at h
   ·cases h
   ·rename_i c r1 hs
    obtain ⟨h1,h2,rs,h3,h4⟩:=uq_sfx n r1 (o++enc c) o' r h
    obtain ⟨hv,hl⟩:=Y6 hs
    refine ⟨h1.trans (stepU_sfx hs),by omega,c::rs,fun x hx => ?_,?_⟩
    ·rcases List.mem_cons.1 hx with rfl|hx
     ·exact hv
     ·exact h3 x hx
    ·rw[h4]; simp[fg]
theorem uqS_sfx {s o r:ah} (h:uqS s=some (o,r)):r <:+ s∧r.length+1<s.length∧∃rs:List Nat,(∀c∈rs,vr c)∧o=fg rs:=by
 unfold uqS at h
 split at h
 ·rename_i Q7
  obtain ⟨h1,h2,rs,h3,h4⟩:=uq_sfx _ _ _ _ _ h
  refine ⟨h1.trans (List.drop_suffix _ _),?_,rs,h3,by simpa using h4⟩
  rw[List.length_drop]at h2
  omega
 ·cases h
theorem sfx_drop {s r:ah} (h:r <:+ s):r=s.drop (s.length - r.length):=by
 obtain ⟨t,rfl⟩:=h
 rw[List.length_append,Nat.add_sub_cancel,List.drop_left]
def numS:ah := [48,49,50,51,52,53,54,55,56,57,43,45,46,101,69]
def letS:ah := [97,98,99,100,101,102,103,104,105,106,107,108,109,110,111,112,113,114,115,116,117,118,119,120,121,122]
def blaS:ah := [32,9,10,13]
def sigS:ah := [123,125,91,93,44,58]
def EG (b:UInt8):Bool:=numS.contains b
def DL (b:UInt8):Bool:=letS.contains b
def tm (b:UInt8):Bool:=blaS.contains b
def R0 (b:UInt8):Bool:=sigS.contains b
def wP:ah := [116,114,117,101]
def lr:ah := [102,97,108,115,101]
def rP:ah := [110,117,108,108]
def tokS (s:ah):Option (Token×ah) :=
 match s with
 | []=>none
 | c::t =>
  if c.toNat=45∨(48≤c.toNat∧c.toNat≤57)then
   (if (CE (s.takeWhile EG)).2 then some (⟨3,s.takeWhile EG,(CE (s.takeWhile EG)).1,0⟩,s.dropWhile EG)else none)
  else if c.toNat=34 then (match uqS s with|some (o,r)=>some (⟨2,o,⟨0,0⟩,0⟩,r)|none=>none)
  else if R0 c then some (⟨1, [c],⟨0,0⟩,0⟩,t)
  else if s.takeWhile DL=wP∨s.takeWhile DL=lr∨s.takeWhile DL=rP then some (⟨4,s.takeWhile DL,⟨0,0⟩,0⟩,s.dropWhile DL)
  else none
theorem tw_nil {p:UInt8→Bool} {c:UInt8} {t:ah} (h:p c=true):((c::t).dropWhile p).length<(c::t:ah).length:=by
 rw[List.dropWhile_cons,if_pos h]
 have:=Bw p t
 simp only[List.length_cons]
 omega
theorem tokS_sfx {s r:ah} {t:Token} (h:tokS s=some (t,r)):r <:+ s∧r.length<s.length:=by
 cases s with
 | nil=>cases h
 | cons c u =>
  simp only[tokS]at h
  split at h
  ·rename_i hc
   split at h
   ·simp only[Option.some.injEq,Prod.mk.injEq]at h
    rw[←h.2]
    refine ⟨List.dropWhile_suffix _,tw_nil ?_⟩
    have all:∀n:Fin 256,(n.val=45∨(48≤n.val∧n.val≤57))→EG (UInt8.ofNat n.val)=true:=by decide +kernel
    have:=all ⟨c.toNat,UInt8.toNat_lt c⟩ hc
    simpa using this
   ·cases h
  ·split at h
   ·split at h
    ·rename_i o q hq
     simp only[Option.some.injEq,Prod.mk.injEq]at h
     obtain ⟨_,rfl⟩:=h
     obtain ⟨h1,h2,_⟩:=uqS_sfx hq
     exact ⟨h1,by omega⟩
    ·cases h
   ·split at h
    ·simp only[Option.some.injEq,Prod.mk.injEq]at h
     rw[←h.2]
     exact ⟨List.suffix_cons _ _,by simp⟩
    ·split at h
     ·rename_i hw
      simp only[Option.some.injEq,Prod.mk.injEq]at h
      rw[←h.2]
      refine ⟨List.dropWhile_suffix _,tw_nil ?_⟩
      cases hl:DL c with
      | true=>rfl
      | false =>
       have e:(c::u).takeWhile DL = []:=by rw[List.takeWhile_cons,hl]; rfl
       rw[e]at hw
       rcases hw with hw|hw|hw <;> cases hw
     ·cases h
def putT (t:Token) (n:Int):Token:=⟨t.kind,t.text,t.num,n⟩
def xM:Nat→Nat→ah→List Token→List Token×Int×Int
 | 0,_,_,_=>([],0,0)
 | n+1,p,s,out =>
  if s.dropWhile tm = []then (out ++ [⟨5, [],⟨0,0⟩,((p+(s.takeWhile tm).length:Nat):Int)⟩],0,0)
  else match tokS (s.dropWhile tm)with
   | none=>([],30,((p+(s.takeWhile tm).length:Nat):Int))
   | some (t,r)=>xM n (p+(s.length - r.length)) r (out ++ [putT t ((p+(s.takeWhile tm).length:Nat):Int)])
def rQ (s:ah):List Token×Int×Int:=if 20000<s.length then ([],30,0)else xM (s.length+1) 0 s []
theorem Zb:∀(n m p:Nat) (s:ah) (out:List Token),s.length<n→s.length<m→xM n p s out=xM m p s out
 | 0,_,_,_,_,h,_=>by omega
 | _,0,_,_,_,_,h=>by omega
 | n+1,m+1,p,s,out,h1,h2=>by
  simp only[xM]
  split
  ·rfl
  ·split
   ·rfl
   ·rename_i t r hr
    have h3:=(tokS_sfx hr).2
    have h4:=Bw tm s
    exact Zb n m _ r _ (by omega) (by omega)
abbrev qH:=ah×ah×Token
def uh:List qH→ah→ah
 | [],z=>z
 | x::l,z=>x.1++(x.2.1++uh l z)
def okW:List qH→ah→Prop
 | [],_=>True
 | x::l,z=>(∀b∈x.1,tm b=true)∧(∃c u,x.2.1=c::u∧tm c=false)∧tokS (x.2.1++uh l z)=some (x.2.2,uh l z)∧okW l z
def tokW:Nat→List qH→List Token
 | _, [] => []
 | p,x::l=>putT x.2.2 ((p+x.1.length:Nat):Int)::tokW (p+x.1.length+x.2.1.length) l
def Pv:List qH→Nat
 | []=>0
 | x::l=>x.1.length+x.2.1.length+Pv l
theorem Zc:∀(l:List qH) (z:ah),(uh l z).length=Pv l+z.length
 | [],z=>by simp[uh,Pv]
 | x::l,z=>by simp only[uh,Pv,List.length_append,Zc l z]; omega
theorem tw_gap:∀(g r:ah),(∀b∈g,tm b=true)→(∃c u,r=c::u∧tm c=false)∨r = []→(g++r).takeWhile tm=g∧(g++r).dropWhile tm=r
 | [],r,_,h=>by
  rcases h with ⟨c,u,rfl,hc⟩|rfl
  ·exact ⟨by rw[List.nil_append,List.takeWhile_cons,hc]; rfl,by rw[List.nil_append,List.dropWhile_cons,hc]; rfl⟩
  ·exact ⟨rfl,rfl⟩
 | b::g,r,hg,h=>by
  have hb:=hg b (by simp)
  obtain ⟨h1,h2⟩:=tw_gap g r (fun x hx=>hg x (by simp[hx])) h
  refine ⟨?_,?_⟩
  ·rw[List.cons_append,List.takeWhile_cons,hb,if_pos rfl,h1]
  ·rw[List.cons_append,List.dropWhile_cons,hb,if_pos rfl,h2]
theorem Zd:∀(l:List qH) (z:ah) (n p:Nat) (out:List Token),okW l z→l.length<n→xM n p (uh l z) out=xM (n - l.length) (p+Pv l) z (out++tokW p l)
 | [],z,n,p,out,_,_=>by simp[uh,Pv,tokW]
 | x::l,z,n,p,out,h,hn=>by
  obtain ⟨h1,⟨c,u,h2,h3⟩,h4,h5⟩:=h
  obtain ⟨n,rfl⟩:∃m,n=m+1:=⟨n - 1,by omega⟩
  simp only[List.length_cons]at hn
  obtain ⟨t1,t2⟩:=tw_gap x.1 (x.2.1++uh l z) h1 (.inl ⟨c,u++uh l z,by rw[h2]; rfl,h3⟩)
  have hlay:uh (x::l) z=x.1++(x.2.1++uh l z):=rfl
  have jT:¬(x.2.1++uh l z = []):=by rw[h2]; simp
  have hw:0<x.2.1.length:=by rw[h2]; simp
  simp only[xM]
  rw[hlay,t1,t2,if_neg jT,h4]
  simp only
  have e1:(x.1++(x.2.1++uh l z)).length - (uh l z).length=x.1.length+x.2.1.length:=by simp only[List.length_append]; omega
  rw[e1,Zd l z n _ _ h5 (by omega)]
  have e2:n+1 - (x::l).length=n - l.length:=by simp
  have e3:p+(x.1.length+x.2.1.length)+Pv l=p+Pv (x::l):=by simp only[Pv]; omega
  have e4:p+(x.1.length+x.2.1.length)=p+x.1.length+x.2.1.length:=by omega
  rw[e2,e3]
  simp only[tokW,List.append_assoc,List.singleton_append]
  rw[e4]
theorem scan_end {g:ah} (hg:∀b∈g,tm b=true) (n p:Nat) (out:List Token):xM (n+1) p g out=(out ++ [⟨5, [],⟨0,0⟩,((p+g.length:Nat):Int)⟩],0,0):=by
 obtain ⟨t1,t2⟩:=tw_gap g [] hg (.inr rfl)
 rw[List.append_nil]at t1 t2
 simp only[xM]
 rw[t1,t2,if_pos rfl]
theorem scanS_words (l:List qH) (g:ah) (hg:∀b∈g,tm b=true) (h:okW l g) (hl:Pv l+g.length≤20000):rQ (uh l g)=(tokW 0 l ++ [⟨5, [],⟨0,0⟩,((Pv l+g.length:Nat):Int)⟩],0,0):=by
 unfold rQ
 have hlen:=Zc l g
 rw[if_neg (by omega)]
 have hcount:l.length≤Pv l:=by
  clear hl hlen
  induction l with
  | nil=>simp[Pv]
  | cons x l ih =>
   obtain ⟨_,⟨c,u,h2,_⟩,_,h5⟩:=h
   have:=ih h5
   have hw:0<x.2.1.length:=by rw[h2]; simp
   simp only[Pv,List.length_cons]
   omega
 rw[Zd l g _ 0 [] h (by omega),hlen]
 obtain ⟨m,hm⟩:∃m,Pv l+g.length+1 - l.length=m+1:=⟨Pv l+g.length - l.length,by omega⟩
 rw[hm,scan_end hg]
 simp
def Q8 (r:ah):Prop:=r = []∨∃b u,r=b::u∧EG b=false∧DL b=false
def Word (w:ah) (t:Token):Prop:=(∃c u,w=c::u∧tm c=false)∧∀r,Q8 r→tokS (w++r)=some (t,r)
theorem tw_stop {p:UInt8→Bool}:∀(w r:ah),(∀b∈w,p b=true)→(r = []∨∃b u,r=b::u∧p b=false)→(w++r).takeWhile p=w∧(w++r).dropWhile p=r
 | [],r,_,h=>by
  rcases h with rfl|⟨b,u,rfl,hb⟩
  ·exact ⟨rfl,rfl⟩
  ·exact ⟨by rw[List.nil_append,List.takeWhile_cons,hb]; rfl,by rw[List.nil_append,List.dropWhile_cons,hb]; rfl⟩
 | b::w,r,hw,h=>by
  have hb:=hw b (by simp)
  obtain ⟨h1,h2⟩:=tw_stop w r (fun x hx=>hw x (by simp[hx])) h
  exact ⟨by rw[List.cons_append,List.takeWhile_cons,hb,if_pos rfl,h1],by rw[List.cons_append,List.dropWhile_cons,hb,if_pos rfl,h2]⟩
theorem stop_num {r:ah} (h:Q8 r):r = []∨∃b u,r=b::u∧EG b=false:=h.imp id fun ⟨b,u,e,h1,_⟩=>⟨b,u,e,h1⟩
theorem stop_let {r:ah} (h:Q8 r):r = []∨∃b u,r=b::u∧DL b=false:=h.imp id fun ⟨b,u,e,_,h1⟩=>⟨b,u,e,h1⟩
theorem word_sign (c:UInt8) (h:R0 c=true):Word [c] ⟨1, [c],⟨0,0⟩,0⟩:=by
 have all:∀n:Fin 256,R0 (UInt8.ofNat n.val)=true→tm (UInt8.ofNat n.val)=false∧¬(n.val=45∨(48≤n.val∧n.val≤57))∧¬n.val=34:=by decide +kernel
 obtain ⟨h1,h2,h3⟩:=all ⟨c.toNat,UInt8.toNat_lt c⟩ (by simpa using h)
 refine ⟨⟨c, [],rfl,by simpa using h1⟩,fun r _ => ?_⟩
 show tokS (c::r)=_
 simp only[tokS]
 rw[if_neg h2,if_neg h3,if_pos h]
theorem Gx {w:ah} (h:w=wP∨w=lr∨w=rP):Word w ⟨4,w,⟨0,0⟩,0⟩:=by
 have hl:∀b∈w,DL b=true:=by rcases h with rfl|rfl|rfl <;> decide
 have hc:∃c u,w=c::u∧tm c=false∧¬(c.toNat=45∨(48≤c.toNat∧c.toNat≤57))∧¬c.toNat=34∧R0 c=false:=by
  rcases h with rfl|rfl|rfl <;> exact ⟨_,_,rfl,by decide,by decide,by decide,by decide⟩
 obtain ⟨c,u,rfl,h1,h2,h3,h4⟩:=hc
 refine ⟨⟨c,u,rfl,h1⟩,fun r hr => ?_⟩
 obtain ⟨t1,t2⟩:=tw_stop (c::u) r hl (stop_let hr)
 show tokS (c::(u++r))=_
 have e:(c::(u++r):ah)=(c::u)++r:=rfl
 simp only[tokS]
 rw[if_neg h2,if_neg h3,h4,if_neg (by simp),e,t1,t2,if_pos h]
theorem word_text {rs:List Nat} (hr:∀c∈rs,vr c):Word (qt rs) ⟨2,fg rs,⟨0,0⟩,0⟩:=by
 have e:qt rs=34::(TQ rs ++ [34]):=by unfold qt; simp
 refine ⟨⟨34,_,e,by decide⟩,fun r _ => ?_⟩
 have hu:=uqS_qt rs hr r
 have e2:qt rs++r=34::(TQ rs ++ [34]++r):=by rw[e]; rfl
 rw[e2]at hu ⊢
 simp only[tokS]
 rw[if_neg (by decide),if_pos (by decide),hu]
theorem parseS_prt {d:fv} (hd:Fm d):CE (WN d)=(d,true):=by
 have key:∀k:fv→Bool→Option (fv×Bool),dR (WN d) k=k d true:=fun k=>by
  by_cases h0:d.ao=0
  ·rw[hd.zero h0,Y9,parse_zero]
  ·have:=parse_prt hd h0 [] 0 (.inl ⟨rfl,rfl⟩) (by omega) (by simp) k
   rw[List.append_nil,Int.add_zero,make_same hd h0]at this
   exact this
 have hl:(WN d).length≤4000000000:=by
  by_cases h0:d.ao=0
  ·rw[hd.zero h0,Y9]; simp
  ·obtain ⟨I,F,pt,a,b,e1,e2,i0,i1,f0,f1,fl,il,iD,fD⟩:=U5 d hd h0
   rw[e1]
   cases hdn:decide (d.ao<0) <;> cases pt <;> simp <;> omega
 have h1:=parse_any (WN d) hl (fun a b=>some (a,b))
 rw[key]at h1
 simp only[Option.some.injEq]at h1
 rw[h1]
theorem prt_chars {d:fv} (hd:Fm d):(∀b∈WN d,EG b=true)∧(∃c u,WN d=c::u∧(c.toNat=45∨(48≤c.toNat∧c.toNat≤57)))∧(WN d).length≤60:=by
 have dig:∀b:UInt8,nI b→EG b=true:=fun b hb=>by
  have all:∀n:Fin 256,(48≤n.val∧n.val≤57)→EG (UInt8.ofNat n.val)=true:=by decide +kernel
  have:=all ⟨b.toNat,UInt8.toNat_lt b⟩ hb
  simpa using this
 by_cases h0:d.ao=0
 ·rw[hd.zero h0,Y9]
  exact ⟨by decide,⟨48, [],rfl,by decide⟩,by simp⟩
 ·obtain ⟨I,F,pt,a,b,e1,e2,i0,i1,f0,f1,fl,il,iD,fD⟩:=U5 d hd h0
  rw[e1]
  refine ⟨fun x hx => ?_,?_,?_⟩
  ·rcases List.mem_append.1 hx with hx|hx
   ·split at hx
    ·simp at hx; subst hx; decide
    ·simp at hx
   ·rcases List.mem_append.1 hx with hx|hx
    ·exact dig x (iD x hx)
    ·split at hx
     ·rcases List.mem_cons.1 hx with rfl|hx
      ·decide
      ·exact dig x (fD x hx)
     ·simp at hx
  ·cases I with
   | nil=>exact (i0 rfl).elim
   | cons c I =>
    cases decide (d.ao<0)with
    | true=>exact ⟨45,_,rfl,by decide⟩
    | false=>exact ⟨c,_,rfl, .inr (iD c (by simp))⟩
  ·cases hdn:decide (d.ao<0) <;> cases pt <;> simp <;> omega
theorem word_num {d:fv} (hd:Fm d):Word (WN d) ⟨3,WN d,d,0⟩:=by
 obtain ⟨h1,⟨c,u,h2,h3⟩,_⟩:=prt_chars hd
 have hp:=parseS_prt hd
 have hb:tm c=false:=by
  have all:∀n:Fin 256,(n.val=45∨(48≤n.val∧n.val≤57))→tm (UInt8.ofNat n.val)=false:=by decide +kernel
  have:=all ⟨c.toNat,UInt8.toNat_lt c⟩ h3
  simpa using this
 refine ⟨⟨c,u,h2,hb⟩,fun r hr => ?_⟩
 obtain ⟨t1,t2⟩:=tw_stop (WN d) r h1 (stop_num hr)
 have e:WN d++r=c::(u++r):=by rw[h2]; rfl
 rw[e]at t1 t2 ⊢
 simp only[tokS]
 rw[if_pos h3,t1,t2,hp]
 rfl
def sg (c:UInt8):qH:=([], [c],⟨1, [c],⟨0,0⟩,0⟩)
theorem EH:∀(a b:List qH) (z:ah),uh (a++b) z=uh a (uh b z)
 | [],_,_=>rfl
 | x::a,b,z=>by simp only[List.cons_append,uh,EH a b z]
theorem CF:∀(a b:List qH) (z:ah),okW (a++b) z↔okW a (uh b z)∧okW b z
 | [],b,z=>by simp[okW]
 | x::a,b,z=>by simp only[List.cons_append,okW,CF a b z,EH,and_assoc]
theorem EI {w:ah} {t:Token} (h:Word w t) {z:ah} (hz:Q8 z):okW [([],w,t)] z:=⟨by simp,h.1,h.2 z hz,trivial⟩
theorem EJ {c:UInt8} (h:R0 c=true) (z:ah):okW [sg c] z:=by
 refine ⟨by simp[sg],(word_sign c h).1,?_,trivial⟩
 have all:∀n:Fin 256,R0 (UInt8.ofNat n.val)=true→¬(n.val=45∨(48≤n.val∧n.val≤57))∧¬n.val=34:=by decide +kernel
 obtain ⟨h2,h3⟩:=all ⟨c.toNat,UInt8.toNat_lt c⟩ (by simpa using h)
 show tokS (c::z)=some (⟨1, [c],⟨0,0⟩,0⟩,z)
 simp only[tokS]
 rw[if_neg h2,if_neg h3,if_pos h]
theorem PW {c:UInt8} (h:R0 c=true) (z:ah):Q8 (c::z):=by
 have all:∀n:Fin 256,R0 (UInt8.ofNat n.val)=true→EG (UInt8.ofNat n.val)=false∧DL (UInt8.ofNat n.val)=false:=by decide +kernel
 obtain ⟨h2,h3⟩:=all ⟨c.toNat,UInt8.toNat_lt c⟩ (by simpa using h)
 exact .inr ⟨c,z,rfl,by simpa using h2,by simpa using h3⟩
theorem refMake_end {R:Type} (u x:Int) (k:fv→Bool→Option R) :
  (bif (decide (u>(1000000000000000:Int)))then (k (⟨0,0⟩:fv) false)else (bif (decide (u<(-1000000000000000:Int)))then (k (⟨0,0⟩:fv) false)else (bif (decide (x>(9:Int)))then (k (⟨0,0⟩:fv) false)else (bif (decide (x<(-9:Int)))then (k (⟨0,0⟩:fv) false)else (k (⟨u,x⟩:fv) true)))))=k (VV u x).1 (VV u x).2:=by
 unfold VV
 by_cases h1:u>1000000000000000
 ·rw[aM h1,if_neg (by omega)]; rfl
 ·rw[bJ h1,cond_false]
  by_cases h2:u < -1000000000000000
  ·rw[aM h2,if_neg (by omega)]; rfl
  ·rw[bJ h2,cond_false]
   by_cases h3:x>9
   ·rw[aM h3,if_neg (by omega)]; rfl
   ·rw[bJ h3,cond_false]
    by_cases h4:x < -9
    ·rw[aM h4,if_neg (by omega)]; rfl
    ·rw[bJ h4,cond_false,if_pos (by omega)]
theorem refMake_loop {R:Type} (k:fv→Bool→Option R):∀(j n:Nat) (u x:Int) (d:fv),j<n→Int.tmod u 10≠0→xF (u*10 ^ j)→xF x →
  cn n (u*10 ^ j) x d (fun y6 y7 y8=>bif (decide (y6>(1000000000000000:Int)))then (k (⟨0,0⟩:fv) false)else (bif (decide (y6<(-1000000000000000:Int)))then (k (⟨0,0⟩:fv) false)else (bif (decide (y7>(9:Int)))then (k (⟨0,0⟩:fv) false)else (bif (decide (y7<(-9:Int)))then (k (⟨0,0⟩:fv) false)else (k (⟨y6,y7⟩:fv) true))))) (fun y9 um vQ yK=>k yK vQ)=k (VV u (x+j)).1 (VV u (x+j)).2:=by
 intro j
 induction j with
 | zero =>
  intro n u x d hn hu hb hx
  obtain ⟨m,rfl⟩:∃m,n=m+1:=⟨n - 1,by omega⟩
  rw[cn]
  unfold jW
  have e1:u*10 ^ 0=u:=by simp
  have e2:(Int.tmod u 10==0)=false:=by rw[beq_eq_false_iff_ne]; exact hu
  have e3:x+((0:Nat):Int)=x:=by omega
  rw[e1,e2,cond_false,e3]
  exact refMake_end u x k
 | succ j ih =>
  intro n u x d hn hu hb hx
  obtain ⟨m,rfl⟩:∃m,n=m+1:=⟨n - 1,by omega⟩
  rw[cn]
  unfold jW
  have ep:u*10 ^ (j+1)=u*10 ^ j*10:=by rw[Int.pow_succ,Int.mul_assoc]
  unfold xF at hb hx
  rw[ep]at hb ⊢
  have e1:(Int.tmod (u*10 ^ j*10) 10==0)=true:=by rw[Int.mul_tmod_left]; rfl
  have e2:Int.tdiv (u*10 ^ j*10) 10=u*10 ^ j:=Int.mul_tdiv_cancel _ (by omega)
  rw[e1,cond_true,e2,cA (n:=u*10 ^ j) (by omega) (by omega)]
  by_cases hx2:x>1099511627776
  ·rw[aM hx2,cond_true]
   unfold VV
   rw[if_neg (by omega)]
  ·rw[bJ hx2,cond_false,cA (n:=x+1) (by omega) (by omega)]
   refine (ih m u (x+1) d (by omega) hu (by unfold xF; omega) (by unfold xF; omega)).trans ?_
   have:x+1+(j:Int)=x+((j+1:Nat):Int):=by omega
   rw[this]
theorem refMake_ok {R:Type} (u:Int) (j:Nat) (x:Int) (hu:Int.tmod u 10≠0) (hb:xF (u*10 ^ j)) (hx:xF x) (k:fv→Bool→Option R):tY (u*10 ^ j) x k=k (VV u (x+j)).1 (VV u (x+j)).2:=by
 have e:tY (u*10 ^ j) x k=tX cn (u*10 ^ j) x k:=rfl
 rw[e]
 unfold tX
 have hu0:u≠0:=by rintro rfl; exact hu rfl
 have ha:=RV u j
 have h64:=Y3 hu0 hb
 have h0:(u*10 ^ j==0)=false:=by rw[beq_eq_false_iff_ne]; omega
 rw[h0,cond_false]
 exact refMake_loop k j _ u x _ (by omega) hu hb hx
theorem refMake_zero {R:Type} (x:Int) (k:fv→Bool→Option R):tY 0 x k=k ⟨0,0⟩ true:=by
 have e:tY 0 x k=tX cn 0 x k:=rfl
 rw[e]
 rfl
section
variable {R:Type} (k:fv→Bool→Option R) (s:ah) (hs:s.length≤4000000000) (sg:Int) (hsg:sg=1∨sg = -1) (all:ah) (x:Int) (ha:∀c∈all,nI c) (h0:all ≠ []) (hl:all.length≤900) (hx : -1000≤x∧x≤0)
include hs hsg ha h0 hl hx
end
def fmB (d:fv):Bool:=(d.ao==0&&d.exp==0)||(Int.tmod d.ao 10 != 0&&(decide (-1000000000000000≤d.ao)&&decide (d.ao≤1000000000000000)&&(decide (-9≤d.exp)&&decide (d.exp≤9))))
theorem I1 {d:fv}:fmB d=true↔Fm d:=by
 unfold fmB Fm
 simp[and_assoc]
theorem right_any {R:Type} (d:fv) (k:Bool→Option R):bL d k=k (fmB d):=by
 have e:bL d k=jE ay d k:=rfl
 rw[e]
 unfold jE fmB
 by_cases h0:d.ao=0
 ·rw[h0]
  have t0:((0:Int)==0)=true:=rfl
  have t1:(Int.tmod 0 10 != 0)=false:=rfl
  rw[t0,t1,cond_true,Bool.true_and,Bool.false_and,Bool.or_false]
 ·have e0:(d.ao==0)=false:=by rw[beq_eq_false_iff_ne]; exact h0
  rw[e0,cond_false,Bool.false_and,Bool.false_or]
  cases ht:(Int.tmod d.ao 10 != 0)with
  | false=>rfl
  | true =>
   rw[cond_true,Bool.true_and,KN]
   cases (decide (-1000000000000000≤d.ao)&&decide (d.ao≤1000000000000000))with
   | false=>rfl
   | true=>rw[cond_true,KN,Bool.true_and]
theorem print_bad {R:Type} {d:fv} (hd:fmB d=false) (k:ah→Option R):bM d k=k []:=by
 have e:bM d k=pK bL aj ae ai d k:=rfl
 rw[e]
 unfold pK
 rw[right_any,hd]
 rfl
def AI (d:fv):ah:=if fmB d then WN d else []
theorem print_any {R:Type} (d:fv) (k:ah→Option R):bM d k=k (AI d):=by
 unfold AI
 cases h:fmB d with
 | true=>rw[print_ok (I1.1 h)]; rfl
 | false=>rw[print_bad h]; rfl
def vM:List ah→List ah→Bool
 | _, []=>true
 | seen,n::l => !seen.contains n&&fW n&&vM (n::seen) l
mutual
def dO:Json→Int→Bool
 | ⟨k,n,t,ns,is⟩,d=>decide (d≤16)&&(decide (1≤k)&&decide (k≤7))&&(k==4||(n.ao==0&&n.exp==0))&&(k==5||t.isEmpty)&&(k==7||ns.isEmpty)&&(k==6||k==7||is.isEmpty) &&
   (if k=4 then fmB n else if k=5 then fW t else if k=7 then decide (ns.length=is.length)&&vM [] ns&&dQ is (d+1)else dQ is (d+1))
def dQ:List Json→Int→Bool
 | [],_=>true
 | x::l,d=>dO x d&&dQ l d
end
theorem R1 {d:Int}:∀ {l:List Json} {x:Json},dQ l d=true→x∈l→dO x d=true
 | y::l,x,h,hx=>by
  simp only[dQ,Bool.and_eq_true]at h
  rcases List.mem_cons.1 hx with rfl|hx
  ·exact h.1
  ·exact R1 h.2 hx
inductive U6:Json→Int→Prop where
 | name (k:Int) (d:Int) (hd:d≤16) (hk:k=1∨k=2∨k=3):U6 ⟨k,⟨0,0⟩, [], [], []⟩ d
 | num (n:fv) (d:Int) (hd:d≤16) (hn:Fm n):U6 ⟨4,n, [], [], []⟩ d
 | text (t:ah) (d:Int) (hd:d≤16) (ht:fW t=true):U6 ⟨5,⟨0,0⟩,t, [], []⟩ d
 | arr (is:List Json) (d:Int) (hd:d≤16) (hi:dQ is (d+1)=true):U6 ⟨6,⟨0,0⟩, [], [],is⟩ d
 | obj (ns:List ah) (is:List Json) (d:Int) (hd:d≤16) (hl:ns.length=is.length) (hu:vM [] ns=true) (hi:dQ is (d+1)=true):U6 ⟨7,⟨0,0⟩, [],ns,is⟩ d
theorem eW {v:Json} {d:Int}:dO v d=true↔U6 v d:=by
 obtain ⟨k,⟨m,e⟩,t,ns,is⟩:=v
 constructor
 ·intro h
  simp only[dO,Bool.and_eq_true,Bool.or_eq_true,decide_eq_true_eq,beq_iff_eq,List.isEmpty_iff]at h
  obtain ⟨⟨⟨⟨⟨⟨hd,hk1,PF⟩,hn⟩,ht⟩,Rp⟩,Xd⟩,hx⟩:=h
  have hk:k=1∨k=2∨k=3∨k=4∨k=5∨k=6∨k=7:=by omega
  rcases hk with rfl|rfl|rfl|rfl|rfl|rfl|rfl
  ·simp at hn ht Rp Xd
   obtain ⟨rfl,rfl⟩:=hn
   subst ht Rp Xd
   exact .name 1 d hd (by omega)
  ·simp at hn ht Rp Xd
   obtain ⟨rfl,rfl⟩:=hn
   subst ht Rp Xd
   exact .name 2 d hd (by omega)
  ·simp at hn ht Rp Xd
   obtain ⟨rfl,rfl⟩:=hn
   subst ht Rp Xd
   exact .name 3 d hd (by omega)
  ·simp at ht Rp Xd hx
   subst ht Rp Xd
   exact .num _ d hd (I1.1 hx)
  ·simp at hn Rp Xd hx
   obtain ⟨rfl,rfl⟩:=hn
   subst Rp Xd
   exact .text t d hd hx
  ·simp at hn ht Rp hx
   obtain ⟨rfl,rfl⟩:=hn
   subst ht Rp
   exact .arr is d hd hx
  ·simp at hn ht hx
   obtain ⟨rfl,rfl⟩:=hn
   subst ht
   exact .obj ns is d hd hx.1.1 hx.1.2 hx.2
 ·intro h
  cases h with
  | name _ _ hd hk=>rcases hk with rfl|rfl|rfl <;> simp[dO,dQ,hd]
  | num _ _ hd hn=>simp[dO,hd,I1.2 hn]
  | text _ _ hd ht=>simp[dO,hd,ht]
  | arr _ _ hd hi=>simp[dO,hd,hi]
  | obj _ _ _ hd hl hu hi=>simp[dO,hd,hl,hu,hi]
def Pw (t:ah):ah:=34::(t.flatMap qb ++ [34])
theorem Xe {rs:List Nat} (hr:∀c∈rs,vr c):Pw (fg rs)=qt rs:=by unfold Pw qt; rw[qb_encL rs hr]
mutual
def cF:Json→ah
 | ⟨k,n,t,ns,is⟩=>if k=1 then rP else if k=2 then lr else if k=3 then wP else if k=4 then AI n else if k=5 then Pw t else if k=7 then 123::(jb ns is true ++ [125])else 91::(jc is true ++ [93])
def jc:List Json→Bool→ah
 | [],_ => []
 | x::l,first=>(if first then []else [44])++(cF x++jc l false)
def jb:List ah→List Json→Bool→ah
 | _, [],_ => []
 | ns,x::l,first=>(if first then []else [44])++(Pw (ns.headD [])++(58::(cF x++jb ns.tail l false)))
end
def txW (t:ah):qH:=([],Pw t,⟨2,t,⟨0,0⟩,0⟩)
mutual
def ui:Json→List qH
 | ⟨k,n,t,ns,is⟩=>if k=1 then [([],rP,⟨4,rP,⟨0,0⟩,0⟩)]else if k=2 then [([],lr,⟨4,lr,⟨0,0⟩,0⟩)]else if k=3 then [([],wP,⟨4,wP,⟨0,0⟩,0⟩)]
   else if k=4 then [([],AI n,⟨3,AI n,n,0⟩)]else if k=5 then [txW t]else if k=7 then sg 123::(nr ns is true ++ [sg 125])else sg 91::(rq is true ++ [sg 93])
def rq:List Json→Bool→List qH
 | [],_ => []
 | x::l,first=>(if first then []else [sg 44])++(ui x++rq l false)
def nr:List ah→List Json→Bool→List qH
 | _, [],_ => []
 | ns,x::l,first=>(if first then []else [sg 44])++(txW (ns.headD [])::sg 58::(ui x++nr ns.tail l false))
end
mutual
theorem PX:∀(v:Json) (z:ah),uh (ui v) z=cF v++z
 | ⟨k,n,t,ns,is⟩,z=>by
  have hL:=Ze is true
  have hO:=Zf ns is true
  simp only[ui,cF]
  split
  ·simp[uh]
  split
  ·simp[uh]
  split
  ·simp[uh]
  split
  ·simp[uh]
  split
  ·simp[uh,txW]
  split
  ·simp only[uh,sg,EH,hO]; simp[uh,sg]
  ·simp only[uh,sg,EH,hL]; simp[uh,sg]
theorem Ze:∀(l:List Json) (first:Bool) (z:ah),uh (rq l first) z=jc l first++z
 | [],_,z=>rfl
 | x::l,first,z=>by
  have h1:=PX x
  have h2:=Ze l false
  simp only[rq,jc]
  rw[EH,EH,h1,h2]
  cases first <;> simp[uh,sg]
theorem Zf:∀(ns:List ah) (l:List Json) (first:Bool) (z:ah),uh (nr ns l first) z=jb ns l first++z
 | ns, [],_,z=>by simp[nr,jb,uh]
 | ns,x::l,first,z=>by
  have h1:=PX x
  have h2:=Zf ns.tail l false
  simp only[nr,jb]
  rw[EH]
  simp only[uh,txW,sg,EH,h1,h2]
  cases first <;> simp[uh,sg]
end
theorem Zg {t:ah} (ht:fW t=true) (z:ah):okW [txW t] z:=by
 obtain ⟨rs,hr,rfl⟩:=Kt.1 ht
 have e:=Xe hr
 have hw:=word_text hr
 refine ⟨by simp[txW],by simp only[txW,e]; exact hw.1,?_,trivial⟩
 show tokS (Pw (fg rs)++z)=some (⟨2,fg rs,⟨0,0⟩,0⟩,z)
 have e2:qt rs=34::(TQ rs ++ [34]):=by unfold qt; simp
 have hu:=uqS_qt rs hr z
 have e3:qt rs++z=34::(TQ rs ++ [34]++z):=by rw[e2]; rfl
 rw[e,e3]
 rw[e3]at hu
 simp only[tokS]
 rw[if_neg (by decide),if_pos (by decide),hu]
mutual
theorem TU:∀(v:Json) (d:Int),dO v d=true→∀z,Q8 z→okW (ui v) z
 | ⟨k,n,t,ns,is⟩,d,h,z,hz=>by
  have hL:=words_okL is
  have hO:=words_okO ns is
  cases eW.1 h with
  | name _ _ hd hk =>
   rcases hk with rfl|rfl|rfl
   ·exact EI (Gx (.inr (.inr rfl))) hz
   ·exact EI (Gx (.inr (.inl rfl))) hz
   ·exact EI (Gx (.inl rfl)) hz
  | num _ _ hd hn =>
   have e:AI n=WN n:=by unfold AI; rw[I1.2 hn]; rfl
   show okW [([],AI n,⟨3,AI n,n,0⟩)] z
   rw[e]
   exact EI (word_num hn) hz
  | text _ _ hd ht=>exact Zg ht z
  | arr _ _ hd hi =>
   show okW ([sg 91]++(rq is true ++ [sg 93])) z
   rw[CF,CF]
   exact ⟨EJ (by decide) _,hL true (d+1) hi _ (PW (by decide) _),EJ (by decide) _⟩
  | obj _ _ _ hd hl hu hi =>
   show okW ([sg 123]++(nr ns is true ++ [sg 125])) z
   rw[CF,CF]
   exact ⟨EJ (by decide) _,hO true (d+1) hi hl [] hu _ (PW (by decide) _),EJ (by decide) _⟩
theorem words_okL:∀(l:List Json) (first:Bool) (d:Int),dQ l d=true→∀z,Q8 z→okW (rq l first) z
 | [],_,_,_,_,_=>trivial
 | x::l,first,d,h,z,hz=>by
  simp only[dQ,Bool.and_eq_true]at h
  have h1:=TU x d h.1
  have h2:=words_okL l false d h.2 z hz
  simp only[rq]
  rw[CF,CF]
  refine ⟨?_,h1 _ ?_,h2⟩
  ·cases first
   ·exact EJ (by decide) _
   ·trivial
  ·cases l with
   | nil=>exact hz
   | cons y l =>
    simp only[rq]
    exact PW (c:=44) (by decide) _
theorem words_okO:∀(ns:List ah) (l:List Json) (first:Bool) (d:Int),dQ l d=true→ns.length=l.length→∀seen,vM seen ns=true→∀z,Q8 z→okW (nr ns l first) z
 | ns, [],_,_,_,_,_,_,_,_=>by simp[nr,okW]
 | [],_::_,_,_,_,hl,_,_,_,_=>by simp at hl
 | n::ns,x::l,first,d,h,hl,seen,hu,z,hz=>by
  simp only[dQ,Bool.and_eq_true]at h
  simp only[vM,Bool.and_eq_true]at hu
  have h1:=TU x d h.1
  have h2:=words_okO ns l false d h.2 (by simpa using hl) _ hu.2 z hz
  simp only[nr,List.headD_cons,List.tail_cons]
  show okW ((if first=true then []else [sg 44])++([txW n]++([sg 58]++(ui x++nr ns l false)))) z
  rw[CF,CF,CF,CF]
  refine ⟨?_,Zg hu.1.2 _,EJ (by decide) _,h1 _ ?_,h2⟩
  ·cases first
   ·exact EJ (by decide) _
   ·trivial
  ·cases l with
   | nil=>simp only[nr,uh]; exact hz
   | cons y l =>
    simp only[nr]
    exact PW (c:=44) (by decide) _
end
mutual
def Px:Json→Bool
 | ⟨_,_,t,ns,is⟩=>decide (ns.length≤1099511627776)&&decide (is.length≤1099511627776)&&Py is&&(decide (t.length≤10000000000)&&ns.all fun n=>decide (n.length≤10000000000))
def Py:List Json→Bool
 | []=>true
 | x::l=>Px x&&Py l
end
theorem TV:∀ {l:List Json} {x:Json},Py l=true→x∈l→Px x=true
 | y::l,x,h,hx=>by
  simp only[Py,Bool.and_eq_true]at h
  rcases List.mem_cons.1 hx with rfl|hx
  ·exact h.1
  ·exact TV h.2 hx
theorem EK {v:Json}:Px v=true↔v.names.length≤1099511627776∧v.items.length≤1099511627776∧Py v.items=true∧v.text.length≤10000000000∧∀n∈v.names,n.length≤10000000000:=by
 obtain ⟨k,n,t,ns,is⟩:=v
 simp[Px,and_assoc]
theorem KQ (a b:ah):CX .str a b=(a==b):=rfl
def seenM (m:List (ah×Bool)) (n:ah):Bool:=ml .str .bool n m
theorem seen_put (m:List (ah×Bool)) (a b:ah):seenM (Bp .str .bool a true m) b=((b==a)||seenM m b):=by
 induction m with
 | nil =>
  show (bif CX .str b a then true else false)=_
  rw[KQ]
  cases b==a <;> rfl
 | cons e m ih =>
  unfold seenM at ih ⊢
  show ml .str .bool b (bif CX .str a e.1 then (a,true)::m else e::Bp .str .bool a true m)=((b==a)||(bif CX .str b e.1 then e.2 else ml .str .bool b m))
  rw[KQ,KQ]
  by_cases h1:a=e.1
  ·have h1':(a==e.1)=true:=by simpa using h1
   rw[h1',cond_true]
   show (bif CX .str b a then true else ml .str .bool b m)=_
   rw[KQ,←h1]
   cases b==a <;> rfl
  ·have h1':(a==e.1)=false:=by simpa using h1
   rw[h1',cond_false]
   show (bif CX .str b e.1 then e.2 else ml .str .bool b (Bp .str .bool a true m))=_
   rw[KQ,ih]
   by_cases h2:b=a
   ·have h3:(b==e.1)=false:=by rw[h2]; exact h1'
    rw[h3]
    rfl
   ·have h3:(b==a)=false:=by simpa using h2
    rw[h3]
    rfl
theorem unique_loop {R:Type} (ns:List ah) (hl:ns.length≤1099511627776) (k:Bool→Option R):∀(F i:Nat) (m:List (ah×Bool)) (seen:List ah),i≤ns.length→ns.length - i<F→(∀n,seenM m n=seen.contains n) →
  cX F ns (ns.length:Int) (i:Int) m (k true) k=k (vM seen (ns.drop i)):=by
 intro F
 induction F with
 | zero=>intro i m seen _ h; omega
 | succ F ih =>
  intro i m seen hi hF hm
  show vp bN (fun x0 x1 x2 x3=>cX F x0 x1 x2 x3 (k true) k) ns (ns.length:Int) (i:Int) m (k true) k=_
  unfold vp
  by_cases h:i<ns.length
  ·have h1:decide ((i:Int)<(ns.length:Int))=true:=by simp; omega
   have h2:(decide ((0:Int)≤(i:Int))&&true)=true:=by simp
   have hw:IntKind.i64.wrap ((i:Int)+1)=((i+1:Nat):Int):=by rw[cA (by omega) (by omega)]; omega
   have hg:ns.getD (i:Int).toNat (Ty.aZ .str)=ns[i]:=getD_at h _
   have hsn:ml .str .bool ns[i] m=seen.contains ns[i]:=hm ns[i]
   rw[h1,cond_true,aw h2,hg,hsn,hw,whole_eq,List.drop_eq_getElem_cons h]
   simp only[vM]
   cases seen.contains ns[i]with
   | true=>rfl
   | false =>
    cases fW ns[i]with
    | false=>rfl
    | true =>
     simp only[cond_false,Bool.not_true,Bool.not_false,Bool.true_and]
     refine ih (i+1) _ (ns[i]::seen) (by omega) (by omega) fun n => ?_
     rw[seen_put,hm]
     simp only[List.contains_cons]
  ·have h1:decide ((i:Int)<(ns.length:Int))=false:=by simp; omega
   rw[h1,cond_false,List.drop_eq_nil_of_le (by omega)]
   rfl
theorem unique_any {R:Type} (ns:List ah) (hl:ns.length≤1099511627776) (k:Bool→Option R):k9 ns k=k (vM [] ns):=by
 have:=unique_loop ns hl k (List.length ns+Int.natAbs (ns.length:Int)+Int.natAbs 0+List.length ([]:List (ah×Bool))+64) 0 [] [] (by omega) (by omega) fun n=>rfl
 rw[List.drop_zero]at this
 exact this
theorem rightL_loop {R:Type} (f:cK R) (is:List Json) (hl:is.length≤1099511627776) (d:Int) (hd:0≤d∧d≤16) (hf:∀x∈is,∀k:Bool→Option R,f x (d+1) k=k (dO x (d+1))) (k:Bool→Int→Option R):∀(F i:Nat),i≤is.length→is.length - i<F →
  aQ f F is (is.length:Int) (i:Int) d (fun y=>k (decide ((-1:Int)≥0)) y) (fun x y=>k (decide (x≥0)) y)=k (!dQ (is.drop i) (d+1)) d:=by
 intro F
 induction F with
 | zero=>intro i _ h; omega
 | succ F ih =>
  intro i hi hF
  show fT (cN f) (fun x0 x1 x2 x3=>aQ f F x0 x1 x2 x3 _ _) is (is.length:Int) (i:Int) d _ _=_
  unfold fT
  by_cases h:i<is.length
  ·have h1:decide ((i:Int)<(is.length:Int))=true:=by simp; omega
   have h2:(decide ((0:Int)≤(i:Int))&&true)=true:=by simp
   have hw:IntKind.i64.wrap ((i:Int)+1)=((i+1:Nat):Int):=by rw[cA (by omega) (by omega)]; omega
   have hwd:IntKind.i64.wrap (d+1)=d+1:=cA (by omega) (by omega)
   have hg:is.getD (i:Int).toNat (Ty.aZ .json)=is[i]:=getD_at h _
   have hj:(decide ((i:Int)≥0))=true:=by simp
   have he:∀(x:Json) (q:Bool→Int→Option R),cN f x d q=f x (IntKind.i64.wrap (d+1)) fun y=>q (!y) d:=fun x q=>by
    show rT f x d q=_
    unfold rT
    simp only[Json.eta]
   rw[h1,cond_true,aw h2,hg,Json.eta,he,hwd,hf _ (List.getElem_mem h),List.drop_eq_getElem_cons h]
   simp only[dQ]
   cases dO is[i] (d+1)with
   | false=>simp only[Bool.not_false,cond_true,Bool.false_and,hj]
   | true =>
    simp only[Bool.not_true,cond_false,Bool.true_and]
    rw[hw]
    exact ih (i+1) (by omega) (by omega)
  ·have h1:decide ((i:Int)<(is.length:Int))=false:=by simp; omega
   rw[h1,cond_false,List.drop_eq_nil_of_le (by omega)]
   rfl
theorem containsFunc {R:Type} (f:cK R) (is:List Json) (hl:is.length≤1099511627776) (d:Int) (hd:0≤d∧d≤16) (hf:∀x∈is,∀k:Bool→Option R,f x (d+1) k=k (dO x (d+1))) (k:Bool→Int→Option R) :
  aP f is d k=k (!dQ is (d+1)) d:=by
 have:=rightL_loop f is hl d hd hf k (List.length is+Int.natAbs (is.length:Int)+Int.natAbs 0+Int.natAbs d+64) 0 (by omega) (by omega)
 rw[List.drop_zero]at this
 exact this
theorem jdepthL_mem {l:List Json} {y:Json} (h:y∈l):y.depth≤Json.GM l:=by
 induction l with
 | nil=>cases h
 | cons a l ih =>
  simp only[Json.GM]
  rcases List.mem_cons.1 h with rfl|h
  ·exact Nat.le_max_left _ _
  ·exact Nat.le_trans (ih h) (Nat.le_max_right _ _)
theorem jdepth_eq (x:Json):x.depth=Json.GM x.items+1:=by cases x; simp[Json.depth]
theorem VY {x y:Json} (h:y∈x.items):y.depth<x.depth:=by rw[jdepth_eq x]; exact Nat.lt_succ_of_le (jdepthL_mem h)
theorem bare_eq {R:Type} (k n1 n2:Int) (t:ah) (ns:List ah) (is:List Json) (q:Json→Option R):sa ⟨k,⟨n1,n2⟩,t,ns,is⟩ q =
  q ⟨k,if k=4 then ⟨0,0⟩else ⟨n1,n2⟩,if k=5 then []else t,if k=7 then []else ns,if k=6∨k=7 then []else is⟩:=by
 show Iz _ q=_
 unfold Iz
 simp only
 by_cases h4:k=4
 ·subst h4; rfl
 by_cases h5:k=5
 ·subst h5; rfl
 by_cases h7:k=7
 ·subst h7; rfl
 by_cases h6:k=6
 ·subst h6; rfl
 have e4:(k==4)=false:=by simpa using h4
 have e5:(k==5)=false:=by simpa using h5
 have e6:(k==6)=false:=by simpa using h6
 have e7:(k==7)=false:=by simpa using h7
 rw[e4,e5,e6,e7]
 simp[h4,h5,h6,h7]
theorem chain {R:Type} (k:Bool→Option R) {a b c:Bool} {x:Option R} {r:Bool} (hx:a=true→b=true→c=false→x=k r) (hr:(a=true∧b=true∧c=false)∨r=false) :
  (bif !a then k false else (bif !b then k false else (bif c then k false else x)))=k r:=by
 cases a with
 | false =>
  rcases hr with ⟨h,_⟩|rfl
  ·cases h
  ·rfl
 | true =>
  cases b with
  | false =>
   rcases hr with ⟨_,h,_⟩|rfl
   ·cases h
   ·rfl
  | true =>
   cases c with
   | true =>
    rcases hr with ⟨_,_,h⟩|rfl
    ·cases h
    ·rfl
   | false=>exact hx rfl rfl rfl
theorem right_N {R:Type}:∀(n:Nat) (v:Json) (d:Int),Px v=true→v.depth<n→0≤d→d≤17→∀k:Bool→Option R,eM n v d k=k (dO v d):=by
 intro n
 induction n with
 | zero=>intro v d _ h; omega
 | succ n ih =>
  intro v d hv hn hd0 hd1 k
  obtain ⟨Rp,Xd,hil,_⟩:=EK.1 hv
  have he:eM (n+1) v d k=FW bN bL sa k9 (aP (eM n)) v d k:=rfl
  rw[he]
  have hcf:d≤16→∀q:Bool→Int→Option R,aP (eM n) v.items d q=q (!dQ v.items (d+1)) d:=fun h16 q =>
   containsFunc _ _ Xd d ⟨hd0,h16⟩ (fun x hx k=>ih x (d+1) (TV hil hx) (by have:=VY hx; omega) (by omega) (by omega) k) q
  obtain ⟨kd,⟨n1,n2⟩,t,ns,is⟩:=v
  unfold FW
  simp only at Rp Xd hcf ⊢
  rw[bare_eq]
  simp only
  by_cases h16:d≤16
  rotate_left
  ·have e1:decide (d>16)=true:=by simp; omega
   rw[e1,cond_true]
   simp[dO,h16]
  have e1:decide (d>16)=false:=by simp; omega
  rw[e1,cond_false]
  by_cases hk1:kd<1
  ·have e2:decide (kd<1)=true:=by simpa using hk1
   have:¬1≤kd:=by omega
   rw[e2,cond_true]
   simp[dO,this]
  have e2:decide (kd<1)=false:=by simpa using hk1
  rw[e2,cond_false]
  by_cases hk7:kd>7
  ·have e3:decide (kd>7)=true:=by simpa using hk7
   have:¬kd≤7:=by omega
   rw[e3,cond_true]
   simp[dO,this]
  have e3:decide (kd>7)=false:=by simpa using hk7
  rw[e3,cond_false]
  have hk:kd=1∨kd=2∨kd=3∨kd=4∨kd=5∨kd=6∨kd=7:=by omega
  have hsum:∀a b:Nat,a≤1099511627776→b≤1099511627776→decide (IntKind.i64.wrap ((a:Int)+(b:Int))>0) = !(a==0&&b==0):=by
   intro a b ha hb
   rw[cA (by omega) (by omega)]
   rw[Bool.eq_iff_iff,decide_eq_true_eq]
   simp only[Bool.not_eq_true',Bool.and_eq_false_iff,beq_eq_false_iff_ne]
   omega
  have hie:∀l:List ah,(l.length==0)=l.isEmpty:=fun l=>by cases l <;> rfl
  have hje:∀l:List Json,(l.length==0)=l.isEmpty:=fun l=>by cases l <;> rfl
  have hte:∀l:ah,(l==([]:ah))=l.isEmpty:=fun l=>by cases l <;> rfl
  have Db:∀d:Int,dQ [] d=true:=fun _=>rfl
  have hnum:∀a b:Int,((a==0)&&((b==0)&&true))=(a==0&&b==0):=fun a b=>by cases a==0 <;> cases b==0 <;> rfl
  have hcf0:∀q:Bool→Int→Option R,is.isEmpty=true→aP (eM n) is d q=q false d:=fun q h=>by
   rw[hcf h16]
   obtain rfl:is = []:=List.isEmpty_iff.1 h
   rfl
  have hbool:∀a b c:Bool,(a=true∧b=true∧(!c)=false)∨((a&&b)&&c)=false:=by decide
  have hb4:∀b c q:Bool,(true=true∧b=true∧(!c)=false)∨((b&&c)&&q)=false:=by decide
  have hb5:∀a c q:Bool,(a=true∧true=true∧(!c)=false)∨((a&&c)&&q)=false:=by decide
  have hb6:∀a b c q:Bool,(a=true∧b=true∧(!c)=false)∨(((a&&b)&&c)&&q)=false:=by decide
  have hb7:∀a b q:Bool,(a=true∧b=true∧false=false)∨((a&&b)&&q)=false:=by decide
  rcases hk with rfl|rfl|rfl|rfl|rfl|rfl|rfl
  ·have hr:dO ⟨1,⟨n1,n2⟩,t,ns,is⟩ d=(((n1==0&&n2==0)&&t.isEmpty)&&(ns.isEmpty&&is.isEmpty)):=by
    cases is <;> simp[dO,dQ,h16]
   simp only[Int.reduceEq,if_false,or_self,hnum]
   rw[hsum _ _ Rp Xd,hie,hje,hte,hr]
   refine chain k (fun h1 h2 h3 => ?_) (hbool _ _ _)
   have h4:ns.isEmpty=true∧is.isEmpty=true:=by simpa using h3
   rw[h1,h2,h4.1,h4.2]
   show aP (eM n) is d (fun HJ G1=>k (!HJ))=k true
   exact hcf0 _ h4.2
  ·have hr:dO ⟨2,⟨n1,n2⟩,t,ns,is⟩ d=(((n1==0&&n2==0)&&t.isEmpty)&&(ns.isEmpty&&is.isEmpty)):=by
    cases is <;> simp[dO,dQ,h16]
   simp only[Int.reduceEq,if_false,or_self,hnum]
   rw[hsum _ _ Rp Xd,hie,hje,hte,hr]
   refine chain k (fun h1 h2 h3 => ?_) (hbool _ _ _)
   have h4:ns.isEmpty=true∧is.isEmpty=true:=by simpa using h3
   rw[h1,h2,h4.1,h4.2]
   show aP (eM n) is d (fun HJ G1=>k (!HJ))=k true
   exact hcf0 _ h4.2
  ·have hr:dO ⟨3,⟨n1,n2⟩,t,ns,is⟩ d=(((n1==0&&n2==0)&&t.isEmpty)&&(ns.isEmpty&&is.isEmpty)):=by
    cases is <;> simp[dO,dQ,h16]
   simp only[Int.reduceEq,if_false,or_self,hnum]
   rw[hsum _ _ Rp Xd,hie,hje,hte,hr]
   refine chain k (fun h1 h2 h3 => ?_) (hbool _ _ _)
   have h4:ns.isEmpty=true∧is.isEmpty=true:=by simpa using h3
   rw[h1,h2,h4.1,h4.2]
   show aP (eM n) is d (fun HJ G1=>k (!HJ))=k true
   exact hcf0 _ h4.2
  ·have hr:dO ⟨4,⟨n1,n2⟩,t,ns,is⟩ d=((t.isEmpty&&(ns.isEmpty&&is.isEmpty))&&fmB ⟨n1,n2⟩):=by
    simp[dO,h16,Bool.and_assoc]
   simp only[Int.reduceEq,if_false,if_true,or_self]
   rw[hsum _ _ Rp Xd,hie,hje,hte,hr]
   refine chain k (a:=true) (b:=t.isEmpty) (c := !(ns.isEmpty&&is.isEmpty)) (fun h1 h2 h3 => ?_) (hb4 _ _ _)
   have h4:ns.isEmpty=true∧is.isEmpty=true:=by simpa using h3
   rw[h2,h4.1,h4.2]
   exact right_any _ _
  ·have hr:dO ⟨5,⟨n1,n2⟩,t,ns,is⟩ d=(((n1==0&&n2==0)&&(ns.isEmpty&&is.isEmpty))&&fW t):=by
    simp[dO,h16,Bool.and_assoc]
   simp only[Int.reduceEq,if_false,if_true,or_self,hnum]
   rw[hsum _ _ Rp Xd,hie,hje,hr]
   refine chain k (a:=(n1==0&&n2==0)) (b:=true) (c := !(ns.isEmpty&&is.isEmpty)) (fun h1 h2 h3 => ?_) (hb5 _ _ _)
   have h4:ns.isEmpty=true∧is.isEmpty=true:=by simpa using h3
   rw[h1,h4.1,h4.2]
   exact whole_eq _ _
  ·have hr:dO ⟨6,⟨n1,n2⟩,t,ns,is⟩ d=((((n1==0&&n2==0)&&t.isEmpty)&&ns.isEmpty)&&dQ is (d+1)):=by
    simp[dO,h16,Bool.and_assoc]
   simp only[Int.reduceEq,if_false,if_true,true_or,hnum]
   have hs2:=hsum ns.length 0 Rp (by omega)
   have hq:((0:Nat)==0)=true:=rfl
   rw[hq,Bool.and_true,hie]at hs2
   rw[List.length_nil,hs2,hte,hr]
   refine chain k (a:=(n1==0&&n2==0)) (b:=t.isEmpty) (c := !ns.isEmpty) (fun h1 h2 h3 => ?_) (hb6 _ _ _ _)
   have h4:ns.isEmpty=true:=by simpa using h3
   rw[h1,h2,h4]
   show aP (eM n) is d (fun HJ G1=>k (!HJ))=k (dQ is (d+1))
   rw[hcf h16,Bool.not_not]
  ·have hr:dO ⟨7,⟨n1,n2⟩,t,ns,is⟩ d=(((n1==0&&n2==0)&&t.isEmpty)&&(decide (ns.length=is.length)&&vM [] ns&&dQ is (d+1))):=by
    simp[dO,h16,Bool.and_assoc]
   simp only[Int.reduceEq,if_false,if_true,or_true,hnum]
   have hs2:=hsum 0 0 (by omega) (by omega)
   rw[List.length_nil,List.length_nil,hs2,hte,hr]
   refine chain k (a:=(n1==0&&n2==0)) (b:=t.isEmpty) (c:=false) (fun h1 h2 h3 => ?_) (hb7 _ _ _)
   rw[h1,h2]
   show (bif ((ns.length:Int) != (is.length:Int))then k false else k9 ns (fun y7=>bif !y7 then k false else aP (eM n) is d (fun vQ yK=>k (!vQ))))=_
   by_cases hl:ns.length=is.length
   ·have e9:((ns.length:Int) != (is.length:Int))=false:=by rw[hl]; simp
    rw[e9,cond_false,unique_any ns Rp,hcf h16,Bool.not_not]
    cases vM [] ns <;> simp[hl]
   ·have e9:((ns.length:Int) != (is.length:Int))=true:=by simp; omega
    rw[e9,cond_true]
    simp[hl]
theorem right_json {R:Type} (v:Json) (hv:Px v=true) (k:Bool→Option R):mZ v k=k (dO v 1):=by
 have e:mZ v k=FX oO v k:=rfl
 rw[e]
 unfold FX
 simp only[Json.eta]
 exact right_N (v.depth+2) v 1 hv (by omega) (by omega) (by omega) k
theorem KR (p:UInt8→Bool) (s:ah):(s.takeWhile p).length+(s.dropWhile p).length=s.length:=by
 have:=congrArg List.length (List.takeWhile_append_dropWhile (p:=p) (l:=s))
 rwa [List.length_append]at this
theorem take_tw (p:UInt8→Bool) (s:ah):s.take (s.takeWhile p).length=s.takeWhile p:=by
 have:=List.take_left (l₁:=s.takeWhile p) (l₂:=s.dropWhile p)
 rwa [List.takeWhile_append_dropWhile]at this
theorem drop_tw (p:UInt8→Bool) (s:ah):s.drop (s.takeWhile p).length=s.dropWhile p:=by
 have:=List.drop_left (l₁:=s.takeWhile p) (l₂:=s.dropWhile p)
 rwa [List.takeWhile_append_dropWhile]at this
theorem Zh {R:Type} (s cs:ah) (hs:s.length≤4000000000) (h1:v7 cs=true) (h2:cs.length<4294967281) (k:ah→Option R):cE s cs k=k (s.takeWhile (cs.contains ·)):=by
 have e:cE s cs k=DY s cs k:=rfl
 rw[e]
 unfold DY
 have hl:=KR (cs.contains ·) s
 have ht:(bu s cs).length=(s.dropWhile (cs.contains ·)).length:=rfl
 have hw:IntKind.i64.wrap ((s.length:Int) - ((bu s cs).length:Int))=((s.takeWhile (cs.contains ·)).length:Int):=by rw[ht,cA (by omega) (by omega)]; omega
 rw[hw,h1,aw (by rw[aM h2]; rfl),aw (by rw[aM (by omega),aM (by omega)]; rfl),aw (aM (by omega)),List.drop_zero,Nat.sub_zero,Int.toNat_natCast,take_tw]
theorem sign_has (c:UInt8):decide (DS sigS (c.toNat:Int)≥0)=R0 c:=by
 have hi:DS sigS (c.toNat:Int)=Go.Lib.indexByte sigS c:=by
  unfold DS
  rw[Int.toNat_natCast]
  simp
 have h:=Xc c sigS
 rw[hi]
 unfold R0
 cases hc:sigS.contains c with
 | true =>
  apply aM
  have:¬Go.Lib.indexByte sigS c<0:=fun g=>by rw[h.1 g]at hc; cases hc
  omega
 | false =>
  apply bJ
  have:=h.2 hc
  omega
theorem next_ok {R:Type} (s:ah) (hs:s.length≤4000000000) (h0:s ≠ []) (k:Token→Int→Option R) :
  gV s k=match tokS s with|some (t,r)=>k t ((s.length - r.length:Nat):Int)|none=>k ⟨0, [],⟨0,0⟩,0⟩ 0:=by
 have e:gV s k=F2 fy dR cE s k:=rfl
 rw[e]
 unfold F2
 cases s with
 | nil=>exact (h0 rfl).elim
 | cons c u =>
  have hlen:(c::u:ah).length=u.length+1:=rfl
  have hg:(c::u:ah).getD 0 0=c:=rfl
  simp only[List.length_cons]at hs
  rw[hg,aw (aM (by rw[hlen]; omega))]
  simp only
  have q45:((c.toNat:Int)==45)=decide (c.toNat=45):=eqI _ 45
  have q34:((c.toNat:Int)==34)=decide (c.toNat=34):=eqI _ 34
  have l48:decide ((c.toNat:Int)≥48)=decide (48≤c.toNat):=by
   by_cases h:48≤c.toNat
   ·rw[aM h,aM (by omega)]
   ·rw[bJ h,bJ (by omega)]
  have l57:decide ((c.toNat:Int)≤57)=decide (c.toNat≤57):=by
   by_cases h:c.toNat≤57
   ·rw[aM h,aM (by omega)]
   ·rw[bJ h,bJ (by omega)]
  have hsg:decide (DS ([123,125,91,93,44,58]:ah) (c.toNat:Int)≥0)=R0 c:=sign_has c
  have kj:∀p:UInt8→Bool,((c::u).takeWhile p).length≤(c::u).length:=fun p=>by have:=KR p (c::u); omega
  have num:∀k:Token→Int→Option R,cE (c::u) ([48,49,50,51,52,53,54,55,56,57,43,45,46,101,69]:ah) (fun y6=>dR y6 (fun y7 y8=>bif (!y8)then (k (⟨0,([]:ah),⟨0,0⟩,0⟩:Token) 0)else (k (⟨3,y6,⟨y7.ao,y7.exp⟩,0⟩:Token) (y6.length:Int)))) =
    (if (CE ((c::u).takeWhile EG)).2 then k ⟨3,(c::u).takeWhile EG,(CE ((c::u).takeWhile EG)).1,0⟩ (((c::u).length - ((c::u).dropWhile EG).length:Nat):Int)else k ⟨0, [],⟨0,0⟩,0⟩ 0):=fun k=>by
   rw[Zh _ _ (by rw[hlen]; omega) rfl (by decide)]
   have e:(c::u).takeWhile (fun x=>List.contains [48,49,50,51,52,53,54,55,56,57,43,45,46,101,69] x)=(c::u).takeWhile EG:=rfl
   have hl:=kj EG
   have hd:=KR EG (c::u)
   rw[e,parse_any _ (by omega)]
   have el:(c::u).length - ((c::u).dropWhile EG).length=((c::u).takeWhile EG).length:=by omega
   rw[el]
   cases (CE ((c::u).takeWhile EG)).2 <;> rfl
  have txt:∀k:Token→Int→Option R,fy (c::u) (fun Iy EN Sb=>bif (!Sb)then (k (⟨0,([]:ah),⟨0,0⟩,0⟩:Token) 0)else (k (⟨2,Iy,⟨0,0⟩,0⟩:Token) EN)) =
    match uqS (c::u)with|some (o,r)=>k ⟨2,o,⟨0,0⟩,0⟩ (((c::u).length - r.length:Nat):Int)|none=>k ⟨0, [],⟨0,0⟩,0⟩ 0:=fun k=>by
   rw[unquote_ok _ (by rw[hlen]; omega)]
   cases hu:uqS (c::u)with
   | none=>rfl
   | some p =>
    obtain ⟨o,r⟩:=p
    obtain ⟨_,hr,_⟩:=uqS_sfx hu
    simp only[Bool.not_true,cond_false]
    rw[cA (by omega) (by omega)]
    congr 1
    omega
  have nam:∀k:Token→Int→Option R,cE (c::u) ([97,98,99,100,101,102,103,104,105,106,107,108,109,110,111,112,113,114,115,116,117,118,119,120,121,122]:ah) (fun GQ=>bif (GQ==([116,114,117,101]:ah))then (k (⟨4,GQ,⟨0,0⟩,0⟩:Token) (GQ.length:Int))else (bif (GQ==([102,97,108,115,101]:ah))then (k (⟨4,GQ,⟨0,0⟩,0⟩:Token) (GQ.length:Int))else (bif (!(GQ==([110,117,108,108]:ah)))then (k (⟨0,([]:ah),⟨0,0⟩,0⟩:Token) 0)else (k (⟨4,GQ,⟨0,0⟩,0⟩:Token) (GQ.length:Int))))) =
    (if (c::u).takeWhile DL=wP∨(c::u).takeWhile DL=lr∨(c::u).takeWhile DL=rP then k ⟨4,(c::u).takeWhile DL,⟨0,0⟩,0⟩ (((c::u).length - ((c::u).dropWhile DL).length:Nat):Int)else k ⟨0, [],⟨0,0⟩,0⟩ 0):=fun k=>by
   rw[Zh _ _ (by rw[hlen]; omega) rfl (by decide)]
   have e:(c::u).takeWhile (fun x=>List.contains [97,98,99,100,101,102,103,104,105,106,107,108,109,110,111,112,113,114,115,116,117,118,119,120,121,122] x)=(c::u).takeWhile DL:=rfl
   have hd:=KR DL (c::u)
   have el:(c::u).length - ((c::u).dropWhile DL).length=((c::u).takeWhile DL).length:=by omega
   rw[e,el]
   generalize (c::u).takeWhile DL=w
   have eq:∀a:ah,(w==a)=decide (w=a):=fun a=>by
    by_cases h:w=a
    ·rw[aM h]; exact beq_iff_eq.2 h
    ·rw[bJ h]; exact beq_eq_false_iff_ne.2 h
   rw[eq,eq,eq]
   by_cases h1:w=wP
   ·rw[aM (show w = [116,114,117,101]from h1),if_pos (.inl h1)]; rfl
   ·by_cases h2:w=lr
    ·rw[bJ (show ¬w = [116,114,117,101]from h1),aM (show w = [102,97,108,115,101]from h2),if_pos (.inr (.inl h2))]; rfl
    ·by_cases h3:w=rP
     ·rw[bJ (show ¬w = [116,114,117,101]from h1),bJ (show ¬w = [102,97,108,115,101]from h2),aM (show w = [110,117,108,108]from h3),if_pos (.inr (.inr h3))]; rfl
     ·rw[bJ (show ¬w = [116,114,117,101]from h1),bJ (show ¬w = [102,97,108,115,101]from h2),bJ (show ¬w = [110,117,108,108]from h3),if_neg (by rintro (h|h|h); exact h1 h; exact h2 h; exact h3 h)]; rfl
  have sgn1:∀k:Token→Int→Option R,cb (decide ((1:Int)≤((c::u:ah).length:Int))) (k (⟨1,(((c::u:ah).drop 0).take (1 - 0)),⟨0,0⟩,0⟩:Token) 1)=k ⟨1, [c],⟨0,0⟩,0⟩ (((c::u).length - u.length:Nat):Int):=fun k=>by
   have e1:(c::u).length - u.length=1:=by rw[hlen]; omega
   rw[aw (aM (by rw[hlen]; omega)),e1]
   rfl
  simp only[tokS]
  rw[q45,q34,l48,l57,hsg]
  by_cases h45:c.toNat=45
  ·rw[aM h45,cond_true,if_pos (.inl h45)]
   refine (num k).trans ?_
   split <;> rfl
  ·rw[bJ h45,cond_false]
   have rest:¬(48≤c.toNat∧c.toNat≤57)→(bif decide (c.toNat=34)then fy (c::u) (fun Iy EN Sb=>bif (!Sb)then (k (⟨0,([]:ah),⟨0,0⟩,0⟩:Token) 0)else (k (⟨2,Iy,⟨0,0⟩,0⟩:Token) EN))else (bif R0 c then cb (decide ((1:Int)≤((c::u:ah).length:Int))) (k (⟨1,(((c::u:ah).drop 0).take (1 - 0)),⟨0,0⟩,0⟩:Token) 1)else cE (c::u) ([97,98,99,100,101,102,103,104,105,106,107,108,109,110,111,112,113,114,115,116,117,118,119,120,121,122]:ah) (fun GQ=>bif (GQ==([116,114,117,101]:ah))then (k (⟨4,GQ,⟨0,0⟩,0⟩:Token) (GQ.length:Int))else (bif (GQ==([102,97,108,115,101]:ah))then (k (⟨4,GQ,⟨0,0⟩,0⟩:Token) (GQ.length:Int))else (bif (!(GQ==([110,117,108,108]:ah)))then (k (⟨0,([]:ah),⟨0,0⟩,0⟩:Token) 0)else (k (⟨4,GQ,⟨0,0⟩,0⟩:Token) (GQ.length:Int))))))) =
     match (if c.toNat=45∨(48≤c.toNat∧c.toNat≤57)then (if (CE ((c::u).takeWhile EG)).2 then some (⟨3,(c::u).takeWhile EG,(CE ((c::u).takeWhile EG)).1,0⟩,(c::u).dropWhile EG)else none)else if c.toNat=34 then (match uqS (c::u)with|some (o,r)=>some (⟨2,o,⟨0,0⟩,0⟩,r)|none=>none)else if R0 c then some ((⟨1, [c],⟨0,0⟩,0⟩:Token),u)else if (c::u).takeWhile DL=wP∨(c::u).takeWhile DL=lr∨(c::u).takeWhile DL=rP then some (⟨4,(c::u).takeWhile DL,⟨0,0⟩,0⟩,(c::u).dropWhile DL)else none)with
     | some (t,r)=>k t (((c::u).length - r.length:Nat):Int)|none=>k ⟨0, [],⟨0,0⟩,0⟩ 0:=by
    intro hd
    rw[if_neg (by rintro (h|h); exact h45 h; exact hd h)]
    by_cases Q7:c.toNat=34
    ·rw[aM Q7,cond_true,if_pos Q7,txt]
     cases uqS (c::u)with
     | none=>rfl
     | some p=>rfl
    ·rw[bJ Q7,cond_false,if_neg Q7]
     cases hs':R0 c with
     | true=>rw[cond_true,sgn1,if_pos rfl]
     | false =>
      rw[cond_false,nam,if_neg (show ¬(false=true) by simp)]
      split <;> rfl
   by_cases h48:48≤c.toNat
   ·rw[aM h48,cond_true]
    by_cases h57:c.toNat≤57
    ·rw[aM h57,cond_true,if_pos (.inr ⟨h48,h57⟩)]
     refine (num k).trans ?_
     split <;> rfl
    ·rw[bJ h57,cond_false]
     exact rest (fun h=>h57 h.2)
   ·rw[bJ h48,cond_false]
    exact rest (fun h=>h48 h.1)
theorem scan_loop {R:Type} (s:ah) (hs:s.length≤20000) (e0:List Token→Int→Int→Option R) (e1:Int→Int→Option R) (hz:∀a b,e0 [] a b=e1 a b):∀(n p:Nat) (out:List Token),s.length - p<n→p≤s.length→out.length≤p →
  cZ n s out (p:Int) e0 e1=e0 (xM n p (s.drop p) out).1 (xM n p (s.drop p) out).2.1 (xM n p (s.drop p) out).2.2:=by
 intro n
 induction n with
 | zero=>intro p out h; omega
 | succ n ih =>
  intro p out h1 h2 h3
  rw[cZ]
  unfold Dw
  have hsub:∀q:Nat,(s.drop q).take ((s.length:Int).toNat - q)=s.drop q:=fun q=>List.take_of_length_le (by rw[List.length_drop,Int.toNat_natCast]; exact Nat.le_refl _)
  have hl:=KR tm (s.drop p)
  rw[List.length_drop]at hl
  have hdl:(s.drop p).length=s.length - p:=List.length_drop
  rw[aw (by rw[aM (by omega),aM (by omega)]; rfl),aw (by rw[aM (by omega),aM (by omega)]; rfl),Int.toNat_natCast p,hsub,Zh _ _ (by omega) rfl (by decide)]
  have eb:(s.drop p).takeWhile (fun x=>List.contains [32,9,10,13] x)=(s.drop p).takeWhile tm:=rfl
  rw[eb]
  have hdd:s.drop (p+((s.drop p).takeWhile tm).length)=(s.drop p).dropWhile tm:=by rw[←drop_tw tm (s.drop p),List.drop_drop]
  have hw:IntKind.i64.wrap ((p:Int)+(((s.drop p).takeWhile tm).length:Int))=((p+((s.drop p).takeWhile tm).length:Nat):Int):=by rw[cA (by omega) (by omega)]; omega
  rw[hw]
  simp only[xM]
  generalize hq:p+((s.drop p).takeWhile tm).length=q at *
  by_cases hend:(s.drop p).dropWhile tm = []
  ·have hqe:q=s.length:=by rw[hend]at hl; simp at hl; omega
   have e1':(((q:Nat):Int)==(s.length:Int))=true:=by rw[hqe]; simp
   rw[e1',cond_true,aw (aM (by omega)),if_pos hend]
  ·have Nk:0<((s.drop p).dropWhile tm).length:=List.length_pos_iff.2 hend
   have e1':(((q:Nat):Int)==(s.length:Int))=false:=by rw[beq_eq_false_iff_ne]; omega
   rw[e1',cond_false,aw (by rw[aM (by omega),aM (by omega)]; rfl),aw (by rw[aM (by omega),aM (by omega)]; rfl),Int.toNat_natCast q,hsub,hdd,next_ok _ (by omega) hend,if_neg hend]
   cases ht:tokS ((s.drop p).dropWhile tm)with
   | none =>
    have e0':((0:Int)==0)=true:=rfl
    simp only
    rw[e0',cond_true,hz]
   | some x =>
    obtain ⟨t,r⟩:=x
    obtain ⟨f1,f2⟩:=tokS_sfx ht
    have hn:((((s.drop p).dropWhile tm).length - r.length:Nat):Int)≠0:=by omega
    simp only
    rw[beq_eq_false_iff_ne.2 hn,cond_false,aw (aM (by omega))]
    have hq2:IntKind.i64.wrap (((q:Nat):Int)+((((s.drop p).dropWhile tm).length - r.length:Nat):Int))=((p+((s.drop p).length - r.length):Nat):Int):=by rw[cA (by omega) (by omega)]; omega
    rw[hq2]
    have hr:s.drop (p+((s.drop p).length - r.length))=r:=by
     have:=sfx_drop (f1.trans (List.dropWhile_suffix tm))
     rw[←List.drop_drop,←this]
    have key:=ih (p+((s.drop p).length - r.length)) (out ++ [putT t ((q:Nat):Int)]) (by omega) (by omega) (by simp; omega)
    rw[hr]at key
    exact key
theorem scan_ok {R:Type} (s:ah) (k:List Token→Int→Int→Option R):nh s k=k (rQ s).1 (rQ s).2.1 (rQ s).2.2:=by
 have e:nh s k=F3 cZ s k:=rfl
 rw[e]
 unfold F3 rQ
 by_cases h:20000<s.length
 ·rw[aM (show (s.length:Int)>20000 by omega),cond_true,if_pos h]
 ·rw[bJ (show ¬(s.length:Int)>20000 by omega),cond_false,if_neg h]
  have key:=scan_loop (R:=R) s (by omega) (fun y8 y9 um=>k y8 y9 um) (fun vQ yK=>k [] vQ yK) (fun _ _=>rfl) (List.length s+List.length ([]:List Token)+Int.natAbs 0+64) 0 [] (by omega) (by omega) (by simp)
  rw[List.drop_zero,Zb _ (s.length+1) 0 s [] (by omega) (by omega)]at key
  exact key
abbrev WQ:=Int×List Token
def ki (x:ah):List Token→Option (List Token)
 | t::r=>if t.kind=1∧t.text=x then some r else none
 | []=>none
def I2 (ns:List ah):List Token→Except WQ (ah×List Token)
 | t::r =>
  if t.kind≠2 then .error (40,t::r)else if ns.contains t.text then .error (42,t::r)else
   match ki [58] r with
   | some r' => .ok (t.text,r')
   | none => .error (40,r)
 | [] => .error (0, [])
def xN (f:List Token→Except WQ (Json×List Token)) (obj:Bool) (ns:List ah) (is:List Json) (ts:List Token):Except WQ ((List ah×List Json)×List Token) :=
 match obj with
 | true =>
  (match I2 ns ts with
   | .error b => .error b
   | .ok (nm,ts1)=>(match f ts1 with | .error b => .error b | .ok (v,R2) => .ok ((ns ++ [nm],is ++ [v]),R2)))
 | false=>(match f ts with | .error b => .error b | .ok (v,R2) => .ok ((ns,is ++ [v]),R2))
def zA (f:List Token→Except WQ (Json×List Token)) (cl:ah) (obj:Bool):Nat→List ah→List Json→List Token→Except WQ ((List ah×List Json)×List Token)
 | 0,_,_,ts => .error (0,ts)
 | m+1,ns,is,ts =>
  match xN f obj ns is ts with
  | .error b => .error b
  | .ok (p,R2) =>
   match ki cl R2 with
   | some r => .ok (p,r)
   | none =>
    match ki [44] R2 with
    | some r=>zA f cl obj m p.1 p.2 r
    | none => .error (40,R2)
def DM (t:ah):Bool:=t==rP||(t==lr||t==wP)
def Zi:List (ah×Int) := [(rP,1),(lr,2),(wP,3)]
def HB (t:ah):Bool:=t == [91]||t == [123]
def uj (t:Token):Bool:=t.kind==2||(t.kind==3||(t.kind==4||(t.kind==1&&HB t.text)))
def yB:Nat→Int→List Token→Except WQ (Json×List Token)
 | 0,_,ts => .error (0,ts)
 | _+1,_, [] => .error (0, [])
 | n+1,d,t::r =>
  if uj t=false then .error (40,t::r)else
  if d>16 then .error (41,t::r)else
  if t.kind=1∧HB t.text=true then
   let obj:=t.text == [123]
   let k:Int:=if obj then 7 else 6
   let cl:ah:=if obj then [125]else [93]
   match ki cl r with
   | some r' => .ok (⟨k,⟨0,0⟩, [], [], []⟩,r')
   | none =>
    match zA (yB n (d+1)) cl obj (r.length+1) [] [] r with
    | .error b => .error b
    | .ok (p,r') => .ok (⟨k,⟨0,0⟩, [],p.1,p.2⟩,r')
  else if t.kind=4∧DM t.text=true then .ok (⟨ml .str (.int .i64) t.text Zi,⟨0,0⟩, [], [], []⟩,r)
  else if t.kind=3 then .ok (⟨4,t.num, [], [], []⟩,r)
  else .ok (⟨5,⟨0,0⟩,t.text, [], []⟩,r)
theorem Gy {x:ah} {ts r:List Token} (h:ki x ts=some r):r.length<ts.length:=by
 cases ts with
 | nil=>cases h
 | cons t ts =>
  simp only[ki]at h
  split at h
  ·cases h; simp
  ·cases h
theorem nameS_len {ns:List ah} {ts:List Token} {p:ah×List Token} (h:I2 ns ts = .ok p):p.2.length<ts.length:=by
 cases ts with
 | nil=>cases h
 | cons t ts =>
  simp only[I2]at h
  split at h
  ·cases h
  ·split at h
   ·cases h
   ·split at h
    ·rename_i r hr
     have:=Gy hr
     cases h
     simp; omega
    ·cases h
theorem U7 {f:List Token→Except WQ (Json×List Token)} (hf:∀ts p,f ts = .ok p→p.2.length<ts.length) {obj:Bool} {ns:List ah} {is:List Json} {ts:List Token} {p:(List ah×List Json)×List Token} (h:xN f obj ns is ts = .ok p) :
  p.2.length<ts.length:=by
 cases obj with
 | true =>
  simp only[xN]at h
  split at h
  ·cases h
  ·rename_i nm ts1 hn
   have h1:=nameS_len hn
   split at h
   ·cases h
   ·rename_i v R2 hv
    have h2:=hf _ _ hv
    cases h
    simp only at h1 h2 ⊢
    omega
 | false =>
  simp only[xN]at h
  split at h
  ·cases h
  ·rename_i v R2 hv
   have h2:=hf _ _ hv
   cases h
   exact h2
theorem listS_len {f:List Token→Except WQ (Json×List Token)} (hf:∀ts p,f ts = .ok p→p.2.length<ts.length) {cl:ah} {obj:Bool}:∀(m:Nat) (ns:List ah) (is:List Json) (ts:List Token) (p:(List ah×List Json)×List Token),
  zA f cl obj m ns is ts = .ok p→p.2.length<ts.length
 | 0,_,_,_,_,h=>by cases h
 | m+1,ns,is,ts,p,h=>by
  simp only[zA]at h
  split at h
  ·cases h
  ·rename_i q R2 hq
   have h1:=U7 hf hq
   split at h
   ·rename_i r hr
    have h2:=Gy hr
    cases h
    simp only at h1 h2 ⊢
    omega
   ·split at h
    ·rename_i r hr
     have h2:=Gy hr
     have h3:=listS_len hf m _ _ _ _ h
     simp only at h1 h2 h3 ⊢
     omega
    ·cases h
theorem valS_len:∀(n:Nat) (d:Int) (ts:List Token) (p:Json×List Token),yB n d ts = .ok p→p.2.length<ts.length
 | 0,_,_,_,h=>by cases h
 | _+1,_, [],_,h=>by cases h
 | n+1,d,t::r,p,h=>by
  simp only[yB]at h
  split at h
  ·cases h
  split at h
  ·cases h
  split at h
  ·split at h
   ·rename_i r' hr
    have:=Gy hr
    cases h
    simp; omega
   ·split at h
    ·cases h
    ·rename_i q r' hq
     have:=listS_len (fun ts p=>valS_len n (d+1) ts p) _ _ _ _ _ hq
     cases h
     simp only[List.length_cons]at this ⊢
     omega
  split at h
  ·cases h; simp
  split at h
  ·cases h; simp
  ·cases h; simp
theorem Zj {f:List Token→Except WQ (Json×List Token)} (hf:∀ts p,f ts = .ok p→p.2.length<ts.length) {cl:ah} {obj:Bool}:∀(m m':Nat) (ns:List ah) (is:List Json) (ts:List Token),ts.length<m→ts.length<m' →
  zA f cl obj m ns is ts=zA f cl obj m' ns is ts
 | 0,_,_,_,_,h,_=>by omega
 | _+1,0,_,_,_,_,h=>by omega
 | m+1,m'+1,ns,is,ts,h,h'=>by
  simp only[zA]
  cases hq:xN f obj ns is ts with
  | error b=>rfl
  | ok q =>
   obtain ⟨p,R2⟩:=q
   have h1:=U7 hf hq
   simp only
   cases ki cl R2 with
   | some r=>rfl
   | none =>
    simp only
    cases hr:ki [44] R2 with
    | none=>rfl
    | some r =>
     have h2:=Gy hr
     simp only at h1 h2 ⊢
     exact Zj hf m m' _ _ _ (by omega) (by omega)
def Both {α:Type} (P:α→Prop) (Q:WQ→Prop):Except WQ α→Prop
 | .ok p=>P p
 | .error b=>Q b
def CW (ts:List Token):Prop:=∃e,ts.getLast? = some e∧e.kind=5
theorem CW.ne {ts:List Token} (h:CW ts):ts ≠ []:=by
 rintro rfl
 obtain ⟨e,h,_⟩:=h
 cases h
theorem CW.tail {t:Token} {r:List Token} (h:CW (t::r)) (ht:t.kind≠5):CW r:=by
 obtain ⟨e,h1,h2⟩:=h
 cases r with
 | nil =>
  simp at h1
  subst h1
  exact (ht h2).elim
 | cons u r=>exact ⟨e,by simpa [List.getLast?_cons_cons]using h1,h2⟩
theorem KS {x:ah} {ts r:List Token} (he:CW ts) (h:ki x ts=some r):CW r:=by
 cases ts with
 | nil=>cases h
 | cons t ts =>
  simp only[ki]at h
  split at h
  ·rename_i hc
   cases h
   exact he.tail (by rw[hc.1]; decide)
  ·cases h
theorem nameS_end {ns:List ah} {ts:List Token} (he:CW ts):Both (fun p:ah×List Token=>CW p.2) (fun b=>CW b.2∧b.1≠0) (I2 ns ts):=by
 cases ts with
 | nil=>exact (he.ne rfl).elim
 | cons t ts =>
  simp only[I2]
  by_cases hk:t.kind=2
  ·rw[if_neg (by simp[hk])]
   have h1:=he.tail (by rw[hk]; decide)
   by_cases hc:ns.contains t.text=true
   ·rw[if_pos hc]
    exact ⟨he,by show (_:Int)≠0; simp⟩
   ·rw[if_neg hc]
    cases hr:ki [58] ts with
    | some r=>exact KS h1 hr
    | none=>exact ⟨h1,by show (_:Int)≠0; simp⟩
  ·rw[if_pos hk]
   exact ⟨he,by show (_:Int)≠0; simp⟩
theorem D9 {t:Token} {r:List Token}:decide ((0:Int)<((t::r).length:Int))=true:=by rw[decide_eq_true_eq,List.length_cons]; omega
theorem Xf {t:Token} {r:List Token}:decide ((1:Int)≤((t::r).length:Int))=true:=by rw[decide_eq_true_eq,List.length_cons]; omega
theorem Pz {R:Type} (x:ah) {ts:List Token} (hn:ts ≠ []) (k:Bool→List Token→Int→Option R):av x ts 0 k=match ki x ts with|some r=>k true r 0|none=>k false ts 0:=by
 cases ts with
 | nil=>exact (hn rfl).elim
 | cons t r =>
  have e0:av x (t::r) 0 k=cb (decide ((0:Int)<((t::r).length:Int))) (bif (t.kind != 1)then (k false (t::r) 0)else (bif (!(t.text==x))then (k false (t::r) 0)else (cb (decide ((1:Int)≤((t::r).length:Int))) (k true r 0)))):=rfl
  rw[e0,aw D9]
  simp only[ki]
  by_cases h1:t.kind=1
  ·by_cases h2:t.text=x
   ·rw[if_pos ⟨h1,h2⟩]
    have e1:(t.kind != 1)=false:=by simp[h1]
    have e2:(!(t.text==x))=false:=by simp[h2]
    rw[e1,e2,aw Xf]
    rfl
   ·rw[if_neg (fun h=>h2 h.2)]
    have e1:(t.kind != 1)=false:=by simp[h1]
    have e2:(!(t.text==x))=true:=by simp[h2]
    rw[e1,e2]
    rfl
  ·rw[if_neg (fun h=>h1 h.1)]
   have e1:(t.kind != 1)=true:=by simp[h1]
   rw[e1]
   rfl
theorem RH {R:Type} (ns:List ah) (x:ah) (hl:ns.length≤1099511627776) (k:Bool→Option R):∀(F i:Nat),i≤ns.length→ns.length - i<F →
  aS F ns x (ns.length:Int) (i:Int) (k (decide ((-1:Int)≥0))) (fun y=>k (decide (y≥0)))=k ((ns.drop i).contains x):=by
 intro F
 induction F with
 | zero=>intro i _ h; omega
 | succ F ih =>
  intro i hi hF
  show eI (fun x0 x1 x2 x3=>aS F x0 x1 x2 x3 _ _) ns x (ns.length:Int) (i:Int) _ _=_
  unfold eI
  by_cases h:i<ns.length
  ·have h1:decide ((i:Int)<(ns.length:Int))=true:=by simp; omega
   have h2:(decide ((0:Int)≤(i:Int))&&true)=true:=by simp
   have hw:IntKind.i64.wrap ((i:Int)+1)=((i+1:Nat):Int):=by rw[cA (by omega) (by omega)]; omega
   have hg:ns.getD (i:Int).toNat (Ty.aZ .str)=ns[i]:=getD_at h _
   have hj:(decide ((i:Int)≥0))=true:=by simp
   rw[h1,cond_true,aw h2,hg,List.drop_eq_getElem_cons h,List.contains_cons]
   cases hq:x==ns[i]with
   | true =>
    rw[cond_true,Bool.true_or]
    show k (decide ((i:Int)≥0))=k true
    rw[hj]
   | false =>
    rw[cond_false,Bool.false_or,hw]
    exact ih (i+1) (by omega) (by omega)
  ·have h1:decide ((i:Int)<(ns.length:Int))=false:=by simp; omega
   rw[h1,cond_false,List.drop_eq_nil_of_le (by omega)]
   rfl
theorem MC {R:Type} (ns:List ah) (x:ah) (hl:ns.length≤1099511627776) (k:Bool→Option R):aB ns x k=k (ns.contains x):=by
 have:=RH ns x hl k (List.length ns+List.length x+Int.natAbs (ns.length:Int)+Int.natAbs 0+64) 0 (by omega) (by omega)
 rw[List.drop_zero]at this
 exact this
theorem name_ok {R:Type} (ns:List ah) (hl:ns.length≤1099511627776) {ts:List Token} (he:CW ts):Both (fun p:ah×List Token=>∀k:ah→List Token→Int→Option R,da ns ts 0 k=k p.1 p.2 0)
  (fun b=>∃nm,∀k:ah→List Token→Int→Option R,da ns ts 0 k=k nm b.2 b.1) (I2 ns ts):=by
 cases ts with
 | nil=>exact (he.ne rfl).elim
 | cons t r =>
  have e0:∀k:ah→List Token→Int→Option R,da ns (t::r) 0 k=cb (decide ((0:Int)<((t::r).length:Int))) (bif (t.kind != 2)then (k t.text (t::r) 40)else (aB ns t.text (fun y6=>bif y6 then (k t.text (t::r) 42)else (cb (decide ((1:Int)≤((t::r).length:Int))) (av [58] r 0 (fun y9 um vQ=>bif (!y9)then (aq 40 um vQ (fun yK HJ=>k t.text yK HJ))else (k t.text um vQ))))))):=fun k=>rfl
  simp only[I2]
  by_cases hk:t.kind=2
  ·have e1:(t.kind != 2)=false:=by simp[hk]
   have hr:=he.tail (by rw[hk]; decide)
   rw[if_neg (by simp[hk])]
   cases hc:ns.contains t.text with
   | true =>
    rw[if_pos rfl]
    refine ⟨t.text,fun k => ?_⟩
    rw[e0,aw D9,e1,cond_false,MC ns _ hl,hc]
    rfl
   | false =>
    rw[if_neg (by simp)]
    have hs:=fun k:Bool→List Token→Int→Option R=>Pz [58] hr.ne k
    cases hq:ki [58] r with
    | some r' =>
     rw[hq]at hs
     intro k
     rw[e0,aw D9,e1,cond_false,MC ns _ hl,hc,cond_false,aw Xf]
     exact hs _
    | none =>
     rw[hq]at hs
     refine ⟨t.text,fun k => ?_⟩
     rw[e0,aw D9,e1,cond_false,MC ns _ hl,hc,cond_false,aw Xf]
     exact hs _
  ·have e1:(t.kind != 2)=true:=by simp[hk]
   rw[if_pos hk]
   refine ⟨t.text,fun k => ?_⟩
   rw[e0,aw D9,e1]
   rfl
def Hval {R:Type} (jZ:aD R) (f:List Token→Except WQ (Json×List Token)) (d:Int) (B:Nat):Prop :=
 ∀ts,CW ts→ts.length≤B→Both (fun p:Json×List Token=>CW p.2∧∀k:Json→List Token→Int→Option R,jZ d ts 0 k=k p.1 p.2 0)
  (fun b=>(CW b.2∧b.1≠0)∧∃v,∀k:Json→List Token→Int→Option R,jZ d ts 0 k=k v b.2 b.1) (f ts)
theorem Xg {α:Type} (l:List α) (a b:α):(l ++ [a]).set ((l.length:Int)).toNat b=l ++ [b]:=by
 rw[Int.toNat_natCast,List.set_append_right _ _ (Nat.le_refl _),Nat.sub_self]
 rfl
abbrev PartG (R:Type):=Bool→Int→Int→Int→ah→List ah→Nat→Int→List Json→List Token→Int→Option R
theorem parts_ok {R:Type} (jZ:aD R) (f:List Token→Except WQ (Json×List Token)) (d:Int) (hd:0≤d∧d≤16) (B:Nat) (hv:Hval jZ f (d+1) B) (obj:Bool) (kd a b:Int) (tx:ah) (ns:List ah) (is:List Json) (ts:List Token)
  (he:CW ts) (hB:ts.length≤B) (Rp:ns.length≤1000000000) (Xd:is.length≤1000000000) :
  Both (fun p:(List ah×List Json)×List Token=>CW p.2∧∀G:PartG R,bl jZ obj kd a b tx ns is.length d is ts 0 (fun a1 a2 a3 a4 a5 a6 a7 a8 t e i=>G a1 a2 a3 a4 a5 a6 a7 a8 i t e) G (fun a1 a2 a3 a4 a5 a6 a7 a8 t e i=>G a1 a2 a3 a4 a5 a6 a7 a8 i t e) G=G obj kd a b tx p.1.1 p.1.2.length d p.1.2 p.2 0)
   (fun q=>(CW q.2∧q.1≠0)∧∃ns' n' is',∀G:PartG R,bl jZ obj kd a b tx ns is.length d is ts 0 (fun a1 a2 a3 a4 a5 a6 a7 a8 t e i=>G a1 a2 a3 a4 a5 a6 a7 a8 i t e) G (fun a1 a2 a3 a4 a5 a6 a7 a8 t e i=>G a1 a2 a3 a4 a5 a6 a7 a8 i t e) G=G obj kd a b tx ns' n' d is' q.2 q.1)
   (xN f obj ns is ts):=by
 have e0:∀k0 k1 k2 k3,bl jZ obj kd a b tx ns is.length d is ts 0 k0 k1 k2 k3=dY da jZ obj kd a b tx ns is.length d is ts 0 k0 k1 k2 k3:=fun _ _ _ _=>rfl
 have c1:decide ((ns.length+1)*16≤140737488355328)=true:=by rw[decide_eq_true_eq]; omega
 have c2:decide ((is.length+1)*88≤140737488355328)=true:=by rw[decide_eq_true_eq]; omega
 have hw:IntKind.i64.wrap (d+1)=d+1:=cA (by omega) (by omega)
 have jT:∀c:Int,c≠0→(c==0)=false:=fun c hc=>by simpa using hc
 cases obj with
 | true =>
  have hn:=name_ok (R:=R) ns (by omega) he
  have hnE:=nameS_end (ns:=ns) he
  have hnL:=fun p=>nameS_len (ns:=ns) (ts:=ts) (p:=p)
  simp only[xN]
  cases hq:I2 ns ts with
  | error q =>
   rw[hq]at hn hnE
   obtain ⟨nm,hn⟩:=hn
   refine ⟨hnE,ns ++ [nm],is.length,is,fun G => ?_⟩
   rw[e0]
   unfold dY
   rw[cond_true,hn,aw c1,jT _ hnE.2]
   rfl
  | ok q =>
   obtain ⟨nm,ts1⟩:=q
   rw[hq]at hn hnE hnL
   have hl1:=hnL _ rfl
   have h2:=hv ts1 hnE (by simp only at hl1; omega)
   simp only
   cases hf:f ts1 with
   | error q =>
    rw[hf]at h2
    obtain ⟨h2,v,h3⟩:=h2
    refine ⟨h2,ns ++ [nm],is.length+1,is ++ [v],fun G => ?_⟩
    rw[e0]
    unfold dY
    rw[cond_true,hn,aw c1]
    show (jZ (IntKind.i64.wrap (d+1)) ts1 0 _)=_
    rw[hw,h3,aw c2,aw (by simp; omega),aw (by simp),Xg,Json.eta]
   | ok q =>
    obtain ⟨v,R2⟩:=q
    rw[hf]at h2
    obtain ⟨h2,h3⟩:=h2
    refine ⟨h2,fun G => ?_⟩
    rw[e0]
    unfold dY
    rw[cond_true,hn,aw c1]
    show (jZ (IntKind.i64.wrap (d+1)) ts1 0 _)=_
    rw[hw,h3,aw c2,aw (by simp; omega),aw (by simp),Xg,Json.eta]
    simp only[List.length_append,List.length_cons,List.length_nil]
 | false =>
  have h2:=hv ts he hB
  simp only[xN]
  cases hf:f ts with
  | error q =>
   rw[hf]at h2
   obtain ⟨h2,v,h3⟩:=h2
   refine ⟨h2,ns,is.length+1,is ++ [v],fun G => ?_⟩
   rw[e0]
   unfold dY
   show (jZ (IntKind.i64.wrap (d+1)) ts 0 _)=_
   rw[hw,h3,aw c2,aw (by simp; omega),aw (by simp),Xg,Json.eta]
  | ok q =>
   obtain ⟨v,R2⟩:=q
   rw[hf]at h2
   obtain ⟨h2,h3⟩:=h2
   refine ⟨h2,fun G => ?_⟩
   rw[e0]
   unfold dY
   show (jZ (IntKind.i64.wrap (d+1)) ts 0 _)=_
   rw[hw,h3,aw c2,aw (by simp; omega),aw (by simp),Xg,Json.eta]
   simp only[List.length_append,List.length_cons,List.length_nil]
theorem partS_out {f:List Token→Except WQ (Json×List Token)} {obj:Bool} {ns:List ah} {is:List Json} {ts:List Token} {p:(List ah×List Json)×List Token} (h:xN f obj ns is ts = .ok p) :
  p.1.1.length≤ns.length+1∧p.1.2.length=is.length+1:=by
 cases obj with
 | true =>
  simp only[xN]at h
  split at h
  ·cases h
  ·split at h
   ·cases h
   ·cases h; simp
 | false =>
  simp only[xN]at h
  split at h
  ·cases h
  ·cases h; simp
theorem loop_ok {R:Type} (jZ:aD R) (f:List Token→Except WQ (Json×List Token)) (hfl:∀ts p,f ts = .ok p→p.2.length<ts.length) (d:Int) (hd:0≤d∧d≤16) (B:Nat) (hBB:B≤100000000) (hv:Hval jZ f (d+1) B) (obj:Bool) (kd a b:Int) (tx cl:ah) :
  ∀(F:Nat) (ns:List ah) (is:List Json) (ts:List Token),ts.length<F→CW ts→ts.length≤B→ns.length+ts.length≤1000000000→is.length+ts.length≤1000000000 →
  Both (fun p:(List ah×List Json)×List Token=>CW p.2∧∀e0,aJ jZ F cl ts 0 obj kd a b tx ns is.length d is e0=e0 p.2 0 obj kd a b tx p.1.1 p.1.2.length d p.1.2)
   (fun q=>(CW q.2∧q.1≠0)∧∃ns' n' is',∀e0,aJ jZ F cl ts 0 obj kd a b tx ns is.length d is e0=e0 q.2 q.1 obj kd a b tx ns' n' d is')
   (zA f cl obj F ns is ts):=by
 intro F
 induction F with
 | zero=>intro ns is ts h; omega
 | succ F ih =>
  intro ns is ts hF he hB Rp Xd
  have e1:∀e0,aJ jZ (F+1) cl ts 0 obj kd a b tx ns is.length d is e0=nX aq (bl jZ) av (fun gk gn gw mC wa xT Eg Eh HH HI pF xU=>aJ jZ F gk gn gw mC wa xT Eg Eh HH HI pF xU e0) cl ts 0 obj kd a b tx ns is.length d is e0:=fun e0=>rfl
  let G:(List Token→Int→Bool→Int→Int→Int→ah→List ah→Nat→Int→List Json→Option R)→PartG R:=fun e0 y36 y37 y38 W8 ZN Z5 Z6 W9 y44 y45 y46 =>
   bif (y46 != 0)then (e0 y45 y46 y36 y37 y38 W8 ZN Z5 Z6 W9 y44)else (av cl y45 y46 (fun y80 y81 y82=>bif y80 then (e0 y81 y82 y36 y37 y38 W8 ZN Z5 Z6 W9 y44)else (av [44] y81 y82 (fun y86 y87 y88=>bif (!y86)then (aq 40 y87 y88 (fun y89 y90=>e0 y89 y90 y36 y37 y38 W8 ZN Z5 Z6 W9 y44))else (aJ jZ F cl y87 y88 y36 y37 y38 W8 ZN Z5 Z6 W9 y44 e0)))))
  have e2:∀e0,aJ jZ (F+1) cl ts 0 obj kd a b tx ns is.length d is e0=bl jZ obj kd a b tx ns is.length d is ts 0 (fun a1 a2 a3 a4 a5 a6 a7 a8 t e i=>G e0 a1 a2 a3 a4 a5 a6 a7 a8 i t e) (G e0) (fun a1 a2 a3 a4 a5 a6 a7 a8 t e i=>G e0 a1 a2 a3 a4 a5 a6 a7 a8 i t e) (G e0):=fun e0=>rfl
  have hp:=parts_ok jZ f d hd B hv obj kd a b tx ns is ts he hB (by omega) (by omega)
  simp only[zA]
  cases hq:xN f obj ns is ts with
  | error q =>
   rw[hq]at hp
   obtain ⟨h1,ns',n',is',h2⟩:=hp
   refine ⟨h1,ns',n',is',fun e0 => ?_⟩
   rw[e2,h2]
   show (bif (q.1 != 0)then _ else _)=_
   have:(q.1 != 0)=true:=by simpa using h1.2
   rw[this,cond_true]
  | ok q =>
   obtain ⟨⟨ns1,is1⟩,R2⟩:=q
   rw[hq]at hp
   obtain ⟨h1,h2⟩:=hp
   have hlen:=U7 hfl hq
   have hout:=partS_out hq
   simp only at h1 h2 hlen hout ⊢
   have s1:=fun k:Bool→List Token→Int→Option R=>Pz cl h1.ne k
   cases hs:ki cl R2 with
   | some r =>
    rw[hs]at s1
    refine ⟨KS h1 hs,fun e0 => ?_⟩
    rw[e2,h2]
    show av cl R2 0 _=_
    rw[s1]
    rfl
   | none =>
    rw[hs]at s1
    have s2:=fun k:Bool→List Token→Int→Option R=>Pz [44] h1.ne k
    simp only
    cases hs2:ki [44] R2 with
    | none =>
     rw[hs2]at s2
     refine ⟨⟨h1,by show (_:Int)≠0; simp⟩,ns1,is1.length,is1,fun e0 => ?_⟩
     rw[e2,h2]
     show av cl R2 0 _=_
     rw[s1]
     show av [44] R2 0 _=_
     rw[s2]
     rfl
    | some r =>
     rw[hs2]at s2
     have hl3:=Gy hs2
     have hih:=ih ns1 is1 r (by omega) (KS h1 hs2) (by omega) (by omega) (by omega)
     have e3:∀e0,aJ jZ (F+1) cl ts 0 obj kd a b tx ns is.length d is e0=aJ jZ F cl r 0 obj kd a b tx ns1 is1.length d is1 e0:=fun e0=>by
      rw[e2,h2]
      show av cl R2 0 _=_
      rw[s1]
      show av [44] R2 0 _=_
      rw[s2]
      rfl
     simp only[e3]
     exact hih
theorem list_ok {R:Type} (jZ:aD R) (f:List Token→Except WQ (Json×List Token)) (hfl:∀ts p,f ts = .ok p→p.2.length<ts.length) (d:Int) (hd:0≤d∧d≤16) (B:Nat) (hBB:B≤100000000) (hv:Hval jZ f (d+1) B) (obj:Bool) (kd a b:Int) (tx cl:ah)
  (r:List Token) (he:CW r) (hB:r.length≤B) (hs:ki cl r=none) :
  Both (fun p:(List ah×List Json)×List Token=>CW p.2∧∀K0 (K:Json→List Token→Int→Option R),bU jZ cl r 0 obj kd a b tx d K0 (fun HJ G1 Iy EN Sb Nr ZM V9 GQ y22 y23=>K ⟨EN,⟨Sb,Nr⟩,ZM,V9,y23⟩ HJ G1)=K ⟨kd,⟨a,b⟩,tx,p.1.1,p.1.2⟩ p.2 0)
   (fun q=>(CW q.2∧q.1≠0)∧∃v,∀K0 (K:Json→List Token→Int→Option R),bU jZ cl r 0 obj kd a b tx d K0 (fun HJ G1 Iy EN Sb Nr ZM V9 GQ y22 y23=>K ⟨EN,⟨Sb,Nr⟩,ZM,V9,y23⟩ HJ G1)=K v q.2 q.1) (zA f cl obj (r.length+1) [] [] r):=by
 have e1:∀K0 K1,bU jZ cl r 0 obj kd a b tx d K0 K1=av cl r 0 (fun um vQ yK=>bif um then (K0 vQ yK obj kd a b tx d)else (aJ jZ (List.length cl+List.length vQ+Int.natAbs yK+Int.natAbs kd+Int.natAbs a+Int.natAbs b+List.length tx+List.length ([]:List ah)+Int.natAbs d+List.length ([]:List Json)+64) cl vQ yK obj kd a b tx ([]:List ah) 0 d ([]:List Json) K1)):=fun K0 K1=>rfl
 have s1:=fun k:Bool→List Token→Int→Option R=>Pz cl he.ne k
 rw[hs]at s1
 have hl:=loop_ok jZ f hfl d hd B hBB hv obj kd a b tx cl (List.length cl+List.length r+Int.natAbs 0+Int.natAbs kd+Int.natAbs a+Int.natAbs b+List.length tx+List.length ([]:List ah)+Int.natAbs d+List.length ([]:List Json)+64) [] [] r (by omega) he hB (by simp; omega) (by simp; omega)
 have e2:∀K0 K1,bU jZ cl r 0 obj kd a b tx d K0 K1=aJ jZ (List.length cl+List.length r+Int.natAbs 0+Int.natAbs kd+Int.natAbs a+Int.natAbs b+List.length tx+List.length ([]:List ah)+Int.natAbs d+List.length ([]:List Json)+64) cl r 0 obj kd a b tx ([]:List ah) ([]:List Json).length d ([]:List Json) K1:=fun K0 K1=>by
  rw[e1,s1]
  rfl
 rw[Zj hfl _ (r.length+1) [] [] r (by omega) (by omega)]at hl
 cases hq:zA f cl obj (r.length+1) [] [] r with
 | error q =>
  rw[hq]at hl
  obtain ⟨h1,ns',n',is',h2⟩:=hl
  exact ⟨h1,⟨kd,⟨a,b⟩,tx,ns',is'⟩,fun K0 K=>by rw[e2,h2]⟩
 | ok p =>
  rw[hq]at hl
  obtain ⟨h1,h2⟩:=hl
  exact ⟨h1,fun K0 K=>by rw[e2,h2]⟩
theorem list_none {R:Type} (jZ:aD R) (obj:Bool) (kd a b d:Int) (tx cl:ah) (r r':List Token) (hn:r ≠ []) (hs:ki cl r=some r') (K0 K1) :
  bU (R:=R) jZ cl r 0 obj kd a b tx d K0 K1=K0 r' 0 obj kd a b tx d:=by
 have e1:bU jZ cl r 0 obj kd a b tx d K0 K1=av cl r 0 (fun um vQ yK=>bif um then (K0 vQ yK obj kd a b tx d)else (aJ jZ (List.length cl+List.length vQ+Int.natAbs yK+Int.natAbs kd+Int.natAbs a+Int.natAbs b+List.length tx+List.length ([]:List ah)+Int.natAbs d+List.length ([]:List Json)+64) cl vQ yK obj kd a b tx ([]:List ah) 0 d ([]:List Json) K1)):=rfl
 rw[e1,Pz cl hn,hs]
 rfl
theorem parts_t {R:Type} (jZ:aD R) (d:Int) (r:List Token) (q:Json→List Token→Int→Option R):cU jZ true d r 0 q =
  bU jZ [125] r 0 true 7 0 0 [] d (fun y5 y6 y7 y8 y9 um vQ yK=>q ⟨y8,⟨y9,um⟩,vQ, [], []⟩ y5 y6) (fun HJ G1 Iy EN Sb Nr ZM V9 GQ y22 y23=>q ⟨EN,⟨Sb,Nr⟩,ZM,V9,y23⟩ HJ G1):=rfl
theorem parts_f {R:Type} (jZ:aD R) (d:Int) (r:List Token) (q:Json→List Token→Int→Option R):cU jZ false d r 0 q =
  bU jZ [93] r 0 false 6 0 0 [] d (fun y5 y6 y7 y8 y9 um vQ yK=>q ⟨y8,⟨y9,um⟩,vQ, [], []⟩ y5 y6) (fun HJ G1 Iy EN Sb Nr ZM V9 GQ y22 y23=>q ⟨EN,⟨Sb,Nr⟩,ZM,V9,y23⟩ HJ G1):=rfl
section
variable {R:Type} (jZ:aD R) (d:Int) (t:Token) (r:List Token) (k:Json→List Token→Int→Option R)
def J18:Option R:=bif (t.kind==3)then k ⟨4,⟨t.num.ao,t.num.exp⟩, [], [], []⟩ r 0 else k ⟨5,⟨0,0⟩,t.text, [], []⟩ r 0
def J16 (z:Bool):Option R:=bif z then (bif (t.kind==4)then k ⟨ml .str (.int .i64) t.text Zi,⟨0,0⟩, [], [], []⟩ r 0 else J18 t r k)else J18 t r k
def J17 (z:Bool):Option R:=bif z then (bif (t.kind==1)then cU jZ (t.text == [123]) d r 0 (fun yK HJ G1=>k ⟨yK.kind,⟨yK.num.ao,yK.num.exp⟩,yK.text,yK.names,yK.items⟩ HJ G1)else J18 t r k)
 else (bif (t.text==rP)then J16 t r k (t.text==rP)else (bif (t.text==lr)then J16 t r k (t.text==lr)else J16 t r k (t.text==wP)))
def J19:Option R:=cb (decide ((1:Int)≤((t::r).length:Int))) (bif (t.text == [91])then J17 jZ d t r k (t.text == [91])else J17 jZ d t r k (t.text == [123]))
def J20 (z:Bool):Option R:=bif (!z)then k ⟨0,⟨0,0⟩, [], [], []⟩ (t::r) 40 else (bif (decide (d>16))then k ⟨0,⟨0,0⟩, [], [], []⟩ (t::r) 41 else J19 jZ d t r k)
end
theorem value_head {R:Type} (n:Nat) (d:Int) (t:Token) (r:List Token) (k:Json→List Token→Int→Option R):bp (n+1) d (t::r) 0 k=J20 (bp n) d t r k (uj t):=by
 have e0:bp (n+1) d (t::r) 0 k=cb (decide ((0:Int)<((t::r).length:Int))) (let j:=J20 (bp n) d t r k; bif (t.kind==2)then j true else (bif (t.kind==3)then j true else (bif (t.kind==4)then j true else (bif (t.kind==1)then (bif (t.text == [91])then j true else j (t.text == [123]))else j false)))):=rfl
 rw[e0,aw D9]
 unfold uj HB
 simp only
 cases t.kind==2 <;> cases t.kind==3 <;> cases t.kind==4 <;> cases t.kind==1 <;> cases t.text == [91] <;> rfl
theorem open_named {x:ah} (h:HB x=true):DM x=false:=by
 unfold HB at h
 rw[Bool.or_eq_true,beq_iff_eq,beq_iff_eq]at h
 rcases h with rfl|rfl <;> rfl
theorem value_ok {R:Type} (B:Nat) (hBB:B≤100000000):∀(n:Nat) (d:Int),0≤d→d≤17→17 - d<n→Hval (R:=R) (bp n) (yB n d) d B:=by
 intro n
 induction n with
 | zero=>intro d h0 h1 h2; omega
 | succ n ih =>
  intro d h0 h1 h2 ts he hB
  cases ts with
  | nil=>exact (he.ne rfl).elim
  | cons t r =>
   simp only[yB]
   have hv:=fun k=>value_head (R:=R) n d t r k
   cases hst:uj t with
   | false =>
    rw[if_pos rfl]
    rw[hst]at hv
    exact ⟨⟨he,by show (_:Int)≠0; simp⟩,_,fun k=>hv k⟩
   | true =>
    rw[if_neg (by simp)]
    rw[hst]at hv
    by_cases hd:d>16
    ·rw[if_pos hd]
     refine ⟨⟨he,by show (_:Int)≠0; simp⟩,⟨0,⟨0,0⟩, [], [], []⟩,fun k => ?_⟩
     rw[hv]
     unfold J20
     have e1:decide (d>16)=true:=by simpa using hd
     rw[e1]
     rfl
    ·rw[if_neg hd]
     have hk5:t.kind≠5:=by
      intro h5
      simp[uj,h5]at hst
     have her:=he.tail hk5
     have hrB:r.length≤B:=by simp only[List.length_cons]at hB; omega
     have hv2:∀k,bp (n+1) d (t::r) 0 k=J17 (bp n) d t r k (HB t.text):=fun k=>by
      rw[hv]
      unfold J20
      have e1:decide (d>16)=false:=by simpa using hd
      rw[e1,Bool.not_true,cond_false,cond_false]
      unfold J19
      rw[aw Xf]
      unfold HB
      cases t.text == [91] <;> rfl
     have h18:¬(t.kind=1∧HB t.text=true)→¬(t.kind=4∧DM t.text=true)→∀k,bp (n+1) d (t::r) 0 k=J18 t r k:=fun g1 g2 k=>by
      rw[hv2]
      unfold J17
      cases ho:HB t.text with
      | true =>
       have:(t.kind==1)=false:=by
        rw[beq_eq_false_iff_ne]
        exact fun h=>g1 ⟨h,ho⟩
       rw[cond_true,this,cond_false]
      | false =>
       rw[cond_false]
       have hnm:(bif (t.text==rP)then J16 t r k (t.text==rP)else (bif (t.text==lr)then J16 t r k (t.text==lr)else J16 t r k (t.text==wP)))=J16 t r k (DM t.text):=by
        unfold DM
        cases t.text==rP <;> cases t.text==lr <;> rfl
       rw[hnm]
       unfold J16
       cases hn:DM t.text with
       | false=>rfl
       | true =>
        have:(t.kind==4)=false:=by
         rw[beq_eq_false_iff_ne]
         exact fun h=>g2 ⟨h,hn⟩
        rw[cond_true,this,cond_false]
     by_cases hop:t.kind=1∧HB t.text=true
     ·rw[if_pos hop]
      have ek:(t.kind==1)=true:=by simpa using hop.1
      have hvp:∀k,bp (n+1) d (t::r) 0 k=cU (bp n) (t.text == [123]) d r 0 k:=fun k=>by
       rw[hv2]
       unfold J17
       rw[hop.2,cond_true,ek,cond_true]
       simp only[Json.eta]
      have jZ:=ih (d+1) (by omega) (by omega) (by omega)
      have hfl:=fun ts p=>valS_len n (d+1) ts p
      cases hobj:t.text == [123]with
      | true =>
       simp only[if_true]
       rw[hobj]at hvp
       cases hs:ki [125] r with
       | some r' =>
        refine ⟨KS her hs,fun k => ?_⟩
        rw[hvp]
        rw[parts_t]
        rw[list_none _ _ _ _ _ _ _ _ _ _ her.ne hs]
       | none =>
        have hl:=list_ok (R:=R) _ _ hfl d ⟨h0,by omega⟩ B hBB jZ true 7 0 0 [] [125] r her hrB hs
        simp only
        cases hq:zA (yB n (d+1)) [125] true (r.length+1) [] [] r with
        | error q =>
         rw[hq]at hl
         obtain ⟨g1,v,g2⟩:=hl
         refine ⟨g1,v,fun k => ?_⟩
         rw[hvp]
         rw[parts_t]
         exact g2 _ k
        | ok p =>
         rw[hq]at hl
         obtain ⟨g1,g2⟩:=hl
         refine ⟨g1,fun k => ?_⟩
         rw[hvp]
         rw[parts_t]
         exact g2 _ k
      | false =>
       simp only[Bool.false_eq_true,if_false]
       rw[hobj]at hvp
       cases hs:ki [93] r with
       | some r' =>
        refine ⟨KS her hs,fun k => ?_⟩
        rw[hvp]
        rw[parts_f]
        rw[list_none _ _ _ _ _ _ _ _ _ _ her.ne hs]
       | none =>
        have hl:=list_ok (R:=R) _ _ hfl d ⟨h0,by omega⟩ B hBB jZ false 6 0 0 [] [93] r her hrB hs
        simp only
        cases hq:zA (yB n (d+1)) [93] false (r.length+1) [] [] r with
        | error q =>
         rw[hq]at hl
         obtain ⟨g1,v,g2⟩:=hl
         refine ⟨g1,v,fun k => ?_⟩
         rw[hvp]
         rw[parts_f]
         exact g2 _ k
        | ok p =>
         rw[hq]at hl
         obtain ⟨g1,g2⟩:=hl
         refine ⟨g1,fun k => ?_⟩
         rw[hvp]
         rw[parts_f]
         exact g2 _ k
     ·rw[if_neg hop]
      by_cases hnm:t.kind=4∧DM t.text=true
      ·rw[if_pos hnm]
       refine ⟨her,fun k => ?_⟩
       rw[hv2]
       have ho:HB t.text=false:=by
        cases ho:HB t.text with
        | false=>rfl
        | true=>rw[open_named ho]at hnm; cases hnm.2
       have ek:(t.kind==4)=true:=by simpa using hnm.1
       unfold J17
       rw[ho,cond_false]
       have T3:(bif (t.text==rP)then J16 t r k (t.text==rP)else (bif (t.text==lr)then J16 t r k (t.text==lr)else J16 t r k (t.text==wP)))=J16 t r k (DM t.text):=by
        unfold DM
        cases t.text==rP <;> cases t.text==lr <;> rfl
       rw[T3,hnm.2]
       unfold J16
       rw[ek]
       rfl
      ·rw[if_neg hnm]
       have h:=h18 hop hnm
       by_cases hk3:t.kind=3
       ·rw[if_pos hk3]
        refine ⟨her,fun k => ?_⟩
        rw[h]
        unfold J18
        have ek:(t.kind==3)=true:=by simpa using hk3
        rw[ek]
        rfl
       ·rw[if_neg hk3]
        refine ⟨her,fun k => ?_⟩
        rw[h]
        unfold J18
        have ek:(t.kind==3)=false:=by simpa using hk3
        rw[ek]
        rfl
theorem scanN_len:∀(n p:Nat) (s:ah) (out:List Token),(xM n p s out).1.length≤out.length+s.length+1
 | 0,_,_,_=>by simp[xM]
 | n+1,p,s,out=>by
  simp only[xM]
  split
  ·simp <;> omega
  ·split
   ·simp
   ·rename_i t r hr
    have h1:=(tokS_sfx hr).2
    have h2:=Bw tm s
    have h3:=scanN_len n (p+(s.length - r.length)) r (out ++ [putT t ((p+(s.takeWhile tm).length:Nat):Int)])
    rw[List.length_append,List.length_cons,List.length_nil]at h3
    omega
theorem scanS_len (s:ah):(rQ s).1.length≤20002:=by
 unfold rQ
 split
 ·simp
 ·have:=scanN_len (s.length+1) 0 s []
  simp at this
  omega
def stT (t:Token):Int×ah×fv:=(t.kind,t.text,t.num)
theorem tokW_st:∀(l:List qH) (p:Nat),(tokW p l).map stT=l.map fun x=>stT x.2.2
 | [],_=>rfl
 | x::l,p=>by simp only[tokW,List.map_cons,tokW_st l]; rfl
theorem scanN_end:∀(n p:Nat) (s:ah) (out:List Token),s.length<n→(xM n p s out).2.1=0→CW (xM n p s out).1
 | 0,_,_,_,h,_=>by omega
 | n+1,p,s,out,h,he=>by
  simp only[xM]at he ⊢
  by_cases hd:s.dropWhile tm = []
  ·rw[if_pos hd]
   exact ⟨_,List.getLast?_concat ..,rfl⟩
  ·rw[if_neg hd]at he ⊢
   cases hr:tokS (s.dropWhile tm)with
   | none=>rw[hr]at he; cases he
   | some q =>
    obtain ⟨t,r⟩:=q
    rw[hr]at he
    have h3:=(tokS_sfx hr).2
    have h4:=Bw tm s
    exact scanN_end n _ r _ (by omega) he
theorem scanS_end (s:ah) (he:(rQ s).2.1=0):CW (rQ s).1:=by
 unfold rQ at he ⊢
 split at he
 ·cases he
 ·rename_i h
  rw[if_neg h]
  exact scanN_end _ _ _ _ (by omega) he
def tj (s:ah):Json×Int×Int :=
 if (rQ s).2.1≠0 then (⟨0,⟨0,0⟩, [], [], []⟩,(rQ s).2.1,(rQ s).2.2)else
 match yB 40 1 (rQ s).1 with
 | .error b=>(⟨0,⟨0,0⟩, [], [], []⟩,b.1,(b.2.getD 0 ⟨0, [],⟨0,0⟩,0⟩).at_)
 | .ok (v,r)=>if (r.getD 0 ⟨0, [],⟨0,0⟩,0⟩).kind≠5 then (⟨0,⟨0,0⟩, [], [], []⟩,40,(r.getD 0 ⟨0, [],⟨0,0⟩,0⟩).at_)else (v,0,0)
theorem jparse_ok {R:Type} (s:ah) (k:Json→Int→Int→Option R):fB s k=k (tj s).1 (tj s).2.1 (tj s).2.2:=by
 have e0:fB s k=Gb aq de nh s k:=rfl
 rw[e0]
 unfold Gb tj
 rw[scan_ok]
 by_cases h:(rQ s).2.1=0
 rotate_left
 ·have e1:((rQ s).2.1 != 0)=true:=by simpa using h
  rw[if_pos h,e1]
  rfl
 have e1:((rQ s).2.1 != 0)=false:=by simpa using h
 rw[if_neg (by simpa using h),e1,cond_false]
 have hE:=scanS_end s h
 have hL:=scanS_len s
 have hv:=value_ok (R:=R) 20002 (by omega) 40 1 (by omega) (by omega) (by omega) (rQ s).1 hE hL
 have e2:∀q,de (R:=R) 1 (rQ s).1 0 q=bp 40 1 (rQ s).1 0 q:=fun q=>rfl
 rw[e2]
 cases hq:yB 40 1 (rQ s).1 with
 | error b =>
  rw[hq]at hv
  obtain ⟨⟨g1,g2⟩,v,g3⟩:=hv
  rw[g3]
  obtain ⟨c,r⟩:=b
  cases r with
  | nil=>exact (g1.ne rfl).elim
  | cons t r =>
   have e3:(c != 0)=true:=by simpa using g2
   have hf:∀q:List Token→Int→Option R,aq 40 (t::r) c q=q (t::r) c:=fun q=>by
    show (bif c==0 then q (t::r) 40 else q (t::r) c)=_
    have e4:(c==0)=false:=by simpa using g2
    rw[e4]; rfl
   rw[aw D9]
   simp only[hf]
   have hz:∀z:Bool,(bif z then (bif (c != 0)then cb (decide ((0:Int)<((t::r).length:Int))) (k ⟨0,⟨0,0⟩, [], [], []⟩ c t.at_)else k v 0 0)else (bif (c != 0)then cb (decide ((0:Int)<((t::r).length:Int))) (k ⟨0,⟨0,0⟩, [], [], []⟩ c t.at_)else k v 0 0))=k ⟨0,⟨0,0⟩, [], [], []⟩ c t.at_:=fun z=>by
    rw[e3,aw D9]
    cases z <;> rfl
   have:=hz (t.kind != 5)
   obtain ⟨kd,⟨n1,n2⟩,tx,ns,is⟩:=v
   exact this
 | ok p =>
  rw[hq]at hv
  obtain ⟨g1,g2⟩:=hv
  obtain ⟨v,r⟩:=p
  rw[g2]
  cases r with
  | nil=>exact (g1.ne rfl).elim
  | cons t r =>
   rw[aw D9]
   by_cases hk:t.kind=5
   ·have e3:(t.kind != 5)=false:=by simpa using hk
    have:((((v,t::r):Json×List Token).2).getD 0 (Ty.aZ .token)).kind=t.kind:=rfl
    show (bif (t.kind != 5)then _ else _)=_
    rw[e3,cond_false]
    obtain ⟨kd,⟨n1,n2⟩,tx,ns,is⟩:=v
    show k ⟨kd,⟨n1,n2⟩,tx,ns,is⟩ 0 0=_
    have uo:¬(((t::r).getD 0 ⟨0, [],⟨0,0⟩,0⟩).kind≠5):=fun h=>h hk
    simp only
    rw[if_neg uo]
   ·have e3:(t.kind != 5)=true:=by simpa using hk
    show (bif (t.kind != 5)then _ else _)=_
    rw[e3,cond_true]
    show cb (decide ((0:Int)<((t::r).length:Int))) (k ⟨0,⟨0,0⟩, [], [], []⟩ 40 t.at_)=_
    rw[aw D9]
    have uo:(((t::r).getD 0 ⟨0, [],⟨0,0⟩,0⟩).kind≠5):=hk
    simp only
    rw[if_pos uo]
    rfl
def stW (x:qH):Int×ah×fv:=stT x.2.2
theorem MD {ts:List Token} {x:qH} {l:List qH} (h:ts.map stT=(x::l).map stW):∃t r,ts=t::r∧stT t=stW x∧r.map stT=l.map stW:=by
 cases ts with
 | nil=>cases h
 | cons t r =>
  simp only[List.map_cons,List.cons.injEq]at h
  exact ⟨t,r,rfl,h.1,h.2⟩
theorem st_app {ts:List Token} {a b:List qH} (h:ts.map stT=(a++b).map stW):∃u v,ts=u++v∧u.map stT=a.map stW∧v.map stT=b.map stW:=by
 rw[List.map_append]at h
 obtain ⟨u,v,e,h1,h2⟩:=List.map_eq_append_iff.1 h
 exact ⟨u,v,e,h1,h2⟩
theorem Zk {ts:List Token} {x:qH} (h:ts.map stT = [x].map stW):∃t,ts = [t]∧stT t=stW x:=by
 obtain ⟨t,r,e,h1,h2⟩:=MD h
 cases r with
 | nil=>exact ⟨t,e,h1⟩
 | cons u r=>cases h2
theorem CG {t:Token} {x:qH} (h:stT t=stW x):t.kind=x.2.2.kind∧t.text=x.2.2.text∧t.num=x.2.2.num:=by
 unfold stW stT at h
 simp only[Prod.mk.injEq]at h
 exact h
theorem val_name {n:Nat} {d:Int} (hd:d≤16) {t:Token} {rest:List Token} {x:ah} (hx:x=rP∨x=lr∨x=wP) (hk:t.kind=4) (ht:t.text=x) :
  yB (n+1) d (t::rest) = .ok (⟨ml .str (.int .i64) x Zi,⟨0,0⟩, [], [], []⟩,rest):=by
 have h1:uj t=true:=by simp[uj,hk]
 have h2:DM t.text=true:=by
  rw[ht]
  rcases hx with rfl|rfl|rfl <;> rfl
 simp only[yB]
 rw[if_neg (by rw[h1]; simp),if_neg (by omega),if_neg (by rw[hk]; simp),if_pos ⟨hk,h2⟩,ht]
theorem valS_sign {n:Nat} {d:Int} {ts:List Token} {p:Json×List Token} (h:yB n d ts = .ok p):ki [93] ts=none∧ki [125] ts=none:=by
 cases n with
 | zero=>cases h
 | succ n =>
  cases ts with
  | nil=>cases h
  | cons t r =>
   simp only[yB]at h
   by_cases hs:uj t=false
   ·rw[if_pos hs]at h; cases h
   ·have jT:∀x:ah,x = [93]∨x = [125]→¬(t.kind=1∧t.text=x):=fun x hx ⟨h1,h2⟩=>by
     apply hs
     rcases hx with rfl|rfl <;> simp[uj,HB,h1,h2]
    simp only[ki]
    rw[if_neg (jT _ (.inl rfl)),if_neg (jT _ (.inr rfl))]
    exact ⟨rfl,rfl⟩
mutual
theorem R3:∀(v:Json) (d:Int) (n:Nat) (ts rest:List Token),dO v d=true→17 - d<n→ts.map stT=(ui v).map stW→yB n d (ts++rest) = .ok (v,rest)
 | ⟨k,nm,t,ns,is⟩,d,0,ts,rest,h,hn,hw=>by
  have:d≤16:=by
   cases eW.1 h <;> assumption
  omega
 | ⟨k,nm,t,ns,is⟩,d,n+1,ts,rest,h,hn,hw=>by
  have hL:=listS_wL is
  have hO:=listS_wO ns is
  cases eW.1 h with
  | name _ _ hd hk =>
   have SA:∀x:ah,(x=rP∨x=lr∨x=wP)→ts.map stT = [(([],x,⟨4,x,⟨0,0⟩,0⟩):qH)].map stW→yB (n+1) d (ts++rest) = .ok (⟨ml .str (.int .i64) x Zi,⟨0,0⟩, [], [], []⟩,rest):=fun x hx hw=>by
    obtain ⟨u,rfl,hu⟩:=Zk hw
    obtain ⟨h1,h2,_⟩:=CG hu
    exact val_name hd hx h1 h2
   rcases hk with rfl|rfl|rfl
   ·exact SA rP (.inl rfl) hw
   ·exact SA lr (.inr (.inl rfl)) hw
   ·exact SA wP (.inr (.inr rfl)) hw
  | num _ _ hd hnm =>
   obtain ⟨u,rfl,hu⟩:=Zk (x:=([],AI nm,⟨3,AI nm,nm,0⟩)) hw
   obtain ⟨h1,h2,h3⟩:=CG hu
   simp only at h1 h2 h3
   have hs:uj u=true:=by simp[uj,h1]
   show yB (n+1) d (u::rest)=_
   simp only[yB]
   rw[if_neg (by rw[hs]; simp),if_neg (by omega),if_neg (by rw[h1]; simp),if_neg (by rw[h1]; simp),if_pos h1,h3]
  | text _ _ hd ht =>
   obtain ⟨u,rfl,hu⟩:=Zk (x:=txW t) hw
   obtain ⟨h1,h2,h3⟩:=CG hu
   simp only[txW]at h1 h2 h3
   have hs:uj u=true:=by simp[uj,h1]
   show yB (n+1) d (u::rest)=_
   simp only[yB]
   rw[if_neg (by rw[hs]; simp),if_neg (by omega),if_neg (by rw[h1]; simp),if_neg (by rw[h1]; simp),if_neg (by rw[h1]; simp),h2]
  | arr _ _ hd hi =>
   obtain ⟨u,R2,rfl,hu,hw2⟩:=MD (x:=sg 91) (l:=rq is true ++ [sg 93]) hw
   obtain ⟨tl,tc,rfl,hl,Qr⟩:=st_app hw2
   obtain ⟨c,rfl,hc⟩:=Zk Qr
   obtain ⟨h1,h2,_⟩:=CG hu
   obtain ⟨c1,c2,_⟩:=CG hc
   simp only[sg]at h1 h2 c1 c2
   have I7:HB u.text=true:=by rw[h2]; rfl
   have hs:uj u=true:=by simp[uj,h1,I7]
   have ho7:(u.text==([123]:ah))=false:=by rw[h2]; rfl
   show yB (n+1) d (u::(tl ++ [c]++rest))=_
   simp only[yB]
   rw[if_neg (by rw[hs]; simp),if_neg (by omega),if_pos ⟨h1,I7⟩,ho7]
   simp only[Bool.false_eq_true,if_false]
   cases is with
   | nil =>
    obtain rfl:tl = []:=by simpa [rq]using hl
    show (match ki [93] (c::rest)with|some r'=>_|none=>_)=_
    have:ki [93] (c::rest)=some rest:=by
     show (if c.kind=1∧c.text = [93]then some rest else none)=some rest
     rw[if_pos ⟨c1,c2⟩]
    rw[this]
   | cons x l =>
    obtain ⟨e1,e2⟩:=hL d n (tl ++ [c]++rest).length.succ [] [] tl c rest (by simp) hi (by omega) (by simp; omega) hl c1 c2
    rw[e1,e2]
    rfl
  | obj _ _ _ hd hlen hu7 hi =>
   obtain ⟨u,R2,rfl,hu,hw2⟩:=MD (x:=sg 123) (l:=nr ns is true ++ [sg 125]) hw
   obtain ⟨tl,tc,rfl,hl,Qr⟩:=st_app hw2
   obtain ⟨c,rfl,hc⟩:=Zk Qr
   obtain ⟨h1,h2,_⟩:=CG hu
   obtain ⟨c1,c2,_⟩:=CG hc
   simp only[sg]at h1 h2 c1 c2
   have I7:HB u.text=true:=by rw[h2]; rfl
   have hs:uj u=true:=by simp[uj,h1,I7]
   have ho7:(u.text==([123]:ah))=true:=by rw[h2]; rfl
   show yB (n+1) d (u::(tl ++ [c]++rest))=_
   simp only[yB]
   rw[if_neg (by rw[hs]; simp),if_neg (by omega),if_pos ⟨h1,I7⟩,ho7]
   simp only[if_true]
   cases is with
   | nil =>
    obtain rfl:ns = []:=List.eq_nil_of_length_eq_zero hlen
    obtain rfl:tl = []:=by simpa [nr]using hl
    show (match ki [125] (c::rest)with|some r'=>_|none=>_)=_
    have:ki [125] (c::rest)=some rest:=by
     show (if c.kind=1∧c.text = [125]then some rest else none)=some rest
     rw[if_pos ⟨c1,c2⟩]
    rw[this]
   | cons x l =>
    obtain ⟨e1,e2⟩:=hO d n (tl ++ [c]++rest).length.succ [] [] [] tl c rest (by simp) hlen hi hu7 (fun n=>rfl) (by omega) (by simp; omega) hl c1 c2
    rw[e1,e2]
    rfl
theorem listS_wL:∀(is:List Json) (d:Int) (n m:Nat) (ns0:List ah) (is0:List Json) (tl:List Token) (c:Token) (rest:List Token),is ≠ []→dQ is (d+1)=true→17 - (d+1)<n→tl.length<m →
  tl.map stT=(rq is true).map stW→c.kind=1→c.text = [93]→ki [93] (tl ++ [c]++rest)=none∧zA (yB n (d+1)) [93] false m ns0 is0 (tl ++ [c]++rest) = .ok ((ns0,is0++is),rest)
 | [],_,_,_,_,_,_,_,_,h,_,_,_,_,_,_=>(h rfl).elim
 | x::l,d,n,0,ns0,is0,tl,c,rest,_,hr,hn,hm,hw,c1,c2=>by omega
 | x::l,d,n,m+1,ns0,is0,tl,c,rest,_,hr,hn,hm,hw,c1,c2=>by
  obtain ⟨tv,tr,rfl,hv,ht⟩:=st_app (a:=ui x) (b:=rq l false) hw
  simp only[dQ,Bool.and_eq_true]at hr
  have hx:=R3 x (d+1) n tv (tr ++ [c]++rest) hr.1 hn hv
  have hL:=listS_wL l
  rw[show tv++tr ++ [c]++rest=tv++(tr ++ [c]++rest) by simp]
  refine ⟨(valS_sign hx).1,?_⟩
  have hp:xN (yB n (d+1)) false ns0 is0 (tv++(tr ++ [c]++rest)) = .ok ((ns0,is0 ++ [x]),tr ++ [c]++rest):=by
   simp only[xN,hx]
  simp only[zA,hp]
  cases l with
  | nil =>
   obtain rfl:tr = []:=by simpa [rq]using ht
   have:ki [93] ([] ++ [c]++rest)=some rest:=by
    show (if c.kind=1∧c.text = [93]then some rest else none)=some rest
    rw[if_pos ⟨c1,c2⟩]
   rw[this]
  | cons y l' =>
   obtain ⟨u,tr',rfl,hu,ht'⟩:=MD (x:=sg 44) (l:=rq (y::l') true) ht
   obtain ⟨u1,u2,_⟩:=CG hu
   simp only[sg]at u1 u2
   have s1:ki [93] (u::tr' ++ [c]++rest)=none:=by
    show (if u.kind=1∧u.text = [93]then some (tr' ++ [c]++rest)else none)=none
    rw[if_neg (by rw[u2]; rintro ⟨_,h⟩; cases h)]
   have s2:ki [44] (u::tr' ++ [c]++rest)=some (tr' ++ [c]++rest):=by
    show (if u.kind=1∧u.text = [44]then some (tr' ++ [c]++rest)else none)=_
    rw[if_pos ⟨u1,u2⟩]
   rw[s1,s2]
   obtain ⟨_,e2⟩:=hL d n m ns0 (is0 ++ [x]) tr' c rest (by simp) hr.2 hn (by simp at hm; omega) ht' c1 c2
   simp only
   rw[e2]
   simp
theorem listS_wO:∀(ns:List ah) (is:List Json) (d:Int) (n m:Nat) (ns0:List ah) (is0:List Json) (seen:List ah) (tl:List Token) (c:Token) (rest:List Token),is ≠ []→ns.length=is.length→dQ is (d+1)=true→vM seen ns=true→(∀n,ns0.contains n=seen.contains n) →
  17 - (d+1)<n→tl.length<m →
  tl.map stT=(nr ns is true).map stW→c.kind=1→c.text = [125]→ki [125] (tl ++ [c]++rest)=none∧zA (yB n (d+1)) [125] true m ns0 is0 (tl ++ [c]++rest) = .ok ((ns0++ns,is0++is),rest)
 | _, [],_,_,_,_,_,_,_,_,_,h,_,_,_,_,_,_,_,_,_=>(h rfl).elim
 | [],x::l,d,n,m,ns0,is0,seen,tl,c,rest,_,hlen,hr,hu,hsn,hn,hm,hw,c1,c2=>by cases hlen
 | nm::ns,x::l,d,n,0,ns0,is0,seen,tl,c,rest,_,hlen,hr,hu,hsn,hn,hm,hw,c1,c2=>by omega
 | nm::ns,x::l,d,n,m+1,ns0,is0,seen,tl,c,rest,_,hlen,hr,hu,hsn,hn,hm,hw,c1,c2=>by
  obtain ⟨tn,tl1,rfl,hn1,hw1⟩:=MD (x:=txW nm) (l:=sg 58::(ui x++nr ns l false)) hw
  obtain ⟨tk,tl2,rfl,hk1,hw2⟩:=MD hw1
  obtain ⟨tv,tr,rfl,hv,ht⟩:=st_app hw2
  obtain ⟨n1,n2,_⟩:=CG hn1
  obtain ⟨k1,k2,_⟩:=CG hk1
  simp only[txW]at n1 n2
  simp only[sg]at k1 k2
  simp only[dQ,Bool.and_eq_true]at hr
  simp only[vM,Bool.and_eq_true,Bool.not_eq_true']at hu
  have hx:=R3 x (d+1) n tv (tr ++ [c]++rest) hr.1 hn hv
  have hO:=listS_wO ns l
  rw[show tn::tk::(tv++tr) ++ [c]++rest=tn::tk::(tv++(tr ++ [c]++rest)) by simp]
  refine ⟨?_,?_⟩
  ·show (if tn.kind=1∧tn.text = [125]then some _ else none)=none
   rw[if_neg (by rw[n1]; rintro ⟨h,_⟩; cases h)]
  have hnm:I2 ns0 (tn::tk::(tv++(tr ++ [c]++rest))) = .ok (nm,tv++(tr ++ [c]++rest)):=by
   simp only[I2]
   rw[if_neg (by rw[n1]; simp),if_neg (by rw[n2,hsn,hu.1.1]; simp)]
   have:ki [58] (tk::(tv++(tr ++ [c]++rest)))=some (tv++(tr ++ [c]++rest)):=by
    show (if tk.kind=1∧tk.text = [58]then some (tv++(tr ++ [c]++rest))else none)=_
    rw[if_pos ⟨k1,k2⟩]
   rw[this,n2]
  have hp:xN (yB n (d+1)) true ns0 is0 (tn::tk::(tv++(tr ++ [c]++rest))) = .ok ((ns0 ++ [nm],is0 ++ [x]),tr ++ [c]++rest):=by
   simp only[xN,hnm,hx]
  simp only[zA,hp]
  cases l with
  | nil =>
   obtain rfl:ns = []:=List.eq_nil_of_length_eq_zero (by simpa using hlen)
   obtain rfl:tr = []:=by simpa [nr]using ht
   have:ki [125] ([] ++ [c]++rest)=some rest:=by
    show (if c.kind=1∧c.text = [125]then some rest else none)=some rest
    rw[if_pos ⟨c1,c2⟩]
   rw[this]
  | cons y l' =>
   obtain ⟨u,tr',rfl,hu2,ht'⟩:=MD (x:=sg 44) (l:=nr ns (y::l') true) ht
   obtain ⟨u1,u2,_⟩:=CG hu2
   simp only[sg]at u1 u2
   have s1:ki [125] (u::tr' ++ [c]++rest)=none:=by
    show (if u.kind=1∧u.text = [125]then some (tr' ++ [c]++rest)else none)=none
    rw[if_neg (by rw[u2]; rintro ⟨_,h⟩; cases h)]
   have s2:ki [44] (u::tr' ++ [c]++rest)=some (tr' ++ [c]++rest):=by
    show (if u.kind=1∧u.text = [44]then some (tr' ++ [c]++rest)else none)=_
    rw[if_pos ⟨u1,u2⟩]
   rw[s1,s2]
   obtain ⟨_,e2⟩:=hO d n m (ns0 ++ [nm]) (is0 ++ [x]) (nm::seen) tr' c rest (by simp) (by simpa using hlen) hr.2 hu.2 (fun z=>by
    rw[List.contains_append,hsn,List.contains_cons,List.contains_cons,List.contains_nil,Bool.or_false,Bool.or_comm]) hn (by simp at hm; omega) ht' c1 c2
   simp only
   rw[e2]
   simp
end
theorem val_tail {v:Json} (h:dO v 1=true) (ts:List Token) (rest:List Token) (hw:ts.map stT=(ui v).map stW):yB 40 1 (ts++rest) = .ok (v,rest):=R3 v 1 40 ts rest h (by omega) hw
theorem parse_print {v:Json} (h:dO v 1=true) (hl:(cF v).length≤20000):tj (cF v)=(v,0,0):=by
 have hlay:=PX v []
 rw[List.append_nil]at hlay
 have uP:=TU v 1 h [] (.inl rfl)
 have hlen:=Zc (ui v) []
 have hs:=scanS_words (ui v) [] (by simp) uP (by rw[hlay]at hlen; simp at hlen ⊢; omega)
 rw[hlay]at hs
 have hv:=val_tail h (tokW 0 (ui v)) [⟨5, [],⟨0,0⟩,((Pv (ui v)+0:Nat):Int)⟩] (tokW_st _ _)
 unfold tj
 rw[hs]
 simp only[ne_eq,not_true_eq_false,if_false,List.length_nil]
 rw[hv]
 rfl
def tight (l:List qH):Prop:=∀x∈l,x.1 = []
mutual
theorem tightJ:∀v:Json,tight (ui v)
 | ⟨k,n,t,ns,is⟩=>by
  have hL:=tightL is
  have hO:=tightO ns is
  intro x hx
  simp only[ui]at hx
  split at hx
  ·simp at hx; rw[hx]
  split at hx
  ·simp at hx; rw[hx]
  split at hx
  ·simp at hx; rw[hx]
  split at hx
  ·simp at hx; rw[hx]
  split at hx
  ·simp[txW]at hx; rw[hx]
  split at hx
  ·simp only[List.mem_cons,List.mem_append,List.not_mem_nil,or_false]at hx
   rcases hx with rfl|hx|rfl
   ·rfl
   ·exact hO true x hx
   ·rfl
  ·simp only[List.mem_cons,List.mem_append,List.not_mem_nil,or_false]at hx
   rcases hx with rfl|hx|rfl
   ·rfl
   ·exact hL true x hx
   ·rfl
theorem tightL:∀(l:List Json) (first:Bool),tight (rq l first)
 | [],_=>by intro x hx; simp[rq]at hx
 | y::l,first=>by
  have h1:=tightJ y
  have h2:=tightL l false
  intro x hx
  simp only[rq,List.mem_append]at hx
  rcases hx with hx|hx|hx
  ·cases first
   ·simp at hx; rw[hx]; rfl
   ·simp at hx
  ·exact h1 x hx
  ·exact h2 x hx
theorem tightO:∀(ns:List ah) (l:List Json) (first:Bool),tight (nr ns l first)
 | _, [],_=>by intro x hx; simp[nr]at hx
 | ns,y::l,first=>by
  have h1:=tightJ y
  have h2:=tightO ns.tail l false
  intro x hx
  simp only[nr,List.mem_append,List.mem_cons]at hx
  rcases hx with hx|rfl|rfl|hx|hx
  ·cases first
   ·simp at hx; rw[hx]; rfl
   ·simp at hx
  ·rfl
  ·rfl
  ·exact h1 x hx
  ·exact h2 x hx
end
theorem print_ne (v:Json) (h:dO v 1=true):cF v ≠ []:=by
 intro e
 have h1:=PX v []
 rw[List.append_nil,e]at h1
 have uP:=TU v 1 h [] (.inl rfl)
 have hv:=val_tail h (tokW 0 (ui v)) [] (tokW_st _ _)
 cases hw:ui v with
 | nil=>rw[hw]at hv; cases hv
 | cons x l =>
  rw[hw]at h1 uP
  obtain ⟨_,⟨c,u,hc,_⟩,_⟩:=uP
  simp[uh,hc]at h1
theorem wq {R:Type} (t s:ah) (hv:fW t=true) (ht:t.length≤10000000000) (hl:(s++Pw t).length≤100000000000) (k:List Int→Option R):aL t (zs s) k=k (zs (s++Pw t)):=by
 obtain ⟨rs,hr,hc,rfl,_,hq⟩|⟨h,_⟩:=quote_any (R:=R) t ht
 ·have e:aL (fg rs) (zs s) k=dZ (fg rs) (fun y3 y4=>ae y3 (zs s) (fun y5 y6=>k y6)):=rfl
  rw[Xe hr]at hl ⊢
  rw[List.length_append]at hl
  rw[e,hq]
  exact ws (qt rs) s (by omega) (by unfold TN; omega) _
 ·rw[hv]at h; cases h
def EL (v:Json) (i:Nat):ah:=if v.kind=7 then jb (v.names.drop i) (v.items.drop i) (i==0)else jc (v.items.drop i) (i==0)
theorem Zl {R:Type} (f:dh R) (z:ah) (v:Json) (hl:v.items.length≤1099511627776) (h7:v.kind=7→v.names.length=v.items.length∧∀t∈v.names,fW t=true∧t.length≤10000000000)
  (hf:∀x∈v.items,∀(s:ah) (k:List Int→Option R),(s++cF x).length≤100000000000→f x (zs s) k=k (zs (s++cF x))) (e0:ah→List Int→Option R):∀(F i:Nat) (s:ah),i≤v.items.length→v.items.length - i<F→(s++EL v i).length≤100000000000 →
  aT f F z v.items (v.items.length:Int) (i:Int) (zs s) v e0=e0 z (zs (s++EL v i)):=by
 intro F
 induction F with
 | zero=>intro i s _ h; omega
 | succ F ih =>
  intro i s hi hF hb
  have eL:aT f (F+1) z v.items (v.items.length:Int) (i:Int) (zs s) v e0=iX ad f aL (fun gk gn gw mC wa xT=>aT f F gk gn gw mC wa xT e0) z v.items (v.items.length:Int) (i:Int) (zs s) v e0:=rfl
  rw[eL]
  unfold iX
  simp only[Json.eta]
  by_cases h:i<v.items.length
  rotate_left
  ·have h1:decide ((i:Int)<(v.items.length:Int))=false:=by simp; omega
   rw[h1,cond_false]
   have hd:v.items.drop i = []:=List.drop_eq_nil_of_le (by omega)
   have:EL v i = []:=by
    unfold EL
    rw[hd]
    split
    ·cases v.names.drop i <;> rfl
    ·rfl
   rw[this,List.append_nil]
  have h1:decide ((i:Int)<(v.items.length:Int))=true:=by simp; omega
  have h2:(decide ((0:Int)≤(i:Int))&&true)=true:=by simp
  have hw:IntKind.i64.wrap ((i:Int)+1)=((i+1:Nat):Int):=by rw[cA (by omega) (by omega)]; omega
  have hg:v.items.getD (i:Int).toNat (Ty.aZ .json)=v.items[i]:=getD_at h _
  have hr:EL v i=(if i=0 then []else [44])++((if v.kind=7 then Pw (v.names.getD i []) ++ [58]else [])++(cF v.items[i]++EL v (i+1))):=by
   unfold EL
   rw[List.drop_eq_getElem_cons h]
   by_cases h7':v.kind=7
   ·rw[if_pos h7',if_pos h7',if_pos h7']
    have hn:=(h7 h7').1
    have hni:i<v.names.length:=by omega
    rw[List.drop_eq_getElem_cons hni]
    simp only[jb,List.headD_cons,List.tail_cons]
    have:v.names.getD i []=v.names[i]:=getD_at hni _
    rw[this]
    by_cases h0:i=0
    ·subst h0; simp
    ·have e1:(i==0)=false:=by simpa using h0
     have e2:(i+1==0)=false:=rfl
     rw[e1,e2]
     simp[h0]
   ·rw[if_neg h7',if_neg h7',if_neg h7']
    simp only[jc]
    by_cases h0:i=0
    ·subst h0; simp
    ·have e1:(i==0)=false:=by simpa using h0
     have e2:(i+1==0)=false:=rfl
     rw[e1,e2]
     simp[h0]
  rw[hr]at hb ⊢
  rw[h1,cond_true,aw h2,hg,hw]
  -- from the name on
  have key:∀s':ah,(s'++((if v.kind=7 then Pw (v.names.getD i []) ++ [58]else [])++(cF v.items[i]++EL v (i+1)))).length≤100000000000 →
    (bif (v.kind==7)then (cb (decide ((0:Int)≤(i:Int))&&decide ((i:Int)<(v.names.length:Int))) (aL (v.names.getD (i:Int).toNat (Ty.aZ .str)) (zs s') (fun SP=>ad 58 SP (fun Jh=>f v.items[i] Jh (fun Qy=>aT f F z v.items (v.items.length:Int) ((i+1:Nat):Int) Qy v e0)))))else (f v.items[i] (zs s') (fun YC=>aT f F z v.items (v.items.length:Int) ((i+1:Nat):Int) YC v e0))) =
    e0 z (zs (s'++((if v.kind=7 then Pw (v.names.getD i []) ++ [58]else [])++(cF v.items[i]++EL v (i+1))))):=by
   intro s' pS
   by_cases h7':v.kind=7
   ·rw[if_pos h7']at pS ⊢
    have hk:(v.kind==7)=true:=by simpa using h7'
    have hn:=(h7 h7').1
    have hni:i<v.names.length:=by omega
    have hgn:v.names.getD (i:Int).toNat (Ty.aZ .str)=v.names.getD i []:=rfl
    have hgi:v.names.getD i []=v.names[i]:=getD_at hni _
    obtain ⟨hv1,hv2⟩:=(h7 h7').2 v.names[i] (List.getElem_mem hni)
    rw[hk,cond_true,aw (by simp; omega),hgn]
    rw[hgi]at pS ⊢
    have e58:((58:UInt8).toNat:Int)=58:=rfl
    simp only[List.length_append,List.length_cons,List.length_nil]at pS
    rw[wq _ _ hv1 hv2 (by rw[List.length_append]; omega),←e58,wb _ _ (by unfold TN; rw[List.length_append]; omega),hf _ (List.getElem_mem h) _ _ (by simp only[List.length_append,List.length_cons,List.length_nil]; omega),
     ih (i+1) _ (by omega) (by omega) (by simp only[List.length_append,List.length_cons,List.length_nil]; omega)]
    simp only[List.append_assoc]
   ·rw[if_neg h7']at pS ⊢
    have hk:(v.kind==7)=false:=by simpa using h7'
    rw[List.nil_append]at pS ⊢
    simp only[List.length_append]at pS
    rw[hk,cond_false,hf _ (List.getElem_mem h) _ _ (by rw[List.length_append]; omega),ih (i+1) _ (by omega) (by omega) (by simp only[List.length_append]; omega)]
    simp only[List.append_assoc]
  by_cases h0:i=0
  ·subst h0
   rw[if_pos rfl,List.nil_append]at hb ⊢
   exact key s hb
  ·rw[if_neg h0]at hb ⊢
   have e3:decide ((i:Int)>0)=true:=by simp; omega
   have e44:((44:UInt8).toNat:Int)=44:=rfl
   have W2:=hb
   simp only[List.length_append,List.length_cons,List.length_nil]at W2
   rw[e3,cond_true,←e44,wb _ _ (by unfold TN; omega)]
   have:=key (s ++ [44]) (by simp only[List.length_append,List.length_cons,List.length_nil]; omega)
   rw[List.append_assoc]at this
   exact this
theorem ME:∀(ns:List ah) (seen:List ah),vM seen ns=true→∀t∈ns,fW t=true
 | [],_,_,t,h=>by cases h
 | n::ns,seen,h,t,ht=>by
  simp only[vM,Bool.and_eq_true]at h
  rcases List.mem_cons.1 ht with rfl|ht
  ·exact h.1.2
  ·exact ME ns _ h.2 t ht
theorem write_N {R:Type}:∀(n:Nat) (v:Json) (d:Int),dO v d=true→Px v=true→v.depth<n→∀(s:ah) (k:List Int→Option R),(s++cF v).length≤100000000000→di n v (zs s) k=k (zs (s++cF v)):=by
 intro n
 induction n with
 | zero=>intro v d _ _ h; omega
 | succ n ih =>
  intro v d hr hl hn s k hb
  obtain ⟨Rp,Xd,hil,htx,ZX⟩:=EK.1 hl
  have e0:di (n+1) v (zs s) k=Cd bM ad ae aL (aT (di n)) v (zs s) k:=rfl
  rw[e0]
  have KT:∀(z:ah) (e:ah→List Int→Option R) (F:Nat) (s':ah),(v.kind=7→v.names.length=v.items.length∧∀t∈v.names,fW t=true∧t.length≤10000000000)→dQ v.items (d+1)=true→v.items.length<F→(s'++EL v 0).length≤100000000000 →
    aT (di n) F z v.items (v.items.length:Int) 0 (zs s') v e=e z (zs (s'++EL v 0)):=fun z e F s' h7 hi hF pS =>
   Zl (di n) z v Xd h7 (fun x hx s k hb=>ih x (d+1) (R1 hi hx) (TV hil hx) (by have:=VY hx; omega) s k hb) e F 0 s' (by omega) (by omega) pS
  cases eW.1 hr with
  | name kd _ hd hk =>
   rcases hk with rfl|rfl|rfl
   ·show ae rP (zs s) (fun y3 y4=>k y4)=k (zs (s++rP))
    exact ws rP s (by decide) (by unfold TN; rw[List.length_append]at hb; omega) _
   ·show ae lr (zs s) (fun y3 y4=>k y4)=k (zs (s++lr))
    exact ws lr s (by decide) (by unfold TN; rw[List.length_append]at hb; omega) _
   ·show ae wP (zs s) (fun y3 y4=>k y4)=k (zs (s++wP))
    exact ws wP s (by decide) (by unfold TN; rw[List.length_append]at hb; omega) _
  | num nm _ hd hnm =>
   have W2:(s++AI nm).length≤100000000000:=hb
   rw[List.length_append]at W2
   show bM ⟨nm.ao,nm.exp⟩ (fun y9=>ae y9 (zs s) (fun um vQ=>k vQ))=k (zs (s++AI nm))
   rw[print_any]
   exact ws (AI nm) s (by omega) (by unfold TN; omega) _
  | text t _ hd ht=>exact wq t s ht htx hb k
  | arr is _ hd hi =>
   have W2:(s++(91::(jc is true ++ [93]))).length≤100000000000:=hb
   simp only[List.length_append,List.length_cons,List.length_nil]at W2
   have e91:((91:UInt8).toNat:Int)=91:=rfl
   have e93:((93:UInt8).toNat:Int)=93:=rfl
   show ad ((91:UInt8).toNat:Int) (zs s) (fun G1=>aT (di n) _ [91,93] is (is.length:Int) 0 G1 ⟨6,⟨0,0⟩, [], [],is⟩ (fun Xa y31=>cb (decide ((1:Int)<(Xa.length:Int))) (ad ((Xa.getD 1 0).toNat:Int) y31 (fun UI=>k UI))))=k (zs (s++(91::(jc is true ++ [93]))))
   rw[wb _ _ (by unfold TN; omega)]
   simp only at KT
   have hz:EL ⟨6,⟨0,0⟩, [], [],is⟩ 0=jc is true:=rfl
   rw[hz]at KT
   rw[KT _ _ _ _ (fun h=>by cases h) hi]
   rotate_left
   ·simp only[List.length_cons,List.length_nil]; omega
   ·simp only[List.length_append,List.length_cons,List.length_nil]; omega
   show ad ((93:UInt8).toNat:Int) (zs ((s ++ [91])++jc is true)) (fun UI=>k UI)=_
   rw[wb _ _ (by unfold TN; simp only[List.length_append,List.length_cons,List.length_nil]; omega)]
   simp only[List.append_assoc,List.cons_append,List.nil_append]
  | obj ns is _ hd hlen hu hi =>
   have W2:(s++(123::(jb ns is true ++ [125]))).length≤100000000000:=hb
   simp only[List.length_append,List.length_cons,List.length_nil]at W2
   show ad ((123:UInt8).toNat:Int) (zs s) (fun G1=>aT (di n) _ [123,125] is (is.length:Int) 0 G1 ⟨7,⟨0,0⟩, [],ns,is⟩ (fun Xa y31=>cb (decide ((1:Int)<(Xa.length:Int))) (ad ((Xa.getD 1 0).toNat:Int) y31 (fun UI=>k UI))))=k (zs (s++(123::(jb ns is true ++ [125]))))
   rw[wb _ _ (by unfold TN; omega)]
   simp only at KT
   have hz:EL ⟨7,⟨0,0⟩, [],ns,is⟩ 0=jb ns is true:=rfl
   rw[hz]at KT
   rw[KT _ _ _ _ (fun _=>⟨hlen,fun t ht=>⟨ME ns [] hu t ht,ZX t ht⟩⟩) hi]
   rotate_left
   ·simp only[List.length_cons,List.length_nil]; omega
   ·simp only[List.length_append,List.length_cons,List.length_nil]; omega
   show ad ((125:UInt8).toNat:Int) (zs ((s ++ [123])++jb ns is true)) (fun UI=>k UI)=_
   rw[wb _ _ (by unfold TN; simp only[List.length_append,List.length_cons,List.length_nil]; omega)]
   simp only[List.append_assoc,List.cons_append,List.nil_append]
theorem Zm {R:Type}:∀(F:Nat) (a:ah) (b:List Json) (c d:Int) (e:List Int) (f:Json) (g:ah→List Int→Option R),bA F a b c d e f g=aT bT F a b c d e f g:=by
 intro F
 induction F with
 | zero=>intros; rfl
 | succ F ih =>
  intro a b c d e f g
  have h1:bA (F+1) a b c d e f g=iX ad bT aL (fun gk gn gw mC wa xT=>bA F gk gn gw mC wa xT g) a b c d e f g:=rfl
  have h2:aT bT (F+1) a b c d e f g=iX ad bT aL (fun gk gn gw mC wa xT=>aT bT F gk gn gw mC wa xT g) a b c d e f g:=rfl
  rw[h1,h2]
  simp only[ih]
theorem print_json {R:Type} (v:Json) (hr:dO v 1=true) (hl:Px v=true) (hb:(cF v).length≤100000000000) (k:ah→Option R):o5 v k=k (cF v):=by
 have e0:o5 v k=Gf mZ gQ v k:=rfl
 rw[e0]
 unfold Gf
 simp only[Json.eta]
 rw[right_json v hl,hr,Bool.not_true,cond_false]
 have e1:gQ v (fun y3=>k (vO y3))=Cl bM aj ad ai du bA v (fun y3=>k (vO y3)):=rfl
 rw[e1]
 obtain ⟨Rp,Xd,hil,htx,ZX⟩:=EK.1 hl
 have KT:∀(z:ah) (e:ah→List Int→Option R) (F:Nat) (s':ah),(v.kind=7→v.names.length=v.items.length∧∀t∈v.names,fW t=true∧t.length≤10000000000)→dQ v.items (1+1)=true→v.items.length<F→(s'++EL v 0).length≤100000000000 →
   aT bT F z v.items (v.items.length:Int) 0 (zs s') v e=e z (zs (s'++EL v 0)):=fun z e F s' h7 hi hF pS =>
  Zl bT z v Xd h7 (fun x hx s k hb=>write_N (x.depth+2) x (1+1) (R1 hi hx) (TV hil hx) (by omega) s k hb) e F 0 s' (by omega) (by omega) pS
 cases eW.1 hr with
 | name kd _ hd hk =>
  rcases hk with rfl|rfl|rfl
  ·show ai rP (fun y3 y4=>k (vO y4))=k rP
   rw[wsn rP (by decide),vL]
  ·show ai lr (fun y3 y4=>k (vO y4))=k lr
   rw[wsn lr (by decide),vL]
  ·show ai wP (fun y3 y4=>k (vO y4))=k wP
   rw[wsn wP (by decide),vL]
 | num nm _ hd hnm =>
  have W2:(AI nm).length≤100000000000:=hb
  show bM ⟨nm.ao,nm.exp⟩ (fun y9=>ai y9 (fun um vQ=>k (vO vQ)))=k (AI nm)
  rw[print_any]
  show ai (AI nm) (fun um vQ=>k (vO vQ))=k (AI nm)
  rw[wsn _ W2,vL]
 | text t _ hd ht =>
  have W2:(Pw t).length≤100000000000:=hb
  show dZ t (fun y2 y3=>ai y2 (fun y4 y5=>k (vO y5)))=k (Pw t)
  obtain ⟨rs,hrs,hc,rfl,_,hq⟩|⟨h,_⟩:=quote_any (R:=R) t htx
  ·rw[hq,Xe hrs]
   rw[Xe hrs]at W2
   show ai (qt rs) (fun y4 y5=>k (vO y5))=k (qt rs)
   rw[wsn _ W2,vL]
  ·rw[ht]at h; cases h
 | arr is _ hd hi =>
   have W2:(91::(jc is true ++ [93]):ah).length≤100000000000:=hb
   simp only[List.length_append,List.length_cons,List.length_nil]at W2
   show bA _ [91,93] is (is.length:Int) 0 (zs ([] ++ [91])) ⟨6,⟨0,0⟩, [], [],is⟩ (fun YC Xa=>cb (decide ((1:Int)<(YC.length:Int))) (ad ((YC.getD 1 0).toNat:Int) Xa (fun y31=>k (vO y31))))=k (91::(jc is true ++ [93]))
   simp only at KT
   have hz:EL ⟨6,⟨0,0⟩, [], [],is⟩ 0=jc is true:=rfl
   rw[hz]at KT
   rw[Zm,KT _ _ _ _ (fun h=>by cases h) hi]
   rotate_left
   ·simp only[List.length_cons,List.length_nil]; omega
   ·simp only[List.length_append,List.length_cons,List.length_nil]; omega
   show ad ((93:UInt8).toNat:Int) (zs (([] ++ [91])++jc is true)) (fun UI=>k (vO UI))=_
   rw[wb _ _ (by unfold TN; simp only[List.length_append,List.length_cons,List.length_nil]; omega),vL]
   simp only[List.append_assoc,List.cons_append,List.nil_append]
 | obj ns is _ hd hlen hu hi =>
   have W2:(123::(jb ns is true ++ [125]):ah).length≤100000000000:=hb
   simp only[List.length_append,List.length_cons,List.length_nil]at W2
   show bA _ [123,125] is (is.length:Int) 0 (zs ([] ++ [123])) ⟨7,⟨0,0⟩, [],ns,is⟩ (fun YC Xa=>cb (decide ((1:Int)<(YC.length:Int))) (ad ((YC.getD 1 0).toNat:Int) Xa (fun y31=>k (vO y31))))=k (123::(jb ns is true ++ [125]))
   simp only at KT
   have hz:EL ⟨7,⟨0,0⟩, [],ns,is⟩ 0=jb ns is true:=rfl
   rw[hz]at KT
   rw[Zm,KT _ _ _ _ (fun _=>⟨hlen,fun t ht=>⟨ME ns [] hu t ht,ZX t ht⟩⟩) hi]
   rotate_left
   ·simp only[List.length_cons,List.length_nil]; omega
   ·simp only[List.length_append,List.length_cons,List.length_nil]; omega
   show ad ((125:UInt8).toNat:Int) (zs (([] ++ [123])++jb ns is true)) (fun UI=>k (vO UI))=_
   rw[wb _ _ (by unfold TN; simp only[List.length_append,List.length_cons,List.length_nil]; omega),vL]
   simp only[List.append_assoc,List.cons_append,List.nil_append]
end Go.Proofs.YtidfokedcnhahaaGreatDoor
namespace Go.aC
open Go.RowKit Go.Proofs.YtidfokedcnhahaaGreatDoor Go.ChangeShapes Go.WideShapes
mutual
inductive Wt:Nat→V→Prop where
 | int {n:Nat} {k:IntKind} {z:Int} (h1:1≤n) (h:k.has z):Wt n (.int k z)
 | bool {n:Nat} (h1:1≤n) (b:Bool):Wt n (.bool b)
 | str {n:Nat} {s:ah} (h:s.length+1≤n):Wt n (.str s)
 | sl {n m:Nat} {T:Ty} {l:List T.den} (h:m+1≤n) (he:Zn m (l.map T.cells)):Wt n (.sl T l .no)
inductive WtL:Nat→List V→Prop where
 | nil:WtL 0 []
 | cons {a b:Nat} {v:V} {vs:List V} (h:Wt a v) (t:WtL b vs):WtL (a+b) (v::vs)
inductive Zn:Nat→List (List V)→Prop where
 | nil:Zn 0 []
 | cons {a b:Nat} {v:List V} {vs:List (List V)} (h:WtL a v) (t:Zn b vs):Zn (a+b) (v::vs)
end
theorem Wt.one {p:eO} {x:p.den} {n:Nat} (h:Wt n (p.enc x)):WtL n [p.enc x] := .cons (b:=0) h .nil
section
variable {H:Type} {enc:TypeId×Value→H} {P:Program} {tt:dj} {w:World} {spare:Nat→Bool} {held:Bool}
def ReadsW (w:World) (N:Nat) (ls:List eO) (cs:List Value):Prop:=∃vs n,Ih ls vs∧cv w [] V8 vs cs∧WtL n vs∧n≤N
theorem ReadsW.nil {N:Nat}:ReadsW w N [] []:=⟨[],0, .nil, .nil, .nil,Nat.zero_le _⟩
theorem ReadsW.one {N:Nat} {p:eO} {x:p.den} {d:Value} (h:dn w [] V8 (p.enc x) d) (s:Wt N (p.enc x)):ReadsW w N [p] [d] :=
 ⟨[p.enc x],N, .one p x, .cons h .nil,Wt.one s,Nat.le_refl _⟩
end
end Go.aC
set_option maxRecDepth 100000
namespace Go.Proofs.YtidfokedcnhahaaGreatDoor
open Go Go.aC Go.Lib
mutual
def Raw.tot:Raw→Nat
 | ⟨_,_,_,_,is⟩=>Raw.totL is+1
def Raw.totL:List Raw→Nat
 | []=>0
 | x::l=>Raw.tot x+Raw.totL l
end
mutual
def Raw.ok:Raw→Prop
 | ⟨k,m,e,t,is⟩=>(xF k∧xF m∧xF e∧∀c∈t,xF c)∧(t.length≤1048576∧is.length≤1048576)∧Raw.okL is
def Raw.okL:List Raw→Prop
 | []=>True
 | x::l=>Raw.ok x∧Raw.okL l
end
theorem Zo {T:Ty}:∀(l:List T.den) (m:Nat),Zn m (l.map T.cells)→(∀(x:T.den) n,WtL n (T.cells x)→1≤n)→l.length≤m
 | [],_,_,_=>Nat.zero_le _
 | x::l,_, .cons h t,hh=>by
  have h1:=hh x _ h
  have h2:=Zo l _ t hh
  simp only[List.length_cons]
  omega
theorem wt_pos {n:Nat} {v:V} (h:Wt n v):1≤n:=by
 cases h <;> omega
theorem wt_ints:∀(l:List (Ty.den (.int .i64))) (m:Nat),Zn m (l.map (Ty.cells (.int .i64)))→∀c∈(l:List Int),xF c
 | [],_,_,c,hc=>by cases hc
 | x::l,_, .cons h t,c,hc=>by
  rcases List.mem_cons.1 hc with rfl|hc
  ·have h':WtL _ [V.int .i64 c]:=h
   cases h' with
   | cons a b=>cases a with|int _ hk=>exact qv.1 hk
  ·exact wt_ints l _ t c hc
mutual
theorem wt_raw:∀(x:Raw) (n:Nat),n≤1048576→WtL n (Ty.cells .raw x)→Raw.tot x≤n∧Raw.ok x
 | ⟨k,m,e,t,is⟩,n,hn,h=>by
  have hL:=wt_rawL is
  have h':WtL n [.int .i64 k, .int .i64 m, .int .i64 e, .sl (.int .i64) t .no, .sl .raw is .no]:=h
  cases h' with
  | cons a1 h'=>cases h' with
   | cons a2 h'=>cases h' with
    | cons a3 h'=>cases h' with
     | cons a4 h'=>cases h' with
      | cons a5 h' =>
       cases h'
       cases a1 with|int p1 k1 =>
       cases a2 with|int p2 k2 =>
       cases a3 with|int p3 k3 =>
       cases a4 with|sl p4 w4 =>
       cases a5 with|sl p5 w5 =>
       have hl4:=Zo (T := .int .i64) t _ w4 (fun x n h=>by
        have h':WtL n [V.int .i64 x]:=h
        cases h' with|cons a b=>have:=wt_pos a; omega)
       have hl5:=Zo (T := .raw) is _ w5 (fun x n h=>by
        have h':WtL n (.int .i64 x.kind::_):=h
        cases h' with|cons a b=>have:=wt_pos a; omega)
       obtain ⟨g1,g2⟩:=hL _ (by omega) w5
       refine ⟨by simp only[Raw.tot]; omega,⟨qv.1 k1,qv.1 k2,qv.1 k3,wt_ints t _ w4⟩,⟨Nat.le_trans hl4 (by omega),Nat.le_trans hl5 (by omega)⟩,g2⟩
theorem wt_rawL:∀(l:List Raw) (n:Nat),n≤1048576→Zn n (l.map (Ty.cells .raw))→Raw.totL l≤n∧Raw.okL l
 | [],_,_,_=>⟨Nat.zero_le _,trivial⟩
 | x::l,_,hn, .cons h t=>by
  obtain ⟨a1,a2⟩:=wt_raw x _ (by omega) h
  obtain ⟨b1,b2⟩:=wt_rawL l _ (by omega) t
  exact ⟨by simp only[Raw.totL]; omega,a2,b2⟩
end
theorem uniq_end:∀(ns seen:List ah) (n:ah),vM seen (ns ++ [n])=(vM seen ns&&((!(seen.contains n||ns.contains n))&&fW n))
 | [],seen,n=>by simp[vM]
 | m::ns,seen,n=>by
  simp only[List.cons_append,vM,uniq_end ns (m::seen) n,List.contains_cons]
  cases seen.contains m <;> cases fW m <;> cases vM (m::seen) ns <;> cases n==m <;> cases seen.contains n <;> rfl
theorem PY (t:ah):(Pw t).length≤6*t.length+2:=by
 unfold Pw
 have:∀l:ah,(l.flatMap qb).length≤6*l.length:=by
  intro l
  induction l with
  | nil=>simp
  | cons b l ih =>
   have:=qb_len b
   simp only[List.flatMap_cons,List.length_append,List.length_cons]
   omega
 have:=this t
 simp only[List.length_cons,List.length_append,List.length_nil]
 omega
structure FitV (R:Type) (v:Json) (d:Int) (n:Nat):Prop where
 right:dO v d=true
 len:Px v=true
 size:(cF v).length+5000≤10000*n
theorem Zp:∀(l:List Json) (x:Json) (b:Bool),(jc (l ++ [x]) b).length≤(jc l b).length+1+(cF x).length
 | [],x,b=>by cases b <;> simp[jc] <;> omega
 | y::l,x,b=>by
  have:=Zp l x false
  simp only[List.cons_append,jc,List.length_append]
  omega
theorem Zq:∀(ns:List ah) (l:List Json) (n:ah) (x:Json) (b:Bool),ns.length=l.length→(jb (ns ++ [n]) (l ++ [x]) b).length≤(jb ns l b).length+2+(Pw n).length+(cF x).length
 | [], [],n,x,b,_=>by cases b <;> simp[jb] <;> omega
 | m::ns,y::l,n,x,b,h=>by
  have:=Zq ns l n x false (by simpa using h)
  simp only[List.cons_append,jb,List.headD_cons,List.tail_cons,List.length_append,List.length_cons]
  omega
 | [],_::_,_,_,_,h=>by cases h
 | _::_, [],_,_,_,h=>by cases h
theorem R4:∀(l:List Json) (x:Json) (d:Int),dQ (l ++ [x]) d=(dQ l d&&dO x d)
 | [],x,d=>by simp[dQ]
 | y::l,x,d=>by simp only[List.cons_append,dQ,R4 l x d,Bool.and_assoc]
structure Held (q:Int) (d:Int) (ns:List ah) (is:List Json) (n:Nat):Prop where
 right:dQ is (d+1)=true
 len:Py is=true
 count:is.length≤12
 names:(q=7∧ns.length=is.length∧vM [] ns=true∧(∀t∈ns,t.length≤1000)∧(jb ns is true).length≤10000*n)∨(q=6∧ns = []∧(jc is true).length≤10000*n)
theorem prtA_len {d:fv} (h:Fm d):(AI d).length≤60:=by
 have e:AI d=WN d:=by unfold AI; rw[I1.2 h]; rfl
 rw[e]
 exact (prt_chars h).2.2
structure Lone (x:qH):Prop where
 head:∃c u,x.2.1=c::u∧tm c=false
 met:∀r,Q8 r→tokS (x.2.1++r)=some (x.2.2,r)
 quo:x.2.2.kind=2→fW x.2.2.text=true∧x.2.1=Pw x.2.2.text
 own:x.2.2.kind≠2→x.2.2.text=x.2.1
theorem PZ {x:qH} (h:∀r,Q8 r→okW [x] r) (h2:x.2.2.kind=2→fW x.2.2.text=true∧x.2.1=Pw x.2.2.text) (h3:x.2.2.kind≠2→x.2.2.text=x.2.1):Lone x:=by
 obtain ⟨_,g2,_⟩:=h [] (.inl rfl)
 exact ⟨g2,fun r hr=>(h r hr).2.2.1,h2,h3⟩
theorem MF {c:UInt8} (hc:R0 c=true):Lone (sg c):=PZ (fun r _=>EJ hc r) (fun h=>by cases h) (fun _=>rfl)
theorem lone_tx {t:ah} (ht:fW t=true):Lone (txW t):=PZ (fun r _=>Zg ht r) (fun _=>⟨ht,rfl⟩) (fun h=>(h rfl).elim)
mutual
theorem loneJ:∀(v:Json) (d:Int),dO v d=true→∀x∈ui v,Lone x
 | ⟨k,n,t,ns,is⟩,d,h,x,hx=>by
  have hL:=loneL is
  have hO:=loneO ns is
  cases eW.1 h with
  | name _ _ hd hk =>
   rcases hk with rfl|rfl|rfl
   ·obtain rfl:=List.mem_singleton.1 hx
    exact PZ (fun r hr=>EI (Gx (.inr (.inr rfl))) hr) (fun h=>by cases h) (fun _=>rfl)
   ·obtain rfl:=List.mem_singleton.1 hx
    exact PZ (fun r hr=>EI (Gx (.inr (.inl rfl))) hr) (fun h=>by cases h) (fun _=>rfl)
   ·obtain rfl:=List.mem_singleton.1 hx
    exact PZ (fun r hr=>EI (Gx (.inl rfl)) hr) (fun h=>by cases h) (fun _=>rfl)
  | num _ _ hd hn =>
   have e:AI n=WN n:=by unfold AI; rw[I1.2 hn]; rfl
   have hx':x∈([([],AI n,⟨3,AI n,n,0⟩)]:List qH):=hx
   obtain rfl:=List.mem_singleton.1 hx'
   refine PZ (fun r hr => ?_) (fun h=>by cases h) (fun _=>rfl)
   rw[e]
   exact EI (word_num hn) hr
  | text _ _ hd ht =>
   have hx':x∈([txW t]:List qH):=hx
   obtain rfl:=List.mem_singleton.1 hx'
   exact lone_tx ht
  | arr _ _ hd hi =>
   have hx':x∈([sg 91]++(rq is true ++ [sg 93]):List qH):=hx
   rw[List.mem_append,List.mem_append,List.mem_singleton,List.mem_singleton]at hx'
   rcases hx' with rfl|hx|rfl
   ·exact MF (by decide)
   ·exact hL true (d+1) hi x hx
   ·exact MF (by decide)
  | obj _ _ _ hd hl hu hi =>
   have hx':x∈([sg 123]++(nr ns is true ++ [sg 125]):List qH):=hx
   rw[List.mem_append,List.mem_append,List.mem_singleton,List.mem_singleton]at hx'
   rcases hx' with rfl|hx|rfl
   ·exact MF (by decide)
   ·exact hO true (d+1) hi hl (fun t ht=>ME ns [] hu t ht) x hx
   ·exact MF (by decide)
theorem loneL:∀(l:List Json) (first:Bool) (d:Int),dQ l d=true→∀x∈rq l first,Lone x
 | [],_,_,_,x,hx=>by simp[rq]at hx
 | y::l,first,d,h,x,hx=>by
  simp only[dQ,Bool.and_eq_true]at h
  have h1:=loneJ y d h.1
  have h2:=loneL l false d h.2
  simp only[rq,List.mem_append]at hx
  rcases hx with hx|hx|hx
  ·cases first
   ·simp at hx; rw[hx]; exact MF (by decide)
   ·simp at hx
  ·exact h1 x hx
  ·exact h2 x hx
theorem loneO:∀(ns:List ah) (l:List Json) (first:Bool) (d:Int),dQ l d=true→ns.length=l.length→(∀t∈ns,fW t=true)→∀x∈nr ns l first,Lone x
 | _, [],_,_,_,_,_,x,hx=>by simp[nr]at hx
 | [],y::l,_,_,_,hl,_,_,_=>by cases hl
 | n::ns,y::l,first,d,h,hl,hv,x,hx=>by
  simp only[dQ,Bool.and_eq_true]at h
  have h1:=loneJ y d h.1
  have h2:=loneO ns l false d h.2 (by simpa using hl) (fun t ht=>hv t (by simp[ht]))
  simp only[nr,List.headD_cons,List.tail_cons,List.mem_append,List.mem_cons]at hx
  rcases hx with hx|rfl|rfl|hx|hx
  ·cases first
   ·simp at hx; rw[hx]; exact MF (by decide)
   ·simp at hx
  ·exact lone_tx (hv n (by simp))
  ·exact MF (by decide)
  ·exact h1 x hx
  ·exact h2 x hx
end
theorem qb_pos (b:UInt8):1≤(qb b).length:=by unfold qb; (repeat' split) <;> simp
theorem qtS_ge (t:ah):t.length≤(Pw t).length:=by
 have:∀l:ah,l.length≤(l.flatMap qb).length:=by
  intro l
  induction l with
  | nil=>simp
  | cons b l ih =>
   have:=qb_pos b
   simp only[List.flatMap_cons,List.length_append,List.length_cons]
   omega
 have:=this t
 unfold Pw
 simp only[List.length_cons,List.length_append]
 omega
def EM (t:Token):Prop:=(t.kind=3→Fm t.num)∧(t.kind=2→fW t.text=true)∧(t.kind=4→DM t.text=true)
theorem Zr {x:ah} (h:DM x=true):∃k:Int,(k=1∨k=2∨k=3)∧ml .str (.int .i64) x Zi=k:=by
 unfold DM at h
 rw[Bool.or_eq_true,Bool.or_eq_true,beq_iff_eq,beq_iff_eq,beq_iff_eq]at h
 rcases h with rfl|rfl|rfl
 ·exact ⟨1, .inl rfl,rfl⟩
 ·exact ⟨2, .inr (.inl rfl),rfl⟩
 ·exact ⟨3, .inr (.inr rfl),rfl⟩
theorem KU {x:ah} {ts r:List Token} (h:∀t∈ts,EM t) (hs:ki x ts=some r):∀t∈r,EM t:=by
 cases ts with
 | nil=>cases hs
 | cons t ts =>
  simp only[ki]at hs
  split at hs
  ·cases hs; exact fun u hu=>h u (by simp[hu])
  ·cases hs
theorem nameS_ok {ns:List ah} {ts:List Token} {p:ah×List Token} (h:∀t∈ts,EM t) (hs:I2 ns ts = .ok p):fW p.1=true∧ns.contains p.1=false∧∀t∈p.2,EM t:=by
 cases ts with
 | nil=>cases hs
 | cons t ts =>
  simp only[I2]at hs
  split at hs
  ·cases hs
  ·rename_i hk
   split at hs
   ·cases hs
   ·rename_i hc
    split at hs
    ·rename_i r hr
     cases hs
     exact ⟨(h t (by simp)).2.1 (by simpa using hk),by simpa using hc,KU (fun u hu=>h u (by simp[hu])) hr⟩
    ·cases hs
def Sound (f:List Token→Except WQ (Json×List Token)) (d:Int):Prop:=∀ts p,(∀t∈ts,EM t)→f ts = .ok p→dO p.1 d=true∧∀t∈p.2,EM t
def Inv (obj:Bool) (d:Int) (ns:List ah) (is:List Json):Prop:=dQ is d=true∧(obj=true→ns.length=is.length∧vM [] ns=true)∧(obj=false→ns = [])
theorem partS_ok {f:List Token→Except WQ (Json×List Token)} {d:Int} (hf:Sound f d) {obj:Bool} {ns:List ah} {is:List Json} {ts:List Token} {p:(List ah×List Json)×List Token} (h:∀t∈ts,EM t) (hi:Inv obj d ns is) (hs:xN f obj ns is ts = .ok p) :
  Inv obj d p.1.1 p.1.2∧∀t∈p.2,EM t:=by
 obtain ⟨i1,i2,i3⟩:=hi
 cases obj with
 | true =>
  simp only[xN]at hs
  split at hs
  ·cases hs
  ·rename_i nm ts1 hn
   obtain ⟨g1,g2,g3⟩:=nameS_ok h hn
   split at hs
   ·cases hs
   ·rename_i v R2 hv
    obtain ⟨k1,k2⟩:=hf _ _ g3 hv
    cases hs
    obtain ⟨j1,j2⟩:=i2 rfl
    refine ⟨⟨by rw[R4,i1,k1]; rfl,fun _=>⟨by simp[j1],?_⟩,fun h=>by cases h⟩,k2⟩
    simp only at g1 g2
    rw[uniq_end,j2,g2,g1]
    rfl
 | false =>
  simp only[xN]at hs
  split at hs
  ·cases hs
  ·rename_i v R2 hv
   obtain ⟨k1,k2⟩:=hf _ _ h hv
   cases hs
   exact ⟨⟨by rw[R4,i1,k1]; rfl,(fun h=>by cases h),i3⟩,k2⟩
theorem Zs {f:List Token→Except WQ (Json×List Token)} {d:Int} (hf:Sound f d) {cl:ah} {obj:Bool}:∀(m:Nat) (ns:List ah) (is:List Json) (ts:List Token) (p:(List ah×List Json)×List Token),
  (∀t∈ts,EM t)→Inv obj d ns is→zA f cl obj m ns is ts = .ok p→Inv obj d p.1.1 p.1.2∧∀t∈p.2,EM t
 | 0,_,_,_,_,_,_,h=>by cases h
 | m+1,ns,is,ts,p,h,hi,hs=>by
  simp only[zA]at hs
  split at hs
  ·cases hs
  ·rename_i q R2 hq
   obtain ⟨g1,g2⟩:=partS_ok hf h hi hq
   split at hs
   ·rename_i r hr
    cases hs
    exact ⟨g1,KU g2 hr⟩
   ·split at hs
    ·rename_i r hr
     exact Zs hf m _ _ _ _ (KU g2 hr) g1 hs
    ·cases hs
theorem TW:∀(n:Nat) (d:Int),Sound (yB n d) d
 | 0,_,_,_,_,h=>by cases h
 | _+1,_, [],_,_,h=>by cases h
 | n+1,d,t::r,p,ht,h=>by
  have h0:=ht t (by simp)
  have hr0:∀u∈r,EM u:=fun u hu=>ht u (by simp[hu])
  simp only[yB]at h
  split at h
  ·cases h
  rename_i hst
  split at h
  ·cases h
  rename_i hd
  have hd16:d≤16:=by omega
  split at h
  ·cases I7:t.text==([123]:ah)with
   | true =>
    rw[I7]at h
    simp only[if_true]at h
    split at h
    ·rename_i r' hr
     cases h
     exact ⟨eW.2 (.obj [] [] d hd16 rfl rfl rfl),KU hr0 hr⟩
    ·split at h
     ·cases h
     ·rename_i q r' hq
      cases h
      obtain ⟨⟨g1,g2,_⟩,g4⟩:=Zs (TW n (d+1)) _ _ _ _ _ hr0 ⟨rfl,fun _=>⟨rfl,rfl⟩,fun _=>rfl⟩ hq
      obtain ⟨g5,g6⟩:=g2 rfl
      exact ⟨eW.2 (.obj _ _ d hd16 g5 g6 g1),g4⟩
   | false =>
    rw[I7]at h
    simp only[Bool.false_eq_true,if_false]at h
    split at h
    ·rename_i r' hr
     cases h
     exact ⟨eW.2 (.arr [] d hd16 rfl),KU hr0 hr⟩
    ·split at h
     ·cases h
     ·rename_i q r' hq
      cases h
      obtain ⟨⟨g1,_,g3⟩,g4⟩:=Zs (TW n (d+1)) _ _ _ _ _ hr0 ⟨rfl,(fun h=>by cases h),fun _=>rfl⟩ hq
      have:=g3 rfl
      simp only at this ⊢
      rw[this]
      exact ⟨eW.2 (.arr _ d hd16 g1),g4⟩
  rename_i hop
  split at h
  ·rename_i hnm
   cases h
   obtain ⟨k,hk,e⟩:=Zr hnm.2
   simp only[e]
   exact ⟨eW.2 (.name k d hd16 hk),hr0⟩
  rename_i hnm
  split at h
  ·rename_i hk3
   cases h
   exact ⟨eW.2 (.num _ d hd16 (h0.1 hk3)),hr0⟩
  ·rename_i hk3
   cases h
   have PF:t.kind=2:=by
    have hst':uj t=true:=by simpa using hst
    simp only[uj,Bool.or_eq_true,Bool.and_eq_true,beq_iff_eq]at hst'
    rcases hst' with h|h|h|⟨h,h'⟩
    ·exact h
    ·exact (hk3 h).elim
    ·exact (hnm ⟨h,h0.2.2 h⟩).elim
    ·exact (hop ⟨h,h'⟩).elim
   exact ⟨eW.2 (.text _ d hd16 (h0.2.1 PF)),hr0⟩
theorem finD_fm (neg:Bool) (all:ah) (x:Int) (h:∀c∈all,nI c) (ok:(finD neg all x).2=true):Fm (finD neg all x).1:=by
 unfold finD at ok ⊢
 by_cases h0:cB (bu all [48]) [48] = []
 ·rw[if_pos h0]
  exact Fm.mk0
 rw[if_neg h0]at ok ⊢
 obtain ⟨f1,f2,f3⟩:=VX all h h0
 have hm:Int.tmod (uO (cB (bu all [48]) [48]) 0:Int) 10≠0:=by rw[Int.tmod_eq_emod_of_nonneg (by omega)]; omega
 cases neg with
 | true =>
  rw[if_pos rfl]at ok ⊢
  obtain ⟨e,g⟩:=mkD_fm (tmod_neg hm) ok
  rw[e]
  exact g
 | false =>
  rw[if_neg (by simp)]at ok ⊢
  obtain ⟨e,g⟩:=mkD_fm hm ok
  rw[e]
  exact g
theorem tailD_fm (neg:Bool) (all:ah) (x:Int) (X:ah) (h:∀c∈all,nI c) (ok:(tailD neg all x X).2=true):Fm (tailD neg all x X).1:=by
 unfold tailD at ok ⊢
 split
 ·rename_i h1
  rw[if_pos h1]at ok
  split
  ·rename_i h2
   rw[if_pos h2]at ok
   exact finD_fm _ _ _ h ok
  ·exact Fm.mk0
 ·rename_i h1
  rw[if_neg h1]at ok
  split
  ·exact Fm.mk0
  ·rename_i h2
   rw[if_neg h2]at ok
   split
   ·rename_i h3
    rw[if_pos h3]at ok
    exact finD_fm _ _ _ h ok
   ·exact Fm.mk0
theorem parseS_fm (s:ah) (ok:(CE s).2=true):Fm (CE s).1:=by
 unfold CE at ok ⊢
 simp only at ok ⊢
 split
 ·exact Fm.mk0
 rename_i h1
 rw[if_neg h1]at ok
 split
 ·exact Fm.mk0
 rename_i h2
 rw[if_neg h2]at ok
 split
 ·exact Fm.mk0
 rename_i h3
 rw[if_neg h3]at ok
 split
 ·rename_i h4
  rw[if_pos h4]at ok
  exact tailD_fm _ _ _ _ (HA _) ok
 ·rename_i h4
  rw[if_neg h4]at ok
  split
  ·exact Fm.mk0
  ·rename_i h5
   rw[if_neg h5]at ok
   exact tailD_fm _ _ _ _ (fun c hc=>(List.mem_append.1 hc).elim (HA _ c) (HA _ c)) ok
theorem uq_len:∀(n:Nat) (s o o' r:ah),uq n s o=some (o',r)→o'.length+4*r.length≤o.length+4*s.length
 | 0,_,_,_,_,h=>by cases h
 | n+1,s,o,o',r,h=>by
  simp only[uq]at h
  split at h
  ·simp only[Option.some.injEq,Prod.mk.injEq]at h
   obtain ⟨rfl,rfl⟩:=h
   rw[List.length_drop]
   omega
  ·split at h
   ·cases h
   ·rename_i c r1 hs
    have h1:=uq_len n r1 (o++enc c) o' r h
    obtain ⟨hv,hl⟩:=Y6 hs
    have h2:=(IF hv).2
    simp only[List.length_append]at h1
    omega
theorem tokS_ok {s r:ah} {t:Token} (h:tokS s=some (t,r)):EM t∧t.text.length≤4*s.length:=by
 cases s with
 | nil=>cases h
 | cons c u =>
  simp only[tokS]at h
  split at h
  ·split at h
   ·rename_i hp
    simp only[Option.some.injEq,Prod.mk.injEq]at h
    rw[←h.1]
    refine ⟨⟨fun _=>parseS_fm _ hp,(fun h=>by cases h),(fun h=>by cases h)⟩,?_⟩
    have:=(List.takeWhile_prefix (l:=c::u) EG).length_le
    simp only
    omega
   ·cases h
  ·split at h
   ·split at h
    ·rename_i o q hq
     simp only[Option.some.injEq,Prod.mk.injEq]at h
     rw[←h.1]
     obtain ⟨_,_,rs,h3,h4⟩:=uqS_sfx hq
     refine ⟨⟨(fun h=>by cases h),fun _=>Kt.2 ⟨rs,h3,h4⟩,(fun h=>by cases h)⟩,?_⟩
     unfold uqS at hq
     split at hq
     ·have:=uq_len _ _ _ _ _ hq
      rw[List.length_drop]at this
      simp only[List.length_nil,List.length_cons]at this ⊢
      omega
     ·cases hq
    ·cases h
   ·split at h
    ·simp only[Option.some.injEq,Prod.mk.injEq]at h
     rw[←h.1]
     exact ⟨⟨(fun h=>by cases h),(fun h=>by cases h),(fun h=>by cases h)⟩,by simp; omega⟩
    ·split at h
     ·rename_i hw
      simp only[Option.some.injEq,Prod.mk.injEq]at h
      rw[←h.1]
      refine ⟨⟨(fun h=>by cases h),(fun h=>by cases h),fun _ => ?_⟩,?_⟩
      ·rcases hw with hw|hw|hw <;> simp only[hw] <;> rfl
      ·have:=(List.takeWhile_prefix (l:=c::u) DL).length_le
       simp only
       omega
     ·cases h
def fineT (t:Token):Prop:=EM t∧t.text.length≤80000
theorem Zt:∀(n p:Nat) (s:ah) (out:List Token),s.length≤20000→(∀t∈out,fineT t)→∀t∈(xM n p s out).1,fineT t
 | 0,_,_,_,_,_=>by intro t ht; cases ht
 | n+1,p,s,out,hs,ho=>by
  simp only[xM]
  split
  ·intro t ht
   rcases List.mem_append.1 ht with ht|ht
   ·exact ho t ht
   ·obtain rfl:=List.mem_singleton.1 ht
    exact ⟨⟨(fun h=>by cases h),(fun h=>by cases h),(fun h=>by cases h)⟩,by simp⟩
  ·have hd:=Bw tm s
   split
   ·intro t ht; cases ht
   ·rename_i t r hr
    have h3:=(tokS_sfx hr).2
    obtain ⟨g1,g2⟩:=tokS_ok hr
    refine Zt n _ r _ (by omega) fun x hx => ?_
    rcases List.mem_append.1 hx with hx|hx
    ·exact ho x hx
    ·obtain rfl:=List.mem_singleton.1 hx
     exact ⟨g1,by show t.text.length≤80000; omega⟩
theorem scanS_fine (s:ah):∀t∈(rQ s).1,fineT t:=by
 unfold rQ
 split
 ·intro t ht; cases ht
 ·exact Zt _ _ _ _ (by omega) (by intro t ht; cases ht)
def tokN (t:Token):Nat:=6*t.text.length+70
def tokL:List Token→Nat
 | []=>0
 | t::l=>tokN t+tokL l
theorem tokL_le:∀(l:List Token),(∀t∈l,fineT t)→tokL l≤l.length*480070
 | [],_=>Nat.le_refl _
 | t::l,h=>by
  have h1:=tokL_le l fun x hx=>h x (by simp[hx])
  have h2:=(h t (by simp)).2
  simp only[tokL,tokN,List.length_cons]
  omega
theorem HC {x:ah} {ts r:List Token} (hs:ki x ts=some r):tokL r+70≤tokL ts:=by
 cases ts with
 | nil=>cases hs
 | cons t ts =>
  simp only[ki]at hs
  split at hs
  ·cases hs; simp only[tokL,tokN]; omega
  ·cases hs
theorem nameS_size {ns:List ah} {ts:List Token} {p:ah×List Token} (hs:I2 ns ts = .ok p):(Pw p.1).length+tokL p.2+130≤tokL ts:=by
 cases ts with
 | nil=>cases hs
 | cons t ts =>
  simp only[I2]at hs
  split at hs
  ·cases hs
  ·split at hs
   ·cases hs
   ·split at hs
    ·rename_i r hr
     cases hs
     have h1:=HC hr
     have h2:=PY t.text
     simp only[tokL,tokN]
     omega
    ·cases hs
def Sized (f:List Token→Except WQ (Json×List Token)):Prop:=∀ts p,(∀t∈ts,EM t)→f ts = .ok p→(cF p.1).length+tokL p.2≤tokL ts
def VZ (obj:Bool) (ns:List ah) (is:List Json):Nat:=if obj then (jb ns is true).length else (jc is true).length
theorem partS_size {f:List Token→Except WQ (Json×List Token)} {d:Int} (hs0:Sound f d) (hf:Sized f) {obj:Bool} {ns:List ah} {is:List Json} {ts:List Token} {p:(List ah×List Json)×List Token} (h:∀t∈ts,EM t) (hi:Inv obj d ns is) (hs:xN f obj ns is ts = .ok p) :
  VZ obj p.1.1 p.1.2+tokL p.2≤VZ obj ns is+1+tokL ts:=by
 obtain ⟨i1,i2,i3⟩:=hi
 cases obj with
 | true =>
  simp only[xN]at hs
  split at hs
  ·cases hs
  ·rename_i nm ts1 hn
   obtain ⟨_,_,g3⟩:=nameS_ok h hn
   have g4:=nameS_size hn
   split at hs
   ·cases hs
   ·rename_i v R2 hv
    have k1:=hf _ _ g3 hv
    cases hs
    have:=Zq ns is nm v true (i2 rfl).1
    simp only[VZ,if_true]at g4 k1 ⊢
    omega
 | false =>
  simp only[xN]at hs
  split at hs
  ·cases hs
  ·rename_i v R2 hv
   have k1:=hf _ _ h hv
   cases hs
   have:=Zp is v true
   simp only[VZ,Bool.false_eq_true,if_false]at k1 ⊢
   omega
theorem R5 {f:List Token→Except WQ (Json×List Token)} {d:Int} (hs0:Sound f d) (hf:Sized f) {cl:ah} {obj:Bool}:∀(m:Nat) (ns:List ah) (is:List Json) (ts:List Token) (p:(List ah×List Json)×List Token),
  (∀t∈ts,EM t)→Inv obj d ns is→zA f cl obj m ns is ts = .ok p→VZ obj p.1.1 p.1.2+tokL p.2+60≤VZ obj ns is+1+tokL ts
 | 0,_,_,_,_,_,_,h=>by cases h
 | m+1,ns,is,ts,p,h,hi,hs=>by
  simp only[zA]at hs
  split at hs
  ·cases hs
  ·rename_i q R2 hq
   obtain ⟨g1,g2⟩:=partS_ok hs0 h hi hq
   have g3:=partS_size hs0 hf h hi hq
   split at hs
   ·rename_i r hr
    cases hs
    have g4:=HC hr
    simp only at g3 g4 ⊢
    omega
   ·split at hs
    ·rename_i r hr
     have g4:=HC hr
     have g5:=R5 hs0 hf m _ _ _ _ (KU g2 hr) g1 hs
     simp only at g3 g4 g5 ⊢
     omega
    ·cases hs
theorem printJ_name {k:Int} (hk:k=1∨k=2∨k=3):(cF ⟨k,⟨0,0⟩, [], [], []⟩).length≤60:=by
 rcases hk with rfl|rfl|rfl <;> decide
theorem U8:∀(n:Nat) (d:Int),Sized (yB n d)
 | 0,_,_,_,_,h=>by cases h
 | _+1,_, [],_,_,h=>by cases h
 | n+1,d,t::r,p,ht,h=>by
  have h0:=ht t (by simp)
  have hr0:∀u∈r,EM u:=fun u hu=>ht u (by simp[hu])
  have et:tokL (t::r)=tokN t+tokL r:=rfl
  have en:tokN t=6*t.text.length+70:=rfl
  simp only[yB]at h
  split at h
  ·cases h
  split at h
  ·cases h
  split at h
  ·cases I7:t.text==([123]:ah)with
   | true =>
    rw[I7]at h
    simp only[if_true]at h
    split at h
    ·rename_i r' hr
     cases h
     have:=HC hr
     show 2+tokL r'≤_
     omega
    ·split at h
     ·cases h
     ·rename_i q r' hq
      cases h
      have g:=R5 (TW n (d+1)) (U8 n (d+1)) _ _ _ _ _ hr0 ⟨rfl,fun _=>⟨rfl,rfl⟩,fun _=>rfl⟩ hq
      have e:cF ⟨7,⟨0,0⟩, [],q.1,q.2⟩=123::(jb q.1 q.2 true ++ [125]):=by simp only[cF]; rfl
      simp only[VZ,if_true,jb,List.length_nil]at g
      show (cF ⟨7,⟨0,0⟩, [],q.1,q.2⟩).length+tokL r'≤_
      rw[e]
      simp only[List.length_cons,List.length_append,List.length_nil]
      omega
   | false =>
    rw[I7]at h
    simp only[Bool.false_eq_true,if_false]at h
    split at h
    ·rename_i r' hr
     cases h
     have:=HC hr
     show 2+tokL r'≤_
     omega
    ·split at h
     ·cases h
     ·rename_i q r' hq
      cases h
      have g:=R5 (TW n (d+1)) (U8 n (d+1)) _ _ _ _ _ hr0 ⟨rfl,(fun h=>by cases h),fun _=>rfl⟩ hq
      have e:cF ⟨6,⟨0,0⟩, [],q.1,q.2⟩=91::(jc q.2 true ++ [93]):=by simp only[cF]; rfl
      simp only[VZ,Bool.false_eq_true,if_false,jc,List.length_nil]at g
      show (cF ⟨6,⟨0,0⟩, [],q.1,q.2⟩).length+tokL r'≤_
      rw[e]
      simp only[List.length_cons,List.length_append,List.length_nil]
      omega
  rename_i hop
  split at h
  ·rename_i hnm
   cases h
   obtain ⟨k,hk,e⟩:=Zr hnm.2
   have:=printJ_name hk
   simp only[e]
   omega
  rename_i hnm
  split at h
  ·rename_i hk3
   cases h
   have:=prtA_len (h0.1 hk3)
   have e:cF ⟨4,t.num, [], [], []⟩=AI t.num:=by simp only[cF]; rfl
   simp only[e]
   omega
  ·cases h
   have:=PY t.text
   have e:cF ⟨5,⟨0,0⟩,t.text, [], []⟩=Pw t.text:=by simp only[cF]; rfl
   simp only[e]
   omega
mutual
theorem P0:∀(v:Json) (d:Int),dO v d=true→(cF v).length≤10000000000→Px v=true∧1≤(cF v).length
 | ⟨k,n,t,ns,is⟩,d,h,hl=>by
  have hL:=Zu is true
  have hO:=Zv ns is true
  cases eW.1 h with
  | name _ _ hd hk=>rcases hk with rfl|rfl|rfl <;> exact ⟨rfl,by decide⟩
  | num _ _ hd hn =>
   refine ⟨rfl,?_⟩
   have:=print_ne ⟨4,n, [], [], []⟩ (by rw[eW]; exact .num n 1 (by omega) hn)
   cases hp:cF ⟨4,n, [], [], []⟩with
   | nil=>exact (this hp).elim
   | cons _ _=>simp
  | text _ _ hd ht =>
   have e:cF ⟨5,⟨0,0⟩,t, [], []⟩=Pw t:=by simp only[cF]; rfl
   have:=qtS_ge t
   rw[e]at hl ⊢
   exact ⟨EK.2 ⟨by simp,by simp,rfl,by simp only; omega,by simp⟩,by simp[Pw]⟩
  | arr _ _ hd hi =>
   have e:cF ⟨6,⟨0,0⟩, [], [],is⟩=91::(jc is true ++ [93]):=by simp only[cF]; rfl
   rw[e]at hl ⊢
   simp only[List.length_cons,List.length_append,List.length_nil]at hl
   obtain ⟨g1,g2⟩:=hL (d+1) hi (by omega)
   exact ⟨EK.2 ⟨by simp,by simp only; omega,g1,by simp,by simp⟩,by simp⟩
  | obj _ _ _ hd hlen hu hi =>
   have e:cF ⟨7,⟨0,0⟩, [],ns,is⟩=123::(jb ns is true ++ [125]):=by simp only[cF]; rfl
   rw[e]at hl ⊢
   simp only[List.length_cons,List.length_append,List.length_nil]at hl
   obtain ⟨g1,g2,g3⟩:=hO (d+1) hi hlen (by omega)
   exact ⟨EK.2 ⟨by simp only; omega,by simp only; omega,g1,by simp,g3⟩,by simp⟩
theorem Zu:∀(l:List Json) (first:Bool) (d:Int),dQ l d=true→(jc l first).length≤10000000000→Py l=true∧l.length≤(jc l first).length
 | [],_,_,_,_=>⟨rfl,by simp⟩
 | x::l,first,d,h,hl=>by
  simp only[dQ,Bool.and_eq_true]at h
  have h1:=P0 x d h.1
  have h2:=Zu l false d h.2
  simp only[jc,List.length_append]at hl ⊢
  obtain ⟨a1,a2⟩:=h1 (by omega)
  obtain ⟨b1,b2⟩:=h2 (by omega)
  refine ⟨by simp only[Py,a1,b1]; rfl,?_⟩
  simp only[List.length_cons]
  omega
theorem Zv:∀(ns:List ah) (l:List Json) (first:Bool) (d:Int),dQ l d=true→ns.length=l.length→(jb ns l first).length≤10000000000→Py l=true∧l.length≤(jb ns l first).length∧∀n∈ns,n.length≤10000000000
 | ns, [],_,_,_,hlen,_=>by
  obtain rfl:ns = []:=List.eq_nil_of_length_eq_zero hlen
  exact ⟨rfl,by simp,by simp⟩
 | [],x::l,_,_,_,hlen,_=>by cases hlen
 | n::ns,x::l,first,d,h,hlen,hl=>by
  simp only[dQ,Bool.and_eq_true]at h
  have h1:=P0 x d h.1
  have h2:=Zv ns l false d h.2 (by simpa using hlen)
  simp only[jb,List.length_append,List.headD_cons,List.tail_cons,List.length_cons]at hl ⊢
  obtain ⟨a1,a2⟩:=h1 (by omega)
  obtain ⟨b1,b2,b3⟩:=h2 (by omega)
  have h3:=qtS_ge n
  refine ⟨by simp only[Py,a1,b1]; rfl,by omega,fun m hm => ?_⟩
  rcases List.mem_cons.1 hm with rfl|hm
  ·omega
  ·exact b3 m hm
end
theorem parseJ_ok (s:ah) (h:(tj s).2.1=0):dO (tj s).1 1=true∧Px (tj s).1=true∧(cF (tj s).1).length≤10000000000:=by
 unfold tj at h ⊢
 by_cases h0:(rQ s).2.1=0
 rotate_left
 ·rw[if_pos h0]at h
  exact (h0 h).elim
 rw[if_neg (by simpa using h0)]at h ⊢
 have hf:=scanS_fine s
 have hlen:=scanS_len s
 cases hq:yB 40 1 (rQ s).1 with
 | error b =>
  rw[hq]at h
  simp only at h
  have hb:b.1≠0:=by
   have hv:=value_ok (R:=Unit) 20002 (by omega) 40 1 (by omega) (by omega) (by omega) (rQ s).1 (scanS_end s h0) hlen
   rw[hq]at hv
   exact hv.1.2
  exact (hb h).elim
 | ok p =>
  rw[hq]at h
  obtain ⟨v,r⟩:=p
  simp only at h ⊢
  split
  ·rename_i hk
   rw[if_pos hk]at h
   cases h
  ·obtain ⟨g1,_⟩:=TW 40 1 _ _ (fun t ht=>(hf t ht).1) hq
   have g2:=U8 40 1 _ _ (fun t ht=>(hf t ht).1) hq
   have g3:=tokL_le _ hf
   simp only at g1 g2 ⊢
   have g4:(cF v).length≤10000000000:=by
    have:(rQ s).1.length*480070≤20002*480070:=Nat.mul_le_mul_right _ hlen
    omega
   exact ⟨g1,(P0 v 1 g1 g4).1,g4⟩
abbrev nil4:Json:=⟨0,⟨0,0⟩, [], [], []⟩
def RokV {R:Type} (jZ:bj R) (d:Int) (T:List Token) (p:Nat) (q:Json×List Token):Prop :=
 CW q.2∧∃p':Nat,T.drop p'=q.2∧∀k:Json→List Token→Int→Int→Option R,jZ d T (p:Int) 0 k=k q.1 T (p':Int) 0
def RbadV {R:Type} (jZ:bj R) (d:Int) (T:List Token) (p:Nat) (b:WQ):Prop :=
 (CW b.2∧b.1≠0)∧∃(v:Json) (p':Nat),T.drop p'=b.2∧∀k:Json→List Token→Int→Int→Option R,jZ d T (p:Int) 0 k=k v T (p':Int) b.1
def HvalR {R:Type} (jZ:bj R) (f:List Token→Except WQ (Json×List Token)) (d:Int) (T:List Token):Prop :=
 (∀(p c:Int),c≠0→∀k:Json→List Token→Int→Int→Option R,jZ d T p c k=k nil4 T p c) ∧
 ∀p:Nat,CW (T.drop p)→Both (RokV jZ d T p) (RbadV jZ d T p) (f (T.drop p))
section
variable {R:Type} (jZ:bj R) (f:List Token→Except WQ (Json×List Token)) (hfl:∀ts p,f ts = .ok p→p.2.length<ts.length) (d:Int) (hd:0≤d∧d≤16) (T:List Token) (hT:T.length≤100000000)
 (hv:HvalR jZ f (d+1) T) (c1 c2 c3:Int) (c4:ah) (c5 c6 c7:Int) (c8:ah)
include hfl hd hT hv
end
mutual
def i64J:Json→Prop
 | ⟨k,n,t,ns,is⟩=>xF n.ao∧xF n.exp∧i64L is
def i64L:List Json→Prop
 | []=>True
 | x::l=>i64J x∧i64L l
end
theorem wt_strs:∀(l:List (Ty.den .str)) (m:Nat),Zn m (l.map (Ty.cells .str))→l.length≤m∧∀t∈(l:List ah),t.length≤m
 | [],_,_=>⟨Nat.zero_le _,fun t h=>by cases h⟩
 | x::l,_, .cons h t=>by
  obtain ⟨h1,h2⟩:=wt_strs l _ t
  have h':WtL _ [V.str x]:=h
  cases h' with
  | cons a b =>
   cases a with
   | str hx =>
    have hx':List.length (x:ah)+1≤_:=hx
    refine ⟨by simp only[List.length_cons]; omega,fun u hu => ?_⟩
    rcases List.mem_cons.1 hu with hu|hu
    ·have:List.length u=List.length (x:ah):=congrArg List.length hu
     omega
    ·have:=h2 u hu; omega
def sumS:List ah→Nat
 | []=>0
 | t::l=>t.length+1+sumS l
theorem wt_sum:∀(l:List (Ty.den .str)) (m:Nat),Zn m (l.map (Ty.cells .str))→sumS l≤m
 | [],_,_=>Nat.zero_le _
 | x::l,_, .cons h t=>by
  have h1:=wt_sum l _ t
  have h':WtL _ [V.str x]:=h
  cases h' with
  | cons a b =>
   cases a with
   | str hx =>
    have hx':List.length (x:ah)+1≤_:=hx
    show List.length (x:ah)+1+sumS l≤_
    omega
theorem prtA_any (d:fv):(AI d).length≤60:=by
 cases h:fmB d with
 | true=>exact prtA_len (I1.1 h)
 | false=>unfold AI; rw[h]; simp
mutual
theorem wt_json:∀(v:Json) (n:Nat),n≤1048576→WtL n (Ty.cells .json v)→Px v=true∧i64J v∧(cF v).length+50≤100*n
 | ⟨k,⟨m,e⟩,t,ns,is⟩,n,hn,h=>by
  have hL:=wt_jsonL is
  have hO:=wt_jsonO is ns
  have h':WtL n [.int .i64 k, .int .i64 m, .int .i64 e, .str t, .sl .str ns .no, .sl .json is .no]:=h
  cases h' with
  | cons a1 h'=>cases h' with
   | cons a2 h'=>cases h' with
    | cons a3 h'=>cases h' with
     | cons a4 h'=>cases h' with
      | cons a5 h'=>cases h' with
       | cons a6 h' =>
        cases h'
        cases a1 with|int p1 k1 =>
        cases a2 with|int p2 k2 =>
        cases a3 with|int p3 k3 =>
        cases a4 with|str p4 =>
        cases a5 with|sl p5 w5 =>
        cases a6 with|sl p6 w6 =>
        obtain ⟨s1,s2⟩:=wt_strs ns _ w5
        have s3:=wt_sum ns _ w5
        have s1':List.length (α:=ah) ns≤_:=s1
        have s2':∀t∈ns,List.length t≤_:=s2
        obtain ⟨l1,l2,l3,l4⟩:=hL _ (by omega) w6
        have l5:=hO true _ (by omega) w6
        have l4':=l4 true
        refine ⟨EK.2 ⟨by simp only; omega,by simp only; omega,l1,by simp only; omega,fun u hu=>by have:=s2' u hu; omega⟩,⟨qv.1 k2,qv.1 k3,l2⟩,?_⟩
        have hq:=PY t
        have hp:=prtA_any ⟨m,e⟩
        have n1:rP.length=4:=rfl
        have n2:lr.length=5:=rfl
        have n3:wP.length=4:=rfl
        simp only[cF]
        split
        ·omega
        split
        ·omega
        split
        ·omega
        split
        ·omega
        split
        ·omega
        split
        ·simp only[List.length_cons,List.length_append,List.length_nil]; omega
        ·simp only[List.length_cons,List.length_append,List.length_nil]; omega
theorem wt_jsonL:∀(l:List Json) (n:Nat),n≤1048576→Zn n (l.map (Ty.cells .json))→Py l=true∧i64L l∧l.length≤n∧∀b:Bool,(jc l b).length≤100*n
 | [],n,_,_=>⟨rfl,trivial,Nat.zero_le _,fun _=>by simp[jc]⟩
 | x::l,_,hn, .cons h t=>by
  obtain ⟨a1,a2,a3⟩:=wt_json x _ (by omega) h
  obtain ⟨b1,b2,b3,b4⟩:=wt_jsonL l _ (by omega) t
  refine ⟨by simp only[Py,a1,b1]; rfl,⟨a2,b2⟩,by simp only[List.length_cons]; omega,fun b => ?_⟩
  have b5:=b4 false
  simp only[jc,List.length_append]
  have:(if b=true then ([]:ah)else [44]).length≤1:=by cases b <;> simp
  omega
theorem wt_jsonO:∀(l:List Json) (ns:List ah) (b:Bool) (n:Nat),n≤1048576→Zn n (l.map (Ty.cells .json))→(jb ns l b).length≤100*n+6*sumS ns
 | [],ns,_,n,_,_=>by simp[jb]
 | x::l,ns,b,_,hn, .cons h t=>by
  obtain ⟨a1,a2,a3⟩:=wt_json x _ (by omega) h
  have b5:=wt_jsonO l ns.tail false _ (by omega) t
  simp only[jb,List.length_append,List.length_cons]
  have:(if b=true then ([]:ah)else [44]).length≤1:=by cases b <;> simp
  cases ns with
  | nil =>
   have hq:=PY []
   simp only[List.headD_nil,List.tail_nil,sumS,List.length_nil]at b5 hq ⊢
   omega
  | cons u ns =>
   have hq:=PY u
   simp only[List.headD_cons,List.tail_cons,sumS]at b5 ⊢
   omega
end
mutual
theorem right_i64:∀(v:Json) (d:Int),dO v d=true→i64J v
 | ⟨k,⟨m,e⟩,t,ns,is⟩,d,h=>by
  have hL:=Zw is
  have z:xF 0:=by unfold xF; omega
  cases eW.1 h with
  | name _ _ hd hk=>exact ⟨z,z,trivial⟩
  | num _ _ hd hn =>
   have:=hn.bounds
   simp only at this
   exact ⟨by show xF m; unfold xF; omega,by show xF e; unfold xF; omega,trivial⟩
  | text _ _ hd ht=>exact ⟨z,z,trivial⟩
  | arr _ _ hd hi=>exact ⟨z,z,hL _ hi⟩
  | obj _ _ _ hd hl hu hi=>exact ⟨z,z,hL _ hi⟩
theorem Zw:∀(l:List Json) (d:Int),dQ l d=true→i64L l
 | [],_,_=>trivial
 | x::l,d,h=>by
  simp only[dQ,Bool.and_eq_true]at h
  exact ⟨right_i64 x d h.1,Zw l d h.2⟩
end
end Go.Proofs.YtidfokedcnhahaaGreatDoor
end
