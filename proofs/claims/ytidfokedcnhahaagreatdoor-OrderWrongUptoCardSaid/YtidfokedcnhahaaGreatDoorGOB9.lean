/-
  GO, part 9 of 10.
-/
import Derived.Test.YtidfokedcnhahaaGreatDoorGOB8
set_option linter.unusedSimpArgs false
set_option linter.unnecessarySimpa false
set_option linter.unusedVariables false
set_option linter.unusedSectionVars false
noncomputable section
set_option maxRecDepth 100000
namespace Go.Proofs.YtidfokedcnhahaaGreatDoor
open Go Go.aA Go.Lib
abbrev nil4:Json:=⟨0,⟨0,0⟩, [], [], []⟩
def RokV {R:Type} (kv:bl R) (d:Int) (T:List Token) (p:Nat) (q:Json×List Token):Prop :=
 EJ q.2∧∃p':Nat,T.drop p'=q.2∧∀k:Json→List Token→Int→Int→Option R,kv d T (p:Int) 0 k=k q.1 T (p':Int) 0
def RbadV {R:Type} (kv:bl R) (d:Int) (T:List Token) (p:Nat) (b:ZD):Prop :=
 (EJ b.2∧b.1≠0)∧∃(v:Json) (p':Nat),T.drop p'=b.2∧∀k:Json→List Token→Int→Int→Option R,kv d T (p:Int) 0 k=k v T (p':Int) b.1
def HvalR {R:Type} (kv:bl R) (f:List Token→Except ZD (Json×List Token)) (d:Int) (T:List Token):Prop :=
 (∀(p c:Int),c≠0→∀k:Json→List Token→Int→Int→Option R,kv d T p c k=k nil4 T p c) ∧
 ∀p:Nat,EJ (T.drop p)→Both (RokV kv d T p) (RbadV kv d T p) (f (T.drop p))
section
variable {R:Type} (kv:bl R) (f:List Token→Except ZD (Json×List Token)) (hfl:∀ts p,f ts = .ok p→p.2.length<ts.length) (d:Int) (hd:0≤d∧d≤16) (T:List Token) (hT:T.length≤100000000)
 (hv:HvalR kv f (d+1) T) (c1 c2 c3:Int) (c4:ae) (c5 c6 c7:Int) (c8:ae)
include hfl hd hT hv
end
mutual
def i64J:Json→Prop
 | ⟨k,n,t,ns,is⟩=>zm n.aq∧zm n.exp∧i64L is
def i64L:List Json→Prop
 | []=>True
 | x::l=>i64J x∧i64L l
end
theorem wt_strs:∀(l:List (Ty.den .str)) (m:Nat),WtLL m (l.map (Ty.cells .str))→l.length≤m∧∀t∈(l:List ae),t.length≤m
 | [],_,_=>⟨Nat.zero_le _,fun t h=>by cases h⟩
 | x::l,_, .cons h t=>by
  obtain ⟨h1,h2⟩:=wt_strs l _ t;have h':WtL _ [V.str x]:=h;cases h' with
  | cons a b =>
   cases a with
   | str hx =>
    have hx':List.length (x:ae)+1≤_:=hx;refine ⟨by simp only[List.length_cons]; omega,fun u hu => ?_⟩;rcases List.mem_cons.1 hu with hu|hu
    ·have:List.length u=List.length (x:ae):=congrArg List.length hu;omega
    ·have:=h2 u hu; omega
def sumS:List ae→Nat
 | []=>0
 | t::l=>t.length+1+sumS l
theorem wt_sum:∀(l:List (Ty.den .str)) (m:Nat),WtLL m (l.map (Ty.cells .str))→sumS l≤m
 | [],_,_=>Nat.zero_le _
 | x::l,_, .cons h t=>by
  have h1:=wt_sum l _ t;have h':WtL _ [V.str x]:=h;cases h' with
  | cons a b =>
   cases a with
   | str hx =>
    have hx':List.length (x:ae)+1≤_:=hx;show List.length (x:ae)+1+sumS l≤_;omega
theorem prtA_any (d:fO):(B4 d).length≤60:=by
 cases h:fmB d with
 | true=>exact prtA_len (KW.1 h)
 | false=>unfold B4; rw[h]; simp
mutual
theorem wt_json:∀(v:Json) (n:Nat),n≤1048576→WtL n (Ty.cells .json v)→J8 v=true∧i64J v∧(cn v).length+50≤100*n
 | ⟨k,⟨m,e⟩,t,ns,is⟩,n,hn,h=>by
  have hL:=wt_jsonL is;have hO:=wt_jsonO is ns;have h':WtL n [.int .i64 k, .int .i64 m, .int .i64 e, .str t, .sl .str ns .no, .sl .json is .no]:=h;cases h' with
  | cons a1 h'=>cases h' with
   | cons a2 h'=>cases h' with
    | cons a3 h'=>cases h' with
     | cons a4 h'=>cases h' with
      | cons a5 h'=>cases h' with
       | cons a6 h' =>
        cases h';cases a1 with|int p1 k1 =>
        cases a2 with|int p2 k2 =>
        cases a3 with|int p3 k3 =>
        cases a4 with|str p4 =>
        cases a5 with|sl p5 w5 =>
        cases a6 with|sl p6 w6 =>
        obtain ⟨s1,s2⟩:=wt_strs ns _ w5;have s3:=wt_sum ns _ w5;have s1':List.length (α:=ae) ns≤_:=s1;have s2':∀t∈ns,List.length t≤_:=s2;obtain ⟨l1,l2,l3,l4⟩:=hL _ (by omega) w6;have l5:=hO true _ (by omega) w6;have l4':=l4 true;refine ⟨Bd.2 ⟨by simp only; omega,by simp only; omega,l1,by simp only; omega,fun u hu=>by have:=s2' u hu; omega⟩,⟨rD.1 k2,rD.1 k3,l2⟩,?_⟩;have hq:=Si t;have hp:=prtA_any ⟨m,e⟩;have n1:sP.length=4:=rfl;have n2:lN.length=5:=rfl;have n3:ym.length=4:=rfl;simp only[cn];split
        ·omega
        split
        ·omega
        split
        ·omega
        split
        ·omega
        split
        ·omega
        split
        ·simp only[List.length_cons,List.length_append,List.length_nil]; omega
        ·simp only[List.length_cons,List.length_append,List.length_nil]; omega
theorem wt_jsonL:∀(l:List Json) (n:Nat),n≤1048576→WtLL n (l.map (Ty.cells .json))→RN l=true∧i64L l∧l.length≤n∧∀b:Bool,(jx l b).length≤100*n
 | [],n,_,_=>⟨rfl,trivial,Nat.zero_le _,fun _=>by simp[jx]⟩
 | x::l,_,hn, .cons h t=>by
  obtain ⟨a1,a2,a3⟩:=wt_json x _ (by omega) h;obtain ⟨b1,b2,b3,b4⟩:=wt_jsonL l _ (by omega) t;refine ⟨by simp only[RN,a1,b1]; rfl,⟨a2,b2⟩,by simp only[List.length_cons]; omega,fun b => ?_⟩;have b5:=b4 false;simp only[jx,List.length_append];have:(if b=true then ([]:ae)else [44]).length≤1:=by cases b <;> simp
  omega
theorem wt_jsonO:∀(l:List Json) (ns:List ae) (b:Bool) (n:Nat),n≤1048576→WtLL n (l.map (Ty.cells .json))→(ij ns l b).length≤100*n+6*sumS ns
 | [],ns,_,n,_,_=>by simp[ij]
 | x::l,ns,b,_,hn, .cons h t=>by
  obtain ⟨a1,a2,a3⟩:=wt_json x _ (by omega) h;have b5:=wt_jsonO l ns.tail false _ (by omega) t;simp only[ij,List.length_append,List.length_cons];have:(if b=true then ([]:ae)else [44]).length≤1:=by cases b <;> simp
  cases ns with
  | nil =>
   have hq:=Si [];simp only[List.headD_nil,List.tail_nil,sumS,List.length_nil]at b5 hq ⊢;omega
  | cons u ns =>
   have hq:=Si u;simp only[List.headD_cons,List.tail_cons,sumS]at b5 ⊢;omega
end
mutual
theorem right_i64:∀(v:Json) (d:Int),dH v d=true→i64J v
 | ⟨k,⟨m,e⟩,t,ns,is⟩,d,h=>by
  have hL:=right_i64L is;have z:zm 0:=by unfold zm; omega
  cases fp.1 h with
  | name _ _ hd hk=>exact ⟨z,z,trivial⟩
  | num _ _ hd hn =>
   have:=hn.bounds;simp only at this;exact ⟨by show zm m; unfold zm; omega,by show zm e; unfold zm; omega,trivial⟩
  | text _ _ hd ht=>exact ⟨z,z,trivial⟩
  | arr _ _ hd hi=>exact ⟨z,z,hL _ hi⟩
  | obj _ _ _ hd hl hu hi=>exact ⟨z,z,hL _ hi⟩
theorem right_i64L:∀(l:List Json) (d:Int),dQ l d=true→i64L l
 | [],_,_=>trivial
 | x::l,d,h=>by
  simp only[dQ,Bool.and_eq_true]at h;exact ⟨right_i64 x d h.1,right_i64L l d h.2⟩
end
def stripN:Nat→Int→Int→fO
 | 0,n,e=>⟨n,e⟩
 | f+1,n,e=>if Int.tmod n 10=0 then stripN f (Int.tdiv n 10) (e+1)else ⟨n,e⟩
def dI (n:Int):fO:=if n=0 then ⟨0,0⟩else stripN 20 n 0
theorem YV:∀(f:Nat) (n e:Int),n≠0→n.natAbs<10 ^ f→∃(u:Int) (j:Nat),Int.tmod u 10≠0∧n=u*10 ^ j∧stripN f n e=⟨u,e+j⟩
 | 0,n,e,h0,h=>by omega
 | f+1,n,e,h0,h=>by
  simp only[stripN];by_cases hm:Int.tmod n 10=0
  ·rw[if_pos hm];obtain ⟨c,rfl⟩:=Int.dvd_of_tmod_eq_zero hm;have hc:Int.tdiv (10*c) 10=c:=Int.mul_tdiv_cancel_left c (by decide);rw[hc];have hp:10 ^ (f+1)=10*10 ^ f:=by rw[Nat.pow_succ,Nat.mul_comm]
   obtain ⟨u,j,h1,h2,h3⟩:=YV f c (e+1) (by rintro rfl; exact h0 rfl) (by rw[hp]at h; omega);refine ⟨u,j+1,h1,by rw[h2,Int.pow_succ,Int.mul_comm,Int.mul_assoc],?_⟩;rw[h3];congr 1;omega
  ·rw[if_neg hm];exact ⟨n,0,hm,by simp,by simp⟩
def dj (n:Int):Bool:=decide (0≤n)&&decide (n≤1000000000)
theorem wB {n:Int}:dj n=true↔0≤n∧n≤1000000000:=by unfold dj; rw[Bool.and_eq_true,decide_eq_true_eq,decide_eq_true_eq]
theorem dI_cases {n:Int} (h:dj n=true):(n=0∧dI n=⟨0,0⟩)∨∃(u:Int) (j:Nat),Int.tmod u 10≠0∧n=u*10 ^ j∧dI n=⟨u,j⟩∧j≤9∧1≤u∧u≤1000000000:=by
 obtain ⟨h1,h2⟩:=wB.1 h;by_cases h0:n=0
 ·exact .inl ⟨h0,by unfold dI; rw[if_pos h0]⟩
 ·have e20:(10:Nat) ^ 20=100000000000000000000:=rfl;obtain ⟨u,j,g1,g2,g3⟩:=YV 20 n 0 h0 (by omega);have hu:1≤u:=by
   have hp:(0:Int)<10 ^ j:=Int.pow_pos (by decide);rcases Int.lt_or_le 0 u with h|h
   ·omega
   ·have:u*10 ^ j≤0:=Int.mul_nonpos_of_nonpos_of_nonneg h (by omega);omega
  have hj:j≤9:=by
   rcases Nat.lt_or_ge 9 j with h|h
   ·exfalso;have hp:(10:Int) ^ 10≤10 ^ j:=by
     have:=Nat.pow_le_pow_right (n:=10) (by decide) (show 10≤j by omega)
     exact_mod_cast this
    have e10:(10:Int) ^ 10=10000000000:=by decide
    have hm:1*(10:Int) ^ j≤u*10 ^ j:=Int.mul_le_mul_of_nonneg_right hu (by omega);omega
   ·exact h
  have hle:u≤n:=by
   have hp:(1:Int)≤10 ^ j:=Sd j;have:u*1≤u*10 ^ j:=Int.mul_le_mul_of_nonneg_left hp (by omega);omega
  refine .inr ⟨u,j,g1,g2,?_,hj,hu,by omega⟩;unfold dI;rw[if_neg h0,g3];congr 1;omega
theorem dI_fm {n:Int} (h:dj n=true):Fm (dI n):=by
 rcases dI_cases h with ⟨_,e⟩|⟨u,j,g1,_,e,g4,g5,g6⟩
 ·rw[e]; exact Fm.mk0
 ·rw[e]; exact .inr ⟨g1,by show -1000000000000000≤u; omega,by show u≤1000000000000000; omega,by show -9≤(j:Int); omega,by show (j:Int)≤9; omega⟩
theorem shiftN_eq:∀(j:Nat) (u:Int),0≤u→u*10 ^ j≤1000000000→Pu.Oo j u=some (u*10 ^ j)
 | 0,u,_,_=>by simp[Pu.Oo]
 | j+1,u,h0,h=>by
  have e:u*10 ^ (j+1)=(u*10)*10 ^ j:=by rw[Int.pow_succ,Int.mul_assoc,Int.mul_comm 10]
  have hp:(1:Int)≤10 ^ j:=Sd j;have hle:u*10≤u*10 ^ (j+1):=by
   rw[e];have:u*10*1≤u*10*10 ^ j:=Int.mul_le_mul_of_nonneg_left hp (by omega);omega
  simp only[Pu.Oo];rw[if_pos (by omega),shiftN_eq j (u*10) (by omega) (by rw[←e]; exact h),e]
theorem decInt_dI {n:Int} (h:dj n=true):Pu.uW (dI n)=some n:=by
 obtain ⟨h1,h2⟩:=wB.1 h;rcases dI_cases h with ⟨rfl,e⟩|⟨u,j,g1,g2,e,g4,g5,g6⟩
 ·rw[e]; rfl
 ·rw[e];unfold Pu.uW;have hr:Pu.Ue ⟨u,j⟩=true:=by
   unfold Pu.Ue;rw[if_neg (by show ¬u=0; omega)];simp only[Bool.and_eq_true,decide_eq_true_eq];refine ⟨⟨g1,by omega,by omega⟩,by omega,by omega⟩
  rw[if_pos ⟨hr,by show (0:Int)≤(j:Int); omega⟩];show Pu.Oo ((j:Int)).toNat u=some n;rw[Int.toNat_natCast,shiftN_eq j u (by omega) (by omega),←g2]
def CT (n:Int):Json:=⟨4,dI n, [], [], []⟩
def UA (s:ae):Json:=⟨5,⟨0,0⟩,s, [], []⟩
def ZE (b:Bool):Json:=⟨if b then 3 else 2,⟨0,0⟩, [], [], []⟩
def UB (l:List Json):Json:=⟨6,⟨0,0⟩, [], [],l⟩
def Am (ns:List ae) (is:List Json):Json:=⟨7,⟨0,0⟩, [],ns,is⟩
theorem RQ {n:Int} (h:dj n=true):Pu.numF (CT n)=some n:=by
 unfold Pu.numF CT;rw[if_pos rfl];exact decInt_dI h
theorem flagF_yes (b:Bool):Pu.flagF (ZE b)=some b:=by cases b <;> rfl
theorem yU {n:Int} (h:dj n=true) {d:Int} (hd:d≤16):dH (CT n) d=true:=fp.2 (.num _ d hd (dI_fm h))
theorem Sk {s:ae} (h:ft s=true) {d:Int} (hd:d≤16):dH (UA s) d=true:=fp.2 (.text _ d hd h)
theorem right_yes (b:Bool) {d:Int} (hd:d≤16):dH (ZE b) d=true:=by cases b <;> exact fp.2 (.name _ d hd (by simp))
theorem Sl {l:List Json} {d:Int} (h:dQ l (d+1)=true) (hd:d≤16):dH (UB l) d=true:=fp.2 (.arr _ d hd h)
theorem X3 {ns:List ae} {is:List Json} {d:Int} (hl:ns.length=is.length) (hu:uH [] ns=true) (h:dQ is (d+1)=true) (hd:d≤16):dH (Am ns is) d=true:=fp.2 (.obj _ _ d hd hl hu h)
theorem KY {n:Int} (h:dj n=true):(cn (CT n)).length≤40:=by
 have e:cn (CT n)=B4 (dI n):=by unfold CT; simp only[cn]; rfl
 have e2:B4 (dI n)=ZB (dI n):=by unfold B4; rw[KW.2 (dI_fm h)]; rfl
 rw[e,e2];exact prt_len _ (dI_fm h)
theorem len_yes (b:Bool):(cn (ZE b)).length≤5:=by cases b <;> decide
theorem len_str (s:ae):(cn (UA s)).length≤6*s.length+2:=by
 have e:cn (UA s)=OT s:=by unfold UA; simp only[cn]; rfl
 rw[e];exact Si s
theorem Z7 (l:List Json):(cn (UB l)).length=(jx l true).length+2:=by
 have e:cn (UB l)=91::(jx l true ++ [93]):=by unfold UB; simp only[cn]; rfl
 rw[e]; simp
theorem len_obj (ns:List ae) (l:List Json):(cn (Am ns l)).length=(ij ns l true).length+2:=by
 have e:cn (Am ns l)=123::(ij ns l true ++ [125]):=by unfold Am; simp only[cn]; rfl
 rw[e]; simp
theorem RR:∀(l:List Json) (b:Bool) (m:Nat),(∀x∈l,(cn x).length≤m)→(jx l b).length≤l.length*(m+1)
 | [],_,_,_=>by simp[jx]
 | x::l,b,m,h=>by
  have h1:=h x (by simp);have h2:=RR l false m fun y hy=>h y (by simp[hy])
  have:(if b=true then ([]:ae)else [44]).length≤1:=by cases b <;> simp
  simp only[jx,List.length_append,List.length_cons,Nat.succ_mul];omega
end Go.Proofs.YtidfokedcnhahaaGreatDoor
set_option maxRecDepth 100000
namespace Go.Proofs.YtidfokedcnhahaaGreatDoor
open Go Go.aA
def Ei (h:Nat) (c:UInt8):Nat:=((h ^^^ c.toNat)*16777619) % 4294967296
theorem FH (h:Nat) (c:UInt8):Ei h c<4294967296:=by
 unfold Ei;exact Nat.mod_lt _ (by decide)
def SL (s:ae) (h:Nat):Nat:=s.foldl Ei h
def X4 (s:ae):Nat:=SL s 2166136261
theorem MY (c:UInt8) (s:ae) (h:Nat):SL (c::s) h=SL s (Ei h c):=by
 unfold SL;rw[List.foldl_cons]
theorem fnv_app (a b:ae) (h:Nat):SL (a++b) h=SL b (SL a h):=by
 unfold SL;rw[List.foldl_append]
theorem fnv_lt (s:ae):∀(h:Nat),h<4294967296→SL s h<4294967296:=by
 induction s with
 | nil=>intro h hh; unfold SL; rw[List.foldl_nil]; exact hh
 | cons c s ih=>intro h _; rw[MY]; exact ih _ (FH h c)
theorem mul_inv (x:Nat) (hx:x<4294967296):(x*16777619 % 4294967296)*899433627 % 4294967296=x:=by omega
theorem mul_inj {a b:Nat} (ha:a<4294967296) (hb:b<4294967296) (h:a*16777619 % 4294967296=b*16777619 % 4294967296):a=b:=by
 have h1:=mul_inv a ha;have h2:=mul_inv b hb;rw[h]at h1;exact h1.symm.trans h2
theorem xor_lt {h:Nat} (hh:h<4294967296) (c:UInt8):h ^^^ c.toNat<4294967296:=by
 have:=UInt8.toNat_lt c;exact Nat.xor_lt_two_pow (n:=32) hh (by omega)
theorem xor_inj_l {a b c:Nat} (h:a ^^^ c=b ^^^ c):a=b:=by
 have:=congrArg (· ^^^ c) h;simpa [Nat.xor_assoc]using this
theorem xor_inj_r {a b c:Nat} (h:c ^^^ a=c ^^^ b):a=b:=by
 rw[Nat.xor_comm c a,Nat.xor_comm c b]at h;exact xor_inj_l h
theorem step_inj_l {a b:Nat} (ha:a<4294967296) (hb:b<4294967296) (c:UInt8) (h:Ei a c=Ei b c):a=b:=by
 unfold Ei at h;exact xor_inj_l (mul_inj (xor_lt ha c) (xor_lt hb c) h)
theorem step_inj_r {a:Nat} (ha:a<4294967296) (c d:UInt8) (h:Ei a c=Ei a d):c=d:=by
 unfold Ei at h;exact UInt8.toNat_inj.1 (xor_inj_r (mul_inj (xor_lt ha c) (xor_lt ha d) h))
theorem fnv_inj (s:ae):∀(a b:Nat),a<4294967296→b<4294967296→SL s a=SL s b→a=b:=by
 induction s with
 | nil=>intro a b _ _ h; unfold SL at h; rw[List.foldl_nil,List.foldl_nil]at h; exact h
 | cons c s ih =>
  intro a b ha hb h;rw[MY,MY]at h;exact step_inj_l ha hb c (ih _ _ (FH a c) (FH b c) h)
theorem fnv_one (a b:ae) (x y:UInt8) (h:X4 (a++x::b)=X4 (a++y::b)):x=y:=by
 unfold X4 at h;rw[fnv_app,fnv_app,MY,MY]at h;have ha:=fnv_lt a 2166136261 (by decide);exact step_inj_r ha x y (fnv_inj b _ _ (FH _ x) (FH _ y) h)
def hxS:ae := [48,49,50,51,52,53,54,55,56,57,97,98,99,100,101,102]
def hxB (n:Nat):UInt8:=hxS.getD (n % 16) 0
def SM (h:Nat):ae := [hxB (h / 268435456),hxB (h / 16777216),hxB (h / 1048576),hxB (h / 65536),hxB (h / 4096),hxB (h / 256),hxB (h / 16),hxB h]
theorem hxB_inj:∀a b:Fin 16,hxS.getD a.val 0=hxS.getD b.val 0→a=b:=by decide +kernel
theorem RS {a b:Nat} (h:hxB a=hxB b):a % 16=b % 16:=by
 have:=hxB_inj ⟨a % 16,Nat.mod_lt _ (by decide)⟩ ⟨b % 16,Nat.mod_lt _ (by decide)⟩ h;exact congrArg Fin.val this
theorem hxB_ne (a:Nat):hxB a≠35:=by
 have all:∀n:Fin 16,hxS.getD n.val 0≠35:=by decide +kernel
 exact all ⟨a % 16,Nat.mod_lt _ (by decide)⟩
theorem hex8_inj {a b:Nat} (ha:a<4294967296) (hb:b<4294967296) (h:SM a=SM b):a=b:=by
 unfold SM at h;simp only[List.cons.injEq,and_true]at h;obtain ⟨h1,h2,h3,h4,h5,h6,h7,h8⟩:=h;have:=RS h1; have:=RS h2; have:=RS h3; have:=RS h4; have:=RS h5; have:=RS h6; have:=RS h7; have:=RS h8;omega
theorem hex8_ne (h:Nat):∀x∈SM h,x≠35:=by
 intro x hx;unfold SM at hx;simp only[List.mem_cons,List.not_mem_nil,or_false]at hx;rcases hx with rfl|rfl|rfl|rfl|rfl|rfl|rfl|rfl <;> exact hxB_ne _
def eQ (s:ae):ae:=s++35::SM (X4 s)
theorem mu (s:ae):(eQ s).length=s.length+9:=by simp[eQ,SM]
def EX (s:ae):Option ae:=if 9≤s.length∧eQ (s.take (s.length - 9))=s then some (s.take (s.length - 9))else none
theorem Sm (s:ae):EX (eQ s)=some s:=by
 have hl:=mu s;have ht:(eQ s).take ((eQ s).length - 9)=s:=by rw[hl,Nat.add_sub_cancel]; unfold eQ; simp
 unfold EX;rw[ht,if_pos ⟨by omega,rfl⟩]
theorem Sn {s t:ae} (h:EX s=some t):s=eQ t:=by
 unfold EX at h;split at h
 ·rename_i hc;cases h;exact hc.2.symm
 ·cases h
theorem open_altered (t:ae) (k:Nat) (c:UInt8) (hk:k<(eQ t).length) (hc:(eQ t)[k]≠c):EX ((eQ t).set k c)=none:=by
 cases ho:EX ((eQ t).set k c)with
 | none=>rfl
 | some u =>
  exfalso;have e:=Sn ho;have hl:u.length=t.length:=by
   have:=congrArg List.length e;rw[List.length_set,mu,mu]at this;omega
  have ZO:∀j,j≠k→(eQ u)[j]? = (eQ t)[j]? :=fun j hj=>by
   rw[←e,List.getElem?_set];rw[if_neg (fun h=>hj h.symm)]
  have hkk:(eQ u)[k]? = some c:=by
   rw[←e,List.getElem?_set];simp[hk]
  have hu:∀j,j<t.length→(eQ u)[j]? = u[j]? :=fun j hj=>by unfold eQ; rw[List.getElem?_append_left (by omega)]
  have ht:∀j,j<t.length→(eQ t)[j]? = t[j]? :=fun j hj=>by unfold eQ; rw[List.getElem?_append_left (by omega)]
  have hu2:∀j,(eQ u)[t.length+j]? = (35::SM (X4 u))[j]? :=fun j=>by unfold eQ; rw[List.getElem?_append_right (by omega)]; congr 1; omega
  have ht2:∀j,(eQ t)[t.length+j]? = (35::SM (X4 t))[j]? :=fun j=>by unfold eQ; rw[List.getElem?_append_right (by omega)]; congr 1; omega
  rcases Nat.lt_or_ge k t.length with jz|hge
  ·
   have hd:SM (X4 u)=SM (X4 t):=by
    apply List.ext_getElem?;intro j;have h1:=hu2 (j+1);have h2:=ht2 (j+1);rw[List.getElem?_cons_succ]at h1 h2;rw[←h1,←h2];exact ZO _ (by omega)
   have hf:=hex8_inj (fnv_lt _ _ (by decide)) (fnv_lt _ _ (by decide)) hd;have Xe:u=t.set k c:=by
    apply List.ext_getElem?;intro j;by_cases hj:j<t.length
    ·rw[←hu j hj];by_cases hjk:j=k
     ·subst hjk;rw[hkk,List.getElem?_set];simp[jz]
     ·rw[ZO j hjk,ht j hj,List.getElem?_set,if_neg (fun h=>hjk h.symm)]
    ·rw[List.getElem?_eq_none (by omega),List.getElem?_eq_none (by rw[List.length_set]; omega)]
   have e1:t=t.take k++t[k]::t.drop (k+1):=by rw[←List.drop_eq_getElem_cons jz,List.take_append_drop]
   have e2:t.set k c=t.take k++c::t.drop (k+1):=by rw[List.set_eq_take_append_cons_drop,if_pos jz]
   rw[Xe,e2]at hf;have:=fnv_one (t.take k) (t.drop (k+1)) c t[k] (by rw[←e1]; exact hf);apply hc;have h3:=ht k jz;rw[List.getElem?_eq_getElem hk,List.getElem?_eq_getElem jz]at h3;rw[Option.some.inj h3,this]
  ·
   have Xe:u=t:=by
    apply List.ext_getElem?;intro j;by_cases hj:j<t.length
    ·rw[←hu j hj,ZO j (by omega),ht j hj]
    ·rw[List.getElem?_eq_none (by omega),List.getElem?_eq_none (by omega)]
   rw[Xe]at hkk;rw[List.getElem?_eq_getElem hk]at hkk;exact hc (Option.some.inj hkk)
theorem open_longer (t:ae) (c:UInt8):EX (eQ t ++ [c])=none:=by
 cases ho:EX (eQ t ++ [c])with
 | none=>rfl
 | some u =>
  exfalso;have e:=Sn ho;have hl:u.length=t.length+1:=by
   have:=congrArg List.length e;rw[List.length_append,mu,mu,List.length_singleton]at this;omega
  have h1:(eQ u)[t.length+1]? = some 35:=by unfold eQ; rw[List.getElem?_append_right (by omega),hl]; simp
  have h2:(eQ t ++ [c])[t.length+1]? = (SM (X4 t))[0]? :=by
   rw[List.getElem?_append_left (by rw[mu]; omega)];unfold eQ;rw[List.getElem?_append_right (by omega)];simp
  rw[e,h1]at h2;exact hxB_ne _ (by simpa [SM]using h2.symm)
end Go.Proofs.YtidfokedcnhahaaGreatDoor
set_option maxRecDepth 100000
namespace Go.Proofs.YtidfokedcnhahaaGreatDoor
open Go Go.aA Go.Lib
def SN:ae := [97,98,99,100,101,102,103,104,105,106,107,108,109,110,111,112,113,114,115,116,117,118,119,120,121,122,65,66,67,68,69,70,71,72,73,74,75,76,77,78,79,80,81,82,83,84,85,86,87,88,89,90,48,49,50,51,52,53,54,55,56,57,95,46,58,45]
def An (s:ae):Bool:=s.all (SN.contains ·)&&(!s.isEmpty&&decide (s.length≤16))
def vC:Stop→List aA.Way→List Stop→Bool
 | _, [], []=>true
 | f,e::es,t::ts=>(dj e.zy&&dj e.seq&&dj t.node&&dj t.seq)&&(decide (e.seq=f.seq+1)&&decide (t.seq=e.seq+1))&&((e.bE==t.bE)&&(!t.bE||f.bE))&&vC t es ts
 | _,_,_=>false
def fC (o:Order):Bool :=
 An o.cd&&(dj o.header&&dj o.order&&dj o.update)&&(match o.nodes with
  | []=>false
  | f::ns=>decide (ns.length<64)&&(decide (Int.tmod f.seq 2=0)&&f.bE)&&(dj f.node&&dj f.seq)&&vC f o.aS ns)
def yV:ae := [104,101,97,100,101,114,73,100]
def s6:ae := [115,101,114,105,97,108,78,117,109,98,101,114]
def FI:ae := [111,114,100,101,114,73,100]
def yW:ae := [111,114,100,101,114,85,112,100,97,116,101,73,100]
def FJ:ae := [110,111,100,101,115]
def Ju:ae := [101,100,103,101,115]
def MZ:ae := [110,111,100,101,73,100]
def M0:ae := [101,100,103,101,73,100]
def M1:ae := [115,101,113,117,101,110,99,101,73,100]
def PY:ae := [114,101,108,101,97,115,101,100]
def M3 (n:ae) (a b:Int) (r:Bool):Json:=Am [n,M1,PY] [CT a,CT b,ZE r]
def Jv (x:Stop):Json:=M3 MZ x.node x.seq x.bE
def UC (x:aA.Way):Json:=M3 M0 x.zy x.seq x.bE
def yn:List ae := [yV,s6,FI,yW,FJ,Ju]
def iZ (o:Order):Json:=Am yn [CT o.header,UA o.cd,CT o.order,CT o.update,UB (o.nodes.map Jv),UB (o.aS.map UC)]
def my (v:Json) (s:ae):Option Int:=(Pu.Zp v s).bind Pu.numF
def Ao (v:Json) (s:ae):Option ae:=(Pu.Zp v s).bind Pu.textF
def LX (v:Json) (s:ae):Option Bool:=(Pu.Zp v s).bind Pu.flagF
def uI (v:Json) (s:ae):Option (List Json):=(Pu.Zp v s).bind Pu.listF
def KZ (x:Json):Option Stop:=match my x MZ,my x M1,LX x PY with
 | some a,some b,some r=>some ⟨a,b,r⟩
 | _,_,_=>none
def WR (x:Json):Option aA.Way:=match my x M0,my x M1,LX x PY with
 | some a,some b,some r=>some ⟨a,b,r⟩
 | _,_,_=>none
def OY {α:Type} (f:Json→Option α):List Json→Option (List α)
 | []=>some []
 | x::l=>match f x,OY f l with
  | some y,some r=>some (y::r)
  | _,_=>none
def Jw (v:Json):Option Order :=
 match my v yV,Ao v s6,my v FI,my v yW,uI v FJ,uI v Ju with
 | some h,some s,some n,some u,some ns,some es =>
  (match OY KZ ns,OY WR es with
   | some a,some b=>some ⟨h,s,n,u,a,b⟩
   | _,_=>none)
 | _,_,_,_,_,_=>none
def Jx (s:ae):Except Int Order :=
 match EX s with
 | none => .error 60
 | some t =>
  if (nY t).2.1≠0 then .error (nY t).2.1 else
  match Jw (nY t).1 with
  | some o=>if fC o then .ok o else .error 80
  | none => .error 80
theorem part_at {n:ae} {a b:Int} {r:Bool} (hn:n=MZ∨n=M0) (ha:dj a=true) (hb:dj b=true):my (M3 n a b r) n=some a∧my (M3 n a b r) M1=some b∧LX (M3 n a b r) PY=some r:=by
 have e1:Pu.Zp (M3 n a b r) n=some (CT a):=by rcases hn with rfl|rfl <;> rfl
 have e2:Pu.Zp (M3 n a b r) M1=some (CT b):=by rcases hn with rfl|rfl <;> rfl
 have e3:Pu.Zp (M3 n a b r) PY=some (ZE r):=by rcases hn with rfl|rfl <;> rfl
 unfold my LX;rw[e1,e2,e3];exact ⟨RQ ha,RQ hb,flagF_yes r⟩
def X5 (x:Stop):Prop:=dj x.node=true∧dj x.seq=true
def wayOk (x:aA.Way):Prop:=dj x.zy=true∧dj x.seq=true
theorem stop_back {x:Stop} (h:X5 x):KZ (Jv x)=some x:=by
 obtain ⟨h1,h2,h3⟩:=part_at (r:=x.bE) (.inl rfl) h.1 h.2;unfold KZ Jv;rw[h1,h2,h3]
theorem way_back {x:aA.Way} (h:wayOk x):WR (UC x)=some x:=by
 obtain ⟨h1,h2,h3⟩:=part_at (r:=x.bE) (.inr rfl) h.1 h.2;unfold WR UC;rw[h1,h2,h3]
theorem all_back {α:Type} {f:Json→Option α} {g:α→Json}:∀(l:List α),(∀x∈l,f (g x)=some x)→OY f (l.map g)=some l
 | [],_=>rfl
 | x::l,h=>by
  simp only[List.map_cons,OY];rw[h x (by simp),all_back l fun y hy=>h y (by simp[hy])]
theorem steps_ok:∀(f:Stop) (es:List aA.Way) (ts:List Stop),vC f es ts=true→es.length=ts.length∧(∀x∈es,wayOk x)∧∀x∈ts,X5 x
 | _, [], [],_=>⟨rfl,by simp,by simp⟩
 | f,e::es,t::ts,h=>by
  simp only[vC,Bool.and_eq_true]at h;obtain ⟨h1,h2,h3⟩:=steps_ok t es ts h.2;obtain ⟨⟨⟨⟨⟨⟨a1,a2⟩,a3⟩,a4⟩,_⟩,_⟩,_⟩:=h;refine ⟨by simp[h1],fun x hx => ?_,fun x hx => ?_⟩
  ·rcases List.mem_cons.1 hx with rfl|hx
   ·exact ⟨a1,a2⟩
   ·exact h2 x hx
  ·rcases List.mem_cons.1 hx with rfl|hx
   ·exact ⟨a3,a4⟩
   ·exact h3 x hx
 | _, [],_::_,h=>by simp[vC]at h
 | _,_::_, [],h=>by simp[vC]at h
structure OkO (o:Order):Prop where
 name:An o.cd=true
 header:dj o.header=true
 order:dj o.order=true
 update:dj o.update=true
 nodes:∀x∈o.nodes,X5 x
 aS:∀x∈o.aS,wayOk x
 many:1≤o.nodes.length∧o.nodes.length≤64∧o.aS.length+1=o.nodes.length
theorem jM {o:Order} (h:fC o=true):OkO o:=by
 obtain ⟨hd,ve,od,up,ns,es⟩:=o;cases ns with
 | nil=>simp[fC]at h
 | cons f ns =>
  simp only[fC,Bool.and_eq_true,decide_eq_true_eq]at h;obtain ⟨⟨h1,⟨h2,h3⟩,h4⟩,⟨⟨h5,_⟩,h6,h7⟩,h8⟩:=h;obtain ⟨g1,g2,g3⟩:=steps_ok _ _ _ h8;refine ⟨h1,h2,h3,h4,fun x hx => ?_,g2,by simp,by simp; omega,by simp[g1]⟩;rcases List.mem_cons.1 hx with rfl|hx
  ·exact ⟨h6,h7⟩
  ·exact g3 x hx
theorem order_back {o:Order} (h:OkO o):Jw (iZ o)=some o:=by
 have e1:my (iZ o) yV=some o.header:=by
  show Pu.numF (CT o.header)=_;exact RQ h.header
 have e2:Ao (iZ o) s6=some o.cd:=rfl;have e3:my (iZ o) FI=some o.order:=by
  show Pu.numF (CT o.order)=_;exact RQ h.order
 have e4:my (iZ o) yW=some o.update:=by
  show Pu.numF (CT o.update)=_;exact RQ h.update
 have e5:uI (iZ o) FJ=some (o.nodes.map Jv):=rfl;have e6:uI (iZ o) Ju=some (o.aS.map UC):=rfl;unfold Jw;rw[e1,e2,e3,e4,e5,e6];simp only;rw[all_back o.nodes fun x hx=>stop_back (h.nodes x hx),all_back o.aS fun x hx=>way_back (h.aS x hx)]
theorem Jy {s:ae} (h:An s=true):ft s=true∧s.length≤16:=by
 unfold An at h;simp only[Bool.and_eq_true,decide_eq_true_eq]at h;refine ⟨?_,h.2.2⟩;refine Io.2 ⟨s.map (·.toNat),fun c hc => ?_,?_⟩
 ·obtain ⟨b,hb,rfl⟩:=List.mem_map.1 hc;have:=List.all_eq_true.1 h.1 b hb;have all:∀n:Fin 256,SN.contains (UInt8.ofNat n.val)=true→n.val<128:=by decide +kernel
  have h128:b.toNat<128:=by simpa using all ⟨b.toNat,UInt8.toNat_lt b⟩ (by simpa using this)
  exact .inl (by omega)
 ·have uQ:=List.all_eq_true.1 h.1;clear h
  induction s with
  | nil=>rfl
  | cons b s ih =>
   have hb:=uQ b (by simp);have all:∀n:Fin 256,SN.contains (UInt8.ofNat n.val)=true→enc n.val = [UInt8.ofNat n.val]:=by decide +kernel
   have WZ:=all ⟨b.toNat,UInt8.toNat_lt b⟩ (by simpa using hb);simp only[List.map_cons,fv,List.flatMap_cons];have:=ih fun x hx=>uQ x (by simp[hx])
   unfold fv at this;rw[←this];have hb3:enc b.toNat = [b]:=by simpa using WZ
   rw[hb3];rfl
theorem OZ {n:ae} {a b:Int} {r:Bool} (hn:n=MZ∨n=M0) (ha:dj a=true) (hb:dj b=true) {d:Int} (hd:d≤15):dH (M3 n a b r) d=true:=by
 have hu:uH [] [n,M1,PY]=true:=by rcases hn with rfl|rfl <;> decide +kernel
 refine X3 rfl hu ?_ (by omega);simp only[dQ,Bool.and_true];rw[yU ha (by omega),yU hb (by omega),right_yes r (by omega)];rfl
theorem Iv {l:List Json} {d:Int} (h:∀x∈l,dH x d=true):dQ l d=true:=by
 induction l with
 | nil=>rfl
 | cons x l ih =>
  simp only[dQ];rw[h x (by simp),ih fun y hy=>h y (by simp[hy])];rfl
theorem K2 {o:Order} (h:OkO o):dH (iZ o) 1=true:=by
 obtain ⟨hv,_⟩:=Jy h.name;refine X3 rfl (by decide +kernel) ?_ (by omega);have hn:dQ (o.nodes.map Jv) (1+1+1)=true:=Iv fun x hx=>by
  obtain ⟨y,hy,rfl⟩:=List.mem_map.1 hx;exact OZ (.inl rfl) (h.nodes y hy).1 (h.nodes y hy).2 (by omega)
 have he:dQ (o.aS.map UC) (1+1+1)=true:=Iv fun x hx=>by
  obtain ⟨y,hy,rfl⟩:=List.mem_map.1 hx;exact OZ (.inr rfl) (h.aS y hy).1 (h.aS y hy).2 (by omega)
 simp only[dQ,Bool.and_true];rw[yU h.header (by omega),Sk hv (by omega),yU h.order (by omega),yU h.update (by omega),Sl hn (by omega),Sl he (by omega)];rfl
theorem WS {n:ae} {a b:Int} {r:Bool} (hn:n=MZ∨n=M0) (ha:dj a=true) (hb:dj b=true):(cn (M3 n a b r)).length≤130:=by
 have h1:=KY ha;have h2:=KY hb;have h3:=len_yes r;have hq:(OT n).length≤8∧(OT M1).length≤12∧(OT PY).length≤10:=by rcases hn with rfl|rfl <;> decide +kernel
 obtain ⟨q1,q2,q3⟩:=hq;have e:=len_obj [n,M1,PY] [CT a,CT b,ZE r];unfold M3;rw[e];simp only[ij,List.headD_cons,List.tail_cons,List.length_append,List.length_cons,List.length_nil,if_true,Bool.false_eq_true,if_false];omega
theorem Iw {o:Order} (h:OkO o):(cn (iZ o)).length≤20000:=by
 obtain ⟨_,hv⟩:=Jy h.name;obtain ⟨m1,m2,m3⟩:=h.many;have h1:=KY h.header;have h2:=KY h.order;have h3:=KY h.update;have h4:=len_str o.cd;have h5:=Z7 (o.nodes.map Jv);have h6:=Z7 (o.aS.map UC);have h7:=RR (o.nodes.map Jv) true 130 fun x hx=>by
  obtain ⟨y,hy,rfl⟩:=List.mem_map.1 hx;exact WS (.inl rfl) (h.nodes y hy).1 (h.nodes y hy).2
 have h8:=RR (o.aS.map UC) true 130 fun x hx=>by
  obtain ⟨y,hy,rfl⟩:=List.mem_map.1 hx;exact WS (.inr rfl) (h.aS y hy).1 (h.aS y hy).2
 rw[List.length_map]at h7 h8;have q:(OT yV).length≤10∧(OT s6).length≤14∧(OT FI).length≤9∧(OT yW).length≤15∧(OT FJ).length≤7∧(OT Ju).length≤7:=by decide +kernel
 obtain ⟨q1,q2,q3,q4,q5,q6⟩:=q;unfold iZ yn;rw[len_obj];simp only[ij,List.headD_cons,List.tail_cons,List.length_append,List.length_cons,List.length_nil,if_true,Bool.false_eq_true,if_false];omega
theorem take_lay {o:Order} (h:fC o=true):Jx (eQ (cn (iZ o))) = .ok o:=by
 have hk:=jM h;unfold Jx;rw[Sm];simp only;rw[RP (K2 hk) (Iw hk)];simp only[ne_eq,not_true_eq_false,if_false];rw[order_back hk];simp only;rw[if_pos h]
theorem taken_right {s:ae} {o:Order} (h:Jx s = .ok o):fC o=true:=by
 unfold Jx at h;split at h
 ·cases h
 ·split at h
  ·cases h
  ·split at h
   ·split at h
    ·rename_i hr;cases h;exact hr
    ·cases h
   ·cases h
theorem right_kind {v:Json} {d:Int} (h:dH v d=true):zm v.kind:=by
 cases fp.1 h <;> first|(unfold zm; simp only; omega)|(unfold zm; decide)
mutual
theorem M4:∀(v:Json) (d:Int),dH v d=true→J8 v=true→Pu.Hc v
 | ⟨k,⟨m,e⟩,t,ns,is⟩,d,h,hl=>by
  have hL:=UD is;obtain ⟨l1,l2,l3,l4,l5⟩:=Bd.1 hl;have hk:=right_kind h;have hi:=right_i64 _ _ h;have hI:∀y∈is,Pu.Hc y:=by
   cases fp.1 h with
   | name _ _ hd hk=>simp
   | num _ _ hd hn=>simp
   | text _ _ hd ht=>simp
   | arr _ _ hd hi=>exact hL _ hi l3
   | obj _ _ _ hd hl hu hi=>exact hL _ hi l3
  exact Pu.jok_mk hk hi.1 hi.2.1 (by simp only at l4; omega) l1 (fun s hs=>by have:=l5 s hs; omega) l2 hI
theorem UD:∀(l:List Json) (d:Int),dQ l d=true→RN l=true→∀y∈l,Pu.Hc y
 | [],_,_,_=>by simp
 | x::l,d,h,hl=>by
  simp only[dQ,RN,Bool.and_eq_true]at h hl;intro y hy;rcases List.mem_cons.1 hy with e|hy
  ·rw[e];exact M4 x d h.1 hl.1
  ·exact UD l d h.2 hl.2 y hy
end
theorem parse_jok {s:ae} (h:(nY s).2.1=0):Pu.Hc (nY s).1:=by
 obtain ⟨h1,h2,_⟩:=parseJ_ok s h;exact M4 _ 1 h1 h2
theorem dec_num {n:Int} (h:dj n=true):(∀ {R:Type} (k:fO→Bool→Option R),bm n 0 k=k (dI n) true)∧∀ {R:Type} (k:fO→Bool→Option R),vo n 0 k=k (dI n) true:=by
 obtain ⟨h1,h2⟩:=wB.1 h;rcases dI_cases h with ⟨rfl,e⟩|⟨u,j,g1,g2,e,g4,g5,g6⟩
 ·rw[e];exact ⟨fun k=>XX 0 k,fun k=>refMake_zero 0 k⟩
 ·rw[e];have hI:zm (u*10 ^ j):=by rw[←g2]; unfold zm; omega
  have hm:YP u (0+(j:Int))=(⟨u,(j:Int)⟩,true):=by
   unfold YP;rw[if_pos ⟨by omega,by omega,by omega,by omega⟩,Int.zero_add]
  constructor
  ·intro R k;have:=make_ok u j 0 g1 hI (by omega) (by omega) k;rw[hm,←g2]at this;exact this
  ·intro R k;have:=refMake_ok u j 0 g1 hI (by unfold zm; omega) k;rw[hm,←g2]at this;exact this
theorem int_ok {R:Type} {n:Int} (h:dj n=true) (k:Json→Option R):gP n k=k (CT n):=by
 unfold gP Qv;rw[(dec_num h).1];rfl
abbrev YState:=aA.State
structure OkA (s:YState):Prop where
 name:An s.cd=true
 header:dj s.header=true
 boot:dj s.boot=true
 order:dj s.order=true
 update:dj s.update=true
 node:dj s.node=true
 seq:dj s.seq=true
 accepted:dj s.accepted=true
def pL (c n:Int):Int:=Int.tmod (if c<0 then -(c+1)else c) n
theorem Ej (c n:Int):0≤pL c n:=by
 unfold pL;apply Int.tmod_nonneg;split <;> omega
theorem Ek (c:Int) {n:Int} (h:0<n):pL c n<n:=by
 unfold pL;exact Int.tmod_lt_of_pos _ h
theorem So (c:Int):dj (pL c 1000000001)=true:=wB.2 ⟨Ej c _,by have:=Ek c (n:=1000000001) (by decide); omega⟩
def fitL:ae := [97,98,99,120,121,122,65,66,67,88,89,90,48,49,56,57,95,46,58,45]
def fitB (b:UInt8):UInt8:=fitL.getD (b.toNat % 20) 0
def fitN (s:ae):ae:=110::(s.take 15).map fitB
theorem fitB_ok (b:UInt8):SN.contains (fitB b)=true:=by
 have all:∀n:Fin 20,SN.contains (fitL.getD n.val 0)=true:=by decide +kernel
 exact all ⟨b.toNat % 20,Nat.mod_lt _ (by decide)⟩
theorem Z8 (s:ae):An (fitN s)=true:=by
 unfold An fitN;simp only[List.isEmpty_cons,Bool.not_false,Bool.true_and,Bool.and_eq_true,decide_eq_true_eq,List.length_cons,List.length_map,List.length_take];refine ⟨List.all_eq_true.2 fun x hx => ?_,by omega⟩;rcases List.mem_cons.1 hx with rfl|hx
 ·decide +kernel
 ·obtain ⟨y,_,rfl⟩:=List.mem_map.1 hx;exact fitB_ok y
theorem even_mod (x:Int):Int.tmod (2*x) 2=0:=Int.tmod_eq_zero_of_dvd ⟨x,rfl⟩
def mN (o:Order) (first b:Int) (i:Nat):Stop:=⟨if i<o.nodes.length then pL (o.nodes.getD i Stop.z).node 1000000001 else 0,first+2*i,decide ((i:Int)<b)⟩
def Hk (o:Order) (first b:Int) (i:Nat):aA.Way:=⟨if i<o.nodes.length then pL (o.nodes.getD i Stop.z).seq 1000000001 else 0,first+2*i - 1,decide ((i:Int)<b)⟩
def wK (o:Order):Nat:=min (max o.nodes.length 1) 64
def ja (o:Order):Int:=2*pL o.aS.length 500
def pV (o:Order) (base:Int):Int:=1+pL base (wK o)
def UE (o:Order) (base:Int):Order :=
 ⟨pL o.header 1000000001,fitN o.cd,pL o.order 1000000001,pL o.update 1000000001,(List.range' 0 (wK o)).map (mN o (ja o) (pV o base)),(List.range' 1 (wK o - 1)).map (Hk o (ja o) (pV o base))⟩
theorem Sp (o:Order):1≤wK o∧wK o≤64:=by unfold wK; omega
theorem YW (o:Order):0≤ja o∧ja o≤998∧Int.tmod (ja o) 2=0:=by
 have h1:=Ej o.aS.length 500;have h2:=Ek o.aS.length (n:=500) (by decide);unfold ja;exact ⟨by omega,by omega,even_mod _⟩
theorem fitBase_ok (o:Order) (base:Int):1≤pV o base∧pV o base≤wK o:=by
 have h0:=Sp o;have h1:=Ej base (wK o);have h2:=Ek base (n:=(wK o:Int)) (by omega);unfold pV;omega
theorem fit_num (o:Order) (i:Nat) (f:Stop→Int):dj (if i<o.nodes.length then pL (f (o.nodes.getD i Stop.z)) 1000000001 else 0)=true:=by
 split
 ·exact So _
 ·rfl
theorem fit_steps (o:Order) (first b:Int) (h0:0≤first) (h1:first≤998):∀(m i:Nat),i+m≤64→vC (mN o first b i) ((List.range' (i+1) m).map (Hk o first b)) ((List.range' (i+1) m).map (mN o first b))=true
 | 0,i,_=>rfl
 | m+1,i,h=>by
  have ih:=fit_steps o first b h0 h1 m (i+1) (by omega)
  simp only[List.range'_succ,List.map_cons,vC];rw[ih];have a1:=fit_num o (i+1) (·.seq);have a2:=fit_num o (i+1) (·.node);have a3:dj (Hk o first b (i+1)).seq=true:=wB.2 ⟨by show 0≤first+2*((i+1:Nat):Int) - 1; omega,by show first+2*((i+1:Nat):Int) - 1≤_; omega⟩;have a4:dj (mN o first b (i+1)).seq=true:=wB.2 ⟨by show 0≤first+2*((i+1:Nat):Int); omega,by show first+2*((i+1:Nat):Int)≤_; omega⟩;have a5:dj (Hk o first b (i+1)).zy=true:=a1;have a6:dj (mN o first b (i+1)).node=true:=a2;rw[a3,a4,a5,a6];have b1:decide ((Hk o first b (i+1)).seq=(mN o first b i).seq+1)=true:=decide_eq_true (by show first+2*((i+1:Nat):Int) - 1=first+2*(i:Int)+1; omega)
  have b2:decide ((mN o first b (i+1)).seq=(Hk o first b (i+1)).seq+1)=true:=decide_eq_true (by show first+2*((i+1:Nat):Int)=first+2*((i+1:Nat):Int) - 1+1; omega);rw[b1,b2];have c1:((Hk o first b (i+1)).bE==(mN o first b (i+1)).bE)=true:=beq_self_eq_true _;rw[c1];have c2:(!(mN o first b (i+1)).bE||(mN o first b i).bE)=true:=by
   show (!decide (((i+1:Nat):Int)<b)||decide ((i:Int)<b))=true;by_cases h:((i+1:Nat):Int)<b
   ·rw[decide_eq_true h,decide_eq_true (show (i:Int)<b by omega)]; rfl
   ·rw[decide_eq_false h]; rfl
  rw[c2];rfl
theorem fit_nodes (o:Order) (base:Int):∃m,wK o=m+1∧(UE o base).nodes=mN o (ja o) (pV o base) 0::(List.range' 1 m).map (mN o (ja o) (pV o base))∧(UE o base).aS=(List.range' 1 m).map (Hk o (ja o) (pV o base)):=by
 obtain ⟨h1,h2⟩:=Sp o;refine ⟨wK o - 1,by omega,?_,rfl⟩;show (List.range' 0 (wK o)).map _=_;obtain ⟨m,hm⟩:∃m,wK o=m+1:=⟨wK o - 1,by omega⟩;rw[hm,List.range'_succ,List.map_cons];rfl
theorem O0 (o:Order) (base:Int):fC (UE o base)=true:=by
 obtain ⟨m,hm,e1,e2⟩:=fit_nodes o base;obtain ⟨h1,h2⟩:=Sp o;obtain ⟨f1,f2,f3⟩:=YW o;obtain ⟨b1,b2⟩:=fitBase_ok o base;have hs:=fit_steps o (ja o) (pV o base) f1 f2 m 0 (by omega);unfold fC;rw[e1,e2];have n1:An (UE o base).cd=true:=Z8 _;have n2:dj (UE o base).header=true:=So _;have n3:dj (UE o base).order=true:=So _;have n4:dj (UE o base).update=true:=So _;rw[n1,n2,n3,n4];simp only[List.length_map,List.length_range'];rw[hs,decide_eq_true (show m<64 by omega)];have c1:decide (Int.tmod (mN o (ja o) (pV o base) 0).seq 2=0)=true:=decide_eq_true (by
  have:(mN o (ja o) (pV o base) 0).seq=ja o:=by show ja o+2*((0:Nat):Int)=_; omega
  rw[this,f3])
 have c2:(mN o (ja o) (pV o base) 0).bE=true:=decide_eq_true (by omega);have c3:dj (mN o (ja o) (pV o base) 0).node=true:=fit_num o 0 (·.node);have c4:dj (mN o (ja o) (pV o base) 0).seq=true:=wB.2 ⟨by show 0≤ja o+2*((0:Nat):Int); omega,by show ja o+2*((0:Nat):Int)≤_; omega⟩;rw[c1,c2,c3,c4];rfl
def baseO (o:Order):Int:=((o.nodes.filter (·.bE)).length:Int)
theorem pick_rawI {R:Type} (c n:Int) (hc:zm c) (h0:0<n) (k:Int→Option R) :
  (bif (decide (c<(0:Int)))then (bX (!decide (n=0)) (k (Int.tmod (IntKind.i64.wrap (0 - (IntKind.i64.wrap (c+1)))) n)))else (bX (!decide (n=0)) (k (Int.tmod c n))))=k (pL c n):=by
 obtain ⟨h1,h2⟩:=hc;have hz:(!decide (n=0))=true:=by simp; omega
 unfold pL;by_cases h:c<0
 ·have hd:decide (c<(0:Int))=true:=by simpa using h
  rw[hd,cond_true,ao hz,cv (n:=c+1) (by omega) (by omega),cv (by omega) (by omega),if_pos h,Int.zero_sub]
 ·have hd:decide (c<(0:Int))=false:=by simpa using h
  rw[hd,cond_false,ao hz,if_neg h]
theorem trim_none:∀s:ae,bx s SN = []↔s.all (SN.contains ·)=true
 | []=>by simp[bx]
 | b::s=>by
  have ih:=trim_none s;unfold bx at ih ⊢;rw[List.dropWhile_cons,List.all_cons];by_cases h:SN.contains b=true
  ·rw[if_pos h,h,Bool.true_and];exact ih
  ·rw[if_neg h,Bool.eq_false_iff.2 h,Bool.false_and];simp
theorem trim_name (s:ae):((bx s SN==([]:ae))&&(!(s==([]:ae))&&decide ((s.length:Int)≤16)))=An s:=by
 have e1:(bx s SN==([]:ae))=s.all (SN.contains ·):=by
  rw[Bool.eq_iff_iff,←trim_none];exact beq_iff_eq
 have e2:(s==([]:ae))=s.isEmpty:=by cases s <;> rfl
 have e3:decide ((s.length:Int)≤16)=decide (s.length≤16):=decide_eq_decide.2 (by omega);unfold An;rw[e1,e2,e3]
def El (s:ae) (j:Nat):ae:=110::((s.take j).map fitB++s.drop j)
theorem fitSt_get (s:ae) (j:Nat) (h:j<s.length) (d:UInt8):(El s j).getD (j+1) d=s[j]:=by
 have e:((s.take j).map fitB).length=j:=by rw[List.length_map,List.length_take]; omega
 unfold El;rw[List.getD_cons_succ,List.getD_eq_getElem?_getD,List.getElem?_append_right (by omega),e,Nat.sub_self,List.getElem?_drop,Nat.add_zero,List.getElem?_eq_getElem h];rfl
theorem fitSt_set (s:ae) (j:Nat) (h:j<s.length):(El s j).set (j+1) (fitB s[j])=El s (j+1):=by
 have e:((s.take j).map fitB).length=j:=by rw[List.length_map,List.length_take]; omega
 unfold El;rw[List.set_cons_succ,List.set_append_right _ _ (by omega),e,Nat.sub_self,List.drop_eq_getElem_cons h,List.set_cons_zero,List.take_succ_eq_append_getElem h,List.map_append,List.map_singleton,List.append_assoc];rfl
theorem Sq (s:ae) (j:Nat):(El s j).length=s.length+1:=by
 unfold El;simp only[List.length_cons,List.length_append,List.length_map,List.length_take,List.length_drop];omega
theorem fitSt_end (s:ae):El (s.take 15) (s.take 15).length=fitN s:=by
 unfold El fitN;rw[List.take_length,List.drop_length,List.append_nil]
theorem parse_gaps {v:Json} (h:dH v 1=true) (g z:ae) (hg:∀b∈g,sT b=true) (hz:∀b∈z,sT b=true) (sz:RL z) (hl:(cn v).length+g.length+z.length≤20000):nY (g++(cn v++z))=(v,0,0):=by
 have hlay:=Ir v z;have sR:=RM v 1 h z sz;have hlen:=WN (qu v) z;rw[hlay,List.length_append]at hlen;have hv0:∀ts rest,ts.map stT=(qu v).map stW→yT 40 1 (ts++rest) = .ok (v,rest):=fun ts rest hw=>val_tail h ts rest hw
 cases hw:qu v with
 | nil =>
  exfalso;have e:=Ir v [];rw[hw,List.append_nil]at e;exact print_ne v h e.symm
 | cons x l =>
  rw[hw]at hlay sR hlen hv0;obtain ⟨k1,k2,k3,k4⟩:=sR;have hok':okW ((g++x.1,x.2.1,x.2.2)::l) z:=⟨fun b hb=>by
   rcases List.mem_append.1 hb with hb|hb
   ·exact hg b hb
   ·exact k1 b hb,k2,k3,k4⟩
  have hlay':uG ((g++x.1,x.2.1,x.2.2)::l) z=g++(cn v++z):=by
   rw[←hlay];simp only[uG,List.append_assoc]
  have hlen':LW ((g++x.1,x.2.1,x.2.2)::l)=g.length+LW (x::l):=by
   simp only[LW,List.length_append];omega
  have hs:=YS ((g++x.1,x.2.1,x.2.2)::l) z hz hok' (by rw[hlen']; omega);rw[hlay']at hs;have hv:=hv0 (tokW 0 ((g++x.1,x.2.1,x.2.2)::l)) [⟨5, [],⟨0,0⟩,((LW ((g++x.1,x.2.1,x.2.2)::l)+z.length:Nat):Int)⟩] (tokW_st _ _);unfold nY;rw[hs];simp only[ne_eq,not_true_eq_false,if_false];rw[hv];rfl
theorem GI:∀(l seen:List ae),uH seen l=true↔(∀n∈l,ft n=true)∧l.Nodup∧∀n∈l,n∉seen
 | [],seen=>by simp[uH]
 | x::l,seen=>by
  have ih:=GI l (x::seen);simp only[uH,Bool.and_eq_true,ih,Bool.not_eq_true',List.contains_eq_mem,decide_eq_false_iff_not];constructor
  ·rintro ⟨⟨h1,h2⟩,h3,h4,h5⟩
   refine ⟨fun n hn => ?_,List.nodup_cons.2 ⟨fun hx=>h5 x hx (by simp),h4⟩,fun n hn => ?_⟩
   ·rcases List.mem_cons.1 hn with rfl|hn
    ·exact h2
    ·exact h3 n hn
   ·rcases List.mem_cons.1 hn with rfl|hn
    ·exact h1
    ·exact fun hm=>h5 n hn (by simp[hm])
  ·rintro ⟨h1,h2,h3⟩
   obtain ⟨h4,h5⟩:=List.nodup_cons.1 h2;refine ⟨⟨h3 x (by simp),h1 x (by simp)⟩,fun n hn=>h1 n (by simp[hn]),h5,fun n hn hm => ?_⟩;rcases List.mem_cons.1 hm with rfl|hm
   ·exact h4 hn
   ·exact h3 n (by simp[hn]) hm
def Jz:List ae→Nat
 | []=>0
 | n::l=>(OT n).length+2+Jz l
def JA:List Json→Nat
 | []=>0
 | x::l=>(cn x).length+JA l
theorem sumN_app:∀(a b:List ae),Jz (a++b)=Jz a+Jz b
 | [],b=>by simp[Jz]
 | x::a,b=>by simp only[List.cons_append,Jz,sumN_app a b]; omega
theorem sumI_app:∀(a b:List Json),JA (a++b)=JA a+JA b
 | [],b=>by simp[JA]
 | x::a,b=>by simp only[List.cons_append,JA,sumI_app a b]; omega
theorem WT:∀(a:List ae),Jz a.reverse=Jz a
 | []=>rfl
 | x::a=>by rw[List.reverse_cons,sumN_app,WT a]; simp only[Jz]; omega
theorem WU:∀(a:List Json),JA a.reverse=JA a
 | []=>rfl
 | x::a=>by rw[List.reverse_cons,sumI_app,WU a]; simp only[JA]; omega
theorem sumN_sub {a b:List ae} (h:a.Sublist b):Jz a≤Jz b:=by
 induction h with
 | slnil=>exact Nat.le_refl _
 | cons x h ih=>simp only[Jz]; omega
 | cons_cons x h ih=>simp only[Jz]; omega
theorem sumI_sub {a b:List Json} (h:a.Sublist b):JA a≤JA b:=by
 induction h with
 | slnil=>exact Nat.le_refl _
 | cons x h ih=>simp only[JA]; omega
 | cons_cons x h ih=>simp only[JA]; omega
theorem printO_len:∀(ns:List ae) (l:List Json) (b:Bool),ns.length=l.length→(ij ns l b).length≤Jz ns+JA l
 | [], [],_,_=>by simp[ij,Jz,JA]
 | n::ns,x::l,b,h=>by
  have ih:=printO_len ns l false (by simpa using h);have:(if b=true then ([]:ae)else [44]).length≤1:=by cases b <;> simp
  simp only[ij,List.headD_cons,List.tail_cons,List.length_append,List.length_cons,Jz,JA];omega
 | [],_::_,_,h=>by simp at h
 | _::_, [],_,h=>by simp at h
structure Fields (ns:List ae) (is:List Json):Prop where
 len:ns.length=is.length
 uniq:uH [] ns=true
 right:∀x∈is,dH x 2=true
 short:Jz ns+JA is≤19000
variable {ns:List ae} {is:List Json}
theorem Fields.rj (h:Fields ns is):dH (Am ns is) 1=true:=X3 h.len h.uniq (Iv h.right) (by omega)
theorem Fields.pl (h:Fields ns is):(cn (Am ns is)).length≤19002:=by
 have h1:=len_obj ns is;have h2:=printO_len ns is true h.len;have:=h.short;omega
theorem Fields.erase (h:Fields ns is) (k:Nat):Fields (ns.eraseIdx k) (is.eraseIdx k):=by
 obtain ⟨u1,u2,u3⟩:=(GI _ _).1 h.uniq;have s1:=List.eraseIdx_sublist ns k;have s2:=List.eraseIdx_sublist is k;refine ⟨?_,(GI _ _).2 ⟨fun n hn=>u1 n (s1.subset hn),u2.sublist s1,fun n hn=>u3 n (s1.subset hn)⟩,fun x hx=>h.right x (s2.subset hx),?_⟩
 ·rw[List.length_eraseIdx,List.length_eraseIdx,h.len]
 ·have:=h.short;have:=sumN_sub s1;have:=sumI_sub s2;omega
theorem Fields.rev (h:Fields ns is):Fields ns.reverse is.reverse:=by
 obtain ⟨u1,u2,u3⟩:=(GI _ _).1 h.uniq;refine ⟨by simp[h.len],(GI _ _).2 ⟨fun n hn=>u1 n (by simpa using hn),by unfold List.Nodup; exact List.pairwise_reverse.2 (List.Pairwise.imp (fun h=>Ne.symm h) u2),fun n hn=>u3 n (by simpa using hn)⟩,fun x hx=>h.right x (by simpa using hx),?_⟩;rw[WT,WU];exact h.short
theorem Fields.more (h:Fields ns is) {n:ae} {x:Json} (hv:ft n=true) (hn:n∉ns) (hx:dH x 2=true) (hs:Jz ns+JA is+((OT n).length+2)+(cn x).length≤19000):Fields (n::ns) (x::is):=by
 obtain ⟨u1,u2,u3⟩:=(GI _ _).1 h.uniq;refine ⟨by simp[h.len],(GI _ _).2 ⟨fun m hm => ?_,List.nodup_cons.2 ⟨hn,u2⟩,fun m hm=>by simp⟩,fun y hy => ?_,?_⟩
 ·rcases List.mem_cons.1 hm with rfl|hm
  ·exact hv
  ·exact u1 m hm
 ·rcases List.mem_cons.1 hy with rfl|hy
  ·exact hx
  ·exact h.right y hy
 ·simp only[Jz,JA];omega
theorem Fields.parse (h:Fields ns is):nY (cn (Am ns is))=(Am ns is,0,0):=RP h.rj (by have:=h.pl; omega)
theorem Fields.parse_blank (h:Fields ns is):nY ([32]++cn (Am ns is) ++ [10])=(Am ns is,0,0):=by
 rw[List.append_assoc];exact parse_gaps h.rj [32] [10] (by decide) (by decide) (.inr ⟨10, [],rfl,by decide,by decide⟩) (by have:=h.pl; simp only[List.length_cons,List.length_nil]; omega)
theorem valid_all {s:ae} (h:∀b∈s,SN.contains b=true):ft s=true:=by
 refine Io.2 ⟨s.map (·.toNat),fun c hc => ?_,?_⟩
 ·obtain ⟨b,hb,rfl⟩:=List.mem_map.1 hc;have:=h b hb;have all:∀n:Fin 256,SN.contains (UInt8.ofNat n.val)=true→n.val<128:=by decide +kernel
  have h128:b.toNat<128:=by simpa using all ⟨b.toNat,UInt8.toNat_lt b⟩ (by simpa using this)
  exact .inl (by omega)
 ·induction s with
  | nil=>rfl
  | cons b s ih =>
   have hb:=h b (by simp);have all:∀n:Fin 256,SN.contains (UInt8.ofNat n.val)=true→enc n.val = [UInt8.ofNat n.val]:=by decide +kernel
   have WZ:=all ⟨b.toNat,UInt8.toNat_lt b⟩ (by simpa using hb);simp only[List.map_cons,fv,List.flatMap_cons];have:=ih fun x hx=>h x (by simp[hx])
   unfold fv at this;rw[←this];have hb3:enc b.toNat = [b]:=by simpa using WZ
   rw[hb3];rfl
def oddN (w:ae):ae := [120]++fitN w
theorem odd_valid (w:ae):ft (oddN w)=true:=valid_all fun b hb=>by
 rcases List.mem_append.1 hb with hb|hb
 ·obtain rfl:=List.mem_singleton.1 hb;decide +kernel
 ·have:=Z8 w;unfold An at this;simp only[Bool.and_eq_true]at this;exact List.all_eq_true.1 this.1 b hb
theorem odd_short (w:ae):(OT (oddN w)).length≤104:=by
 have h1:=len_str (oddN w);have e:cn (UA (oddN w))=OT (oddN w):=by unfold UA; simp only[cn]; rfl
 rw[e]at h1;have h2:=Z8 w;unfold An at h2;simp only[Bool.and_eq_true,decide_eq_true_eq]at h2;have:(oddN w).length=(fitN w).length+1:=by unfold oddN; simp
 omega
theorem odd_new (w:ae) {l:List ae} (h:l.all (fun n=>n.head? != some 120)=true):oddN w∉l:=fun hm=>by
 have:=List.all_eq_true.1 h _ hm;simp[oddN]at this
def Em (o:Order):List Json := [CT o.header,UA o.cd,CT o.order,CT o.update,UB (o.nodes.map Jv),UB (o.aS.map UC)]
theorem orderFields {o:Order} (h:OkO o):Fields yn (Em o)∧Jz yn+JA (Em o)≤18000:=by
 obtain ⟨hv,hvl⟩:=Jy h.name;obtain ⟨m1,m2,m3⟩:=h.many;have h1:=KY h.header;have h2:=KY h.order;have h3:=KY h.update;have h4:=len_str o.cd;have h5:=Z7 (o.nodes.map Jv);have h6:=Z7 (o.aS.map UC);have h7:=RR (o.nodes.map Jv) true 130 fun x hx=>by
  obtain ⟨y,hy,rfl⟩:=List.mem_map.1 hx;exact WS (.inl rfl) (h.nodes y hy).1 (h.nodes y hy).2
 have h8:=RR (o.aS.map UC) true 130 fun x hx=>by
  obtain ⟨y,hy,rfl⟩:=List.mem_map.1 hx;exact WS (.inr rfl) (h.aS y hy).1 (h.aS y hy).2
 rw[List.length_map]at h7 h8;have q:Jz yn≤200:=by decide +kernel
 have hs:Jz yn+JA (Em o)≤18000:=by
  simp only[Em,JA];omega
 refine ⟨⟨rfl,by decide +kernel,fun x hx => ?_,by omega⟩,hs⟩;have hn:dQ (o.nodes.map Jv) (2+1)=true:=Iv fun x hx=>by
  obtain ⟨y,hy,rfl⟩:=List.mem_map.1 hx;exact OZ (.inl rfl) (h.nodes y hy).1 (h.nodes y hy).2 (by omega)
 have he:dQ (o.aS.map UC) (2+1)=true:=Iv fun x hx=>by
  obtain ⟨y,hy,rfl⟩:=List.mem_map.1 hx;exact OZ (.inr rfl) (h.aS y hy).1 (h.aS y hy).2 (by omega)
 simp only[Em,List.mem_cons,List.not_mem_nil,or_false]at hx;rcases hx with rfl|rfl|rfl|rfl|rfl|rfl
 ·exact yU h.header (by omega)
 ·exact Sk hv (by omega)
 ·exact yU h.order (by omega)
 ·exact yU h.update (by omega)
 ·exact Sl hn (by omega)
 ·exact Sl he (by omega)
theorem takeO_val {v:Json} {t:ae} (hp:nY t=(v,0,0)):Jx (eQ t)=match Jw v with|some o=>if fC o then .ok o else .error 80|none => .error 80:=by
 unfold Jx;rw[Sm];simp only;rw[hp];simp only[ne_eq,not_true_eq_false,if_false]
 all_goals rfl
theorem orderT_all {v:Json} {o:Order} (h:Jw v=some o):(my v yV).isSome=true∧(Ao v s6).isSome=true∧(my v FI).isSome=true∧(my v yW).isSome=true∧(uI v FJ).isSome=true∧(uI v Ju).isSome=true:=by
 unfold Jw at h;split at h
 ·rename_i h1 h2 h3 h4 h5 h6;rw[h1,h2,h3,h4,h5,h6];exact ⟨rfl,rfl,rfl,rfl,rfl,rfl⟩
 ·cases h
def CC (w:ae):List ae:=yn.reverse ++ [oddN w]
def CD (o:Order):List Json:=(Em o).reverse ++ [UA [121]]
theorem Fields.snoc (h:Fields ns is) {n:ae} {x:Json} (hv:ft n=true) (hn:n∉ns) (hx:dH x 2=true) (hs:Jz ns+JA is+((OT n).length+2)+(cn x).length≤19000):Fields (ns ++ [n]) (is ++ [x]):=by
 have h1:=(h.rev.more (n:=n) (x:=x) hv (by simpa using hn) hx (by rw[WT,WU]; exact hs)).rev;simpa using h1
theorem UF {o:Order} (h:OkO o) (w:ae):Fields (CC w) (CD o):=by
 obtain ⟨f,fs⟩:=orderFields h;have h1:=odd_short w;have h2:(cn (UA [121])).length≤8:=by decide +kernel
 exact f.rev.snoc (odd_valid w) (odd_new w (by decide +kernel)) (Sk (by decide +kernel) (by omega)) (by rw[WT,WU]; omega)
theorem form_take {o:Order} (h:fC o=true) (w:ae):Jx (eQ ([32]++cn (Am (CC w) (CD o)) ++ [10])) = .ok o:=by
 have hk:=jM h;rw[takeO_val (UF hk w).parse_blank];have e:Jw (Am (CC w) (CD o))=some o:=by
  rw[←order_back hk];have e1:my (Am (CC w) (CD o)) yV=my (iZ o) yV:=rfl;have e2:Ao (Am (CC w) (CD o)) s6=Ao (iZ o) s6:=rfl;have e3:my (Am (CC w) (CD o)) FI=my (iZ o) FI:=rfl;have e4:my (Am (CC w) (CD o)) yW=my (iZ o) yW:=rfl;have e5:uI (Am (CC w) (CD o)) FJ=uI (iZ o) FJ:=rfl;have e6:uI (Am (CC w) (CD o)) Ju=uI (iZ o) Ju:=rfl;unfold Jw;rw[e1,e2,e3,e4,e5,e6]
 rw[e];simp only;rw[if_pos h]
theorem less_take {o:Order} (h:fC o=true) (w:ae) (k:Nat) (hk:k<6):Jx (eQ (cn (Am ((CC w).eraseIdx k) ((CD o).eraseIdx k)))) = .error 80:=by
 rw[takeO_val ((UF (jM h) w).erase k).parse];have e:Jw (Am ((CC w).eraseIdx k) ((CD o).eraseIdx k))=none:=by
  cases hT:Jw (Am ((CC w).eraseIdx k) ((CD o).eraseIdx k))with
  | none=>rfl
  | some p =>
   exfalso;obtain ⟨a1,a2,a3,a4,a5,a6⟩:=orderT_all hT
   match k,hk with
   | 0,_ =>
    have:uI (Am ((CC w).eraseIdx 0) ((CD o).eraseIdx 0)) Ju=none:=rfl;rw[this]at a6; cases a6
   | 1,_ =>
    have:uI (Am ((CC w).eraseIdx 1) ((CD o).eraseIdx 1)) FJ=none:=rfl;rw[this]at a5; cases a5
   | 2,_ =>
    have:my (Am ((CC w).eraseIdx 2) ((CD o).eraseIdx 2)) yW=none:=rfl;rw[this]at a4; cases a4
   | 3,_ =>
    have:my (Am ((CC w).eraseIdx 3) ((CD o).eraseIdx 3)) FI=none:=rfl;rw[this]at a3; cases a3
   | 4,_ =>
    have:Ao (Am ((CC w).eraseIdx 4) ((CD o).eraseIdx 4)) s6=none:=rfl;rw[this]at a2; cases a2
   | 5,_ =>
    have:my (Am ((CC w).eraseIdx 5) ((CD o).eraseIdx 5)) yV=none:=rfl;rw[this]at a1; cases a1
 rw[e]
theorem stepsO_at:∀(f:Stop) (es:List aA.Way) (ts:List Stop),vC f es ts=true→∀i,i<es.length→((f::ts).getD (i+1) Stop.z).seq=(es.getD i aA.Way.z).seq+1∧(es.getD i aA.Way.z).bE=((f::ts).getD (i+1) Stop.z).bE
 | _, [], [],_,i,hi=>by simp at hi
 | f,e::es,t::ts,h,i,hi=>by
  simp only[vC,Bool.and_eq_true,decide_eq_true_eq,beq_iff_eq]at h;obtain ⟨⟨⟨_,_,h2⟩,h3,_⟩,h4⟩:=h;cases i with
  | zero=>exact ⟨h2,h3⟩
  | succ i =>
   have:=stepsO_at t es ts h4 i (by simpa using hi);simpa using this
 | _, [],_::_,h,_,_=>by simp[vC]at h
 | _,_::_, [],h,_,_=>by simp[vC]at h
structure StepsO (o:Order):Prop where
 first:Int.tmod (o.nodes.getD 0 Stop.z).seq 2=0∧(o.nodes.getD 0 Stop.z).bE=true
 next:∀i,i<o.aS.length→(o.nodes.getD (i+1) Stop.z).seq=(o.aS.getD i aA.Way.z).seq+1∧(o.aS.getD i aA.Way.z).bE=(o.nodes.getD (i+1) Stop.z).bE
theorem En {o:Order} (h:fC o=true):StepsO o:=by
 obtain ⟨hd,ve,od,up,ns,es⟩:=o;cases ns with
 | nil=>simp[fC]at h
 | cons f ns =>
  simp only[fC,Bool.and_eq_true,decide_eq_true_eq]at h;obtain ⟨_,⟨⟨_,h5,h6⟩,_⟩,h8⟩:=h;exact ⟨⟨h5,h6⟩,fun i hi=>stepsO_at _ _ _ h8 i hi⟩
theorem FK {o:Order} (h:fC o=true→False):fC o=false:=by
 cases e:fC o with
 | false=>rfl
 | true=>exact (h e).elim
theorem WV {α:Type} (l:List α) (k i:Nat) (x d:α) (hk:k<l.length):(l.set k x).getD i d=if i=k then x else l.getD i d:=by
 simp only[List.getD_eq_getElem?_getD,List.getElem?_set];by_cases h:k=i
 ·subst h;simp[hk]
 ·have:¬i=k:=fun e=>h e.symm
  simp[h,this]
theorem wrong0 {o:Order} (h:fC o=true) (k:Nat) (hk:k<o.nodes.length) (x:Stop) (hx:x.seq=(o.nodes.getD k Stop.z).seq+1):fC { o with nodes:=o.nodes.set k x }=false:=FK fun h'=>by
 have s:=En h;have s':=En h';obtain ⟨m1,m2,m3⟩:=(jM h).many;cases k with
 | zero =>
  have a:=s.first.1;have b:=s'.first.1;rw[show ({ o with nodes:=o.nodes.set 0 x }:Order).nodes=o.nodes.set 0 x from rfl,WV _ _ _ _ _ hk,if_pos rfl,hx]at b;have a2:(2:Int) ∣ _:=Int.dvd_of_tmod_eq_zero a;have b2:(2:Int) ∣ _:=Int.dvd_of_tmod_eq_zero b;have b3:(2:Int) ∣ (o.nodes.getD 0 Stop.z).seq+1:=b2;omega
 | succ k =>
  have a:=(s.next k (by omega)).1;have b:=(s'.next k (by show k<o.aS.length; omega)).1;rw[show ({ o with nodes:=o.nodes.set (k+1) x }:Order).nodes=o.nodes.set (k+1) x from rfl,WV _ _ _ _ _ hk,if_pos rfl,hx]at b;have b':(o.nodes.getD (k+1) Stop.z).seq+1=(o.aS.getD k aA.Way.z).seq+1:=b;omega
theorem wrong1 {o:Order} (h:fC o=true) (x:Stop) (hx:x.bE=false):fC { o with nodes:=o.nodes.set 0 x }=false:=FK fun h'=>by
 obtain ⟨m1,m2,m3⟩:=(jM h).many;have b:=(En h').first.2;rw[show ({ o with nodes:=o.nodes.set 0 x }:Order).nodes=o.nodes.set 0 x from rfl,WV _ _ _ _ _ (by omega),if_pos rfl,hx]at b;cases b
theorem wrong2 (o:Order):fC { o with cd := [97,32,98] }=false:=FK fun h'=>by
 have:=(jM h').name;have e:An [97,32,98]=false:=by decide +kernel
 rw[show ({ o with cd := [97,32,98] }:Order).cd = [97,32,98]from rfl,e]at this;cases this
theorem wrong3 {o:Order} (k:Nat) (hk:k<o.nodes.length) (x:Stop) (hx:x.node = -1):fC { o with nodes:=o.nodes.set k x }=false:=FK fun h'=>by
 have:=((jM h').nodes x (List.mem_set hk _)).1;rw[hx]at this;cases this
theorem wrong4 {o:Order} (h:fC o=true) (x:aA.Way):fC { o with aS:=o.aS ++ [x] }=false:=FK fun h'=>by
 have a:=(jM h).many;have b:=(jM h').many;rw[show ({ o with aS:=o.aS ++ [x] }:Order).aS=o.aS ++ [x]from rfl,show ({ o with aS:=o.aS ++ [x] }:Order).nodes=o.nodes from rfl,List.length_append,List.length_singleton]at b;omega
theorem wrong5 {o:Order} (h:fC o=true) (k:Nat) (hk:k<o.aS.length) (x:aA.Way) (hx:x.bE = !(o.aS.getD k aA.Way.z).bE):fC { o with aS:=o.aS.set k x }=false:=FK fun h'=>by
 have a:=((En h).next k hk).2;have b:=((En h').next k (by show k<(o.aS.set k x).length; rw[List.length_set]; exact hk)).2;rw[show ({ o with aS:=o.aS.set k x }:Order).aS=o.aS.set k x from rfl,show ({ o with aS:=o.aS.set k x }:Order).nodes=o.nodes from rfl,WV _ _ _ _ _ hk,if_pos rfl,hx,←a]at b;cases hq:(o.aS.getD k aA.Way.z).bE <;> rw[hq]at b <;> cases b
theorem wrong6 (o:Order):fC { o with update:=1000000001 }=false:=FK fun h'=>by
 have:=(jM h').update;cases this
theorem takeO_shut {s:ae} (h:EX s=none):Jx s = .error 60:=by unfold Jx; rw[h]
theorem turn_ne (x c:UInt8):x≠x ^^^ (1+c % 255):=by
 intro h;have h1:x ^^^ x=x ^^^ (x ^^^ (1+c % 255)):=congrArg (x ^^^ ·) h;rw[←UInt8.xor_assoc,UInt8.xor_self,UInt8.zero_xor]at h1;have all:∀n:Fin 256,(0:UInt8)≠1+UInt8.ofNat n.val % 255:=by decide +kernel
 have:=all ⟨c.toNat,UInt8.toNat_lt c⟩;simp only[UInt8.ofNat_toNat]at this;exact this h1
theorem turned_shut (t:ae) (k:Nat) (c:UInt8) (hk:k<(eQ t).length):EX ((eQ t).set k ((eQ t)[k] ^^^ (1+c % 255)))=none:=open_altered t k _ hk (turn_ne _ _)
theorem vD {α:Type} (b:Bool) (x y:α):(bif !b then x else y)=bif b then y else x:=by cases b <;> rfl
theorem M5 {α:Type} [DecidableEq α] (a b:α):(a != b) = !decide (a=b):=by
 by_cases h:a=b <;> simp[h]
theorem Sr {α:Type} [DecidableEq α] (a b:α):(a==b)=decide (a=b):=by
 by_cases h:a=b <;> simp[h]
theorem uJ {i n:Nat} (h:i<n):(decide ((0:Int)≤(i:Int))&&decide ((i:Int)<(n:Int)))=true:=by rw[aE (by omega),aE (by omega)]; rfl
theorem kk (i:Nat):(decide ((0:Int)≤(i:Int))&&true)=true:=by rw[aE (by omega)]; rfl
theorem B5 {i n:Nat} (h:i<n) (hn:n≤4000000000000):IntKind.i64.wrap ((i:Int)+1)=((i+1:Nat):Int):=by rw[cv (by omega) (by omega)]; omega
theorem topicName_ok {R:Type} (s:ae) (k:Bool→Option R):topic_Name s k=k (An s):=by
 unfold topic_Name topic_Name_X;rw[ao (by decide +kernel),←trim_name s];show (bif (bx s SN==([]:ae))then (bif (!(s==([]:ae)))then k (decide ((s.length:Int)≤16))else k false)else k false)=_;cases (bx s SN==([]:ae)) <;> cases (s==([]:ae)) <;> rfl
theorem num1_ok {R:Type} (n:Int) (k:Bool→Option R):fH n k=k (!dj n):=by
 unfold fH Le dj;by_cases h:n<0
 ·rw[aE h,cond_true,bK (show ¬(0:Int)≤n by omega)]; rfl
 ·rw[bK h,cond_false,aE (show (0:Int)≤n by omega)];by_cases h2:n>1000000000
  ·rw[aE h2,bK (show ¬n≤1000000000 by omega)]; rfl
  ·rw[bK h2,aE (show n≤1000000000 by omega)]; rfl
theorem num_loop {R:Type} (l:List Int) (hl:l.length≤1000000) (e0 X:Option R) (e1:Int→Option R) (h1:∀j:Nat,e1 (j:Int)=X):∀(F i:Nat),i≤l.length→l.length - i<F →
  aY F l (l.length:Int) (i:Int) e0 e1=if (l.drop i).all dj then e0 else X:=by
 intro F
 induction F with
 | zero=>intro i _ hF; omega
 | succ F ih =>
  intro i hi hF;show gU fH (fun x0 x1 x2=>aY F x0 x1 x2 e0 e1) l (l.length:Int) (i:Int) e0 e1=_;unfold gU;by_cases h:i<l.length
  ·have hg:l.getD (i:Int).toNat (Ty.aR (.int .i64))=l[i]:=getD_at h _;rw[aE (show (i:Int)<(l.length:Int) by omega),cond_true,ao (kk i),hg,num1_ok,vD,B5 h (by omega)];dsimp only;rw[ih (i+1) (by omega) (by omega),h1,List.drop_eq_getElem_cons h,List.all_cons];cases dj l[i] <;> rfl
  ·rw[bK (show ¬(i:Int)<(l.length:Int) by omega),cond_false,List.drop_eq_nil_of_le (by omega)];rfl
theorem num_ok {R:Type} (l:List Int) (hl:l.length≤1000000) (k:Bool→Option R):gD l k=k (l.all dj):=by
 unfold gD Qp cD kH cY mi;refine (num_loop l hl _ (k false) _ (fun j => ?_) _ 0 (by omega) (by omega)).trans ?_
 ·show k (!decide ((j:Int)≥0))=_;rw[aE (by omega)]; rfl
 ·rw[List.drop_zero];cases l.all dj <;> rfl
theorem right_loop {R:Type} (o:Order) (hn:o.nodes.length≤64) (he:o.aS.length+1=o.nodes.length) (k:Bool→Option R):∀(F i:Nat),i≤o.aS.length→o.aS.length - i<F→dj (o.nodes.getD i Stop.z).seq=true →
  da F o.aS (o.aS.length:Int) (i:Int) o (k true) (fun y=>k y)=k (vC (o.nodes.getD i Stop.z) (o.aS.drop i) (o.nodes.drop (i+1))):=by
 intro F
 induction F with
 | zero=>intro i _ hF; omega
 | succ F ih =>
  intro i hi hF hs;show wX gD (fun x0 x1 x2 x3=>da F x0 x1 x2 x3 (k true) (fun y=>k y)) o.aS (o.aS.length:Int) (i:Int) o (k true) (fun y=>k y)=_;unfold wX;by_cases h:i<o.aS.length
  ·have h':i+1<o.nodes.length:=by omega
   have hge:o.aS.getD (i:Int).toNat (Ty.aR .na)=o.aS[i]:=getD_at h _;have hgf:o.nodes.getD (i:Int).toNat (Ty.aR .stop)=o.nodes[i]:=getD_at (by omega) _;have hgf':o.nodes.getD i Stop.z=o.nodes[i]:=getD_at (by omega) _;have hgt:o.nodes.getD ((i+1:Nat):Int).toNat (Ty.aR .stop)=o.nodes[i+1]:=getD_at h' _;have hgt':o.nodes.getD (i+1) Stop.z=o.nodes[i+1]:=getD_at h' _;have ih:=ih (i+1) (by omega) (by omega);rw[aE (show (i:Int)<(o.aS.length:Int) by omega),cond_true,ao (kk i),ao (uJ (show i<o.nodes.length by omega)),B5 h (by omega),ao (uJ h'),hge,hgf,hgt,num_ok _ (by simp)];rw[List.drop_eq_getElem_cons h,List.drop_eq_getElem_cons h',hgf']
   rw[hgt']at ih;rw[hgf']at hs;generalize o.aS[i]=e at *;generalize o.nodes[i]=f at *;generalize o.nodes[i+1]=t at *;have eA:([e.zy,e.seq,t.node,t.seq]:List Int).all dj=(dj e.zy&&dj e.seq&&dj t.node&&dj t.seq):=by simp only[List.all_cons,List.all_nil,Bool.and_true,Bool.and_assoc]
   simp only[vC,eA];cases hA:(dj e.zy&&dj e.seq&&dj t.node&&dj t.seq)with
   | false=>rfl
   | true =>
    simp only[Bool.and_eq_true]at hA;have b1:=wB.1 hs;have b2:=wB.1 hA.1.1.2;rw[Bool.not_true,cond_false,cv (n:=f.seq+1) (by omega) (by omega),cv (n:=e.seq+1) (by omega) (by omega),M5,vD,M5,vD,vD,vD];rw[show (fun y:Bool=>k y)=k from rfl]at ih ⊢;rw[ih hA.2];cases decide (e.seq=f.seq+1) <;> cases decide (t.seq=e.seq+1) <;> cases (e.bE==t.bE) <;> cases t.bE <;> cases f.bE <;> rfl
  ·rw[bK (show ¬(i:Int)<(o.aS.length:Int) by omega),cond_false,List.drop_eq_nil_of_le (by omega),List.drop_eq_nil_of_le (by omega)];rfl
theorem Bf {R:Type} (o:Order) (hn:o.nodes.length≤4000000000000) (k:Bool→Option R):aZ o k=k (fC o):=by
 unfold aZ Lh;rw[topicName_ok,num_ok _ (by simp)];have e3:([o.header,o.order,o.update]:List Int).all dj=(dj o.header&&dj o.order&&dj o.update):=by simp only[List.all_cons,List.all_nil,Bool.and_true,Bool.and_assoc]
 have hr:fC o=(An o.cd&&(dj o.header&&dj o.order&&dj o.update)&&(match o.nodes with
  | []=>false
  | f::ns=>decide (ns.length<64)&&(decide (Int.tmod f.seq 2=0)&&f.bE)&&(dj f.node&&dj f.seq)&&vC f o.aS ns)):=rfl
 rw[hr,e3];cases An o.cd with
 | false=>rfl
 | true =>
 cases (dj o.header&&dj o.order&&dj o.update)with
 | false=>rfl
 | true =>
 simp only[Bool.not_true,cond_false,Bool.true_and];cases hs:o.nodes with
 | nil=>rfl
 | cons f ns =>
  rw[hs]at hn;simp only[List.length_cons]at hn ⊢;rw[bK (show ¬((ns.length+1:Nat):Int)<1 by omega),cond_false];by_cases h64:ns.length<64;rotate_left
  ·rw[aE (show ((ns.length+1:Nat):Int)>64 by omega),bK h64];rfl
  rw[bK (show ¬((ns.length+1:Nat):Int)>64 by omega),cond_false,aE h64,cv (n:=((ns.length+1:Nat):Int) - 1) (by omega) (by omega),M5,vD];by_cases hl:o.aS.length=ns.length;rotate_left
  ·rw[bK (show ¬(o.aS.length:Int)=((ns.length+1:Nat):Int) - 1 by omega),cond_false];have:vC f o.aS ns=false:=by
    cases hq:vC f o.aS ns with
    | false=>rfl
    | true=>exact (hl (steps_ok _ _ _ hq).1).elim
   rw[this,Bool.and_false]
  rw[aE (show (o.aS.length:Int)=((ns.length+1:Nat):Int) - 1 by omega),cond_true,ao (aE (by omega)),M5,vD,vD];have hg:(f::ns).getD 0 (Ty.aR .stop)=f:=rfl;rw[hg,num_ok _ (by simp)];have e2:([f.node,f.seq]:List Int).all dj=(dj f.node&&dj f.seq):=by simp only[List.all_cons,List.all_nil,Bool.and_true]
  rw[e2];cases hN:(dj f.node&&dj f.seq)with
  | false=>cases decide (Int.tmod f.seq 2=0) <;> cases f.bE <;> rfl
  | true =>
   simp only[Bool.and_eq_true]at hN;have hL:=right_loop o (by rw[hs]; simp; omega) (by rw[hs]; simp; omega) k (List.length o.aS+Int.natAbs (o.aS.length:Int)+Int.natAbs 0+Order.fu o+64) 0 (by omega) (by omega) (by rw[hs]; exact hN.2);rw[hs]at hL;have hL':=hL;simp only[List.drop_zero,List.drop_succ_cons]at hL';rw[Bool.not_true,cond_false];have hL2:da (List.length o.aS+Int.natAbs (o.aS.length:Int)+Int.natAbs 0+Order.fu o+64) o.aS (o.aS.length:Int) 0 o (k true) (fun yp=>k yp)=k (vC f o.aS ns):=hL';rw[hL2];cases decide (Int.tmod f.seq 2=0) <;> cases f.bE <;> cases vC f o.aS ns <;> rfl
def eqS:List Stop→List Stop→Bool
 | [], []=>true
 | x::l,y::m=>(x.node==y.node&&(x.seq==y.seq&&(x.bE==y.bE&&true)))&&eqS l m
 | _,_=>false
def eqW:List aA.Way→List aA.Way→Bool
 | [], []=>true
 | x::l,y::m=>(x.zy==y.zy&&(x.seq==y.seq&&(x.bE==y.bE&&true)))&&eqW l m
 | _,_=>false
theorem eqS_iff:∀ {a b:List Stop},eqS a b=true↔a=b
 | [], []=>by simp[eqS]
 | x::l,y::m=>by
  obtain ⟨a1,a2,a3⟩:=x;obtain ⟨b1,b2,b3⟩:=y;simp[eqS,eqS_iff (a:=l) (b:=m),and_assoc]
 | [],_::_=>by simp[eqS]
 | _::_, []=>by simp[eqS]
theorem eqW_iff:∀ {a b:List aA.Way},eqW a b=true↔a=b
 | [], []=>by simp[eqW]
 | x::l,y::m=>by
  obtain ⟨a1,a2,a3⟩:=x;obtain ⟨b1,b2,b3⟩:=y;simp[eqW,eqW_iff (a:=l) (b:=m),and_assoc]
 | [],_::_=>by simp[eqW]
 | _::_, []=>by simp[eqW]
theorem eqS_len {a b:List Stop} (h:a.length≠b.length):eqS a b=false:=Bool.eq_false_iff.2 fun e=>h (by rw[eqS_iff.1 e])
theorem eqW_len {a b:List aA.Way} (h:a.length≠b.length):eqW a b=false:=Bool.eq_false_iff.2 fun e=>h (by rw[eqW_iff.1 e])
def YX (a b:Order):Bool:=a.header==b.header&&(a.cd==b.cd&&(a.order==b.order&&(a.update==b.update&&(eqS a.nodes b.nodes&&eqW a.aS b.aS))))
theorem sameO_iff {a b:Order}:YX a b=true↔a=b:=by
 obtain ⟨a1,a2,a3,a4,a5,a6⟩:=a;obtain ⟨b1,b2,b3,b4,b5,b6⟩:=b;simp[YX,eqS_iff,eqW_iff]
theorem JB (a:Order):YX a a=true:=sameO_iff.2 rfl
theorem eqS_loop {R:Type} (a b:List Stop) (hl:a.length=b.length) (ha:a.length≤1099511627776) (e0:Option R) (e1:Bool→Option R):∀(F i:Nat),i≤a.length→a.length - i<F →
  bA F a b (a.length:Int) (i:Int) e0 e1=bif eqS (a.drop i) (b.drop i)then e0 else e1 false:=by
 intro F
 induction F with
 | zero=>intro i _ hF; omega
 | succ F ih =>
  intro i hi hF;show kD (fun x0 x1 x2 x3=>bA F x0 x1 x2 x3 e0 e1) a b (a.length:Int) (i:Int) e0 e1=_;unfold kD;by_cases h:i<a.length
  ·have ga:a.getD (i:Int).toNat (Ty.aR .stop)=a[i]:=getD_at h _;have gb:b.getD (i:Int).toNat (Ty.aR .stop)=b[i]:=getD_at (by omega) _;rw[aE (show (i:Int)<(a.length:Int) by omega),cond_true,ao (kk i),ao (uJ (show i<b.length by omega)),ga,gb,B5 h (by omega)];dsimp only;rw[ih (i+1) (by omega) (by omega),List.drop_eq_getElem_cons h,List.drop_eq_getElem_cons (show i<b.length by omega),vD];simp only[eqS];cases (a[i].node==b[i].node&&(a[i].seq==b[i].seq&&(a[i].bE==b[i].bE&&true))) <;> rfl
  ·rw[bK (show ¬(i:Int)<(a.length:Int) by omega),cond_false,List.drop_eq_nil_of_le (by omega),List.drop_eq_nil_of_le (by omega)];rfl
theorem eqW_loop {R:Type} (a b:List aA.Way) (hl:a.length=b.length) (ha:a.length≤1099511627776) (e0:Option R) (e1:Bool→Option R):∀(F i:Nat),i≤a.length→a.length - i<F →
  bO F a b (a.length:Int) (i:Int) e0 e1=bif eqW (a.drop i) (b.drop i)then e0 else e1 false:=by
 intro F
 induction F with
 | zero=>intro i _ hF; omega
 | succ F ih =>
  intro i hi hF;show lW (fun x0 x1 x2 x3=>bO F x0 x1 x2 x3 e0 e1) a b (a.length:Int) (i:Int) e0 e1=_;unfold lW;by_cases h:i<a.length
  ·have ga:a.getD (i:Int).toNat (Ty.aR .na)=a[i]:=getD_at h _;have gb:b.getD (i:Int).toNat (Ty.aR .na)=b[i]:=getD_at (by omega) _;rw[aE (show (i:Int)<(a.length:Int) by omega),cond_true,ao (kk i),ao (uJ (show i<b.length by omega)),ga,gb,B5 h (by omega)];dsimp only;rw[ih (i+1) (by omega) (by omega),List.drop_eq_getElem_cons h,List.drop_eq_getElem_cons (show i<b.length by omega),vD];simp only[eqW];cases (a[i].zy==b[i].zy&&(a[i].seq==b[i].seq&&(a[i].bE==b[i].bE&&true))) <;> rfl
  ·rw[bK (show ¬(i:Int)<(a.length:Int) by omega),cond_false,List.drop_eq_nil_of_le (by omega),List.drop_eq_nil_of_le (by omega)];rfl
theorem eqS_ok {R:Type} (a b:List Stop) (ha:a.length≤1099511627776) (k:Bool→Option R):ef a b k=k (eqS a b):=by
 unfold ef ui;rw[M5,vD];by_cases hl:a.length=b.length
 ·rw[aE (show (a.length:Int)=(b.length:Int) by omega),cond_true];refine (eqS_loop a b hl ha _ _ _ 0 (by omega) (by omega)).trans ?_;rw[List.drop_zero,List.drop_zero];cases eqS a b <;> rfl
 ·rw[bK (show ¬(a.length:Int)=(b.length:Int) by omega),eqS_len hl];rfl
theorem eqW_ok {R:Type} (a b:List aA.Way) (ha:a.length≤1099511627776) (k:Bool→Option R):eW a b k=k (eqW a b):=by
 unfold eW wJ;rw[M5,vD];by_cases hl:a.length=b.length
 ·rw[aE (show (a.length:Int)=(b.length:Int) by omega),cond_true];refine (eqW_loop a b hl ha _ _ _ 0 (by omega) (by omega)).trans ?_;rw[List.drop_zero,List.drop_zero];cases eqW a b <;> rfl
 ·rw[bK (show ¬(a.length:Int)=(b.length:Int) by omega),eqW_len hl];rfl
theorem orderSame_ok {R:Type} (a b:Order) (ha:a.nodes.length≤1099511627776) (he:a.aS.length≤1099511627776) (k:Bool→Option R):cu a b k=k (YX a b):=by
 unfold cu OH YX;simp only[eqS_ok _ _ ha,eqW_ok _ _ he];cases (a.header==b.header) <;> cases (a.cd==b.cd) <;> cases (a.order==b.order) <;> cases (a.update==b.update) <;> cases eqS a.nodes b.nodes <;> rfl
theorem base_loop {R:Type} (l:List Stop) (hl:l.length≤1099511627776) (e0:Int→Option R):∀(F i n:Nat),i≤l.length→l.length - i<F→n≤i →
  dC F (n:Int) l (l.length:Int) (i:Int) e0=e0 ((n+((l.drop i).filter (·.bE)).length:Nat):Int):=by
 intro F
 induction F with
 | zero=>intro i n _ hF; omega
 | succ F ih =>
  intro i n hi hF hn;show yM (fun x0 x1 x2 x3=>dC F x0 x1 x2 x3 e0) (n:Int) l (l.length:Int) (i:Int) e0=_;unfold yM;by_cases h:i<l.length
  ·have ga:l.getD (i:Int).toNat (Ty.aR .stop)=l[i]:=getD_at h _;rw[aE (show (i:Int)<(l.length:Int) by omega),cond_true,ao (kk i),ga,B5 h (by omega),B5 (show n<l.length by omega) (by omega)];dsimp only;rw[ih (i+1) (n+1) (by omega) (by omega) (by omega),ih (i+1) n (by omega) (by omega) (by omega),List.drop_eq_getElem_cons h,List.filter_cons];cases l[i].bE with
   | false=>rfl
   | true =>
    simp only[cond_true,if_true,List.length_cons];congr 1;omega
  ·rw[bK (show ¬(i:Int)<(l.length:Int) by omega),cond_false,List.drop_eq_nil_of_le (by omega)];rfl
theorem orderBase_ok {R:Type} (o:Order) (hl:o.nodes.length≤1099511627776) (k:Int→Option R):mq o k=k (baseO o):=by
 unfold mq OK;refine (base_loop o.nodes hl _ _ 0 0 (by omega) (by omega) (by omega)).trans ?_;rw[List.drop_zero,Nat.zero_add];rfl
theorem w32 (n:Nat):IntKind.u32.wrap (n:Int)=((n % 4294967296:Nat):Int):=by
 show ((n:Int) % 4294967296)=_;omega
theorem of32 (n:Nat):(BitVec.ofInt IntKind.u32.bits (n:Int)).toNat=n % 4294967296:=by
 rw[BitVec.toNat_ofInt];show ((n:Int) % ((4294967296:Nat):Int)).toNat=_;omega
theorem xor32 (h c:Nat) (hh:h<4294967296) (c8:UInt8) (hc:c=c8.toNat):IntKind.u32.wrap ((BitVec.ofInt IntKind.u32.bits (h:Int) ^^^ BitVec.ofInt IntKind.u32.bits (c:Int)).toNat:Int)=((h ^^^ c8.toNat:Nat):Int):=by
 have h8:=UInt8.toNat_lt c8;subst hc;rw[BitVec.toNat_xor,of32,of32,Nat.mod_eq_of_lt hh,Nat.mod_eq_of_lt (by omega),w32,Nat.mod_eq_of_lt (xor_lt hh c8)]
theorem step32 (h:Nat) (hh:h<4294967296) (c:UInt8):IntKind.u32.wrap ((IntKind.u32.wrap ((BitVec.ofInt IntKind.u32.bits (h:Int) ^^^ BitVec.ofInt IntKind.u32.bits (IntKind.u32.wrap (c.toNat:Int))).toNat:Int))*16777619)=((Ei h c:Nat):Int):=by
 have h8:=UInt8.toNat_lt c;rw[w32 c.toNat,Nat.mod_eq_of_lt (by omega),xor32 h c.toNat hh c rfl];have e:(((h ^^^ c.toNat:Nat):Int)*16777619)=(((h ^^^ c.toNat)*16777619:Nat):Int):=by rw[Int.natCast_mul]; rfl
 rw[e,w32];rfl
theorem sum_loop {R:Type} (s:ae) (hs:s.length≤1099511627785) (e0:Int→Option R):∀(F i h:Nat),i≤s.length→s.length - i<F→h<4294967296→dZ F (h:Int) s.length (s.length:Int) (i:Int) (hJ s) e0=e0 ((SL (s.drop i) h:Nat):Int):=by
 intro F
 induction F with
 | zero=>intro i h _ hF; omega
 | succ F ih =>
  intro i h hi hF hh;show DX (fun x0 x1 x2 x3 x4=>dZ F x0 x1 x2 x3 x4 e0) (h:Int) s.length (s.length:Int) (i:Int) (hJ s) e0=_;unfold DX;by_cases hl:i<s.length;rotate_left
  ·rw[bK (show ¬(i:Int)<(s.length:Int) by omega),cond_false,List.drop_eq_nil_of_le (by omega)];unfold SL;rw[List.foldl_nil]
  have hw:IntKind.i64.wrap ((i:Int)+1)=((i+1:Nat):Int):=by rw[cv (by omega) (by omega)]; omega
  have hg:(hJ s).getD (i:Int).toNat (Ty.aR (.int .u8))=(s[i].toNat:Int):=by
   have e1:((s.map fun b=>(b.toNat:Int)):List Int).getD i 0=(s[i].toNat:Int):=by
    rw[List.getD_eq_getElem?_getD,List.getElem?_map,List.getElem?_eq_getElem hl];rfl
   exact e1
  rw[aE (show (i:Int)<(s.length:Int) by omega),cond_true,ao (by rw[aE (show (0:Int)≤(i:Int) by omega)]; rfl),ao (aE (by rw[Int.toNat_natCast,CB,FD]; exact hl)),hg,step32 h hh,hw];refine (ih (i+1) _ (by omega) (by omega) (FH h s[i])).trans ?_;rw[List.drop_eq_getElem_cons hl,MY]
theorem sum_ok {R:Type} (s:ae) (hs:s.length≤1099511627785) (k:Int→Option R):vY s k=k ((X4 s:Nat):Int):=by
 have e:vY s k=dZ (Int.natAbs 2166136261+Int.natAbs (s.length:Int)+Int.natAbs 0+List.length (hJ s)+64) ((2166136261:Nat):Int) s.length (s.length:Int) ((0:Nat):Int) (hJ s) (fun y7=>k y7):=rfl;rw[e,sum_loop s hs _ _ 0 _ (by omega) (by omega) (by decide),List.drop_zero];rfl
theorem shr4 (n:Nat):Int.fdiv (n:Int) (2 ^ (min 4 IntKind.u32.bits))=((n / 16:Nat):Int):=by
 show Int.fdiv (n:Int) 16=_;rw[Int.fdiv_eq_ediv_of_nonneg _ (by decide)];omega
theorem and15u (n:Nat):IntKind.u32.wrap ((BitVec.ofInt IntKind.u32.bits (n:Int) &&& BitVec.ofInt IntKind.u32.bits 15).toNat:Int)=((n % 16:Nat):Int):=by
 have h2:(BitVec.ofInt IntKind.u32.bits 15).toNat=15:=by decide
 rw[BitVec.toNat_and,of32,h2];have h3:(n % 4294967296) &&& 15=(n % 4294967296) % 16:=Nat.and_two_pow_sub_one_eq_mod _ 4;rw[h3,w32];omega
theorem in16 (n:Nat):(decide ((0:Int)≤((n % 16:Nat):Int))&&decide (((n % 16:Nat):Int)<(16:Int)))=true:=by
 rw[aE (by omega),aE (by omega)]; rfl
theorem O1 {R:Type} (s:ae) (hs:s.length≤1099511627776) (k:ae→Option R):bV s k=k (eQ s):=by
 have e:bV s k=KL vY s k:=rfl;rw[e];unfold KL;rw[sum_ok s (by omega)];have hH:=fnv_lt s 2166136261 (by decide);unfold eQ SM;unfold X4;generalize SL s 2166136261=H at hH;simp only[shr4,and15u,in16,bX,cond_true,Int.toNat_natCast];rw[aE (show s.length+1≤9223372036854775807 by omega),cond_true,aE (by simp only[List.length_append,List.length_map,List.length_cons,List.length_nil]; omega),cond_true];congr 1;rw[List.append_assoc];congr 1;simp only[List.map_cons,List.map_nil,Int.toNat_natCast,UInt8.ofNat_toNat,List.singleton_append,hxB,hxS,Nat.div_div_eq_div_mul]
theorem last_cases (s:ae):(Ga s 35 = -1∧∀x∈s,x≠35)∨∃i:Nat,∃h:i<s.length,Ga s 35=(i:Int)∧s[i]=35∧∀j (hj:j<s.length),i<j→s[j]≠35:=by
 have Iz:∀j (h:j<s.length),(⟨s.toArray⟩:ByteArray).data[j]! = s[j]:=fun j h=>by
  show s.toArray[j]! = s[j];rw[getElem!_pos _ _ (by simpa using h)];simp
 have rV:(⟨s.toArray⟩:ByteArray).size=s.length:=by show s.toArray.size=_; simp
 have h35:∀x:UInt8,((x.toNat:Int)=((35:UInt8).toNat:Int))↔x=35:=fun x=>by
  constructor
  ·intro h; exact UInt8.toNat_inj.1 (by omega)
  ·rintro rfl; rfl
 unfold Ga;rcases Go.Lib.lastIndexByte_spec ⟨s.toArray⟩ ((35:UInt8).toNat:Int)with ⟨h1,h2⟩|⟨i,h1,h2,h3,h4⟩
 ·refine .inl ⟨h1,fun x hx => ?_⟩;obtain ⟨j,hj,rfl⟩:=List.getElem_of_mem hx;have:=h2 j (by rw[rV]; exact hj);rw[Iz j hj]at this;exact fun e=>this ((h35 _).2 e)
 ·rw[rV]at h1;refine .inr ⟨i,h1,h2,?_,fun j hj B7 => ?_⟩
  ·rw[Iz i h1]at h3;exact (h35 _).1 h3
  ·have:=h4 j B7 (by rw[rV]; exact hj);rw[Iz j hj]at this;exact fun e=>this ((h35 _).2 e)
theorem seal_at (t:ae):∃h:t.length<(eQ t).length,(eQ t)[t.length]=35∧∀j (hj:j<(eQ t).length),t.length<j→(eQ t)[j]≠35:=by
 have hl:=mu t;refine ⟨by omega,?_,fun j hj B7 => ?_⟩
 ·simp[eQ]
 ·have hm:(eQ t)[j]∈SM (X4 t):=by
   obtain ⟨m,rfl⟩:∃m,j=t.length+(m+1):=⟨j - t.length - 1,by omega⟩;have e:(eQ t)[t.length+(m+1)]? = (SM (X4 t))[m]? :=by
    unfold eQ;rw[List.getElem?_append_right (by omega),Nat.add_sub_cancel_left,List.getElem?_cons_succ]
   rw[List.getElem?_eq_getElem hj]at e;exact List.mem_of_getElem? e.symm
  exact hex8_ne _ _ hm
theorem open_ok {R:Type} (s:ae) (hs:s.length≤1099511627776) (k:ae→Int→Option R):dG s k=match EX s with|some t=>k t 0|none=>k [] 60:=by
 have e:dG s k=KM bV s k:=rfl;rw[e];unfold KM;rw[ao (aE (by omega))];rcases last_cases s with ⟨h1,h2⟩|⟨i,hi,h1,h2,h3⟩
 ·rw[h1];have:EX s=none:=by
   cases ho:EX s with
   | none=>rfl
   | some t =>
    exfalso;have e:=Sn ho;obtain ⟨g1,g2,_⟩:=seal_at t;exact h2 35 (by rw[e,←g2]; exact List.getElem_mem _) rfl
  rw[this];rfl
 ·rw[h1];rw[bK (show ¬(i:Int)<0 by omega),cond_false];have c1:(decide ((0:Int)≤(i:Int))&&decide ((i:Int)≤(s.length:Int)))=true:=by rw[aE (by omega),aE (by omega)]; rfl
  have c2:decide ((0:Int)≤(i:Int))=true:=aE (by omega);rw[ao c1,ao c2,Int.toNat_natCast,List.drop_zero,Nat.sub_zero,O1 _ (by rw[List.length_take]; omega)];by_cases hq:eQ (s.take i)=s
  ·have b1:(!(eQ (s.take i)==s))=false:=by simp[hq]
   have ho:EX s=some (s.take i):=by rw[←hq,Sm,hq]
   rw[b1,cond_false,ao c1,ao c2,ho]
  ·have b1:(!(eQ (s.take i)==s))=true:=by simpa using hq
   rw[b1,cond_true];have ho:EX s=none:=by
    cases ho:EX s with
    | none=>rfl
    | some t =>
     exfalso;have e:=Sn ho;obtain ⟨g1,g2,g3⟩:=seal_at t;have hit:i=t.length:=by
      subst e;rcases Nat.lt_trichotomy i t.length with h|h|h
      ·exact (h3 t.length g1 h g2).elim
      ·exact h
      ·exact (g3 i hi h h2).elim
     apply hq;rw[e,hit];congr 1;unfold eQ;simp
   rw[ho]
theorem str_ok {R:Type} (s:ae) (k:Json→Option R):gE s k=k (UA s):=rfl
theorem yes_ok {R:Type} (b:Bool) (k:Json→Option R):wu b k=k (ZE b):=by cases b <;> rfl
theorem arr_ok {R:Type} (l:List Json) (hj:Pu.Hc (UB l)) (k:Json→Option R):eI l k=k (UB l):=by
 unfold eI QH;exact Pu.fresh_eq _ hj _
theorem O2 {n:Int} (h:dj n=true):Pu.Hc (CT n):=M4 _ 2 (yU h (by omega)) (by simp[J8,RN,CT])
theorem jok_yes (b:Bool):Pu.Hc (ZE b):=M4 _ 2 (right_yes b (by omega)) (by simp[J8,RN,ZE])
theorem jok_str {s:ae} (h:ft s=true) (hl:s.length≤10000000000):Pu.Hc (UA s):=M4 _ 2 (Sk h (by omega)) (by simp[J8,RN,UA,hl])
theorem jok_arr {l:List Json} (hl:l.length≤1099511627776) (h:∀x∈l,Pu.Hc x):Pu.Hc (UB l) :=
 Pu.jok_mk (by unfold zm; decide) (by unfold zm; decide) (by unfold zm; decide) (by simp) (by simp) (by simp) hl h
theorem jok_part {n:ae} (hn:n=MZ∨n=M0) {a b:Int} (ha:dj a=true) (hb:dj b=true) (r:Bool):Pu.Hc (M3 n a b r):=by
 refine Pu.jok_mk (by unfold zm; decide) (by unfold zm; decide) (by unfold zm; decide) (by simp) (by simp) (fun s hs => ?_) (by simp) (fun y hy => ?_)
 ·simp only[List.mem_cons,List.not_mem_nil,or_false]at hs;rcases hs with rfl|rfl|rfl
  ·rcases hn with rfl|rfl <;> decide
  ·decide
  ·decide
 ·simp only[List.mem_cons,List.not_mem_nil,or_false]at hy;rcases hy with rfl|rfl|rfl
  ·exact O2 ha
  ·exact O2 hb
  ·exact jok_yes r
theorem mk_part {n:ae} (hn:n=MZ∨n=M0) (x y z:Json):Pu.mk [n,M1,PY] [x,y,z] [] []=([n,M1,PY], [x,y,z]):=by
 rcases hn with rfl|rfl <;> rfl
theorem part_ok {R:Type} {n:ae} (hn:n=MZ∨n=M0) {a b:Int} (ha:dj a=true) (hb:dj b=true) (r:Bool) (k:Json→Option R):gW n a b r k=k (M3 n a b r):=by
 unfold gW NO;rw[int_ok ha,int_ok hb,yes_ok];refine (Pu.make_eq _ _ (by simp) (fun y hy => ?_) _).trans ?_
 ·simp only[List.mem_cons,List.not_mem_nil,or_false]at hy;rcases hy with rfl|rfl|rfl
  ·exact O2 ha
  ·exact O2 hb
  ·exact jok_yes r
 ·have e:=mk_part hn (CT a) (CT b) (ZE r);show k ⟨7,⟨0,0⟩, [],(Pu.mk [n,M1,PY] [CT a,CT b,ZE r] [] []).1,(Pu.mk [n,M1,PY] [CT a,CT b,ZE r] [] []).2⟩=_;rw[e];rfl
theorem eachS_loop {R:Type} (l:List Stop) (hl:l.length≤1000) (hk:∀x∈l,X5 x) (e0:List Json→Int→Int→Int→ae→Option R):∀(F i:Nat) (acc:List Json),i≤l.length→l.length - i<F→acc.length≤i →
  bH F acc l (l.length:Int) (i:Int) 0 0 0 [] e0=e0 (acc++(l.drop i).map Jv) 0 0 0 []:=by
 intro F
 induction F with
 | zero=>intro i acc _ hF; omega
 | succ F ih =>
  intro i acc hi hF hacc;show kS gl (fun x0 x1 x2 x3 x4 x5 x6 x7=>bH F x0 x1 x2 x3 x4 x5 x6 x7 e0) acc l (l.length:Int) (i:Int) 0 0 0 [] e0=_;unfold kS;by_cases h:i<l.length
  ·have ga:l.getD (i:Int).toNat (Ty.aR .stop)=l[i]:=getD_at h _;have hp:∀k:Json→Option R,gl l[i] k=k (Jv l[i]):=fun k=>part_ok (.inl rfl) (hk _ (List.getElem_mem h)).1 (hk _ (List.getElem_mem h)).2 _ k
   rw[aE (show (i:Int)<(l.length:Int) by omega),cond_true,ao (kk i),ga,hp,ao (aE (by omega)),B5 h (by omega)];dsimp only;rw[ih (i+1) _ (by omega) (by omega) (by simp; omega),List.drop_eq_getElem_cons h,List.map_cons,List.append_assoc];rfl
  ·rw[bK (show ¬(i:Int)<(l.length:Int) by omega),cond_false,List.drop_eq_nil_of_le (by omega),List.map_nil,List.append_nil]
theorem eachW_loop {R:Type} (l:List aA.Way) (hl:l.length≤1000) (hk:∀x∈l,wayOk x) (e0:List Json→Int→Int→Int→ae→Option R):∀(F i:Nat) (acc:List Json),i≤l.length→l.length - i<F→acc.length≤i →
  bN F acc l (l.length:Int) (i:Int) 0 0 0 [] e0=e0 (acc++(l.drop i).map UC) 0 0 0 []:=by
 intro F
 induction F with
 | zero=>intro i acc _ hF; omega
 | succ F ih =>
  intro i acc hi hF hacc;show lQ gm (fun x0 x1 x2 x3 x4 x5 x6 x7=>bN F x0 x1 x2 x3 x4 x5 x6 x7 e0) acc l (l.length:Int) (i:Int) 0 0 0 [] e0=_;unfold lQ;by_cases h:i<l.length
  ·have ga:l.getD (i:Int).toNat (Ty.aR .na)=l[i]:=getD_at h _;have hp:∀k:Json→Option R,gm l[i] k=k (UC l[i]):=fun k=>part_ok (.inr rfl) (hk _ (List.getElem_mem h)).1 (hk _ (List.getElem_mem h)).2 _ k
   rw[aE (show (i:Int)<(l.length:Int) by omega),cond_true,ao (kk i),ga,hp,ao (aE (by omega)),B5 h (by omega)];dsimp only;rw[ih (i+1) _ (by omega) (by omega) (by simp; omega),List.drop_eq_getElem_cons h,List.map_cons,List.append_assoc];rfl
  ·rw[bK (show ¬(i:Int)<(l.length:Int) by omega),cond_false,List.drop_eq_nil_of_le (by omega),List.map_nil,List.append_nil]
theorem jok_stops {l:List Stop} (hl:l.length≤1000) (hk:∀x∈l,X5 x):Pu.Hc (UB (l.map Jv)):=jok_arr (by simp; omega) fun x hx=>by
 obtain ⟨y,hy,rfl⟩:=List.mem_map.1 hx;exact jok_part (.inl rfl) (hk y hy).1 (hk y hy).2 _
theorem jok_ways {l:List aA.Way} (hl:l.length≤1000) (hk:∀x∈l,wayOk x):Pu.Hc (UB (l.map UC)):=jok_arr (by simp; omega) fun x hx=>by
 obtain ⟨y,hy,rfl⟩:=List.mem_map.1 hx;exact jok_part (.inr rfl) (hk y hy).1 (hk y hy).2 _
theorem eachS_ok {R:Type} (l:List Stop) (hl:l.length≤1000) (hk:∀x∈l,X5 x) (k:Json→Option R):eC l k=k (UB (l.map Jv)):=by
 unfold eC u7;refine (eachS_loop l hl hk _ _ 0 [] (by omega) (by omega) (by simp)).trans ?_;rw[List.drop_zero,List.nil_append];exact arr_ok _ (jok_stops hl hk) _
theorem eachW_ok {R:Type} (l:List aA.Way) (hl:l.length≤1000) (hk:∀x∈l,wayOk x) (k:Json→Option R):eR l k=k (UB (l.map UC)):=by
 unfold eR wF;refine (eachW_loop l hl hk _ _ 0 [] (by omega) (by omega) (by simp)).trans ?_;rw[List.drop_zero,List.nil_append];exact arr_ok _ (jok_ways hl hk) _
theorem mk_order (a b c d e f:Json):Pu.mk yn [a,b,c,d,e,f] [] []=(yn, [a,b,c,d,e,f]):=by kernel_rfl
theorem items_jok {o:Order} (hk:OkO o):∀y∈Em o,Pu.Hc y:=by
 obtain ⟨hv,hv2⟩:=Jy hk.name;obtain ⟨m1,m2,m3⟩:=hk.many;intro y hy;simp only[Em,List.mem_cons,List.not_mem_nil,or_false]at hy;rcases hy with rfl|rfl|rfl|rfl|rfl|rfl
 ·exact O2 hk.header
 ·exact jok_str hv (by omega)
 ·exact O2 hk.order
 ·exact O2 hk.update
 ·exact jok_stops (by omega) hk.nodes
 ·exact jok_ways (by omega) hk.aS
theorem order_lenJ {o:Order} (hk:OkO o):J8 (iZ o)=true:=(MX _ 1 (K2 hk) (by have:=Iw hk; omega)).1
theorem lay_ok {R:Type} (o:Order) (hn:o.nodes.length≤4000000000000) (k:ae→Int→Option R):bz o k=if fC o then k (eQ (cn (iZ o))) 0 else k [] 1:=by
 unfold bz Rq;rw[Bf o hn];cases h:fC o with
 | false=>rfl
 | true =>
  have hk:=jM h;obtain ⟨m1,m2,m3⟩:=hk.many;have hlen:=Iw hk;rw[Bool.not_true,cond_false,int_ok hk.header,str_ok,int_ok hk.order,int_ok hk.update,eachS_ok _ (by omega) hk.nodes,eachW_ok _ (by omega) hk.aS];refine (Pu.make_eq yn (Em o) (by decide) (items_jok hk) _).trans ?_;have e:Pu.mk yn (Em o) [] []=(yn,Em o):=mk_order _ _ _ _ _ _;rw[e];refine (print_json (iZ o) (K2 hk) (order_lenJ hk) (by omega) _).trans ?_;rw[O1 _ (by omega)];rfl
theorem c_sHeader:([104,101,97,100,101,114,73,100]:ae)=yV:=rfl
theorem c_sSerial:([115,101,114,105,97,108,78,117,109,98,101,114]:ae)=s6:=rfl
theorem c_sOrder:([111,114,100,101,114,73,100]:ae)=FI:=rfl
theorem c_sUpdate:([111,114,100,101,114,85,112,100,97,116,101,73,100]:ae)=yW:=rfl
theorem c_sNodes:([110,111,100,101,115]:ae)=FJ:=rfl
theorem c_sEdges:([101,100,103,101,115]:ae)=Ju:=rfl
def tN (v:Json) (s:ae) (b:Bool):Int×Bool:=match my v s with|some n=>(n,b)|none=>(0,true)
def tF (v:Json) (s:ae) (b:Bool):Bool×Bool:=match LX v s with|some n=>(n,b)|none=>(false,true)
def tL (v:Json) (s:ae) (b:Bool):List Json×Bool:=match uI v s with|some n=>(n,b)|none=>([],true)
theorem tN_t (v:Json) (s:ae):(tN v s true).2=true:=by unfold tN; split <;> rfl
theorem tF_t (v:Json) (s:ae):(tF v s true).2=true:=by unfold tF; split <;> rfl
theorem tL_t (v:Json) (s:ae):(tL v s true).2=true:=by unfold tL; split <;> rfl
theorem O3 {R:Type} (v:Json) (hv:Pu.Hc v) (s:ae) (b:Bool) (k:Int→Bool→Option R):aO v s b k=k (tN v s b).1 (tN v s b).2:=by
 unfold aO vm;simp only[Json.eta];rw[Pu.Num_eq v hv];unfold tN my;cases (Pu.Zp v s).bind Pu.numF <;> cases b <;> rfl
theorem tflag_ok {R:Type} (v:Json) (hv:Pu.Hc v) (s:ae) (b:Bool) (k:Bool→Bool→Option R):bj v s b k=k (tF v s b).1 (tF v s b).2:=by
 unfold bj uf;simp only[Json.eta];rw[Pu.Flag_eq v hv];unfold tF LX;cases (Pu.Zp v s).bind Pu.flagF <;> cases b <;> rfl
theorem tlist_ok {R:Type} (v:Json) (hv:Pu.Hc v) (s:ae) (b:Bool) (k:List Json→Bool→Option R):bL v s b k=k (tL v s b).1 (tL v s b).2:=by
 unfold bL tT;simp only[Json.eta];rw[Pu.List_eq v hv];unfold tL uI;cases (Pu.Zp v s).bind Pu.listF <;> cases b <;> rfl
theorem list_jok {v:Json} (hv:Pu.Hc v) {s:ae} {l:List Json} (h:uI v s=some l):l.length≤1099511627776∧∀x∈l,Pu.Hc x:=by
 unfold uI at h;cases hq:Pu.Zp v s with
 | none=>rw[hq]at h; cases h
 | some x =>
  rw[hq,Option.bind_some]at h;have hx:=Pu.at7_ok hv hq;unfold Pu.listF at h;split at h
  ·cases h; exact ⟨hx.items,fun y hy=>hx.item hy⟩
  ·cases h
theorem tL_jok {v:Json} (hv:Pu.Hc v) (s:ae) (b:Bool):(tL v s b).1.length≤1099511627776∧∀x∈(tL v s b).1,Pu.Hc x:=by
 unfold tL;split
 ·rename_i h; exact list_jok hv h
 ·simp
theorem text_get {v:Json} (hv:Pu.Hc v) (s:ae):∃(x:ae) (b:Bool),(∀ {R:Type} (k:ae→Bool→Option R),fT v s k=k x b)∧Ao v s=if b then some x else none:=by
 cases hq:Ao v s with
 | none=>exact ⟨[],false,fun k=>by rw[Pu.Text_eq v hv]; unfold Ao at hq; rw[hq],rfl⟩
 | some x=>exact ⟨x,true,fun k=>by rw[Pu.Text_eq v hv]; unfold Ao at hq; rw[hq],rfl⟩
def goS:List Json→Bool→List Stop→Bool×List Stop
 | [],b,acc=>(b,acc)
 | x::l,b,acc=>goS l (tF x PY (tN x M1 (tN x MZ b).2).2).2 (acc ++ [⟨(tN x MZ b).1,(tN x M1 (tN x MZ b).2).1,(tF x PY (tN x M1 (tN x MZ b).2).2).1⟩])
def goW:List Json→Bool→List aA.Way→Bool×List aA.Way
 | [],b,acc=>(b,acc)
 | x::l,b,acc=>goW l (tF x PY (tN x M1 (tN x M0 b).2).2).2 (acc ++ [⟨(tN x M0 b).1,(tN x M1 (tN x M0 b).2).1,(tF x PY (tN x M1 (tN x M0 b).2).2).1⟩])
theorem WW:∀(l:List Json) (acc:List Stop),(goS l true acc).1=true
 | [],_=>rfl
 | x::l,acc=>by simp only[goS,tN_t,tF_t]; exact WW l _
theorem Tz:∀(l:List Json) (acc:List aA.Way),(goW l true acc).1=true
 | [],_=>rfl
 | x::l,acc=>by simp only[goW,tN_t,tF_t]; exact Tz l _
theorem O4 {v:Json} {s:ae} (h:my v s=none) (b:Bool):tN v s b=(0,true):=by unfold tN; rw[h]
theorem yX {v:Json} {s:ae} {n:Int} (h:my v s=some n) (b:Bool):tN v s b=(n,b):=by unfold tN; rw[h]
theorem tF_none {v:Json} {s:ae} (h:LX v s=none) (b:Bool):tF v s b=(false,true):=by unfold tF; rw[h]
theorem tF_some {v:Json} {s:ae} {n:Bool} (h:LX v s=some n) (b:Bool):tF v s b=(n,b):=by unfold tF; rw[h]
theorem tL_none {v:Json} {s:ae} (h:uI v s=none) (b:Bool):tL v s b=([],true):=by unfold tL; rw[h]
theorem tL_some {v:Json} {s:ae} {n:List Json} (h:uI v s=some n) (b:Bool):tL v s b=(n,b):=by unfold tL; rw[h]
theorem Ix {α:Type} {f:Json→Option α} {x:Json} {l:List Json} (h:f x=none):OY f (x::l)=none:=by
 unfold OY;rw[h]
theorem allT_some {α:Type} {f:Json→Option α} {x:Json} {l:List Json} {y:α} (h:f x=some y):OY f (x::l)=(OY f l).map (y :: ·):=by
 rw[OY,h];cases OY f l <;> rfl
theorem goS_ok:∀(l:List Json) (acc:List Stop),match OY KZ l with|some ss=>goS l false acc=(false,acc++ss)|none=>(goS l false acc).1=true
 | [],acc=>by simp[OY,goS]
 | x::l,acc=>by
  have ih:=goS_ok l;cases h1:my x MZ with
  | none =>
   have e:KZ x=none:=by unfold KZ; rw[h1]
   rw[Ix e];simp only[goS,O4 h1,tN_t,tF_t];exact WW _ _
  | some a =>
  cases h2:my x M1 with
  | none =>
   have e:KZ x=none:=by unfold KZ; rw[h1,h2]
   rw[Ix e];simp only[goS,yX h1,O4 h2,tF_t];exact WW _ _
  | some b =>
  cases h3:LX x PY with
  | none =>
   have e:KZ x=none:=by unfold KZ; rw[h1,h2,h3]
   rw[Ix e];simp only[goS,yX h1,yX h2,tF_none h3];exact WW _ _
  | some r =>
   have e:KZ x=some ⟨a,b,r⟩:=by unfold KZ; rw[h1,h2,h3]
   rw[allT_some e];simp only[goS,yX h1,yX h2,tF_some h3];have:=ih (acc ++ [⟨a,b,r⟩]);cases hA:OY KZ l with
   | none=>rw[hA]at this; exact this
   | some ss=>rw[hA]at this; simpa [List.append_assoc]using this
theorem goS_len:∀(l:List Json) (b:Bool) (acc:List Stop),(goS l b acc).2.length=acc.length+l.length
 | [],_,_=>rfl
 | x::l,b,acc=>by
  simp only[goS];rw[goS_len l];simp only[List.length_append,List.length_cons,List.length_nil];omega
theorem goW_ok:∀(l:List Json) (acc:List aA.Way),match OY WR l with|some ss=>goW l false acc=(false,acc++ss)|none=>(goW l false acc).1=true
 | [],acc=>by simp[OY,goW]
 | x::l,acc=>by
  have ih:=goW_ok l;cases h1:my x M0 with
  | none =>
   have e:WR x=none:=by unfold WR; rw[h1]
   rw[Ix e];simp only[goW,O4 h1,tN_t,tF_t];exact Tz _ _
  | some a =>
  cases h2:my x M1 with
  | none =>
   have e:WR x=none:=by unfold WR; rw[h1,h2]
   rw[Ix e];simp only[goW,yX h1,O4 h2,tF_t];exact Tz _ _
  | some b =>
  cases h3:LX x PY with
  | none =>
   have e:WR x=none:=by unfold WR; rw[h1,h2,h3]
   rw[Ix e];simp only[goW,yX h1,yX h2,tF_none h3];exact Tz _ _
  | some r =>
   have e:WR x=some ⟨a,b,r⟩:=by unfold WR; rw[h1,h2,h3]
   rw[allT_some e];simp only[goW,yX h1,yX h2,tF_some h3];have:=ih (acc ++ [⟨a,b,r⟩]);cases hA:OY WR l with
   | none=>rw[hA]at this; exact this
   | some ss=>rw[hA]at this; simpa [List.append_assoc]using this
theorem takeS_loop {R:Type} (ok:Bool) (l:List Json) (hl:l.length≤1099511627776) (hj:∀x∈l,Pu.Hc x) (v:Json) (h:Int) (s:ae) (n u:Int) (e0:Bool→Int→ae→Int→Int→Json→Bool→Int→ae→Int→Int→List Stop→Option R):∀(F i:Nat) (b:Bool) (acc:List Stop),i≤l.length→l.length - i<F→acc.length≤i →
  cx F ok l (l.length:Int) (i:Int) 0 [] 0 0 v b h s n u acc e0=e0 ok 0 [] 0 0 v (goS (l.drop i) b acc).1 h s n u (goS (l.drop i) b acc).2:=by
 intro F
 induction F with
 | zero=>intro i b acc _ hF; omega
 | succ F ih =>
  intro i b acc hi hF hacc;show xk _ _ (fun x0 x1 x2 x3 x4 x5 x6 x7 x8 x9 Xp PE Et JJ Kn=>cx F x0 x1 x2 x3 x4 x5 x6 x7 x8 x9 Xp PE Et JJ Kn e0) ok l (l.length:Int) (i:Int) 0 [] 0 0 v b h s n u acc e0=_;unfold xk;by_cases hi2:i<l.length
  ·have ga:l.getD (i:Int).toNat (Ty.aR .json)=l[i]:=getD_at hi2 _;have hx:=hj _ (List.getElem_mem hi2);rw[aE (show (i:Int)<(l.length:Int) by omega),cond_true,ao (kk i),ga];simp only[Json.eta];rw[O3 _ hx,O3 _ hx,tflag_ok _ hx,ao (aE (by omega)),B5 hi2 (by omega)];rw[ih (i+1) _ _ (by omega) (by omega) (by simp; omega),List.drop_eq_getElem_cons hi2];rfl
  ·rw[bK (show ¬(i:Int)<(l.length:Int) by omega),cond_false,List.drop_eq_nil_of_le (by omega)];simp only[Json.eta];rfl
theorem takeW_loop {R:Type} (ok:Bool) (l:List Json) (hl:l.length≤1099511627776) (hj:∀x∈l,Pu.Hc x) (h:Int) (s:ae) (n u:Int) (ss:List Stop) (e0:Bool→Int→ae→Int→Int→Bool→Int→ae→Int→Int→List Stop→List aA.Way→Option R):∀(F i:Nat) (b:Bool) (acc:List aA.Way),i≤l.length→l.length - i<F→acc.length≤i →
  cy F ok l (l.length:Int) (i:Int) 0 [] 0 0 b h s n u ss acc e0=e0 ok 0 [] 0 0 (goW (l.drop i) b acc).1 h s n u ss (goW (l.drop i) b acc).2:=by
 intro F
 induction F with
 | zero=>intro i b acc _ hF; omega
 | succ F ih =>
  intro i b acc hi hF hacc;show xl _ _ (fun x0 x1 x2 x3 x4 x5 x6 x7 x8 x9 Xp PE Et JJ Kn=>cy F x0 x1 x2 x3 x4 x5 x6 x7 x8 x9 Xp PE Et JJ Kn e0) ok l (l.length:Int) (i:Int) 0 [] 0 0 b h s n u ss acc e0=_;unfold xl;by_cases hi2:i<l.length
  ·have ga:l.getD (i:Int).toNat (Ty.aR .json)=l[i]:=getD_at hi2 _;have hx:=hj _ (List.getElem_mem hi2);rw[aE (show (i:Int)<(l.length:Int) by omega),cond_true,ao (kk i),ga];simp only[Json.eta];rw[O3 _ hx,O3 _ hx,tflag_ok _ hx,ao (aE (by omega)),B5 hi2 (by omega)];rw[ih (i+1) _ _ (by omega) (by omega) (by simp; omega),List.drop_eq_getElem_cons hi2];rfl
  ·rw[bK (show ¬(i:Int)<(l.length:Int) by omega),cond_false,List.drop_eq_nil_of_le (by omega)];rfl
def outO {R:Type} (k:Order→Int→Option R):Except Int Order→Option R
 | .ok o=>k o 0
 | .error e=>k ⟨0, [],0,0, [], []⟩ e
theorem Ss {R:Type} (s:ae) (hs:s.length≤1099511627776) (k:Order→Int→Option R):bM s k=outO k (Jx s):=by
 unfold bM OC Jx;rw[open_ok s hs];cases EX s with
 | none=>rfl
 | some t =>
 show cW t _=_;rw[jparse_ok];by_cases he:(nY t).2.1=0;rotate_left
 ·have c:((nY t).2.1 != 0)=true:=by simpa using he
  rw[c,cond_true];simp only[if_pos he,ne_eq,not_true_eq_false,not_false_eq_true,he,if_true];rfl
 have c:((nY t).2.1 != 0)=false:=by simpa using he
 rw[c,cond_false];have hv:=parse_jok he;simp only[he,ne_eq,not_true_eq_false,if_false];generalize (nY t).1=v at hv ⊢;obtain ⟨nm,okb,hT,hTs⟩:=text_get hv s6;simp only[Json.eta,c_sHeader,c_sSerial,c_sOrder,c_sUpdate,c_sNodes,c_sEdges];refine (hT _).trans ?_;rw[O3 v hv,O3 v hv,O3 v hv,tlist_ok v hv];have hN:=tL_jok hv FJ (tN v yW (tN v FI (tN v yV false).2).2).2;refine (takeS_loop okb _ hN.1 hN.2 v _ nm _ _ _ _ 0 _ [] (by omega) (by omega) (by simp)).trans ?_;rw[tlist_ok v hv];generalize hGS:goS ((tL v FJ (tN v yW (tN v FI (tN v yV false).2).2).2).1.drop 0) (tL v FJ (tN v yW (tN v FI (tN v yV false).2).2).2).2 []=GS
 have hE:=tL_jok hv Ju GS.1;refine (takeW_loop okb _ hE.1 hE.2 _ nm _ _ _ _ _ 0 _ [] (by omega) (by omega) (by simp)).trans ?_;rw[List.drop_zero]at hGS ⊢;have hlen:GS.2.length≤4000000000000:=by
  rw[←hGS,goS_len];have:=hN.1;simp only[List.length_nil];omega
 rw[Bf _ hlen];have dead:∀ {b:Bool} {x y:Option R},b=true→(bif b then x else y)=x:=fun e=>by rw[e]; rfl
 unfold Jw;cases h1:my v yV with
 | none =>
  refine (dead ?_).trans rfl;rw[←hGS];simp only[O4 h1,tN_t,tL_t,WW,Tz]
 | some a1 =>
 cases h2:my v FI with
 | none =>
  refine (dead ?_).trans ?_
  ·rw[←hGS];simp only[O4 h2,tN_t,tL_t,WW,Tz]
  ·cases Ao v s6 <;> rfl
 | some a2 =>
 cases h3:my v yW with
 | none =>
  refine (dead ?_).trans ?_
  ·rw[←hGS];simp only[O4 h3,tN_t,tL_t,WW,Tz]
  ·cases Ao v s6 <;> rfl
 | some a3 =>
 cases h4:uI v FJ with
 | none =>
  refine (dead ?_).trans ?_
  ·rw[←hGS];simp only[tL_none h4,tN_t,tL_t,WW,Tz]
  ·cases Ao v s6 <;> rfl
 | some a4 =>
 cases h5:uI v Ju with
 | none =>
  refine (dead ?_).trans ?_
  ·simp only[tL_none h5,tN_t,tL_t,WW,Tz]
  ·cases Ao v s6 <;> rfl
 | some a5 =>
 simp only[yX h1,yX h2,yX h3,tL_some h4]at hGS ⊢;have hS:=goS_ok a4 [];cases h6:OY KZ a4 with
 | none =>
  rw[h6]at hS;refine (dead ?_).trans ?_
  ·rw[←hGS,tL_some h5,hS];exact Tz _ _
  ·cases Ao v s6 <;> simp only[h6] <;> rfl
 | some ss =>
 rw[h6]at hS;simp only[List.nil_append]at hS;rw[hS]at hGS;subst hGS;simp only[tL_some h5];have hW:=goW_ok a5 [];cases h7:OY WR a5 with
 | none =>
  rw[h7]at hW;refine (dead hW).trans ?_;cases Ao v s6 <;> simp only[h6,h7] <;> rfl
 | some ws =>
 rw[h7]at hW;simp only[List.nil_append]at hW;rw[hW,hTs];cases okb with
 | false=>rfl
 | true =>
  simp only[cond_false,Bool.not_true,if_true,h6,h7];cases fC ⟨a1,nm,a2,a3,ss,ws⟩ <;> rfl
theorem Eo {R:Type} (c n:Int) (hc:zm c) (h0:0<n) (k:Int→Option R):bc c n k=k (pL c n):=pick_rawI c n hc h0 k
theorem zs_getD (l:ae) (i:Nat) (d:Int) (h:i<l.length):(zs l).getD i d=((l.getD i 0).toNat:Int):=by
 rw[getD_at (by rw[FD]; exact h),getD_at h,List.getElem_map]
theorem zs_set (l:ae) (i:Nat) (b:UInt8):(zs l).set i (b.toNat:Int)=zs (l.set i b):=by
 unfold zs;rw[List.map_set]
theorem fitB_at (b:UInt8):((([97,98,99,120,121,122,65,66,67,88,89,90,48,49,56,57,95,46,58,45]:ae).getD (Int.tmod (IntKind.i64.wrap (b.toNat:Int)) 20).toNat 0).toNat:Int)=((fitB b).toNat:Int)∧0≤Int.tmod (IntKind.i64.wrap (b.toNat:Int)) 20∧Int.tmod (IntKind.i64.wrap (b.toNat:Int)) 20<20:=by
 have h8:=UInt8.toNat_lt b;have e:Int.tmod (b.toNat:Int) 20=((b.toNat % 20:Nat):Int):=by
  rw[Int.tmod_eq_emod_of_nonneg (by omega)];omega
 rw[cv (by omega) (by omega),e];exact ⟨rfl,by omega,by omega⟩
theorem fit07_loop {R:Type} (s:ae) (hs:s.length≤15) (e0:Nat→List Int→Option R):∀(F j:Nat),j≤s.length→s.length - j<F →
  dP F (s.length+1) ((j+1:Nat):Int) (zs (El s j)) e0=e0 (s.length+1) (zs (El s s.length)):=by
 intro F
 induction F with
 | zero=>intro j _ hF; omega
 | succ F ih =>
  intro j hj hF;show Bo (fun x0 x1 x2=>dP F x0 x1 x2 e0) (s.length+1) ((j+1:Nat):Int) (zs (El s j)) e0=_;unfold Bo;by_cases h:j<s.length
  ·have hl:(zs (El s j)).length=s.length+1:=by rw[FD,Sq]
   have hg:(zs (El s j)).getD ((j+1:Nat):Int).toNat (Ty.aR (.int .u8))=(s[j].toNat:Int):=by
    refine (zs_getD _ (j+1) _ (by rw[Sq]; omega)).trans ?_;rw[fitSt_get s j h]
   obtain ⟨f1,f2,f3⟩:=fitB_at s[j];have Xe:(zs (El s j)).set ((j+1:Nat):Int).toNat ((fitB s[j]).toNat:Int)=zs (El s (j+1)):=by
    rw[Int.toNat_natCast,zs_set,fitSt_set s j h]
   have c1:decide (((j+1:Nat):Int)<((s.length+1:Nat):Int))=true:=aE (by omega);have c2:(decide ((0:Int)≤((j+1:Nat):Int))&&true)=true:=kk _;have c3:decide (((j+1:Nat):Int).toNat<(zs (El s j)).length)=true:=aE (by rw[hl,Int.toNat_natCast]; omega);rw[c1,cond_true,ao c2,ao c3,hg,f1,ao (by rw[aE f2,aE f3]; rfl),ao c2,ao c3,Xe,B5 (show j+1<s.length+1 by omega) (by omega)];exact ih (j+1) (by omega) (by omega)
  ·have e:j=s.length:=by omega
   rw[bK (show ¬((j+1:Nat):Int)<((s.length+1:Nat):Int) by omega),cond_false,e]
theorem fit07 {R:Type} (s:ae) (hs:s.length≤1099511627776) (k:ae→Option R):eK s k=k (fitN s):=by
 unfold eK RB;have hm:(min (s.length:Int) 15)=((min s.length 15:Nat):Int):=by omega
 have ht:(s.drop 0).take ((min (s.length:Int) 15).toNat - 0)=s.take 15:=by
  rw[hm,List.drop_zero,Int.toNat_natCast,Nat.sub_zero];rcases Nat.le_total s.length 15 with h|h
  ·rw[Nat.min_eq_left h,List.take_length,List.take_of_length_le h]
  ·rw[Nat.min_eq_right h]
 rw[ao (by rw[hm,aE (by omega),aE (by omega)]; rfl),ao (by rw[hm]; exact aE (by omega)),ht];have hl:(s.take 15).length≤15:=by rw[List.length_take]; omega
 rw[ao (aE (by omega))];have e0:([110]:ae)++s.take 15=El (s.take 15) 0:=by simp[El]
 rw[e0,Sq];refine (fit07_loop (s.take 15) hl _ _ 0 (by omega) (by rw[CB,FD,Sq]; omega)).trans ?_;rw[fitSt_end];show k (xq (zs (fitN s)))=_;rw[vA]
theorem rsameS_loop {R:Type} (a b:Order) (hl:a.nodes.length=b.nodes.length) (ha:a.nodes.length≤1099511627776) (e0:Order→Order→Option R) (e1:Bool→Order→Order→Option R):∀(F i:Nat),i≤a.nodes.length→a.nodes.length - i<F →
  cK F (i:Int) a b e0 e1=bif eqS (a.nodes.drop i) (b.nodes.drop i)then e0 a b else e1 false a b:=by
 intro F
 induction F with
 | zero=>intro i _ hF; omega
 | succ F ih =>
  intro i hi hF;show yR (fun x0 x1 x2=>cK F x0 x1 x2 e0 e1) (i:Int) a b e0 e1=_;unfold yR;by_cases h:i<a.nodes.length
  ·have ga:a.nodes.getD (i:Int).toNat (Ty.aR .stop)=a.nodes[i]:=getD_at h _;have gb:b.nodes.getD (i:Int).toNat (Ty.aR .stop)=b.nodes[i]:=getD_at (by omega) _;rw[aE (show (i:Int)<(a.nodes.length:Int) by omega),cond_true,ao (kk i),ao (uJ (show i<b.nodes.length by omega)),ga,gb,B5 h (by omega)];dsimp only;rw[ih (i+1) (by omega) (by omega),List.drop_eq_getElem_cons h,List.drop_eq_getElem_cons (show i<b.nodes.length by omega),vD];simp only[eqS];cases (a.nodes[i].node==b.nodes[i].node&&(a.nodes[i].seq==b.nodes[i].seq&&(a.nodes[i].bE==b.nodes[i].bE&&true))) <;> rfl
  ·rw[bK (show ¬(i:Int)<(a.nodes.length:Int) by omega),cond_false,List.drop_eq_nil_of_le (by omega),List.drop_eq_nil_of_le (by omega)];rfl
theorem rsameW_loop {R:Type} (a b:Order) (hl:a.aS.length=b.aS.length) (ha:a.aS.length≤1099511627776) (e0:Option R) (e1:Bool→Option R):∀(F i:Nat),i≤a.aS.length→a.aS.length - i<F →
  cL F (i:Int) a b e0 e1=bif eqW (a.aS.drop i) (b.aS.drop i)then e0 else e1 false:=by
 intro F
 induction F with
 | zero=>intro i _ hF; omega
 | succ F ih =>
  intro i hi hF;show yS (fun x0 x1 x2=>cL F x0 x1 x2 e0 e1) (i:Int) a b e0 e1=_;unfold yS;by_cases h:i<a.aS.length
  ·have ga:a.aS.getD (i:Int).toNat (Ty.aR .na)=a.aS[i]:=getD_at h _;have gb:b.aS.getD (i:Int).toNat (Ty.aR .na)=b.aS[i]:=getD_at (by omega) _;rw[aE (show (i:Int)<(a.aS.length:Int) by omega),cond_true,ao (kk i),ao (uJ (show i<b.aS.length by omega)),ga,gb,B5 h (by omega)];dsimp only;rw[ih (i+1) (by omega) (by omega),List.drop_eq_getElem_cons h,List.drop_eq_getElem_cons (show i<b.aS.length by omega),vD];simp only[eqW];cases (a.aS[i].zy==b.aS[i].zy&&(a.aS[i].seq==b.aS[i].seq&&(a.aS[i].bE==b.aS[i].bE&&true))) <;> rfl
  ·rw[bK (show ¬(i:Int)<(a.aS.length:Int) by omega),cond_false,List.drop_eq_nil_of_le (by omega),List.drop_eq_nil_of_le (by omega)];rfl
theorem rsame_ok {R:Type} (a b:Order) (ha:a.nodes.length≤1099511627776) (he:a.aS.length≤1099511627776) (k:Bool→Option R):eh a b k=k (YX a b):=by
 unfold eh OQ YX;have hb:∀(x y:Int),(x != y) = !(x==y):=fun x y=>rfl
 simp only[hb,vD];cases (a.header==b.header)with
 | false=>rfl
 | true =>
 cases (a.cd==b.cd)with
 | false=>rfl
 | true =>
 cases (a.order==b.order)with
 | false=>rfl
 | true =>
 cases (a.update==b.update)with
 | false=>rfl
 | true =>
 simp only[cond_true,Bool.true_and];by_cases h1:a.nodes.length=b.nodes.length;rotate_left
 ·have c:((a.nodes.length:Int)==(b.nodes.length:Int))=false:=by rw[Sr]; exact bK (by omega)
  rw[c,eqS_len h1];rfl
 have c1:((a.nodes.length:Int)==(b.nodes.length:Int))=true:=by rw[Sr]; exact aE (by omega)
 rw[c1,cond_true];by_cases h2:a.aS.length=b.aS.length;rotate_left
 ·have c:((a.aS.length:Int)==(b.aS.length:Int))=false:=by rw[Sr]; exact bK (by omega)
  rw[c,eqW_len h2,Bool.and_false];rfl
 have c2:((a.aS.length:Int)==(b.aS.length:Int))=true:=by rw[Sr]; exact aE (by omega)
 rw[c2,cond_true];refine (rsameS_loop a b h1 ha _ _ _ 0 (by omega) (by unfold Order.fu; omega)).trans ?_;rw[List.drop_zero,List.drop_zero];cases eqS a.nodes b.nodes with
 | false=>rfl
 | true =>
  refine (rsameW_loop a b h2 he _ _ _ 0 (by omega) (by unfold Order.fu; omega)).trans ?_;rw[List.drop_zero,List.drop_zero];cases eqW a.aS b.aS <;> rfl
structure RawO (o:Order):Prop where
 header:zm o.header
 order:zm o.order
 update:zm o.update
 name:o.cd.length≤1099511627776
 many:o.nodes.length≤1099511627776∧o.aS.length≤1099511627776
 node:∀x∈o.nodes,zm x.node∧zm x.seq
theorem fit08_loop {R:Type} (o:Order) (ho:RawO o) (first b:Int) (h0:0≤first) (h1:first≤998) (n:Nat) (hn:n≤64) (hd:Int) (ve:ae) (od up:Int) (e0:Int→ae→Int→Int→Int→ae→Int→Int→List Stop→List aA.Way→Option R):∀(F i:Nat) (ns:List Stop) (es:List aA.Way),i≤n→n - i<F→ns.length≤i→es.length≤i →
  dE F first (n:Int) b (i:Int) o 0 [] 0 0 hd ve od up ns es e0=e0 0 [] 0 0 hd ve od up (ns++(List.range' i (n - i)).map (mN o first b)) (es++(List.range' (max i 1) (n - max i 1)).map (Hk o first b)):=by
 intro F
 induction F with
 | zero=>intro i ns es _ hF; omega
 | succ F ih =>
  intro i ns es hi hF TS hes;show Bq _ (fun x0 x1 x2 x3 x4 x5 x6 x7 x8 x9 Xp PE Et JJ Kn=>dE F x0 x1 x2 x3 x4 x5 x6 x7 x8 x9 Xp PE Et JJ Kn e0) first (n:Int) b (i:Int) o 0 [] 0 0 hd ve od up ns es e0=_
  unfold Bq;by_cases h:i<n;rotate_left
  ·rw[bK (show ¬(i:Int)<(n:Int) by omega),cond_false,show n - i=0 by omega,show n - max i 1=0 by omega];simp
  rw[aE (show (i:Int)<(n:Int) by omega),cond_true];have w1:IntKind.i64.wrap (2*(i:Int))=2*(i:Int):=cv (by omega) (by omega);have w2:IntKind.i64.wrap (first+2*(i:Int))=first+2*(i:Int):=cv (by omega) (by omega)
  have w3:IntKind.i64.wrap (first+2*(i:Int) - 1)=first+2*(i:Int) - 1:=cv (by omega) (by omega)
  have hw:=B5 h (by omega);have Nk:decide ((i:Int)>0)=decide (0<i):=decide_eq_decide.2 (by omega)
  
  have hnode:mN o first b i=⟨if i<o.nodes.length then pL (o.nodes.getD i Stop.z).node 1000000001 else 0,first+2*i,decide ((i:Int)<b)⟩:=rfl
  have hway:Hk o first b i=⟨if i<o.nodes.length then pL (o.nodes.getD i Stop.z).seq 1000000001 else 0,first+2*i - 1,decide ((i:Int)<b)⟩:=rfl
  have tail:∀(ns':List Stop) (es':List aA.Way),ns'=ns ++ [mN o first b i]→es'=(if 0<i then es ++ [Hk o first b i]else es) →
    dE F first (n:Int) b ((i+1:Nat):Int) o 0 [] 0 0 hd ve od up ns' es' e0=e0 0 [] 0 0 hd ve od up (ns++(List.range' i (n - i)).map (mN o first b)) (es++(List.range' (max i 1) (n - max i 1)).map (Hk o first b)):=by
   intro ns' es' e1 e2;subst e1;subst e2;rw[ih (i+1) _ _ (by omega) (by omega) (by simp; omega) (by split <;> first|omega|(rw[List.length_append]; simp only[List.length_singleton]; omega))];have r1:n - i=(n - (i+1))+1:=by omega
   rw[r1,List.range'_succ,List.map_cons,List.append_assoc];congr 1;by_cases hz:0<i
   ·rw[if_pos hz,show max (i+1) 1=i+1 by omega,show max i 1=i by omega,show n - i=(n - (i+1))+1 by omega,List.range'_succ,List.map_cons,List.append_assoc];rfl
   ·rw[if_neg hz,show max (i+1) 1=max i 1 by omega]
  by_cases hin:i<o.nodes.length
  ·have ga:o.nodes.getD (i:Int).toNat (Ty.aR .stop)=o.nodes.getD i Stop.z:=rfl;have hx:o.nodes.getD i Stop.z∈o.nodes:=by rw[getD_at hin]; exact List.getElem_mem hin
   have hi64:=ho.node _ hx;rw[aE (show (i:Int)<(o.nodes.length:Int) by omega),cond_true,ao (kk i),ga,Eo _ _ hi64.1 (by omega),ao (kk i),Eo _ _ hi64.2 (by omega),w1,w2,w3,hw,Nk];rw[if_pos hin]at hnode hway;by_cases hz:0<i
   ·rw[aE hz,cond_true,ao (aE (by omega)),ao (aE (by omega))];exact tail _ _ (by rw[hnode]) (by rw[if_pos hz,hway])
   ·rw[bK hz,cond_false,ao (aE (by omega))];exact tail _ _ (by rw[hnode]) (by rw[if_neg hz])
  ·rw[bK (show ¬(i:Int)<(o.nodes.length:Int) by omega),cond_false,w1,w2,w3,hw,Nk];rw[if_neg hin]at hnode hway;by_cases hz:0<i
   ·rw[aE hz,cond_true,ao (aE (by omega)),ao (aE (by omega))];exact tail _ _ (by rw[hnode]) (by rw[if_pos hz,hway])
   ·rw[bK hz,cond_false,ao (aE (by omega))];exact tail _ _ (by rw[hnode]) (by rw[if_neg hz])
theorem fit08 {R:Type} (o:Order) (ho:RawO o) (base:Int) (hb:zm base) (k:Order→Option R):cC o base k=k (UE o base):=by
 obtain ⟨m1,m2⟩:=ho.many;have hL:=Sp o;have hm:min (max (o.nodes.length:Int) 1) 64=(wK o:Int):=by unfold wK; omega
 unfold cC RF;rw[Eo _ _ ho.header (by omega),fit07 _ ho.name,Eo _ _ ho.order (by omega),Eo _ _ ho.update (by omega),Eo _ _ (by unfold zm; omega) (by omega),hm,Eo _ _ hb (by omega)];have hF:=YW o;have hB:=fitBase_ok o base;have w1:IntKind.i64.wrap (2*pL (o.aS.length:Int) 500)=ja o:=cv (by unfold ja at hF; omega) (by unfold ja at hF; omega);have w2:IntKind.i64.wrap (1+pL base (wK o:Int))=pV o base:=cv (by unfold pV at hB; omega) (by unfold pV at hB; omega);rw[w1,w2];refine (fit08_loop o ho (ja o) (pV o base) hF.1 hF.2.1 (wK o) hL.2 _ _ _ _ _ _ 0 [] [] (by omega) (by omega) (by simp) (by simp)).trans ?_
 unfold UE;simp only[List.nil_append];rfl
end Go.Proofs.YtidfokedcnhahaaGreatDoor
set_option maxRecDepth 100000
namespace Go.Proofs.YtidfokedcnhahaaGreatDoor
open Go Go.aA
variable {R:Type}
variable {R:Type}
abbrev Ap (R:Type):Type:=ae→Order→Int→Int→ae→(Bool→Option R)→Option R
abbrev vE:List cU := [.leaf (.str), .agg [.int .i64, .str, .int .i64, .int .i64, .sl .stop, .sl .na], .leaf (.int .i64), .leaf (.int .i64), .leaf (.str)]
abbrev vF:List aU := []
def Aq (fn:Ap R):lC R vE vF:=fun x y k=>fn x.1 (⟨x.2.1.1,x.2.1.2.1,x.2.1.2.2.1,x.2.1.2.2.2.1,x.2.1.2.2.2.2.1,x.2.1.2.2.2.2.2.1⟩:Order) x.2.2.1 x.2.2.2.1 x.2.2.2.2.1 (fun q0=>k (.bool q0) [])
def UG (fn:Ap R):=aG vE vF (Aq fn)
abbrev uK (R:Type):Type:=Nat→(List ae)→Int→Int→(Option R)→(Bool→Option R)→Option R
def oN:Hint := { live := [71,72,73],own := [],rows := [],cells := [],drop := [],out := [10] }
abbrev jy:Type:=(List ae)×Int×Int
def sA:jy→St:=fun d=>⟨U 71 (.sl .str d.1 (.own 0) :: .int .i64 d.2.1 :: .int .i64 d.2.2::U 42 ([])), [.tok]⟩
def uL (K:Ex→St→Option R):Option R:=K (.exit 0) ⟨U 116 ([]), []⟩
def uM (K:Ex→St→Option R) (q0:Bool):Option R:=K (.ret) ⟨U 10 (.bool q0::U 105 ([])), []⟩
abbrev lA:List cU:=PU 71 (.leaf (.TW .str 0) :: .leaf (.int .i64) :: .leaf (.int .i64)::PU 42 ([]))
abbrev lB:List aU := [.tok]
def Ep (x:cU.bT lA) (y:aU.bT lB):Nat:=(List.length ((t8 (t8 (t8 (t8 (t8 (t8 (t8 (t8 x)))))))).2.2.2.2.2.2.2.1)+Int.natAbs ((t8 (t8 (t8 (t8 (t8 (t8 (t8 (t8 (t8 x))))))))).1)+Int.natAbs ((t8 (t8 (t8 (t8 (t8 (t8 (t8 (t8 (t8 x))))))))).2.1)+64)
def O5 (x:cU.bT lA) (y:aU.bT lB):jy:=((t8 (t8 (t8 (t8 (t8 (t8 (t8 (t8 x)))))))).2.2.2.2.2.2.2.1,(t8 (t8 (t8 (t8 (t8 (t8 (t8 (t8 (t8 x))))))))).1,(t8 (t8 (t8 (t8 (t8 (t8 (t8 (t8 (t8 x))))))))).2.1)
def CE (L:uK R):xp R lA lB:=fun x y K=>L (Ep x y) ((t8 (t8 (t8 (t8 (t8 (t8 (t8 (t8 x)))))))).2.2.2.2.2.2.2.1) ((t8 (t8 (t8 (t8 (t8 (t8 (t8 (t8 (t8 x))))))))).1) ((t8 (t8 (t8 (t8 (t8 (t8 (t8 (t8 (t8 x))))))))).2.1) (uL K) (uM K)
section
variable (cC:vq R) (bP:pJ R) (bc:oX R) (eh:A8 R) (bz:rK R) (aZ:mS R) (cu:wA R) (bM:sj R) (bV:rJ R) (bZ:uK R)
def mv:List (oo R) := [(18,true,(Gw cC av)),(17,true,(A7 bP av)),(27,true,(yO bc av)),(24,true,(OP eh av)),(19,true,(Cq bz av)),(21,true,(wm aZ av)),(23,true,(Ic cu av)),(29,true,(DZ bM av)),(28,true,(Cp bV av))]
def oO (dJ:(List ae)→Int→Int→Option R) (Kn:List ae) (ng:Int) (qM:Int) (e0:Option R) (e1:Bool→Option R):Option R :=
 bif (decide (qM<ng))then (bX (decide ((0:Int)≤qM)&&decide (qM<Kn.length)) (bM (Kn.getD qM.toNat (Ty.aR .str)) (fun Ql NH=>bif (NH != 0)then (eh Ql (⟨0,([]:ae),0,0,([]:List Stop),([]:List aA.Way)⟩:Order) (fun U5=>bif (!U5)then (e1 false)else (dJ Kn ng (IntKind.i64.wrap (qM+1)))))else (bz Ql (fun Sw Fe=>bM Sw (fun y22 ZY=>aZ Ql (fun VE=>bif (!VE)then (e1 false)else (bif (Fe != 0)then (e1 false)else (bif (ZY != 0)then (e1 false)else (cu Ql y22 (fun JF=>bif (!JF)then (e1 false)else (dJ Kn ng (IntKind.i64.wrap (qM+1))))))))))))))else (e0)
def Er (K:Ex→St→Option R) (rc:jy→Option R) (d:jy):Option R:=oO eh bz aZ cu bM (fun z0 z1 z2=>rc (z0,z1,z2)) d.1 d.2.1 d.2.2 (uL K) (uM K)
def pM:Nat→Option (Hint×cQ R):=fun i=>match i with
 | 8=>some (oN,(cM lA lB (CE bZ) iK))
 | _=>none
theorem J9 (K:Ex→St→Option R) (rc:St→Option R) (d:jy):roundOf tt (cT (mv cC bP bc eh bz aZ cu bM bV)) (pM bZ) 0 ((az (aX Tryz.f5)).getD 0 .skip) oN (sA d) rc K=Er eh bz aZ cu bM K (fun d=>rc (sA d)) d:=by kernel_rfl
def B6 (x1:ae) (x2:Order) (x3:Int) (x4:Int) (x5:ae) (k0:Bool→Option R):Option R :=
 bP (fun y6=>cC x2 x3 (fun y7=>bz y7 (fun y8 y9=>bif (!y6)then (k0 false)else (bif (y9 != 0)then (k0 false)else (bif (decide ((y8.length:Int)<(9:Int)))then (k0 false)else (bX (decide ((0:Int)≤(IntKind.i64.wrap ((y8.length:Int) - 9)))&&decide ((IntKind.i64.wrap ((y8.length:Int) - 9))≤y8.length)) (bX (decide ((0:Int)≤(IntKind.i64.wrap ((y8.length:Int) - 9)))) (bc x4 (IntKind.i64.wrap ((((y8.drop 0).take ((IntKind.i64.wrap ((y8.length:Int) - 9)).toNat - 0)).length:Int)+1)) (fun n0=>bV x1 (fun yp=>bX (decide ((0:Int)≤n0)&&decide (n0≤((y8.drop 0).take ((IntKind.i64.wrap ((y8.length:Int) - 9)).toNat - 0)).length)) (bX (decide ((0:Int)≤n0)) (bX (decide (((((y8.drop 0).take ((IntKind.i64.wrap ((y8.length:Int) - 9)).toNat - 0)).drop 0).take (n0.toNat - 0)).length+x5.length≤9223372036854775807)) (bX (decide ((0:Int)≤(((y8.drop 0).take ((IntKind.i64.wrap ((y8.length:Int) - 9)).toNat - 0)).length:Int))&&decide ((((y8.drop 0).take ((IntKind.i64.wrap ((y8.length:Int) - 9)).toNat - 0)).length:Int)≤((y8.drop 0).take ((IntKind.i64.wrap ((y8.length:Int) - 9)).toNat - 0)).length)) (bX (decide ((0:Int)≤(min (IntKind.i64.wrap (n0+(x5.length:Int))) (((y8.drop 0).take ((IntKind.i64.wrap ((y8.length:Int) - 9)).toNat - 0)).length:Int)))&&decide ((min (IntKind.i64.wrap (n0+(x5.length:Int))) (((y8.drop 0).take ((IntKind.i64.wrap ((y8.length:Int) - 9)).toNat - 0)).length:Int))≤(((y8.drop 0).take ((IntKind.i64.wrap ((y8.length:Int) - 9)).toNat - 0)).length:Int))) (bX (decide ((((((y8.drop 0).take ((IntKind.i64.wrap ((y8.length:Int) - 9)).toNat - 0)).drop 0).take (n0.toNat - 0))++x5).length+((((y8.drop 0).take ((IntKind.i64.wrap ((y8.length:Int) - 9)).toNat - 0)).drop (min (IntKind.i64.wrap (n0+(x5.length:Int))) (((y8.drop 0).take ((IntKind.i64.wrap ((y8.length:Int) - 9)).toNat - 0)).length:Int)).toNat).take ((((y8.drop 0).take ((IntKind.i64.wrap ((y8.length:Int) - 9)).toNat - 0)).length:Int).toNat - (min (IntKind.i64.wrap (n0+(x5.length:Int))) (((y8.drop 0).take ((IntKind.i64.wrap ((y8.length:Int) - 9)).toNat - 0)).length:Int)).toNat)).length≤9223372036854775807)) (bV ((((((y8.drop 0).take ((IntKind.i64.wrap ((y8.length:Int) - 9)).toNat - 0)).drop 0).take (n0.toNat - 0))++x5)++((((y8.drop 0).take ((IntKind.i64.wrap ((y8.length:Int) - 9)).toNat - 0)).drop (min (IntKind.i64.wrap (n0+(x5.length:Int))) (((y8.drop 0).take ((IntKind.i64.wrap ((y8.length:Int) - 9)).toNat - 0)).length:Int)).toNat).take ((((y8.drop 0).take ((IntKind.i64.wrap ((y8.length:Int) - 9)).toNat - 0)).length:Int).toNat - (min (IntKind.i64.wrap (n0+(x5.length:Int))) (((y8.drop 0).take ((IntKind.i64.wrap ((y8.length:Int) - 9)).toNat - 0)).length:Int)).toNat))) (fun Im=>bZ (List.length ([yp,Im]:List ae)+Int.natAbs 2+Int.natAbs 0+64) ([yp,Im]:List ae) 2 0 (k0 true) (fun Fi=>k0 Fi))))))))))))))))))
theorem SO:dO (R:=R) tt (mv cC bP bc eh bz aZ cu bM bV) (pM bZ) false Tryz.f5 vE vF (Aq (B6 cC bP bc bz bV bZ)):=fun x y k=>by kernel_rfl
end
theorem RT:cE (R:=R) Tryz.prog (mv (R:=R) cC bP bc eh bz aZ cu bM bV) := .c (D7 R) <| .c (yN R) <| .c (v7 R) <| .c (PB R) <| .c (yk R) <| .c (td R) <| .c (Hh R) <| .c (Bm R) <| .c (yj R) <| .n
def bZ:uK R
 | 0,_,_,_,_,_=>none
 | n+1,gf,gk,gw,e0,e1=>oO eh bz aZ cu bM (fun gf gk gw=>bZ n gf gk gw e0 e1) gf gk gw e0 e1
def Es (K:Ex→St→Option R) (n:Nat) (d:jy):Option R:=bZ n d.1 d.2.1 d.2.2 (uL K) (uM K)
theorem M6 (other:cQ R) (ho:hG tt (cT (mv (R:=R) cC bP bc eh bz aZ cu bM bV)) (pM (R:=R) bZ) 0 ((az (aX Tryz.f5)).getD 0 .skip) oN other):hG tt (cT (mv (R:=R) cC bP bc eh bz aZ cu bM bV)) (pM (R:=R) bZ) 0 ((az (aX Tryz.f5)).getD 0 .skip) oN (cM lA lB (CE (bZ)) other) :=
 cS (A:=Es) ho (dX sA (Er eh bz aZ cu bM) (Es) (fun _ _=>by kernel_rfl) (J9 cC bP bc eh bz aZ cu bM bV bZ) (fun _ _ _=>by kernel_rfl)) Ep O5 (fun _ _=>by kernel_rfl) (fun _ _ _=>by kernel_rfl)
def uN:Ap R:=fun x1 x2 x3 x4 x5 k0=>B6 cC bP bc bz bV bZ x1 x2 x3 x4 x5 k0
theorem O6 (R:Type):∀a∈az (aX Tryz.f5),gN tt (cT (mv (R:=R) cC bP bc eh bz aZ cu bM bV)) (pM (R:=R) bZ) 0 a:=by
 refine fb 1 (by kernel_rfl) fun i hi => ?_
 match i,hi with
 | 0,_=>exact cA (by kernel_rfl) (M6 _ dy)
 | n+1,hi=>omega
theorem PZ (R:Type):kM Tryz.prog 5 (UG (uN (R:=R))):=br TT mixed (RT (R:=R)) rfl rfl rfl rfl (O6 R) (SO cC bP bc eh bz aZ cu bM bV bZ)
abbrev wL (R:Type):Type:=Order→Int→Int→Int→(Bool→Option R)→Option R
abbrev rS:List cU := [.agg [.int .i64, .str, .int .i64, .int .i64, .sl .stop, .sl .na], .leaf (.int .i64), .leaf (.int .i64), .leaf (.int .u8)]
abbrev rT:List aU := []
def wM (fn:wL R):lC R rS rT:=fun x y k=>fn (⟨x.1.1,x.1.2.1,x.1.2.2.1,x.1.2.2.2.1,x.1.2.2.2.2.1,x.1.2.2.2.2.2.1⟩:Order) x.2.1 x.2.2.1 x.2.2.2.1 (fun q0=>k (.bool q0) [])
def RU (fn:wL R):=aG rS rT (wM fn)
section
variable (cC:vq R) (bP:pJ R) (bc:oX R) (eh:A8 R) (bz:rK R) (bM:sj R)
def GJ:List (oo R) := [(18,true,(Gw cC av)),(17,true,(A7 bP av)),(27,true,(yO bc av)),(24,true,(OP eh av)),(19,true,(Cq bz av)),(29,true,(DZ bM av))]
def yo (x1:Order) (x2:Int) (x3:Int) (x4:Int) (k0:Bool→Option R):Option R :=
 bP (fun y5=>cC x1 x2 (fun y6=>bz y6 (fun y7 y8=>bif (!y5)then (k0 false)else (bif (y8 != 0)then (k0 false)else (bif (y7==([]:ae))then (k0 false)else (bc x3 (y7.length:Int) (fun p9=>bX (decide ((0:Int)≤p9)&&decide (p9<y7.length)) (bX (decide (p9.toNat<(hJ y7).length)) (bX (decide ((0:Int)≤p9)&&decide (p9<y7.length)) (bX (decide (p9.toNat<(hJ y7).length)) (bM (List.map (fun n:Int=>UInt8.ofNat n.toNat) ((hJ y7).set p9.toNat (IntKind.u8.wrap ((BitVec.ofInt IntKind.u8.bits ((hJ y7).getD p9.toNat (Ty.aR (.int .u8))) ^^^ BitVec.ofInt IntKind.u8.bits (IntKind.u8.wrap (1+(Int.tmod x4 255)))).toNat:Int))):ae) (fun n0 yp=>bX (decide (y7.length+(List.map (fun n:Int=>UInt8.ofNat n.toNat) ([x4]:List Int):ae).length≤9223372036854775807)) (bM (y7++(List.map (fun n:Int=>UInt8.ofNat n.toNat) ([x4]:List Int):ae)) (fun Im IT=>bif (yp==60)then (bif (IT==60)then (eh n0 (⟨0,([]:ae),0,0,([]:List Stop),([]:List aA.Way)⟩:Order) (fun JG=>k0 JG))else (k0 false))else (k0 false)))))))))))))))
theorem P0:dO (R:=R) tt (GJ cC bP bc eh bz bM) sS false Tryz.f6 rS rT (wM (yo cC bP bc eh bz bM)):=fun x y k=>by kernel_rfl
end
theorem O7:cE (R:=R) Tryz.prog (GJ (R:=R) cC bP bc eh bz bM) := .c (D7 R) <| .c (yN R) <| .c (v7 R) <| .c (PB R) <| .c (yk R) <| .c (Bm R) <| .n
def pN:wL R:=fun x1 x2 x3 x4 k0=>yo cC bP bc eh bz bM x1 x2 x3 x4 k0
theorem M7 (R:Type):kM Tryz.prog 6 (RU (pN (R:=R))):=br TT mixed (O7 (R:=R)) rfl rfl rfl rfl cq (P0 cC bP bc eh bz bM)
end Go.Proofs.YtidfokedcnhahaaGreatDoor
set_option maxRecDepth 100000
namespace Go.Proofs.YtidfokedcnhahaaGreatDoor
open Go Go.aA Go.Lib
theorem Z9 {o:Order} (h:∀c∈Ty.cells .order o,Small 1048576 c):RawO o:=by
 have hn:=(h (.sl .stop o.nodes .no) (by simp[Ty.cells])).GN;have he:=(h (.sl .na o.aS .no) (by simp[Ty.cells])).GN;exact {
  header:=rD.1 (h (.int .i64 o.header) (by simp[Ty.cells])).fA
  order:=rD.1 (h (.int .i64 o.order) (by simp[Ty.cells])).fA
  update:=rD.1 (h (.int .i64 o.update) (by simp[Ty.cells])).fA
  name:=by have:=(h (.str o.cd) (by simp[Ty.cells])).gS; omega
  many:=⟨Nat.le_trans (show o.nodes.length≤1048576 from hn.1) (by omega),Nat.le_trans (show o.aS.length≤1048576 from he.1) (by omega)⟩
  node:=fun x hx=>⟨rD.1 (hn.2 x hx (.int .i64 x.node) (by simp[Ty.cells])).fA,rD.1 (hn.2 x hx (.int .i64 x.seq) (by simp[Ty.cells])).fA⟩ }
theorem uO {n:Int} (h:Small 1048576 (.int .i64 n)):zm n:=rD.1 h.fA
theorem JC {o:Order} (h:fC o=true):o.nodes.length≤64∧o.aS.length≤64:=by
 obtain ⟨m1,m2,m3⟩:=(jM h).many;omega
theorem WX {o:Order} (h:fC o=true):(eQ (cn (iZ o))).length≤20009:=by
 have:=Iw (jM h);rw[mu];omega
theorem lay_r {R:Type} {o:Order} (h:fC o=true) (k:ae→Int→Option R):bz o k=k (eQ (cn (iZ o))) 0:=by
 rw[lay_ok o (by have:=JC h; omega),h,if_pos rfl]
theorem take_r {R:Type} {o:Order} (h:fC o=true) (k:Order→Int→Option R):bM (eQ (cn (iZ o))) k=k o 0:=by
 rw[Ss _ (by have:=WX h; omega),take_lay h];rfl
theorem right_r {R:Type} {o:Order} (h:fC o=true) (k:Bool→Option R):aZ o k=k true:=by
 rw[Bf o (by have:=JC h; omega),h]
theorem same_r {R:Type} {o:Order} (h:fC o=true) (p:Order) (k:Bool→Option R):cu o p k=k (YX o p) :=
 orderSame_ok o p (by have:=JC h; omega) (by have:=JC h; omega) k
theorem base_r {R:Type} {o:Order} (h:fC o=true) (k:Int→Option R):mq o k=k (baseO o):=orderBase_ok o (by have:=JC h; omega) k
def exO:Order:=⟨1, [118,49],2,0, [⟨3,0,true⟩], []⟩
theorem M8:fC exO=true:=by decide +kernel
theorem exO_text:cn (iZ exO) = [123,34,104,101,97,100,101,114,73,100,34,58,49,44,34,115,101,114,105,97,108,78,117,109,98,101,114,34,58,34,118,49,34,44,34,111,114,100,101,114,73,100,34,58,50,44,34,111,114,100,101,114,85,112,100,97,116,101,73,100,34,58,48,44,34,110,111,100,101,115,34,58,91,123,34,110,111,100,101,73,100,34,58,51,44,34,115,101,113,117,101,110,99,101,73,100,34,58,48,44,34,114,101,108,101,97,115,101,100,34,58,116,114,117,101,125,93,44,34,101,100,103,101,115,34,58,91,93,125]:=by kernel_rfl
theorem aac {R:Type} (k:Bool→Option R):bP k=k true:=by
 unfold bP LS;show bz exO _=_;rw[lay_r M8,take_r M8,lay_ok _ (by decide)];have h0:fC ⟨0, [],0,0, [], []⟩=false:=by decide +kernel
 rw[h0];have b0:((0:Int)==0)=true:=rfl;have b1:((1:Int)==1)=true:=rfl;simp only[Bool.false_eq_true,if_false,b0,b1,cond_true];rw[←exO_text,O1 _ (by rw[exO_text]; decide),beq_self_eq_true,cond_true,aE (show (((eQ (cn (iZ exO))).length:Int)>100) by rw[mu,exO_text]; decide),cond_true];show cu exO exO _=_;rw[same_r M8,JB,cond_true];show mq exO _=_;rw[base_r M8];have hb:(baseO exO==1)=true:=by decide +kernel
 rw[hb,cond_true];exact right_r M8 _
theorem u8_turn (c:Int) (h:IntKind.u8.has c):IntKind.u8.wrap (1+Int.tmod c 255)=(((1+UInt8.ofNat c.toNat % 255:UInt8)).toNat:Int)∧(UInt8.ofNat c.toNat).toNat=c.toNat:=by
 have hb:0≤c∧c<256:=by
  have:=h;simp only[IntKind.has,IntKind.min,IntKind.max,IntKind.bits,IntKind.signed]at this;simp at this;omega
 have all:∀n:Fin 256,IntKind.u8.wrap (1+Int.tmod (n.val:Int) 255)=(((1+UInt8.ofNat n.val % 255:UInt8)).toNat:Int)∧(UInt8.ofNat n.val).toNat=n.val:=by decide +kernel
 have:=all ⟨c.toNat,by omega⟩;simp only at this;have e:((c.toNat:Nat):Int)=c:=by omega
 rw[e]at this;exact this
theorem of8 (a:UInt8):(BitVec.ofInt IntKind.u8.bits (a.toNat:Int)).toNat=a.toNat:=by
 have:=UInt8.toNat_lt a;rw[BitVec.toNat_ofInt];show ((a.toNat:Int) % ((256:Nat):Int)).toNat=_;omega
theorem xor8 (a b:UInt8):IntKind.u8.wrap ((BitVec.ofInt IntKind.u8.bits (a.toNat:Int) ^^^ BitVec.ofInt IntKind.u8.bits (b.toNat:Int)).toNat:Int)=((a ^^^ b).toNat:Int):=by
 have h:=UInt8.toNat_lt (a ^^^ b);rw[BitVec.toNat_xor,of8,of8,←UInt8.toNat_xor,wrap8,Nat.mod_eq_of_lt (by omega)]
theorem bstr_one (c:Int):(List.map (fun n:Int=>UInt8.ofNat n.toNat) [c]:ae) = [UInt8.ofNat c.toNat]:=rfl
theorem turned_text (w:ae) (j:Nat) (hj:j<w.length) (c:Int) (hc:IntKind.u8.has c):(List.map (fun n:Int=>UInt8.ofNat n.toNat) ((hJ w).set j (IntKind.u8.wrap ((BitVec.ofInt IntKind.u8.bits ((hJ w).getD j (Ty.aR (.int .u8))) ^^^ BitVec.ofInt IntKind.u8.bits (IntKind.u8.wrap (1+Int.tmod c 255))).toNat:Int))):ae)=w.set j (w[j] ^^^ (1+UInt8.ofNat c.toNat % 255)):=by
 have hg:(hJ w).getD j (Ty.aR (.int .u8))=(w[j].toNat:Int):=by
  refine (zs_getD w j _ hj).trans ?_;rw[getD_at hj]
 rw[hg,(u8_turn c hc).1,xor8,CB,zs_set];exact vA _
theorem WY {R:Type} (o:Order) (base at_ c:Int) (ho:∀c∈Ty.cells .order o,Small 1048576 c) (hb:Small 1048576 (.int .i64 base)) (ha:Small 1048576 (.int .i64 at_)) (hc:Small 1048576 (.int .u8 c)) (k:Bool→Option R):pN o base at_ c k=k true:=by
 have hr:=O0 o base;have hl:=WX hr;have hl9:=mu (cn (iZ (UE o base)));unfold pN yo;rw[aac,fit08 o (Z9 ho) base (uO hb),lay_r hr,Bool.not_true,cond_false];have b0:((0:Int) != 0)=false:=rfl;simp only[b0,cond_false];generalize hT:cn (iZ (UE o base))=T at *;have jW:(eQ T==([]:ae))=false:=by
  have hq:eQ T ≠ []:=fun e=>by rw[e]at hl9; simp at hl9
  simpa using hq
 rw[jW,cond_false,Eo _ _ (uO ha) (by omega)];have p1:=Ej at_ (eQ T).length;have p2:=Ek at_ (n:=((eQ T).length:Int)) (by omega);obtain ⟨j,hj⟩:∃j:Nat,pL at_ ((eQ T).length:Int)=(j:Int):=⟨(pL at_ ((eQ T).length:Int)).toNat,by omega⟩;rw[hj]at p1 p2 ⊢;have hjl:j<(eQ T).length:=by omega
 rw[ao (uJ hjl),ao (by rw[Int.toNat_natCast,CB,FD]; exact aE hjl),ao (uJ hjl),ao (by rw[Int.toNat_natCast,CB,FD]; exact aE hjl),Int.toNat_natCast,turned_text _ _ hjl _ hc.fA];rw[Ss _ (by rw[List.length_set]; omega),takeO_shut (turned_shut T j _ hjl)];show bX _ _=_;rw[bstr_one,ao (by simp; omega),Ss _ (by simp; omega),takeO_shut (open_longer T _)];show (bif ((60:Int)==60)then (bif ((60:Int)==60)then eh ⟨0, [],0,0, [], []⟩ ⟨0, [],0,0, [], []⟩ (fun JG=>k JG)else k false)else k false)=_;have b6:((60:Int)==60)=true:=rfl;rw[b6,cond_true,cond_true,rsame_ok _ _ (by simp) (by simp),JB]
theorem take_err {s:ae} {e:Int} (h:Jx s = .error e):e≠0:=by
 unfold Jx at h;split at h
 ·cases h; decide
 ·split at h
  ·rename_i hp; cases h; exact hp
  ·split at h
   ·split at h
    ·cases h
    ·cases h; decide
   ·cases h; decide
theorem outO_ok {R:Type} (k:Order→Int→Option R) (o:Order):outO k (.ok o)=k o 0:=rfl
theorem outO_err {R:Type} (k:Order→Int→Option R) (e:Int):outO k (.error e)=k ⟨0, [],0,0, [], []⟩ e:=rfl
theorem taken_loop {R:Type} (l:List ae) (hl:l.length≤1000) (hu:∀u∈l,u.length≤1099511627776) (e0:Option R) (e1:Bool→Option R):∀(F i:Nat),i≤l.length→l.length - i<F→bZ F l (l.length:Int) (i:Int) e0 e1=e0:=by
 intro F
 induction F with
 | zero=>intro i _ hF; omega
 | succ F ih =>
  intro i hi hF;show oO _ _ _ _ _ (fun x0 x1 x2=>bZ F x0 x1 x2 e0 e1) l (l.length:Int) (i:Int) e0 e1=_;unfold oO;by_cases h:i<l.length;rotate_left
  ·rw[bK (show ¬(i:Int)<(l.length:Int) by omega),cond_false]
  have hg:l.getD (i:Int).toNat (Ty.aR .str)=l[i]:=getD_at h _;rw[aE (show (i:Int)<(l.length:Int) by omega),cond_true,ao (kk i),hg,B5 h (by omega)];have ih:=ih (i+1) (by omega) (by omega);rw[Ss _ (hu _ (List.getElem_mem h))];cases ht:Jx l[i]with
  | error e =>
   have c:(e != 0)=true:=by simpa using take_err ht
   rw[outO_err,c,cond_true,rsame_ok _ _ (by simp) (by simp),JB];exact ih
  | ok o =>
   have hr:=taken_right ht;have b0:((0:Int) != 0)=false:=rfl;rw[outO_ok,b0,cond_false,lay_r hr,take_r hr,right_r hr];simp only[b0,cond_false,Bool.not_true];rw[same_r hr,JB];exact ih
theorem ZF {R:Type} (s:ae) (o:Order) (base at_:Int) (more:ae) (hs:Small 1048576 (.str s)) (ho:∀c∈Ty.cells .order o,Small 1048576 c) (hb:Small 1048576 (.int .i64 base)) (ha:Small 1048576 (.int .i64 at_)) (hm:Small 1048576 (.str more)) (k:Bool→Option R):uN s o base at_ more k=k true:=by
 have hr:=O0 o base;have hl:=WX hr;have hl9:=mu (cn (iZ (UE o base)));have hs1:=hs.gS;have hm1:=hm.gS;unfold uN B6;rw[aac,fit08 o (Z9 ho) base (uO hb),lay_r hr,Bool.not_true,cond_false];have b0:((0:Int) != 0)=false:=rfl;simp only[b0,cond_false];generalize hT:cn (iZ (UE o base))=T at *;rw[bK (show ¬((eQ T).length:Int)<9 by omega),cond_false];have hW:IntKind.i64.wrap (((eQ T).length:Int) - 9)=(T.length:Int):=by rw[cv (by omega) (by omega)]; omega
 have hT2:((eQ T).drop 0).take ((T.length:Int).toNat - 0)=T:=by
  rw[List.drop_zero,Int.toNat_natCast,Nat.sub_zero];unfold eQ;simp
 simp only[hW,hT2];rw[ao (by rw[aE (by omega),aE (by omega)]; rfl),ao (aE (by omega)),cv (n:=(T.length:Int)+1) (by omega) (by omega),Eo _ _ (uO ha) (by omega),O1 s (by omega)];have p1:=Ej at_ ((T.length:Int)+1);have p2:=Ek at_ (n:=(T.length:Int)+1) (by omega);obtain ⟨j,hj⟩:∃j:Nat,pL at_ ((T.length:Int)+1)=(j:Int):=⟨(pL at_ ((T.length:Int)+1)).toNat,by omega⟩;rw[hj]at p1 p2 ⊢;have hw:IntKind.i64.wrap ((j:Int)+(more.length:Int))=(j:Int)+(more.length:Int):=cv (by omega) (by omega);simp only[hw]
 iterate 6 rw[ao (by simp only[Bool.and_eq_true,decide_eq_true_eq,List.length_append,List.length_take,List.length_drop]; omega)]
 rw[O1 _ (by simp only[List.length_append,List.length_take,List.length_drop]; omega)];have key:∀(a b:ae) (F:Nat) (e1:Bool→Option R),a.length≤1099511627776→b.length≤1099511627776→2<F→bZ F [a,b] 2 0 (k true) e1=k true:=fun a b F e1 h1 h2 hF=>taken_loop [a,b] (by simp) (fun u hu=>by
  simp only[List.mem_cons,List.not_mem_nil,or_false]at hu;rcases hu with rfl|rfl <;> assumption) (k true) e1 F 0 (by simp) (by simpa using hF)
 exact key _ _ _ _ (by rw[mu]; omega) (by rw[mu]; simp only[List.length_append,List.length_take,List.length_drop]; omega) (by simp only[List.length_cons,List.length_nil]; omega)
theorem mk_all:∀(ns:List ae) (xs:List Json) (a:List ae) (b:List Json),ns.length=xs.length→ns.Nodup→(∀n∈ns,n∉a)→Pu.mk ns xs a b=(a++ns,b++xs)
 | [], [],a,b,_,_,_=>by simp[Pu.mk]
 | n::ns,x::xs,a,b,hl,hd,ha=>by
  have hn:a.contains n=false:=by
   cases h:a.contains n with
   | false=>rfl
   | true=>exact (ha n (by simp) (by simpa using h)).elim
  rw[List.nodup_cons]at hd;simp only[Pu.mk,hn,Bool.false_eq_true,if_false];rw[mk_all ns xs (a ++ [n]) (b ++ [x]) (by simpa using hl) hd.2 (fun m hm=>by
   simp only[List.mem_append,List.mem_singleton,not_or];exact ⟨ha m (by simp[hm]),fun e=>hd.1 (e▸hm)⟩)]
  simp
 | [],_::_,_,_,h,_,_=>by simp at h
 | _::_, [],_,_,h,_,_=>by simp at h
theorem Fields.J8 {ns:List ae} {is:List Json} (h:Fields ns is):Go.Proofs.YtidfokedcnhahaaGreatDoor.J8 (Am ns is)=true:=(MX _ 1 h.rj (by have:=h.pl; omega)).1
theorem Fields.jok {ns:List ae} {is:List Json} (h:Fields ns is):∀y∈is,Pu.Hc y:=by
 have h1:=Bd.1 h.J8;exact UD is 2 (Iv h.right) h1.2.2.1
theorem makeF {R:Type} {ns:List ae} {is:List Json} (h:Fields ns is) (k:Json→Option R):dc ns is k=k (Am ns is):=by
 have h1:=Bd.1 h.J8;rw[Pu.make_eq ns is h1.1 h.jok,mk_all ns is [] [] h.len ((GI _ _).1 h.uniq).2.1 (fun n _=>by simp)];rfl
theorem printF {R:Type} {ns:List ae} {is:List Json} (h:Fields ns is) (k:ae→Option R):eG (Am ns is) k=k (cn (Am ns is)) :=
 print_json _ h.rj h.J8 (by have:=h.pl; omega) k
theorem forms_loop {R:Type} (v:Json) (hn:v.names.length≤1000) (hi:v.items.length=v.names.length) (o:Order) (out:Int) (nm:ae) (e0:Int→ae→List ae→List Json→Order→Option R):∀(F n:Nat) (ns:List ae) (is:List Json),n≤v.names.length→n<F→ns.length+n≤1000→is.length+n≤1000 →
  bW F out nm ns is ((n:Int) - 1) o v e0=e0 out nm (ns++(v.names.take n).reverse) (is++(v.items.take n).reverse) o:=by
 intro F
 induction F with
 | zero=>intro n _ _ _ h; omega
 | succ F ih =>
  intro n ns is h1 h2 h3 h4;show nC (fun x0 x1 x2 x3 x4 x5 x6=>bW F x0 x1 x2 x3 x4 x5 x6 e0) out nm ns is ((n:Int) - 1) o v e0=_;unfold nC;cases n with
  | zero =>
   rw[bK (show ¬(((0:Nat):Int) - 1)≥0 by omega),cond_false];simp
  | succ n =>
   have e:(((n+1:Nat):Int) - 1)=(n:Int):=by omega
   have hg:v.names.getD (n:Int).toNat (Ty.aR .str)=v.names[n]:=getD_at (by omega) _;have hg2:v.items.getD (n:Int).toNat (Ty.aR .json)=v.items[n]:=getD_at (by omega) _;have w:IntKind.i64.wrap ((n:Int) - 1)=(n:Int) - 1:=cv (by omega) (by omega);rw[e,aE (show (n:Int)≥0 by omega),cond_true,ao (by rw[Bool.true_and]; exact aE (by omega)),ao (aE (by omega)),ao (by rw[Bool.true_and]; exact aE (by omega)),ao (aE (by omega)),hg,hg2,w];simp only[Json.eta];rw[ih n _ _ (by omega) (by omega) (by simp; omega) (by simp; omega),List.take_succ_eq_append_getElem (by omega),List.take_succ_eq_append_getElem (by omega)]
   simp only[List.reverse_append,List.reverse_cons,List.reverse_nil,List.nil_append,List.append_assoc,List.singleton_append,List.cons_append]
theorem outO_ok' {R:Type} (k:Order→Int→Option R) (o:Order):outO k (.ok o)=k o 0:=rfl
theorem outO_err' {R:Type} (k:Order→Int→Option R) (e:Int):outO k (.error e)=k ⟨0, [],0,0, [], []⟩ e:=rfl
theorem open_s {R:Type} (t:ae) (h:(eQ t).length≤1099511627776) (k:ae→Int→Option R):dG (eQ t) k=k t 0:=by
 rw[open_ok _ h,Sm]
theorem parse_s {R:Type} {f:Order} (h:fC f=true) (k:Json→Int→Int→Option R):cW (cn (iZ f)) k=k (iZ f) 0 0:=by
 rw[jparse_ok,RP (K2 (jM h)) (Iw (jM h))]
theorem RV {α:Type} (l:List α) (j:Nat):((l.drop 0).take ((j:Int).toNat - 0))++(l.drop ((j:Int)+1).toNat)=l.eraseIdx j:=by
 rw[List.drop_zero,Int.toNat_natCast,Nat.sub_zero,List.eraseIdx_eq_take_drop_succ,show ((j:Int)+1).toNat=j+1 by omega]
theorem ZG {R:Type} (o:Order) (base out:Int) (nm:ae) (ho:∀c∈Ty.cells .order o,Small 1048576 c) (hb:Small 1048576 (.int .i64 base)) (hout:Small 1048576 (.int .i64 out)) (hm:Small 1048576 (.str nm)) (k:Bool→Option R):uD o base out nm k=k true:=by
 have hr:=O0 o base;have hm1:=hm.gS;unfold uD B3;rw[aac,fit08 o (Z9 ho) base (uO hb),lay_r hr];generalize UE o base=f at hr ⊢;have hk:=jM hr;have hlen:=Iw hk;have hl:=WX hr;have b0:((0:Int) != 0)=false:=rfl;have c1:(((iZ f).names.length:Int) != 6)=false:=rfl;have c2:(((iZ f).items.length:Int) != 6)=false:=rfl;rw[open_s _ (by omega),parse_s hr,Bool.not_true,cond_false,b0,cond_false,cond_false,cond_false,c1,cond_false,c2,cond_false,Json.eta];have hL:∀(F:Nat) (e0:Int→ae→List ae→List Json→Order→Option R),6<F→bW F out nm [] [] 5 f (iZ f) e0=e0 out nm yn.reverse (Em f).reverse f:=fun F e0 hF =>
  forms_loop (iZ f) (by show yn.length≤1000; decide) rfl f out nm e0 F 6 [] [] (by show 6≤yn.length; decide) hF (by decide) (by decide)
 have hN6:yn.reverse.length=6:=rfl;have hI6:(Em f).reverse.length=6:=by rw[List.length_reverse]; rfl
 rw[hL _ _ (by omega),fit07 nm (by omega),ao (by rw[aE (show 1+(fitN nm).length≤9223372036854775807 by have:=(Jy (Z8 nm)).2; omega)]),ao (aE (by rw[hN6]; omega)),str_ok,ao (aE (by rw[hI6]; omega))];have hF:=UF hk nm;have hp:=hF.pl;have fN:yn.reverse ++ [([120]:ae)++fitN nm]=CC nm:=rfl;have fI:(Em f).reverse ++ [UA [121]]=CD f:=rfl;rw[Json.eta (UA [121]),fN,fI];rw[makeF hF,Json.eta,printF hF,ao (aE (by omega)),ao (aE (by simp only[List.length_append,List.length_cons,List.length_nil]; omega)),O1 _ (by simp only[List.length_append,List.length_cons,List.length_nil]; omega)];rw[Ss _ (by rw[mu]; simp only[List.length_append,List.length_cons,List.length_nil]; omega),form_take hr nm,outO_ok',Eo _ _ (uO hout) (by omega)]
 have p1:=Ej out 6;have p2:=Ek out (n:=6) (by omega);obtain ⟨j,hj⟩:∃j:Nat,pL out 6=(j:Int):=⟨(pL out 6).toNat,by omega⟩;rw[hj]at p1 p2 ⊢;have hN:(CC nm).length=7:=rfl;have hI:(CD f).length=7:=rfl;have w:IntKind.i64.wrap ((j:Int)+1)=(j:Int)+1:=cv (by omega) (by omega);rw[w]
 iterate 10 rw[ao (by simp only[Bool.and_eq_true,decide_eq_true_eq,List.length_append,List.length_take,List.length_drop,hN,hI]; omega)]
 rw[RV,RV];have hE:=hF.erase j;have hq:=hE.pl;rw[makeF hE,Json.eta,printF hE,O1 _ (by omega),Ss _ (by rw[mu]; omega),less_take hr nm j (by omega),outO_err'];have b1:((0:Int)==0)=true:=rfl;have b8:((80:Int)==80)=true:=rfl;rw[b1,cond_true,same_r hr,JB,cond_true,b8]
theorem M9 {R:Type} (p:Order) (hn:p.nodes.length≤1000) (h:fC p=false) (k:Bool→Option R) :
  bz p (fun U5 Sw=>aZ p (fun Fe=>bif (!Fe)then (bif (U5==([]:ae))then (k (Sw==1))else (k false))else (k false)))=k true:=by
 rw[lay_ok p (by omega),h];simp only[Bool.false_eq_true,if_false];rw[Bf p (by omega),h];rfl
theorem wrong_end' {R:Type} (p:Order) (hn:p.nodes.length≤1000) (h:fC p=false) (k:Bool→Option R) :
  bz p (fun U5 Sw=>bif true then (aZ p (fun Fe=>bif (!Fe)then (bif (U5==([]:ae))then (k (Sw==1))else (k false))else (k false)))else (k false))=k true:=by
 rw[lay_ok p (by omega),h];simp only[Bool.false_eq_true,if_false];rw[cond_true,Bf p (by omega),h];rfl
theorem ZH {R:Type} (o:Order) (base which at_:Int) (ho:∀c∈Ty.cells .order o,Small 1048576 c) (hb:Small 1048576 (.int .i64 base)) (hw:Small 1048576 (.int .i64 which)) (ha:Small 1048576 (.int .i64 at_)) (k:Bool→Option R):l9 o base which at_ k=k true:=by
 have hr:=O0 o base;unfold l9 uE;rw[aac,fit08 o (Z9 ho) base (uO hb)];generalize UE o base=f at hr ⊢;obtain ⟨m1,m2,m3⟩:=(jM hr).many;rw[Eo _ _ (uO ha) (by omega),ao (aE (by omega)),ao (aE (by omega))];dsimp only;have p1:=Ej at_ (f.nodes.length:Int);have p2:=Ek at_ (n:=(f.nodes.length:Int)) (by omega);obtain ⟨j,hj⟩:∃j:Nat,pL at_ (f.nodes.length:Int)=(j:Int):=⟨(pL at_ (f.nodes.length:Int)).toNat,by omega⟩;rw[hj]at p1 p2 ⊢;have hjl:j<f.nodes.length:=by omega
 rw[Eo which 7 (uO hw) (by omega)];have q1:=Ej which 7;have q2:=Ek which (n:=7) (by omega);generalize pL which 7=q at q1 q2;have c2:decide ((j:Int).toNat<f.nodes.length)=true:=aE (by rw[Int.toNat_natCast]; exact hjl);have hq:q=0∨q=1∨q=2∨q=3∨q=4∨q=5∨q=6:=by omega
 rcases hq with rfl|rfl|rfl|rfl|rfl|rfl|rfl
 ·simp only[Int.reduceBEq,cond_true,cond_false];rw[ao (uJ hjl),ao c2,ao (uJ hjl),ao c2];have hs:=((jM hr).nodes (f.nodes.getD j Stop.z) (by rw[getD_at hjl]; exact List.getElem_mem hjl)).2;have hb:=wB.1 hs;refine M9 _ (by simp only[List.length_set]; omega) (wrong0 hr j hjl _ ?_) k;show IntKind.i64.wrap ((f.nodes.getD j Stop.z).seq+1)=_;exact cv (by omega) (by omega)
 ·simp only[Int.reduceBEq,cond_true,cond_false];rw[ao (aE (by omega)),ao (aE (by omega))];exact M9 _ (by simp only[List.length_set]; omega) (wrong1 hr _ rfl) k
 ·rw[show ((2:Int)==0)=false from rfl,cond_false,show ((2:Int)==1)=false from rfl,cond_false,show ((2:Int)==2)=true from rfl,cond_true];exact wrong_end' _ (by show f.nodes.length≤1000; omega) (wrong2 f) k
 ·simp only[Int.reduceBEq,cond_true,cond_false];rw[ao (uJ hjl),ao c2];exact M9 _ (by simp only[List.length_set]; omega) (wrong3 j hjl _ rfl) k
 ·simp only[Int.reduceBEq,cond_true,cond_false];rw[ao (aE (by omega))];exact M9 _ (by show f.nodes.length≤1000; omega) (wrong4 hr _) k
 ·simp only[Int.reduceBEq,cond_true,cond_false];by_cases h1:f.nodes.length=1
  ·have e:((f.nodes.length:Int)==1)=true:=by rw[Sr]; exact aE (by omega)
   rw[e,cond_true]
  ·have e:((f.nodes.length:Int)==1)=false:=by rw[Sr]; exact bK (by omega)
   rw[e,cond_false];have w:IntKind.i64.wrap ((f.nodes.length:Int) - 1)=(f.aS.length:Int):=by rw[cv (by omega) (by omega)]; omega
   rw[w,Eo _ _ (uO ha) (by omega),Eo _ _ (uO ha) (by omega)];have p1:=Ej at_ (f.aS.length:Int);have p2:=Ek at_ (n:=(f.aS.length:Int)) (by omega);obtain ⟨i,hi⟩:∃i:Nat,pL at_ (f.aS.length:Int)=(i:Int):=⟨(pL at_ (f.aS.length:Int)).toNat,by omega⟩;rw[hi]at p1 p2 ⊢;have hil:i<f.aS.length:=by omega
   have c3:decide ((i:Int).toNat<f.aS.length)=true:=aE (by rw[Int.toNat_natCast]; exact hil);rw[ao (uJ hil),ao c3,ao (uJ hil),ao c3];exact M9 _ (by show f.nodes.length≤1000; omega) (wrong5 hr i hil _ rfl) k
 ·rw[show ((6:Int)==0)=false from rfl,cond_false,show ((6:Int)==1)=false from rfl,cond_false,show ((6:Int)==2)=false from rfl,cond_false,show ((6:Int)==3)=false from rfl,cond_false,show ((6:Int)==4)=false from rfl,cond_false,show ((6:Int)==5)=false from rfl,cond_false];exact wrong_end' _ (by show f.nodes.length≤1000; omega) (wrong6 f) k
end Go.Proofs.YtidfokedcnhahaaGreatDoor
end
