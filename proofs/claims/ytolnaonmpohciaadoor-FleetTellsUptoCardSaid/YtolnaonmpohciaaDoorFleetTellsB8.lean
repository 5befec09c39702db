/-
  FleetTells: for every input whose bulk is at most 1048576 the law returns true, and each argument reads behind the call as it read before; part 8 of 9 of the proof: an interpreter of the model's code over typed data, proved sound; the functions that the law reaches, printed as Lean functions and tied; the plain law. Own texts laid one behind the other.
-/
import Derived.Test.YtolnaonmpohciaaDoorFleetTellsB7
set_option linter.unusedSimpArgs false
set_option linter.unnecessarySimpa false
set_option linter.unusedVariables false
set_option linter.unusedSectionVars false
noncomputable section
set_option maxRecDepth 100000
namespace Go.Proofs.YtolnaonmpohciaaDoor
open Go Go.ad Go.Lib

theorem TG {R:Type} (a b:List Int) (hl:a.length=b.length) (ha:a.length≤1099511627776) (e0:Option R) (e1:Bool→Option R):∀(F i:Nat),i≤a.length→a.length - i<F →
  bY F a b (i:Int) e0 e1=bif Nl (a.drop i) (b.drop i)then e0 else e1 false:=by
 intro F
 induction F with
 | zero=>intro i _ hF; omega
 | succ F ih =>
  intro i hi hF
  show nV (fun x0 x1 x2=>bY F x0 x1 x2 e0 e1) a b (i:Int) e0 e1=_
  unfold nV
  by_cases h:i<a.length
  ·have h':i<b.length:=by omega
   have hg:a.getD (i:Int).toNat (Ty.aC (.int .i64))=a[i]:=getD_at h _
   have hg':b.getD (i:Int).toNat (Ty.aC (.int .i64))=b[i]:=getD_at h' _
   rw[cD h,cD h',aJ rfl,aJ rfl,au (show (i:Int)<(a.length:Int) by omega),cond_true,hg,hg',dU h (by omega),List.drop_eq_getElem_cons h,List.drop_eq_getElem_cons h',eO]
   try dsimp only
   rw[ih (i+1) (by omega) (by omega)]
   rw[Nn]
   cases decide (a[i]=b[i]) <;> rfl
  ·rw[az (show ¬(i:Int)<(a.length:Int) by omega),cond_false,List.drop_eq_nil_of_le (by omega),List.drop_eq_nil_of_le (by omega)]
   rfl
theorem Wb {R:Type} (a b:List Int) (ha:a.length≤1099511627776) (k:Bool→Option R):je a b k=k (Nl a b):=by
 unfold je Cz
 by_cases h:a.length=b.length
 ·rw[eO,au (show (a.length:Int)=(b.length:Int) by omega),Bool.not_true,cond_false]
  refine (TG a b h ha _ _ _ 0 (by omega) (by omega)).trans ?_
  rw[List.drop_zero,List.drop_zero]
  cases Nl a b <;> rfl
 ·rw[eO,az (show ¬(a.length:Int)=(b.length:Int) by omega),Bool.not_false,cond_true,Qe h]
theorem wk {R:Type} (a b:bD) (h:dm a) (k:Bool→Option R):aU a b k=k (O3 a b):=by
 unfold aU CC O3
 rw[Wb _ _ h.path,Nk _ _ h.Iz.nodes h.Iz.af]
 generalize Nl a.path b.path=b1
 generalize ES a.pending b.pending=b2
 generalize (a.ae==b.ae)=b3
 generalize (a.header==b.header)=b4
 generalize (a.order==b.order)=b5
 generalize (a.update==b.update)=b6
 generalize (a.aX==b.aX)=b7
 generalize (a.seen==b.seen)=b8
 generalize (a.seq==b.seq)=b9
 generalize (a.rel==b.rel)=Uw
 generalize (a.open_==b.open_)=Zo
 generalize (a.wait==b.wait)=Zp
 cases b3 with
 | false=>cases b1 <;> cases b2 <;> rfl
 | true =>
 cases b4 with
 | false=>cases b1 <;> cases b2 <;> rfl
 | true =>
 cases b5 with
 | false=>cases b1 <;> cases b2 <;> rfl
 | true =>
 cases b6 with
 | false=>cases b1 <;> cases b2 <;> rfl
 | true =>
 cases b7 with
 | false=>cases b1 <;> cases b2 <;> rfl
 | true =>
 cases b8 with
 | false=>cases b1 <;> cases b2 <;> rfl
 | true =>
 cases b1 with
 | false=>rfl
 | true =>
 cases b2 with
 | false=>cases b9 <;> cases Uw <;> cases Zo <;> cases Zp <;> rfl
 | true=>cases b9 <;> cases Uw <;> cases Zo <;> cases Zp <;> rfl

theorem EZ {R:Type} (n:Int) (gone:List Int) (hg:gone.length≤1099511627776) (c:bD) (hc:c.path.length≤1099511627776) (st:cv) (z1:aA) (z2 z3 z4 z5 z6 z7:Int) (z8:Bool) (z9:Int) (ME:Bool) (KD:Int) (z12:aA) (NQ Th:Int)
  (e0:List Int→Int→bD→cv→aA→Int→Int→Int→Int→Int→Int→Bool→Int→Bool→Int→aA→Int→Int→Option R):∀(F i:Nat) (left:List Int),i≤gone.length→gone.length - i<F→left.length≤i →
  bu F left n gone (i:Int) c st z1 z2 z3 z4 z5 z6 z7 z8 z9 ME KD z12 NQ Th e0=e0 (u6 c.path left (gone.drop i)) n c st z1 z2 z3 z4 z5 z6 z7 z8 z9 ME KD z12 NQ Th:=by
 intro F
 induction F with
 | zero=>intro i _ _ hF; omega
 | succ F ih =>
  intro i left hi hF hl
  show oa cB (fun a b d g h j y1 y2 y3 y4 y5 y6 y7 y8 y9 vD uJ pH IL Bk=>bu F a b d g h j y1 y2 y3 y4 y5 y6 y7 y8 y9 vD uJ pH IL Bk e0) left n gone (i:Int) c st z1 z2 z3 z4 z5 z6 z7 z8 z9 ME KD z12 NQ Th e0=_
  unfold oa
  by_cases h:i<gone.length
  ·have hg:gone.getD (i:Int).toNat (Ty.aC (.int .i64))=gone[i]:=getD_at h _
   have ct:∀a:Option R,cC true a=a:=fun _=>rfl
   rw[cD h]
   simp only[ct]
   rw[au (show (i:Int)<(gone.length:Int) by omega),cond_true,hg,dU h (by omega),List.drop_eq_getElem_cons h,xj,Lp _ hc,Lp _ (by omega)]
   cases c.path.contains gone[i]with
   | true=>rw[Bool.not_true,cond_false,cond_true]; exact ih (i+1) left (by omega) (by omega) (by omega)
   | false =>
    rw[Bool.not_false,cond_false,cond_true]
    cases left.contains gone[i]with
    | true=>rw[Bool.not_true,cond_false,cond_true]; exact ih (i+1) left (by omega) (by omega) (by omega)
    | false =>
     rw[Bool.not_false,cond_false,cond_true,au (by omega),aJ rfl]
     exact ih (i+1) (left ++ [gone[i]]) (by omega) (by omega) (by rw[List.length_append]; simp only[List.length_cons,List.length_nil]; omega)
  ·rw[az (show ¬(i:Int)<(gone.length:Int) by omega),cond_false,List.drop_eq_nil_of_le (by omega)]
   rfl
theorem R0 {R:Type} (n:Int) (gone:List Int) (hg:gone.length≤1099511627776) (a1:aA) (a2 a3 a4 a5 a6:Int) (pa:List Int) (hc:pa.length≤1099511627776) (a8:Int) (a9:Bool) (Sc:Int) (TH:Bool) (a12:Int) (Sd:aA) (TJ TK:Int) (st:cv) (z1:aA) (z2 z3 z4 z5 z6 z7:Int) (z8:Bool) (z9:Int) (ME:Bool) (KD:Int) (z12:aA) (NQ Th:Int)
  (e0:List Int→Int→aA→Int→Int→Int→Int→Int→List Int→Int→Bool→Int→Bool→Int→aA→Int→Int→cv→aA→Int→Int→Int→Int→Int→Int→Bool→Int→Bool→Int→aA→Int→Int→Option R):∀(F i:Nat) (left:List Int),i≤gone.length→gone.length - i<F→left.length≤i →
  bt F left n gone (i:Int) a1 a2 a3 a4 a5 a6 pa a8 a9 Sc TH a12 Sd TJ TK st z1 z2 z3 z4 z5 z6 z7 z8 z9 ME KD z12 NQ Th e0=e0 (u6 pa left (gone.drop i)) n a1 a2 a3 a4 a5 a6 pa a8 a9 Sc TH a12 Sd TJ TK st z1 z2 z3 z4 z5 z6 z7 z8 z9 ME KD z12 NQ Th:=by
 intro F
 induction F with
 | zero=>intro i _ _ hF; omega
 | succ F ih =>
  intro i left hi hF hl
  show n9 cB (fun a b d g b1 b2 b3 b4 b5 b6 b7 b8 b9 Uw Zo Zp b13 b14 b15 j y1 y2 y3 y4 y5 y6 y7 y8 y9 vD uJ pH IL Bk=>bt F a b d g b1 b2 b3 b4 b5 b6 b7 b8 b9 Uw Zo Zp b13 b14 b15 j y1 y2 y3 y4 y5 y6 y7 y8 y9 vD uJ pH IL Bk e0) left n gone (i:Int) a1 a2 a3 a4 a5 a6 pa a8 a9 Sc TH a12 Sd TJ TK st z1 z2 z3 z4 z5 z6 z7 z8 z9 ME KD z12 NQ Th e0=_
  unfold n9
  by_cases h:i<gone.length
  ·have hg:gone.getD (i:Int).toNat (Ty.aC (.int .i64))=gone[i]:=getD_at h _
   have ct:∀a:Option R,cC true a=a:=fun _=>rfl
   rw[cD h]
   simp only[ct]
   rw[au (show (i:Int)<(gone.length:Int) by omega),cond_true,hg,dU h (by omega),List.drop_eq_getElem_cons h,xj,Lp _ hc,Lp _ (by omega)]
   cases pa.contains gone[i]with
   | true=>rw[Bool.not_true,cond_false,cond_true]; exact ih (i+1) left (by omega) (by omega) (by omega)
   | false =>
    rw[Bool.not_false,cond_false,cond_true]
    cases left.contains gone[i]with
    | true=>rw[Bool.not_true,cond_false,cond_true]; exact ih (i+1) left (by omega) (by omega) (by omega)
    | false =>
     rw[Bool.not_false,cond_false,cond_true,au (by omega),aJ rfl]
     exact ih (i+1) (left ++ [gone[i]]) (by omega) (by omega) (by rw[List.length_append]; simp only[List.length_cons,List.length_nil]; omega)
  ·rw[az (show ¬(i:Int)<(gone.length:Int) by omega),cond_false,List.drop_eq_nil_of_le (by omega)]
   rfl

theorem Uz (n:Int):∃t:Int,IntKind.i64.wrap n=n+t*18446744073709551616 ∧ -9223372036854775808≤IntKind.i64.wrap n∧IntKind.i64.wrap n≤9223372036854775807:=by
 simp only[IntKind.wrap,IntKind.bits,IntKind.signed,IntKind.min,IntKind.max]
 simp only[Bool.true_and]
 have h1:=Int.emod_nonneg n (show (18446744073709551616:Int)≠0 by decide)
 have h2:=Int.emod_lt_of_pos n (show (0:Int)<18446744073709551616 by decide)
 have h3:=Int.emod_add_mul_ediv n 18446744073709551616
 have e:∀x:Int,(x=if 9223372036854775808≤n % 18446744073709551616 then n % 18446744073709551616 - 18446744073709551616 else n % 18446744073709551616)→∃t:Int,x=n+t*18446744073709551616 ∧ -9223372036854775808≤x∧x≤9223372036854775807:=by
  intro x hx
  split at hx
  ·exact ⟨-(n / 18446744073709551616) - 1,by omega,by omega,by omega⟩
  ·exact ⟨-(n / 18446744073709551616),by omega,by omega,by omega⟩
 refine e _ ?_
 simp
theorem Wc {a b:Int} (ha:i64 a) (hb:i64 b):IntKind.i64.wrap (a+IntKind.i64.wrap (b - a))=b:=by
 obtain ⟨t,h1,h2,h3⟩:=Uz (b - a)
 obtain ⟨u,h4,h5,h6⟩:=Uz (a+IntKind.i64.wrap (b - a))
 obtain ⟨a1,a2⟩:=ha
 obtain ⟨b1,b2⟩:=hb
 rw[h4,h1]
 rw[h4,h1]at h5 h6
 omega

theorem Wd (u z l b0 b1 b2 b3 b4 b5 b6 b7 b8 b9 Uw Zo Zp b13 b14 b15 b16 b17 b18 b19 b20 b21 b22 b23 b24 b25 b26:Nat):l - 0<u+z+l+b0+b1+b2+b3+b4+b5+b6+b7+b8+b9+Uw+Zo+Zp+b13+b14+b15+b16+b17+b18+b19+b20+b21+b22+b23+b24+b25+b26+64:=by omega
theorem rsee_ok {R:Type} (c:bD) (s:cv) (h:dm c) (hq:i64 c.seq) (hv:s.ae.length≤1099511627776) (k:bD→List Int→Bool→Option R) :
  cQ c s k=bif Qi c s then k (ID c s) (Ko c s) true else k c [] false:=by
 unfold cQ EY Qi
 rw[A7 c h,JL _ h.path,rright9 s hv,rnewer9]
 have hr:vz c=(gH c.path && !decide (c.rel<0)):=by
  unfold vz
  by_cases h0:c.rel<0
  ·rw[au h0,az (show ¬c.rel≥0 by omega)]; rfl
  ·rw[az h0,au (show c.rel≥0 by omega)]; rfl
 rw[hr]
 cases gH c.path with
 | false=>rfl
 | true =>
 cases decide (c.rel<0)with
 | true=>rfl
 | false =>
 cases Zb:B9 s with
 | false=>rfl
 | true =>
 cases s.ae==c.ae with
 | false=>rfl
 | true =>
 cases Eo s ⟨c.seen,c.aX, [],0,0,false,0,0,false,0⟩with
 | false=>rfl
 | true =>
 have hsq:i64 s.seq:=by
  unfold B9 at Zb
  simp only[Bool.and_eq_true,wj]at Zb
  have:=Zb.2.1
  unfold i64
  omega
 have hwb:=Wc hq hsq
 have hp:=h.path
 obtain ⟨ve,hd,od,up,bo,se,pa,sq,op,re,wa,⟨ph,pv,po,pu,pn,pe⟩⟩:=c
 unfold ID Ko EV Nq A6
 simp only[Bool.not_true,Bool.not_false,Bool.and_self,cond_true,cond_false]
 dsimp only at hp hwb ⊢
 generalize IntKind.i64.wrap (s.seq - sq)=n at *
 have hgo:decide (n>0)=true→decide (n<(pa.length:Int))=true→0≤n∧n≤pa.length:=fun h1 h2=>by
  rw[decide_eq_true_eq]at h1 h2
  omega
 generalize hb1:decide (n>0)=b1 at *
 generalize (Int.tmod n 2==0)=b2 at *
 generalize hb3:decide (n<(pa.length:Int))=b3 at *
 generalize (s.order==0)=b4
 generalize (s.order != od)=b5
 generalize decide (s.accepted≥ph)=b6
 cases b4 with
 | true=>cases wa <;> cases b6 <;> cases b5 <;> rfl
 | false =>
 cases b5 with
 | true=>cases wa <;> cases b6 <;> rfl
 | false =>
 by_cases hb:b1=true∧b2=true∧b3=true
 ·obtain ⟨rfl,rfl,rfl⟩:=hb
  obtain ⟨g1,g2⟩:=hgo rfl rfl
  have e0:decide ((0:Int)≤n)=true:=au g1
  have e1:decide (n≤(pa.length:Int))=true:=au g2
  have hl:(pa.take n.toNat).length≤1099511627776:=by rw[List.length_take]; omega
  have R2:(pa.drop n.toNat).length≤1099511627776:=by rw[List.length_drop]; omega
  have hl3:(List.take (n.toNat - 0) (List.drop 0 pa))=pa.take n.toNat:=by rw[Nat.sub_zero,List.drop_zero]
  have ct:∀a:Option R,cC true a=a:=fun _=>rfl
  generalize hb7:s.live=b7
  cases wa <;> cases b6 <;> simp only[cond_true,cond_false,e0,e1,Bool.and_self,ct,hl3,Bool.or_self,Bool.and_true,Bool.and_false,Bool.true_and,Bool.false_and]
  ·refine (EZ n (pa.take n.toNat) hl ⟨ve,hd,od,up,s.aX,s.header,pa.drop n.toNat,sq,op,re,false,⟨ph,pv,po,pu,pn,pe⟩⟩ R2 s _ _ _ _ _ _ _ _ _ _ _ _ _ _ _ _ 0 [] (Nat.zero_le _) (IC ..) (Nat.le_refl _)).trans ?_
   rw[List.drop_zero]
   try dsimp only
   rw[←hwb]
   cases op <;> cases b7 <;> simp only[hb7,cond_true,cond_false,Bool.not_true,Bool.not_false,Bool.and_self,Bool.and_true,Bool.and_false,Bool.true_and,Bool.false_and] <;> rfl
  ·refine (EZ n (pa.take n.toNat) hl ⟨ve,hd,od,up,s.aX,s.header,pa.drop n.toNat,sq,op,re,false,⟨ph,pv,po,pu,pn,pe⟩⟩ R2 s _ _ _ _ _ _ _ _ _ _ _ _ _ _ _ _ 0 [] (Nat.zero_le _) (IC ..) (Nat.le_refl _)).trans ?_
   rw[List.drop_zero]
   try dsimp only
   rw[←hwb]
   cases op <;> cases b7 <;> simp only[hb7,cond_true,cond_false,Bool.not_true,Bool.not_false,Bool.and_self,Bool.and_true,Bool.and_false,Bool.true_and,Bool.false_and] <;> rfl
  ·refine (EZ n (pa.take n.toNat) hl ⟨ve,hd,od,up,s.aX,s.header,pa.drop n.toNat,sq,op,re,true,⟨ph,pv,po,pu,pn,pe⟩⟩ R2 s _ _ _ _ _ _ _ _ _ _ _ _ _ _ _ _ 0 [] (Nat.zero_le _) (IC ..) (Nat.le_refl _)).trans ?_
   rw[List.drop_zero]
   try dsimp only
   rw[←hwb]
   cases op <;> cases b7 <;> simp only[hb7,cond_true,cond_false,Bool.not_true,Bool.not_false,Bool.and_self,Bool.and_true,Bool.and_false,Bool.true_and,Bool.false_and] <;> rfl
  ·refine (R0 n (pa.take n.toNat) hl ve hd od up s.aX s.header (pa.drop n.toNat) R2 sq op re false 0 [] 0 0 s _ _ _ _ _ _ _ _ _ _ _ _ _ _ _ _ 0 [] (Nat.zero_le _) (Wd ..) (Nat.le_refl _)).trans ?_
   rw[List.drop_zero]
   try dsimp only
   rw[←hwb]
   cases op <;> cases b7 <;> simp only[hb7,cond_true,cond_false,Bool.not_true,Bool.not_false,Bool.and_self,Bool.and_true,Bool.and_false,Bool.true_and,Bool.false_and] <;> rfl
 ·have k9:(b1&&(b2&&b3))=false:=by
   cases b1 <;> cases b2 <;> cases b3 <;> first|rfl|exact (hb ⟨rfl,rfl,rfl⟩).elim
  generalize s.live=b7
  cases wa <;> cases b6 <;> cases op <;> cases b7 <;> cases b1 <;> cases b2 <;> cases b3 <;> first|rfl|cases k9
end Go.Proofs.YtolnaonmpohciaaDoor

/-
 Functions of the program as pure Lean functions, and the ties; printed by wip/tools/emit.py.
-/
set_option maxRecDepth 100000
namespace Go.Proofs.YtolnaonmpohciaaDoor
open Go Go.ad
variable {R:Type}

/-! ### humpyard/humpyardref18.Begin -/
abbrev tg (R:Type):Type:=aA→Int→(ad.bN→Option R)→Option R
abbrev zM:List cu := [.leaf (.str), .leaf (.int .i64)]
abbrev zN:List aw := []
def E0 (fn:tg R):mY R zM zN:=fun x y k=>fn x.1 x.2.1 (fun q0=>k (.agg [.str q0.ae, .int .i64 q0.header, .int .i64 q0.order, .int .i64 q0.update, .int .i64 q0.aX, .int .i64 q0.seen, .sl (.int .i64) q0.path .no, .int .i64 q0.seq, .bool q0.open_, .int .i64 q0.rel, .bool q0.wait, .int .i64 q0.pending.header, .str q0.pending.ae, .int .i64 q0.pending.order, .int .i64 q0.pending.update, .sl .stop q0.pending.nodes .no, .sl .dt q0.pending.af .no]) [])
def Gt (fn:tg R):=bx zM zN (E0 fn)
section
def zO (x1:aA) (x2:Int) (k0:ad.bN→Option R):Option R :=
 k0 (⟨x1,0,0,0,0,0,([x2]:List Int),0,false,0,false,⟨0,([]:aA),0,0,([]:List Stop),([]:List ad.Way)⟩⟩:ad.bN)
theorem Ns:dT (R:=R) tt [] xo false Tryd.f22 zM zN (E0 zO):=fun x y k=>by kernel_rfl
end
def cJ:tg R:=fun x1 x2 k0=>zO x1 x2 k0
theorem JO (R:Type):mW Tryd.prog 22 (Gt (cJ (R:=R))):=bL TT mixed .n rfl rfl rfl rfl de (Ns)

end Go.Proofs.YtolnaonmpohciaaDoor

/-
 Functions of the program as pure Lean functions, and the ties; printed by wip/tools/emit.py.
-/
set_option maxRecDepth 100000
namespace Go.Proofs.YtolnaonmpohciaaDoor
open Go Go.ad
variable {R:Type}

/-! ### humpyard/humpyardlaw18.FleetTells -/
abbrev o4 (R:Type):Type:=ad.bN→ad.bN→(List Int)→ad.State→Int→Int→(List oD)→kh→(Bool→Option R)→Option R
abbrev lB:List cu := [.agg [.str, .int .i64, .int .i64, .int .i64, .int .i64, .int .i64, .sl (.int .i64), .int .i64, .bool, .int .i64, .bool, .int .i64, .str, .int .i64, .int .i64, .sl .stop, .sl .dt], .agg [.str, .int .i64, .int .i64, .int .i64, .int .i64, .int .i64, .sl (.int .i64), .int .i64, .bool, .int .i64, .bool, .int .i64, .str, .int .i64, .int .i64, .sl .stop, .sl .dt], .leaf (.sl (.int .i64)), .agg [.int .i64, .int .i64, .str, .int .i64, .int .i64, .bool, .int .i64, .int .i64, .bool, .int .i64], .leaf (.int .i64), .leaf (.int .i64), .leaf (.sl .u7), .agg [.int .i64, .int .i64, .int .i64, .int .i64, .int .i64, .int .i64, .sl (.int .i64)]]
abbrev lC:List aw := []
def o5 (fn:o4 R):mY R lB lC:=fun x y k=>fn (⟨x.1.1,x.1.2.1,x.1.2.2.1,x.1.2.2.2.1,x.1.2.2.2.2.1,x.1.2.2.2.2.2.1,x.1.2.2.2.2.2.2.1,x.1.2.2.2.2.2.2.2.1,(t8 x.1).1,(t8 x.1).2.1,(t8 x.1).2.2.1,⟨(t8 x.1).2.2.2.1,(t8 x.1).2.2.2.2.1,(t8 x.1).2.2.2.2.2.1,(t8 x.1).2.2.2.2.2.2.1,(t8 x.1).2.2.2.2.2.2.2.1,(t8 (t8 x.1)).1⟩⟩:ad.bN) (⟨x.2.1.1,x.2.1.2.1,x.2.1.2.2.1,x.2.1.2.2.2.1,x.2.1.2.2.2.2.1,x.2.1.2.2.2.2.2.1,x.2.1.2.2.2.2.2.2.1,x.2.1.2.2.2.2.2.2.2.1,(t8 x.2.1).1,(t8 x.2.1).2.1,(t8 x.2.1).2.2.1,⟨(t8 x.2.1).2.2.2.1,(t8 x.2.1).2.2.2.2.1,(t8 x.2.1).2.2.2.2.2.1,(t8 x.2.1).2.2.2.2.2.2.1,(t8 x.2.1).2.2.2.2.2.2.2.1,(t8 (t8 x.2.1)).1⟩⟩:ad.bN) x.2.2.1 (⟨x.2.2.2.1.1,x.2.2.2.1.2.1,x.2.2.2.1.2.2.1,x.2.2.2.1.2.2.2.1,x.2.2.2.1.2.2.2.2.1,x.2.2.2.1.2.2.2.2.2.1,x.2.2.2.1.2.2.2.2.2.2.1,x.2.2.2.1.2.2.2.2.2.2.2.1,(t8 x.2.2.2.1).1,(t8 x.2.2.2.1).2.1⟩:ad.State) x.2.2.2.2.1 x.2.2.2.2.2.1 x.2.2.2.2.2.2.1 (⟨x.2.2.2.2.2.2.2.1.1,x.2.2.2.2.2.2.2.1.2.1,x.2.2.2.2.2.2.2.1.2.2.1,x.2.2.2.2.2.2.2.1.2.2.2.1,x.2.2.2.2.2.2.2.1.2.2.2.2.1,x.2.2.2.2.2.2.2.1.2.2.2.2.2.1,x.2.2.2.2.2.2.2.1.2.2.2.2.2.2.1⟩:kh) (fun q0=>k (.bool q0) [])
def G8 (fn:o4 R):=bx lB lC (o5 fn)
abbrev j8 (R:Type):Type:=Nat→(List Int)→Int→Bool→(List Int)→(List ad.bN)→Int→Int→(List Int)→Int→Int→ad.bN→ad.State→ad.State→ad.bN→((List Int)→Int→Bool→(List Int)→(List ad.bN)→Int→Int→ad.bN→ad.State→ad.State→ad.bN→Option R)→((List Int)→Int→Bool→Bool→(List Int)→(List ad.bN)→Int→Int→ad.bN→ad.State→ad.State→ad.bN→Option R)→Option R
abbrev j9 (R:Type):Type:=Nat→(List Int)→Int→Bool→(List Int)→(List ad.bN)→Int→Int→(List ad.State)→Int→Int→ad.bN→ad.State→ad.State→ad.bN→((List Int)→Int→Bool→(List Int)→(List ad.bN)→Int→Int→ad.bN→ad.State→ad.State→Option R)→((List Int)→Int→Bool→Bool→(List Int)→(List ad.bN)→Int→Int→ad.bN→ad.State→ad.State→Option R)→Option R
abbrev kZ (R:Type):Type:=Nat→(List Int)→Int→Bool→(List Int)→(List ad.bN)→Int→Int→ad.bN→ad.State→ad.State→(Int→Bool→ad.State→Option R)→(Int→Bool→Bool→ad.State→Option R)→Option R
def gI:Hint := { live := [2,4,9,11,17,20,21,23,104,105,106,180,181,182],own := [],rows := [],cells := [],drop := [],out := [2,4,9,11,16,17,20,21,23,104,105,106] }
abbrev dP:Type:=(List Int)×Int×Bool×(List Int)×(List ad.bN)×Int×Int×(List Int)×Int×Int×ad.bN×ad.State×ad.State×ad.bN
def jB:dP→St:=fun d=>⟨U 2 (.sl (.int .i64) d.1 .no :: .undef :: .int .i64 d.2.1::U 4 (.ptr 0 0 :: .undef :: .ptr 1 0::U 5 (.bool d.2.2.1::U 2 (.sl (.int .i64) d.2.2.2.1 (.own 2) :: .ptr 3 0 :: .undef :: .ptr 4 0::U 80 (.sl .C8 d.2.2.2.2.1 (.own 5) :: .int .i64 d.2.2.2.2.2.1 :: .int .i64 d.2.2.2.2.2.2.1::U 73 (.sl (.int .i64) d.2.2.2.2.2.2.2.1 (.own 6) :: .int .i64 d.2.2.2.2.2.2.2.2.1 :: .int .i64 d.2.2.2.2.2.2.2.2.2.1::U 84 ([]))))))), [.cells [.str d.2.2.2.2.2.2.2.2.2.2.1.ae, .int .i64 d.2.2.2.2.2.2.2.2.2.2.1.header, .int .i64 d.2.2.2.2.2.2.2.2.2.2.1.order, .int .i64 d.2.2.2.2.2.2.2.2.2.2.1.update, .int .i64 d.2.2.2.2.2.2.2.2.2.2.1.aX, .int .i64 d.2.2.2.2.2.2.2.2.2.2.1.seen, .sl (.int .i64) d.2.2.2.2.2.2.2.2.2.2.1.path .no, .int .i64 d.2.2.2.2.2.2.2.2.2.2.1.seq, .bool d.2.2.2.2.2.2.2.2.2.2.1.open_, .int .i64 d.2.2.2.2.2.2.2.2.2.2.1.rel, .bool d.2.2.2.2.2.2.2.2.2.2.1.wait, .int .i64 d.2.2.2.2.2.2.2.2.2.2.1.pending.header, .str d.2.2.2.2.2.2.2.2.2.2.1.pending.ae, .int .i64 d.2.2.2.2.2.2.2.2.2.2.1.pending.order, .int .i64 d.2.2.2.2.2.2.2.2.2.2.1.pending.update, .sl .stop d.2.2.2.2.2.2.2.2.2.2.1.pending.nodes .no, .sl .dt d.2.2.2.2.2.2.2.2.2.2.1.pending.af .no], .cells [.int .i64 d.2.2.2.2.2.2.2.2.2.2.2.1.header, .int .i64 d.2.2.2.2.2.2.2.2.2.2.2.1.aX, .str d.2.2.2.2.2.2.2.2.2.2.2.1.ae, .int .i64 d.2.2.2.2.2.2.2.2.2.2.2.1.order, .int .i64 d.2.2.2.2.2.2.2.2.2.2.2.1.update, .bool d.2.2.2.2.2.2.2.2.2.2.2.1.live, .int .i64 d.2.2.2.2.2.2.2.2.2.2.2.1.node, .int .i64 d.2.2.2.2.2.2.2.2.2.2.2.1.seq, .bool d.2.2.2.2.2.2.2.2.2.2.2.1.dW, .int .i64 d.2.2.2.2.2.2.2.2.2.2.2.1.accepted], .tok, .cells [.int .i64 d.2.2.2.2.2.2.2.2.2.2.2.2.1.header, .int .i64 d.2.2.2.2.2.2.2.2.2.2.2.2.1.aX, .str d.2.2.2.2.2.2.2.2.2.2.2.2.1.ae, .int .i64 d.2.2.2.2.2.2.2.2.2.2.2.2.1.order, .int .i64 d.2.2.2.2.2.2.2.2.2.2.2.2.1.update, .bool d.2.2.2.2.2.2.2.2.2.2.2.2.1.live, .int .i64 d.2.2.2.2.2.2.2.2.2.2.2.2.1.node, .int .i64 d.2.2.2.2.2.2.2.2.2.2.2.2.1.seq, .bool d.2.2.2.2.2.2.2.2.2.2.2.2.1.dW, .int .i64 d.2.2.2.2.2.2.2.2.2.2.2.2.1.accepted], .cells [.str d.2.2.2.2.2.2.2.2.2.2.2.2.2.ae, .int .i64 d.2.2.2.2.2.2.2.2.2.2.2.2.2.header, .int .i64 d.2.2.2.2.2.2.2.2.2.2.2.2.2.order, .int .i64 d.2.2.2.2.2.2.2.2.2.2.2.2.2.update, .int .i64 d.2.2.2.2.2.2.2.2.2.2.2.2.2.aX, .int .i64 d.2.2.2.2.2.2.2.2.2.2.2.2.2.seen, .sl (.int .i64) d.2.2.2.2.2.2.2.2.2.2.2.2.2.path .no, .int .i64 d.2.2.2.2.2.2.2.2.2.2.2.2.2.seq, .bool d.2.2.2.2.2.2.2.2.2.2.2.2.2.open_, .int .i64 d.2.2.2.2.2.2.2.2.2.2.2.2.2.rel, .bool d.2.2.2.2.2.2.2.2.2.2.2.2.2.wait, .int .i64 d.2.2.2.2.2.2.2.2.2.2.2.2.2.pending.header, .str d.2.2.2.2.2.2.2.2.2.2.2.2.2.pending.ae, .int .i64 d.2.2.2.2.2.2.2.2.2.2.2.2.2.pending.order, .int .i64 d.2.2.2.2.2.2.2.2.2.2.2.2.2.pending.update, .sl .stop d.2.2.2.2.2.2.2.2.2.2.2.2.2.pending.nodes .no, .sl .dt d.2.2.2.2.2.2.2.2.2.2.2.2.2.pending.af .no], .tok, .tok]⟩
def ka (K:Ex→St→Option R) (q0:List Int) (q1:Int) (q2:Bool) (q3:List Int) (q4:List ad.bN) (q5:Int) (q6:Int) (q7:ad.bN) (q8:ad.State) (q9:ad.State) (vm:ad.bN):Option R:=K (.exit 2) ⟨U 2 (.sl (.int .i64) q0 .no :: .undef :: .int .i64 q1::U 4 (.ptr 0 0 :: .undef :: .ptr 1 0::U 5 (.bool q2::U 2 (.sl (.int .i64) q3 (.own 2) :: .ptr 3 0 :: .undef :: .ptr 4 0::U 80 (.sl .C8 q4 (.own 5) :: .int .i64 q5 :: .int .i64 q6::U 160 ([])))))), [.cells [.str q7.ae, .int .i64 q7.header, .int .i64 q7.order, .int .i64 q7.update, .int .i64 q7.aX, .int .i64 q7.seen, .sl (.int .i64) q7.path .no, .int .i64 q7.seq, .bool q7.open_, .int .i64 q7.rel, .bool q7.wait, .int .i64 q7.pending.header, .str q7.pending.ae, .int .i64 q7.pending.order, .int .i64 q7.pending.update, .sl .stop q7.pending.nodes .no, .sl .dt q7.pending.af .no], .cells [.int .i64 q8.header, .int .i64 q8.aX, .str q8.ae, .int .i64 q8.order, .int .i64 q8.update, .bool q8.live, .int .i64 q8.node, .int .i64 q8.seq, .bool q8.dW, .int .i64 q8.accepted], .tok, .cells [.int .i64 q9.header, .int .i64 q9.aX, .str q9.ae, .int .i64 q9.order, .int .i64 q9.update, .bool q9.live, .int .i64 q9.node, .int .i64 q9.seq, .bool q9.dW, .int .i64 q9.accepted], .cells [.str vm.ae, .int .i64 vm.header, .int .i64 vm.order, .int .i64 vm.update, .int .i64 vm.aX, .int .i64 vm.seen, .sl (.int .i64) vm.path .no, .int .i64 vm.seq, .bool vm.open_, .int .i64 vm.rel, .bool vm.wait, .int .i64 vm.pending.header, .str vm.pending.ae, .int .i64 vm.pending.order, .int .i64 vm.pending.update, .sl .stop vm.pending.nodes .no, .sl .dt vm.pending.af .no], .tok]⟩
def kb (K:Ex→St→Option R) (q0:List Int) (q1:Int) (q2:Bool) (q3:Bool) (q4:List Int) (q5:List ad.bN) (q6:Int) (q7:Int) (q8:ad.bN) (q9:ad.State) (vm:ad.State) (HO:ad.bN):Option R:=K (.ret) ⟨U 2 (.sl (.int .i64) q0 .no :: .undef :: .int .i64 q1::U 4 (.ptr 0 0 :: .undef :: .ptr 1 0::U 4 (.bool q2 :: .bool q3::U 2 (.sl (.int .i64) q4 (.own 2) :: .ptr 3 0 :: .undef :: .ptr 4 0::U 80 (.sl .C8 q5 (.own 5) :: .int .i64 q6 :: .int .i64 q7::U 160 ([])))))), [.cells [.str q8.ae, .int .i64 q8.header, .int .i64 q8.order, .int .i64 q8.update, .int .i64 q8.aX, .int .i64 q8.seen, .sl (.int .i64) q8.path .no, .int .i64 q8.seq, .bool q8.open_, .int .i64 q8.rel, .bool q8.wait, .int .i64 q8.pending.header, .str q8.pending.ae, .int .i64 q8.pending.order, .int .i64 q8.pending.update, .sl .stop q8.pending.nodes .no, .sl .dt q8.pending.af .no], .cells [.int .i64 q9.header, .int .i64 q9.aX, .str q9.ae, .int .i64 q9.order, .int .i64 q9.update, .bool q9.live, .int .i64 q9.node, .int .i64 q9.seq, .bool q9.dW, .int .i64 q9.accepted], .tok, .cells [.int .i64 vm.header, .int .i64 vm.aX, .str vm.ae, .int .i64 vm.order, .int .i64 vm.update, .bool vm.live, .int .i64 vm.node, .int .i64 vm.seq, .bool vm.dW, .int .i64 vm.accepted], .cells [.str HO.ae, .int .i64 HO.header, .int .i64 HO.order, .int .i64 HO.update, .int .i64 HO.aX, .int .i64 HO.seen, .sl (.int .i64) HO.path .no, .int .i64 HO.seq, .bool HO.open_, .int .i64 HO.rel, .bool HO.wait, .int .i64 HO.pending.header, .str HO.pending.ae, .int .i64 HO.pending.order, .int .i64 HO.pending.update, .sl .stop HO.pending.nodes .no, .sl .dt HO.pending.af .no], .tok]⟩
abbrev e7:List cu:=PU 2 (.leaf (.sl (.int .i64)) :: .leaf (.undef) :: .leaf (.int .i64)::PU 4 (.leaf (.ptr 0 0) :: .leaf (.undef) :: .leaf (.ptr 1 0)::PU 5 (.leaf (.bool)::PU 2 (.leaf (.Li (.int .i64) 2) :: .leaf (.ptr 3 0) :: .leaf (.undef) :: .leaf (.ptr 4 0)::PU 80 (.leaf (.Li .C8 5) :: .leaf (.int .i64) :: .leaf (.int .i64)::PU 73 (.leaf (.Li (.int .i64) 6) :: .leaf (.int .i64) :: .leaf (.int .i64)::PU 84 ([])))))))
abbrev e9:List aw := [.cells [.str, .int .i64, .int .i64, .int .i64, .int .i64, .int .i64, .sl (.int .i64), .int .i64, .bool, .int .i64, .bool, .int .i64, .str, .int .i64, .int .i64, .sl .stop, .sl .dt], .cells [.int .i64, .int .i64, .str, .int .i64, .int .i64, .bool, .int .i64, .int .i64, .bool, .int .i64], .tok, .cells [.int .i64, .int .i64, .str, .int .i64, .int .i64, .bool, .int .i64, .int .i64, .bool, .int .i64], .cells [.str, .int .i64, .int .i64, .int .i64, .int .i64, .int .i64, .sl (.int .i64), .int .i64, .bool, .int .i64, .bool, .int .i64, .str, .int .i64, .int .i64, .sl .stop, .sl .dt], .tok, .tok]
def qM (x:cu.aQ e7) (y:aw.aQ e9):Nat:=(List.length x.2.2.1+Int.natAbs x.2.2.2.2.1+List.length ((t8 (t8 x)).2.2.2.2.1)+List.length ((t8 (t8 (t8 (t8 (t8 (t8 (t8 (t8 (t8 (t8 (t8 (t8 (t8 x))))))))))))).1)+Int.natAbs ((t8 (t8 (t8 (t8 (t8 (t8 (t8 (t8 (t8 (t8 (t8 (t8 (t8 x))))))))))))).2.1)+Int.natAbs ((t8 (t8 (t8 (t8 (t8 (t8 (t8 (t8 (t8 (t8 (t8 (t8 (t8 x))))))))))))).2.2.1)+List.length ((t8 (t8 (t8 (t8 (t8 (t8 (t8 (t8 (t8 (t8 (t8 (t8 (t8 (t8 (t8 (t8 (t8 (t8 (t8 (t8 (t8 (t8 x)))))))))))))))))))))).2.2.2.2.1)+Int.natAbs ((t8 (t8 (t8 (t8 (t8 (t8 (t8 (t8 (t8 (t8 (t8 (t8 (t8 (t8 (t8 (t8 (t8 (t8 (t8 (t8 (t8 (t8 x)))))))))))))))))))))).2.2.2.2.2.1)+Int.natAbs ((t8 (t8 (t8 (t8 (t8 (t8 (t8 (t8 (t8 (t8 (t8 (t8 (t8 (t8 (t8 (t8 (t8 (t8 (t8 (t8 (t8 (t8 x)))))))))))))))))))))).2.2.2.2.2.2.1)+ad.bN.fu (⟨y.1.1,y.1.2.1,y.1.2.2.1,y.1.2.2.2.1,y.1.2.2.2.2.1,y.1.2.2.2.2.2.1,y.1.2.2.2.2.2.2.1,y.1.2.2.2.2.2.2.2.1,(t8 y.1).1,(t8 y.1).2.1,(t8 y.1).2.2.1,⟨(t8 y.1).2.2.2.1,(t8 y.1).2.2.2.2.1,(t8 y.1).2.2.2.2.2.1,(t8 y.1).2.2.2.2.2.2.1,(t8 y.1).2.2.2.2.2.2.2.1,(t8 (t8 y.1)).1⟩⟩:ad.bN)+ad.State.fu (⟨y.2.1.1,y.2.1.2.1,y.2.1.2.2.1,y.2.1.2.2.2.1,y.2.1.2.2.2.2.1,y.2.1.2.2.2.2.2.1,y.2.1.2.2.2.2.2.2.1,y.2.1.2.2.2.2.2.2.2.1,(t8 y.2.1).1,(t8 y.2.1).2.1⟩:ad.State)+ad.State.fu (⟨y.2.2.2.1.1,y.2.2.2.1.2.1,y.2.2.2.1.2.2.1,y.2.2.2.1.2.2.2.1,y.2.2.2.1.2.2.2.2.1,y.2.2.2.1.2.2.2.2.2.1,y.2.2.2.1.2.2.2.2.2.2.1,y.2.2.2.1.2.2.2.2.2.2.2.1,(t8 y.2.2.2.1).1,(t8 y.2.2.2.1).2.1⟩:ad.State)+ad.bN.fu (⟨y.2.2.2.2.1.1,y.2.2.2.2.1.2.1,y.2.2.2.2.1.2.2.1,y.2.2.2.2.1.2.2.2.1,y.2.2.2.2.1.2.2.2.2.1,y.2.2.2.2.1.2.2.2.2.2.1,y.2.2.2.2.1.2.2.2.2.2.2.1,y.2.2.2.2.1.2.2.2.2.2.2.2.1,(t8 y.2.2.2.2.1).1,(t8 y.2.2.2.2.1).2.1,(t8 y.2.2.2.2.1).2.2.1,⟨(t8 y.2.2.2.2.1).2.2.2.1,(t8 y.2.2.2.2.1).2.2.2.2.1,(t8 y.2.2.2.2.1).2.2.2.2.2.1,(t8 y.2.2.2.2.1).2.2.2.2.2.2.1,(t8 y.2.2.2.2.1).2.2.2.2.2.2.2.1,(t8 (t8 y.2.2.2.2.1)).1⟩⟩:ad.bN)+64)
def Bf (x:cu.aQ e7) (y:aw.aQ e9):dP:=(x.2.2.1,x.2.2.2.2.1,(t8 (t8 x)).2.1,(t8 (t8 x)).2.2.2.2.1,(t8 (t8 (t8 (t8 (t8 (t8 (t8 (t8 (t8 (t8 (t8 (t8 (t8 x))))))))))))).1,(t8 (t8 (t8 (t8 (t8 (t8 (t8 (t8 (t8 (t8 (t8 (t8 (t8 x))))))))))))).2.1,(t8 (t8 (t8 (t8 (t8 (t8 (t8 (t8 (t8 (t8 (t8 (t8 (t8 x))))))))))))).2.2.1,(t8 (t8 (t8 (t8 (t8 (t8 (t8 (t8 (t8 (t8 (t8 (t8 (t8 (t8 (t8 (t8 (t8 (t8 (t8 (t8 (t8 (t8 x)))))))))))))))))))))).2.2.2.2.1,(t8 (t8 (t8 (t8 (t8 (t8 (t8 (t8 (t8 (t8 (t8 (t8 (t8 (t8 (t8 (t8 (t8 (t8 (t8 (t8 (t8 (t8 x)))))))))))))))))))))).2.2.2.2.2.1,(t8 (t8 (t8 (t8 (t8 (t8 (t8 (t8 (t8 (t8 (t8 (t8 (t8 (t8 (t8 (t8 (t8 (t8 (t8 (t8 (t8 (t8 x)))))))))))))))))))))).2.2.2.2.2.2.1,(⟨y.1.1,y.1.2.1,y.1.2.2.1,y.1.2.2.2.1,y.1.2.2.2.2.1,y.1.2.2.2.2.2.1,y.1.2.2.2.2.2.2.1,y.1.2.2.2.2.2.2.2.1,(t8 y.1).1,(t8 y.1).2.1,(t8 y.1).2.2.1,⟨(t8 y.1).2.2.2.1,(t8 y.1).2.2.2.2.1,(t8 y.1).2.2.2.2.2.1,(t8 y.1).2.2.2.2.2.2.1,(t8 y.1).2.2.2.2.2.2.2.1,(t8 (t8 y.1)).1⟩⟩:ad.bN),(⟨y.2.1.1,y.2.1.2.1,y.2.1.2.2.1,y.2.1.2.2.2.1,y.2.1.2.2.2.2.1,y.2.1.2.2.2.2.2.1,y.2.1.2.2.2.2.2.2.1,y.2.1.2.2.2.2.2.2.2.1,(t8 y.2.1).1,(t8 y.2.1).2.1⟩:ad.State),(⟨y.2.2.2.1.1,y.2.2.2.1.2.1,y.2.2.2.1.2.2.1,y.2.2.2.1.2.2.2.1,y.2.2.2.1.2.2.2.2.1,y.2.2.2.1.2.2.2.2.2.1,y.2.2.2.1.2.2.2.2.2.2.1,y.2.2.2.1.2.2.2.2.2.2.2.1,(t8 y.2.2.2.1).1,(t8 y.2.2.2.1).2.1⟩:ad.State),(⟨y.2.2.2.2.1.1,y.2.2.2.2.1.2.1,y.2.2.2.2.1.2.2.1,y.2.2.2.2.1.2.2.2.1,y.2.2.2.2.1.2.2.2.2.1,y.2.2.2.2.1.2.2.2.2.2.1,y.2.2.2.2.1.2.2.2.2.2.2.1,y.2.2.2.2.1.2.2.2.2.2.2.2.1,(t8 y.2.2.2.2.1).1,(t8 y.2.2.2.2.1).2.1,(t8 y.2.2.2.2.1).2.2.1,⟨(t8 y.2.2.2.2.1).2.2.2.1,(t8 y.2.2.2.2.1).2.2.2.2.1,(t8 y.2.2.2.2.1).2.2.2.2.2.1,(t8 y.2.2.2.2.1).2.2.2.2.2.2.1,(t8 y.2.2.2.2.1).2.2.2.2.2.2.2.1,(t8 (t8 y.2.2.2.2.1)).1⟩⟩:ad.bN))
def pF (L:j8 R):nD R e7 e9:=fun x y K=>L (qM x y) x.2.2.1 x.2.2.2.2.1 ((t8 (t8 x)).2.1) ((t8 (t8 x)).2.2.2.2.1) ((t8 (t8 (t8 (t8 (t8 (t8 (t8 (t8 (t8 (t8 (t8 (t8 (t8 x))))))))))))).1) ((t8 (t8 (t8 (t8 (t8 (t8 (t8 (t8 (t8 (t8 (t8 (t8 (t8 x))))))))))))).2.1) ((t8 (t8 (t8 (t8 (t8 (t8 (t8 (t8 (t8 (t8 (t8 (t8 (t8 x))))))))))))).2.2.1) ((t8 (t8 (t8 (t8 (t8 (t8 (t8 (t8 (t8 (t8 (t8 (t8 (t8 (t8 (t8 (t8 (t8 (t8 (t8 (t8 (t8 (t8 x)))))))))))))))))))))).2.2.2.2.1) ((t8 (t8 (t8 (t8 (t8 (t8 (t8 (t8 (t8 (t8 (t8 (t8 (t8 (t8 (t8 (t8 (t8 (t8 (t8 (t8 (t8 (t8 x)))))))))))))))))))))).2.2.2.2.2.1) ((t8 (t8 (t8 (t8 (t8 (t8 (t8 (t8 (t8 (t8 (t8 (t8 (t8 (t8 (t8 (t8 (t8 (t8 (t8 (t8 (t8 (t8 x)))))))))))))))))))))).2.2.2.2.2.2.1) (⟨y.1.1,y.1.2.1,y.1.2.2.1,y.1.2.2.2.1,y.1.2.2.2.2.1,y.1.2.2.2.2.2.1,y.1.2.2.2.2.2.2.1,y.1.2.2.2.2.2.2.2.1,(t8 y.1).1,(t8 y.1).2.1,(t8 y.1).2.2.1,⟨(t8 y.1).2.2.2.1,(t8 y.1).2.2.2.2.1,(t8 y.1).2.2.2.2.2.1,(t8 y.1).2.2.2.2.2.2.1,(t8 y.1).2.2.2.2.2.2.2.1,(t8 (t8 y.1)).1⟩⟩:ad.bN) (⟨y.2.1.1,y.2.1.2.1,y.2.1.2.2.1,y.2.1.2.2.2.1,y.2.1.2.2.2.2.1,y.2.1.2.2.2.2.2.1,y.2.1.2.2.2.2.2.2.1,y.2.1.2.2.2.2.2.2.2.1,(t8 y.2.1).1,(t8 y.2.1).2.1⟩:ad.State) (⟨y.2.2.2.1.1,y.2.2.2.1.2.1,y.2.2.2.1.2.2.1,y.2.2.2.1.2.2.2.1,y.2.2.2.1.2.2.2.2.1,y.2.2.2.1.2.2.2.2.2.1,y.2.2.2.1.2.2.2.2.2.2.1,y.2.2.2.1.2.2.2.2.2.2.2.1,(t8 y.2.2.2.1).1,(t8 y.2.2.2.1).2.1⟩:ad.State) (⟨y.2.2.2.2.1.1,y.2.2.2.2.1.2.1,y.2.2.2.2.1.2.2.1,y.2.2.2.2.1.2.2.2.1,y.2.2.2.2.1.2.2.2.2.1,y.2.2.2.2.1.2.2.2.2.2.1,y.2.2.2.2.1.2.2.2.2.2.2.1,y.2.2.2.2.1.2.2.2.2.2.2.2.1,(t8 y.2.2.2.2.1).1,(t8 y.2.2.2.2.1).2.1,(t8 y.2.2.2.2.1).2.2.1,⟨(t8 y.2.2.2.2.1).2.2.2.1,(t8 y.2.2.2.2.1).2.2.2.2.1,(t8 y.2.2.2.2.1).2.2.2.2.2.1,(t8 y.2.2.2.2.1).2.2.2.2.2.2.1,(t8 y.2.2.2.2.1).2.2.2.2.2.2.2.1,(t8 (t8 y.2.2.2.2.1)).1⟩⟩:ad.bN) (ka K) (kb K)
def gJ:Hint := { live := [2,4,9,11,17,20,21,23,104,105,106,218,219,220],own := [],rows := [],cells := [],drop := [],out := [2,4,9,11,16,17,20,21,104,105,106] }
abbrev dQ:Type:=(List Int)×Int×Bool×(List Int)×(List ad.bN)×Int×Int×(List ad.State)×Int×Int×ad.bN×ad.State×ad.State×ad.bN
def jC:dQ→St:=fun d=>⟨U 2 (.sl (.int .i64) d.1 .no :: .undef :: .int .i64 d.2.1::U 4 (.ptr 0 0 :: .undef :: .ptr 1 0::U 5 (.bool d.2.2.1::U 2 (.sl (.int .i64) d.2.2.2.1 (.own 2) :: .ptr 3 0 :: .undef :: .ptr 4 0::U 80 (.sl .C8 d.2.2.2.2.1 (.own 5) :: .int .i64 d.2.2.2.2.2.1 :: .int .i64 d.2.2.2.2.2.2.1::U 111 (.sl .state d.2.2.2.2.2.2.2.1 (.own 6) :: .int .i64 d.2.2.2.2.2.2.2.2.1 :: .int .i64 d.2.2.2.2.2.2.2.2.2.1::U 46 ([]))))))), [.cells [.str d.2.2.2.2.2.2.2.2.2.2.1.ae, .int .i64 d.2.2.2.2.2.2.2.2.2.2.1.header, .int .i64 d.2.2.2.2.2.2.2.2.2.2.1.order, .int .i64 d.2.2.2.2.2.2.2.2.2.2.1.update, .int .i64 d.2.2.2.2.2.2.2.2.2.2.1.aX, .int .i64 d.2.2.2.2.2.2.2.2.2.2.1.seen, .sl (.int .i64) d.2.2.2.2.2.2.2.2.2.2.1.path .no, .int .i64 d.2.2.2.2.2.2.2.2.2.2.1.seq, .bool d.2.2.2.2.2.2.2.2.2.2.1.open_, .int .i64 d.2.2.2.2.2.2.2.2.2.2.1.rel, .bool d.2.2.2.2.2.2.2.2.2.2.1.wait, .int .i64 d.2.2.2.2.2.2.2.2.2.2.1.pending.header, .str d.2.2.2.2.2.2.2.2.2.2.1.pending.ae, .int .i64 d.2.2.2.2.2.2.2.2.2.2.1.pending.order, .int .i64 d.2.2.2.2.2.2.2.2.2.2.1.pending.update, .sl .stop d.2.2.2.2.2.2.2.2.2.2.1.pending.nodes .no, .sl .dt d.2.2.2.2.2.2.2.2.2.2.1.pending.af .no], .cells [.int .i64 d.2.2.2.2.2.2.2.2.2.2.2.1.header, .int .i64 d.2.2.2.2.2.2.2.2.2.2.2.1.aX, .str d.2.2.2.2.2.2.2.2.2.2.2.1.ae, .int .i64 d.2.2.2.2.2.2.2.2.2.2.2.1.order, .int .i64 d.2.2.2.2.2.2.2.2.2.2.2.1.update, .bool d.2.2.2.2.2.2.2.2.2.2.2.1.live, .int .i64 d.2.2.2.2.2.2.2.2.2.2.2.1.node, .int .i64 d.2.2.2.2.2.2.2.2.2.2.2.1.seq, .bool d.2.2.2.2.2.2.2.2.2.2.2.1.dW, .int .i64 d.2.2.2.2.2.2.2.2.2.2.2.1.accepted], .tok, .cells [.int .i64 d.2.2.2.2.2.2.2.2.2.2.2.2.1.header, .int .i64 d.2.2.2.2.2.2.2.2.2.2.2.2.1.aX, .str d.2.2.2.2.2.2.2.2.2.2.2.2.1.ae, .int .i64 d.2.2.2.2.2.2.2.2.2.2.2.2.1.order, .int .i64 d.2.2.2.2.2.2.2.2.2.2.2.2.1.update, .bool d.2.2.2.2.2.2.2.2.2.2.2.2.1.live, .int .i64 d.2.2.2.2.2.2.2.2.2.2.2.2.1.node, .int .i64 d.2.2.2.2.2.2.2.2.2.2.2.2.1.seq, .bool d.2.2.2.2.2.2.2.2.2.2.2.2.1.dW, .int .i64 d.2.2.2.2.2.2.2.2.2.2.2.2.1.accepted], .cells [.str d.2.2.2.2.2.2.2.2.2.2.2.2.2.ae, .int .i64 d.2.2.2.2.2.2.2.2.2.2.2.2.2.header, .int .i64 d.2.2.2.2.2.2.2.2.2.2.2.2.2.order, .int .i64 d.2.2.2.2.2.2.2.2.2.2.2.2.2.update, .int .i64 d.2.2.2.2.2.2.2.2.2.2.2.2.2.aX, .int .i64 d.2.2.2.2.2.2.2.2.2.2.2.2.2.seen, .sl (.int .i64) d.2.2.2.2.2.2.2.2.2.2.2.2.2.path .no, .int .i64 d.2.2.2.2.2.2.2.2.2.2.2.2.2.seq, .bool d.2.2.2.2.2.2.2.2.2.2.2.2.2.open_, .int .i64 d.2.2.2.2.2.2.2.2.2.2.2.2.2.rel, .bool d.2.2.2.2.2.2.2.2.2.2.2.2.2.wait, .int .i64 d.2.2.2.2.2.2.2.2.2.2.2.2.2.pending.header, .str d.2.2.2.2.2.2.2.2.2.2.2.2.2.pending.ae, .int .i64 d.2.2.2.2.2.2.2.2.2.2.2.2.2.pending.order, .int .i64 d.2.2.2.2.2.2.2.2.2.2.2.2.2.pending.update, .sl .stop d.2.2.2.2.2.2.2.2.2.2.2.2.2.pending.nodes .no, .sl .dt d.2.2.2.2.2.2.2.2.2.2.2.2.2.pending.af .no], .tok, .tok]⟩
def ke (K:Ex→St→Option R) (q0:List Int) (q1:Int) (q2:Bool) (q3:List Int) (q4:List ad.bN) (q5:Int) (q6:Int) (q7:ad.bN) (q8:ad.State) (q9:ad.State):Option R:=K (.exit 4) ⟨U 2 (.sl (.int .i64) q0 .no :: .undef :: .int .i64 q1::U 4 (.ptr 0 0 :: .undef :: .ptr 1 0::U 5 (.bool q2::U 2 (.sl (.int .i64) q3 (.own 2) :: .ptr 3 0::U 82 (.sl .C8 q4 (.own 4) :: .int .i64 q5 :: .int .i64 q6::U 160 ([])))))), [.cells [.str q7.ae, .int .i64 q7.header, .int .i64 q7.order, .int .i64 q7.update, .int .i64 q7.aX, .int .i64 q7.seen, .sl (.int .i64) q7.path .no, .int .i64 q7.seq, .bool q7.open_, .int .i64 q7.rel, .bool q7.wait, .int .i64 q7.pending.header, .str q7.pending.ae, .int .i64 q7.pending.order, .int .i64 q7.pending.update, .sl .stop q7.pending.nodes .no, .sl .dt q7.pending.af .no], .cells [.int .i64 q8.header, .int .i64 q8.aX, .str q8.ae, .int .i64 q8.order, .int .i64 q8.update, .bool q8.live, .int .i64 q8.node, .int .i64 q8.seq, .bool q8.dW, .int .i64 q8.accepted], .tok, .cells [.int .i64 q9.header, .int .i64 q9.aX, .str q9.ae, .int .i64 q9.order, .int .i64 q9.update, .bool q9.live, .int .i64 q9.node, .int .i64 q9.seq, .bool q9.dW, .int .i64 q9.accepted], .tok]⟩
def kf (K:Ex→St→Option R) (q0:List Int) (q1:Int) (q2:Bool) (q3:Bool) (q4:List Int) (q5:List ad.bN) (q6:Int) (q7:Int) (q8:ad.bN) (q9:ad.State) (vm:ad.State):Option R:=K (.ret) ⟨U 2 (.sl (.int .i64) q0 .no :: .undef :: .int .i64 q1::U 4 (.ptr 0 0 :: .undef :: .ptr 1 0::U 4 (.bool q2 :: .bool q3::U 2 (.sl (.int .i64) q4 (.own 2) :: .ptr 3 0::U 82 (.sl .C8 q5 (.own 4) :: .int .i64 q6 :: .int .i64 q7::U 160 ([])))))), [.cells [.str q8.ae, .int .i64 q8.header, .int .i64 q8.order, .int .i64 q8.update, .int .i64 q8.aX, .int .i64 q8.seen, .sl (.int .i64) q8.path .no, .int .i64 q8.seq, .bool q8.open_, .int .i64 q8.rel, .bool q8.wait, .int .i64 q8.pending.header, .str q8.pending.ae, .int .i64 q8.pending.order, .int .i64 q8.pending.update, .sl .stop q8.pending.nodes .no, .sl .dt q8.pending.af .no], .cells [.int .i64 q9.header, .int .i64 q9.aX, .str q9.ae, .int .i64 q9.order, .int .i64 q9.update, .bool q9.live, .int .i64 q9.node, .int .i64 q9.seq, .bool q9.dW, .int .i64 q9.accepted], .tok, .cells [.int .i64 vm.header, .int .i64 vm.aX, .str vm.ae, .int .i64 vm.order, .int .i64 vm.update, .bool vm.live, .int .i64 vm.node, .int .i64 vm.seq, .bool vm.dW, .int .i64 vm.accepted], .tok]⟩
abbrev fa:List cu:=PU 2 (.leaf (.sl (.int .i64)) :: .leaf (.undef) :: .leaf (.int .i64)::PU 4 (.leaf (.ptr 0 0) :: .leaf (.undef) :: .leaf (.ptr 1 0)::PU 5 (.leaf (.bool)::PU 2 (.leaf (.Li (.int .i64) 2) :: .leaf (.ptr 3 0) :: .leaf (.undef) :: .leaf (.ptr 4 0)::PU 80 (.leaf (.Li .C8 5) :: .leaf (.int .i64) :: .leaf (.int .i64)::PU 111 (.leaf (.Li .state 6) :: .leaf (.int .i64) :: .leaf (.int .i64)::PU 46 ([])))))))
abbrev fb:List aw := [.cells [.str, .int .i64, .int .i64, .int .i64, .int .i64, .int .i64, .sl (.int .i64), .int .i64, .bool, .int .i64, .bool, .int .i64, .str, .int .i64, .int .i64, .sl .stop, .sl .dt], .cells [.int .i64, .int .i64, .str, .int .i64, .int .i64, .bool, .int .i64, .int .i64, .bool, .int .i64], .tok, .cells [.int .i64, .int .i64, .str, .int .i64, .int .i64, .bool, .int .i64, .int .i64, .bool, .int .i64], .cells [.str, .int .i64, .int .i64, .int .i64, .int .i64, .int .i64, .sl (.int .i64), .int .i64, .bool, .int .i64, .bool, .int .i64, .str, .int .i64, .int .i64, .sl .stop, .sl .dt], .tok, .tok]
def qN (x:cu.aQ fa) (y:aw.aQ fb):Nat:=(List.length x.2.2.1+Int.natAbs x.2.2.2.2.1+List.length ((t8 (t8 x)).2.2.2.2.1)+List.length ((t8 (t8 (t8 (t8 (t8 (t8 (t8 (t8 (t8 (t8 (t8 (t8 (t8 x))))))))))))).1)+Int.natAbs ((t8 (t8 (t8 (t8 (t8 (t8 (t8 (t8 (t8 (t8 (t8 (t8 (t8 x))))))))))))).2.1)+Int.natAbs ((t8 (t8 (t8 (t8 (t8 (t8 (t8 (t8 (t8 (t8 (t8 (t8 (t8 x))))))))))))).2.2.1)+List.length ((t8 (t8 (t8 (t8 (t8 (t8 (t8 (t8 (t8 (t8 (t8 (t8 (t8 (t8 (t8 (t8 (t8 (t8 (t8 (t8 (t8 (t8 (t8 (t8 (t8 (t8 (t8 x))))))))))))))))))))))))))).2.2.1)+Int.natAbs ((t8 (t8 (t8 (t8 (t8 (t8 (t8 (t8 (t8 (t8 (t8 (t8 (t8 (t8 (t8 (t8 (t8 (t8 (t8 (t8 (t8 (t8 (t8 (t8 (t8 (t8 (t8 x))))))))))))))))))))))))))).2.2.2.1)+Int.natAbs ((t8 (t8 (t8 (t8 (t8 (t8 (t8 (t8 (t8 (t8 (t8 (t8 (t8 (t8 (t8 (t8 (t8 (t8 (t8 (t8 (t8 (t8 (t8 (t8 (t8 (t8 (t8 x))))))))))))))))))))))))))).2.2.2.2.1)+ad.bN.fu (⟨y.1.1,y.1.2.1,y.1.2.2.1,y.1.2.2.2.1,y.1.2.2.2.2.1,y.1.2.2.2.2.2.1,y.1.2.2.2.2.2.2.1,y.1.2.2.2.2.2.2.2.1,(t8 y.1).1,(t8 y.1).2.1,(t8 y.1).2.2.1,⟨(t8 y.1).2.2.2.1,(t8 y.1).2.2.2.2.1,(t8 y.1).2.2.2.2.2.1,(t8 y.1).2.2.2.2.2.2.1,(t8 y.1).2.2.2.2.2.2.2.1,(t8 (t8 y.1)).1⟩⟩:ad.bN)+ad.State.fu (⟨y.2.1.1,y.2.1.2.1,y.2.1.2.2.1,y.2.1.2.2.2.1,y.2.1.2.2.2.2.1,y.2.1.2.2.2.2.2.1,y.2.1.2.2.2.2.2.2.1,y.2.1.2.2.2.2.2.2.2.1,(t8 y.2.1).1,(t8 y.2.1).2.1⟩:ad.State)+ad.State.fu (⟨y.2.2.2.1.1,y.2.2.2.1.2.1,y.2.2.2.1.2.2.1,y.2.2.2.1.2.2.2.1,y.2.2.2.1.2.2.2.2.1,y.2.2.2.1.2.2.2.2.2.1,y.2.2.2.1.2.2.2.2.2.2.1,y.2.2.2.1.2.2.2.2.2.2.2.1,(t8 y.2.2.2.1).1,(t8 y.2.2.2.1).2.1⟩:ad.State)+ad.bN.fu (⟨y.2.2.2.2.1.1,y.2.2.2.2.1.2.1,y.2.2.2.2.1.2.2.1,y.2.2.2.2.1.2.2.2.1,y.2.2.2.2.1.2.2.2.2.1,y.2.2.2.2.1.2.2.2.2.2.1,y.2.2.2.2.1.2.2.2.2.2.2.1,y.2.2.2.2.1.2.2.2.2.2.2.2.1,(t8 y.2.2.2.2.1).1,(t8 y.2.2.2.2.1).2.1,(t8 y.2.2.2.2.1).2.2.1,⟨(t8 y.2.2.2.2.1).2.2.2.1,(t8 y.2.2.2.2.1).2.2.2.2.1,(t8 y.2.2.2.2.1).2.2.2.2.2.1,(t8 y.2.2.2.2.1).2.2.2.2.2.2.1,(t8 y.2.2.2.2.1).2.2.2.2.2.2.2.1,(t8 (t8 y.2.2.2.2.1)).1⟩⟩:ad.bN)+64)
def Bg (x:cu.aQ fa) (y:aw.aQ fb):dQ:=(x.2.2.1,x.2.2.2.2.1,(t8 (t8 x)).2.1,(t8 (t8 x)).2.2.2.2.1,(t8 (t8 (t8 (t8 (t8 (t8 (t8 (t8 (t8 (t8 (t8 (t8 (t8 x))))))))))))).1,(t8 (t8 (t8 (t8 (t8 (t8 (t8 (t8 (t8 (t8 (t8 (t8 (t8 x))))))))))))).2.1,(t8 (t8 (t8 (t8 (t8 (t8 (t8 (t8 (t8 (t8 (t8 (t8 (t8 x))))))))))))).2.2.1,(t8 (t8 (t8 (t8 (t8 (t8 (t8 (t8 (t8 (t8 (t8 (t8 (t8 (t8 (t8 (t8 (t8 (t8 (t8 (t8 (t8 (t8 (t8 (t8 (t8 (t8 (t8 x))))))))))))))))))))))))))).2.2.1,(t8 (t8 (t8 (t8 (t8 (t8 (t8 (t8 (t8 (t8 (t8 (t8 (t8 (t8 (t8 (t8 (t8 (t8 (t8 (t8 (t8 (t8 (t8 (t8 (t8 (t8 (t8 x))))))))))))))))))))))))))).2.2.2.1,(t8 (t8 (t8 (t8 (t8 (t8 (t8 (t8 (t8 (t8 (t8 (t8 (t8 (t8 (t8 (t8 (t8 (t8 (t8 (t8 (t8 (t8 (t8 (t8 (t8 (t8 (t8 x))))))))))))))))))))))))))).2.2.2.2.1,(⟨y.1.1,y.1.2.1,y.1.2.2.1,y.1.2.2.2.1,y.1.2.2.2.2.1,y.1.2.2.2.2.2.1,y.1.2.2.2.2.2.2.1,y.1.2.2.2.2.2.2.2.1,(t8 y.1).1,(t8 y.1).2.1,(t8 y.1).2.2.1,⟨(t8 y.1).2.2.2.1,(t8 y.1).2.2.2.2.1,(t8 y.1).2.2.2.2.2.1,(t8 y.1).2.2.2.2.2.2.1,(t8 y.1).2.2.2.2.2.2.2.1,(t8 (t8 y.1)).1⟩⟩:ad.bN),(⟨y.2.1.1,y.2.1.2.1,y.2.1.2.2.1,y.2.1.2.2.2.1,y.2.1.2.2.2.2.1,y.2.1.2.2.2.2.2.1,y.2.1.2.2.2.2.2.2.1,y.2.1.2.2.2.2.2.2.2.1,(t8 y.2.1).1,(t8 y.2.1).2.1⟩:ad.State),(⟨y.2.2.2.1.1,y.2.2.2.1.2.1,y.2.2.2.1.2.2.1,y.2.2.2.1.2.2.2.1,y.2.2.2.1.2.2.2.2.1,y.2.2.2.1.2.2.2.2.2.1,y.2.2.2.1.2.2.2.2.2.2.1,y.2.2.2.1.2.2.2.2.2.2.2.1,(t8 y.2.2.2.1).1,(t8 y.2.2.2.1).2.1⟩:ad.State),(⟨y.2.2.2.2.1.1,y.2.2.2.2.1.2.1,y.2.2.2.2.1.2.2.1,y.2.2.2.2.1.2.2.2.1,y.2.2.2.2.1.2.2.2.2.1,y.2.2.2.2.1.2.2.2.2.2.1,y.2.2.2.2.1.2.2.2.2.2.2.1,y.2.2.2.2.1.2.2.2.2.2.2.2.1,(t8 y.2.2.2.2.1).1,(t8 y.2.2.2.2.1).2.1,(t8 y.2.2.2.2.1).2.2.1,⟨(t8 y.2.2.2.2.1).2.2.2.1,(t8 y.2.2.2.2.1).2.2.2.2.1,(t8 y.2.2.2.2.1).2.2.2.2.2.1,(t8 y.2.2.2.2.1).2.2.2.2.2.2.1,(t8 y.2.2.2.2.1).2.2.2.2.2.2.2.1,(t8 (t8 y.2.2.2.2.1)).1⟩⟩:ad.bN))
def pG (L:j9 R):nD R fa fb:=fun x y K=>L (qN x y) x.2.2.1 x.2.2.2.2.1 ((t8 (t8 x)).2.1) ((t8 (t8 x)).2.2.2.2.1) ((t8 (t8 (t8 (t8 (t8 (t8 (t8 (t8 (t8 (t8 (t8 (t8 (t8 x))))))))))))).1) ((t8 (t8 (t8 (t8 (t8 (t8 (t8 (t8 (t8 (t8 (t8 (t8 (t8 x))))))))))))).2.1) ((t8 (t8 (t8 (t8 (t8 (t8 (t8 (t8 (t8 (t8 (t8 (t8 (t8 x))))))))))))).2.2.1) ((t8 (t8 (t8 (t8 (t8 (t8 (t8 (t8 (t8 (t8 (t8 (t8 (t8 (t8 (t8 (t8 (t8 (t8 (t8 (t8 (t8 (t8 (t8 (t8 (t8 (t8 (t8 x))))))))))))))))))))))))))).2.2.1) ((t8 (t8 (t8 (t8 (t8 (t8 (t8 (t8 (t8 (t8 (t8 (t8 (t8 (t8 (t8 (t8 (t8 (t8 (t8 (t8 (t8 (t8 (t8 (t8 (t8 (t8 (t8 x))))))))))))))))))))))))))).2.2.2.1) ((t8 (t8 (t8 (t8 (t8 (t8 (t8 (t8 (t8 (t8 (t8 (t8 (t8 (t8 (t8 (t8 (t8 (t8 (t8 (t8 (t8 (t8 (t8 (t8 (t8 (t8 (t8 x))))))))))))))))))))))))))).2.2.2.2.1) (⟨y.1.1,y.1.2.1,y.1.2.2.1,y.1.2.2.2.1,y.1.2.2.2.2.1,y.1.2.2.2.2.2.1,y.1.2.2.2.2.2.2.1,y.1.2.2.2.2.2.2.2.1,(t8 y.1).1,(t8 y.1).2.1,(t8 y.1).2.2.1,⟨(t8 y.1).2.2.2.1,(t8 y.1).2.2.2.2.1,(t8 y.1).2.2.2.2.2.1,(t8 y.1).2.2.2.2.2.2.1,(t8 y.1).2.2.2.2.2.2.2.1,(t8 (t8 y.1)).1⟩⟩:ad.bN) (⟨y.2.1.1,y.2.1.2.1,y.2.1.2.2.1,y.2.1.2.2.2.1,y.2.1.2.2.2.2.1,y.2.1.2.2.2.2.2.1,y.2.1.2.2.2.2.2.2.1,y.2.1.2.2.2.2.2.2.2.1,(t8 y.2.1).1,(t8 y.2.1).2.1⟩:ad.State) (⟨y.2.2.2.1.1,y.2.2.2.1.2.1,y.2.2.2.1.2.2.1,y.2.2.2.1.2.2.2.1,y.2.2.2.1.2.2.2.2.1,y.2.2.2.1.2.2.2.2.2.1,y.2.2.2.1.2.2.2.2.2.2.1,y.2.2.2.1.2.2.2.2.2.2.2.1,(t8 y.2.2.2.1).1,(t8 y.2.2.2.1).2.1⟩:ad.State) (⟨y.2.2.2.2.1.1,y.2.2.2.2.1.2.1,y.2.2.2.2.1.2.2.1,y.2.2.2.2.1.2.2.2.1,y.2.2.2.2.1.2.2.2.2.1,y.2.2.2.2.1.2.2.2.2.2.1,y.2.2.2.2.1.2.2.2.2.2.2.1,y.2.2.2.2.1.2.2.2.2.2.2.2.1,(t8 y.2.2.2.2.1).1,(t8 y.2.2.2.2.1).2.1,(t8 y.2.2.2.2.1).2.2.1,⟨(t8 y.2.2.2.2.1).2.2.2.1,(t8 y.2.2.2.2.1).2.2.2.2.1,(t8 y.2.2.2.2.1).2.2.2.2.2.1,(t8 y.2.2.2.2.1).2.2.2.2.2.2.1,(t8 y.2.2.2.2.1).2.2.2.2.2.2.2.1,(t8 (t8 y.2.2.2.2.1)).1⟩⟩:ad.bN) (ke K) (kf K)
def ie:Hint := { live := [2,4,9,11,17,20,21,104,105,106],own := [],rows := [],cells := [],drop := [],out := [4,11,16,17] }
abbrev eb:Type:=(List Int)×Int×Bool×(List Int)×(List ad.bN)×Int×Int×ad.bN×ad.State×ad.State
def kg:eb→St:=fun d=>⟨U 2 (.sl (.int .i64) d.1 .no :: .undef :: .int .i64 d.2.1::U 4 (.ptr 0 0 :: .undef :: .ptr 1 0::U 5 (.bool d.2.2.1::U 2 (.sl (.int .i64) d.2.2.2.1 (.own 2) :: .ptr 3 0::U 82 (.sl .C8 d.2.2.2.2.1 (.own 4) :: .int .i64 d.2.2.2.2.2.1 :: .int .i64 d.2.2.2.2.2.2.1::U 160 ([])))))), [.cells [.str d.2.2.2.2.2.2.2.1.ae, .int .i64 d.2.2.2.2.2.2.2.1.header, .int .i64 d.2.2.2.2.2.2.2.1.order, .int .i64 d.2.2.2.2.2.2.2.1.update, .int .i64 d.2.2.2.2.2.2.2.1.aX, .int .i64 d.2.2.2.2.2.2.2.1.seen, .sl (.int .i64) d.2.2.2.2.2.2.2.1.path .no, .int .i64 d.2.2.2.2.2.2.2.1.seq, .bool d.2.2.2.2.2.2.2.1.open_, .int .i64 d.2.2.2.2.2.2.2.1.rel, .bool d.2.2.2.2.2.2.2.1.wait, .int .i64 d.2.2.2.2.2.2.2.1.pending.header, .str d.2.2.2.2.2.2.2.1.pending.ae, .int .i64 d.2.2.2.2.2.2.2.1.pending.order, .int .i64 d.2.2.2.2.2.2.2.1.pending.update, .sl .stop d.2.2.2.2.2.2.2.1.pending.nodes .no, .sl .dt d.2.2.2.2.2.2.2.1.pending.af .no], .cells [.int .i64 d.2.2.2.2.2.2.2.2.1.header, .int .i64 d.2.2.2.2.2.2.2.2.1.aX, .str d.2.2.2.2.2.2.2.2.1.ae, .int .i64 d.2.2.2.2.2.2.2.2.1.order, .int .i64 d.2.2.2.2.2.2.2.2.1.update, .bool d.2.2.2.2.2.2.2.2.1.live, .int .i64 d.2.2.2.2.2.2.2.2.1.node, .int .i64 d.2.2.2.2.2.2.2.2.1.seq, .bool d.2.2.2.2.2.2.2.2.1.dW, .int .i64 d.2.2.2.2.2.2.2.2.1.accepted], .tok, .cells [.int .i64 d.2.2.2.2.2.2.2.2.2.header, .int .i64 d.2.2.2.2.2.2.2.2.2.aX, .str d.2.2.2.2.2.2.2.2.2.ae, .int .i64 d.2.2.2.2.2.2.2.2.2.order, .int .i64 d.2.2.2.2.2.2.2.2.2.update, .bool d.2.2.2.2.2.2.2.2.2.live, .int .i64 d.2.2.2.2.2.2.2.2.2.node, .int .i64 d.2.2.2.2.2.2.2.2.2.seq, .bool d.2.2.2.2.2.2.2.2.2.dW, .int .i64 d.2.2.2.2.2.2.2.2.2.accepted], .tok]⟩
def k5 (K:Ex→St→Option R) (q0:Int) (q1:Bool) (q2:ad.State):Option R:=K (.exit 0) ⟨U 4 (.int .i64 q0::U 6 (.ptr 0 0::U 5 (.bool q1::U 249 ([])))), [.cells [.int .i64 q2.header, .int .i64 q2.aX, .str q2.ae, .int .i64 q2.order, .int .i64 q2.update, .bool q2.live, .int .i64 q2.node, .int .i64 q2.seq, .bool q2.dW, .int .i64 q2.accepted]]⟩
def k6 (K:Ex→St→Option R) (q0:Int) (q1:Bool) (q2:Bool) (q3:ad.State):Option R:=K (.ret) ⟨U 4 (.int .i64 q0::U 6 (.ptr 0 0::U 4 (.bool q1 :: .bool q2::U 249 ([])))), [.cells [.int .i64 q3.header, .int .i64 q3.aX, .str q3.ae, .int .i64 q3.order, .int .i64 q3.update, .bool q3.live, .int .i64 q3.node, .int .i64 q3.seq, .bool q3.dW, .int .i64 q3.accepted]]⟩
abbrev fx:List cu:=PU 2 (.leaf (.sl (.int .i64)) :: .leaf (.undef) :: .leaf (.int .i64)::PU 4 (.leaf (.ptr 0 0) :: .leaf (.undef) :: .leaf (.ptr 1 0)::PU 5 (.leaf (.bool)::PU 2 (.leaf (.Li (.int .i64) 2) :: .leaf (.ptr 3 0)::PU 82 (.leaf (.Li .C8 4) :: .leaf (.int .i64) :: .leaf (.int .i64)::PU 160 ([]))))))
abbrev fy:List aw := [.cells [.str, .int .i64, .int .i64, .int .i64, .int .i64, .int .i64, .sl (.int .i64), .int .i64, .bool, .int .i64, .bool, .int .i64, .str, .int .i64, .int .i64, .sl .stop, .sl .dt], .cells [.int .i64, .int .i64, .str, .int .i64, .int .i64, .bool, .int .i64, .int .i64, .bool, .int .i64], .tok, .cells [.int .i64, .int .i64, .str, .int .i64, .int .i64, .bool, .int .i64, .int .i64, .bool, .int .i64], .tok]
def th (x:cu.aQ fx) (y:aw.aQ fy):Nat:=(List.length x.2.2.1+Int.natAbs x.2.2.2.2.1+List.length ((t8 (t8 x)).2.2.2.2.1)+List.length ((t8 (t8 (t8 (t8 (t8 (t8 (t8 (t8 (t8 (t8 (t8 (t8 (t8 x))))))))))))).1)+Int.natAbs ((t8 (t8 (t8 (t8 (t8 (t8 (t8 (t8 (t8 (t8 (t8 (t8 (t8 x))))))))))))).2.1)+Int.natAbs ((t8 (t8 (t8 (t8 (t8 (t8 (t8 (t8 (t8 (t8 (t8 (t8 (t8 x))))))))))))).2.2.1)+ad.bN.fu (⟨y.1.1,y.1.2.1,y.1.2.2.1,y.1.2.2.2.1,y.1.2.2.2.2.1,y.1.2.2.2.2.2.1,y.1.2.2.2.2.2.2.1,y.1.2.2.2.2.2.2.2.1,(t8 y.1).1,(t8 y.1).2.1,(t8 y.1).2.2.1,⟨(t8 y.1).2.2.2.1,(t8 y.1).2.2.2.2.1,(t8 y.1).2.2.2.2.2.1,(t8 y.1).2.2.2.2.2.2.1,(t8 y.1).2.2.2.2.2.2.2.1,(t8 (t8 y.1)).1⟩⟩:ad.bN)+ad.State.fu (⟨y.2.1.1,y.2.1.2.1,y.2.1.2.2.1,y.2.1.2.2.2.1,y.2.1.2.2.2.2.1,y.2.1.2.2.2.2.2.1,y.2.1.2.2.2.2.2.2.1,y.2.1.2.2.2.2.2.2.2.1,(t8 y.2.1).1,(t8 y.2.1).2.1⟩:ad.State)+ad.State.fu (⟨y.2.2.2.1.1,y.2.2.2.1.2.1,y.2.2.2.1.2.2.1,y.2.2.2.1.2.2.2.1,y.2.2.2.1.2.2.2.2.1,y.2.2.2.1.2.2.2.2.2.1,y.2.2.2.1.2.2.2.2.2.2.1,y.2.2.2.1.2.2.2.2.2.2.2.1,(t8 y.2.2.2.1).1,(t8 y.2.2.2.1).2.1⟩:ad.State)+64)
def C6 (x:cu.aQ fx) (y:aw.aQ fy):eb:=(x.2.2.1,x.2.2.2.2.1,(t8 (t8 x)).2.1,(t8 (t8 x)).2.2.2.2.1,(t8 (t8 (t8 (t8 (t8 (t8 (t8 (t8 (t8 (t8 (t8 (t8 (t8 x))))))))))))).1,(t8 (t8 (t8 (t8 (t8 (t8 (t8 (t8 (t8 (t8 (t8 (t8 (t8 x))))))))))))).2.1,(t8 (t8 (t8 (t8 (t8 (t8 (t8 (t8 (t8 (t8 (t8 (t8 (t8 x))))))))))))).2.2.1,(⟨y.1.1,y.1.2.1,y.1.2.2.1,y.1.2.2.2.1,y.1.2.2.2.2.1,y.1.2.2.2.2.2.1,y.1.2.2.2.2.2.2.1,y.1.2.2.2.2.2.2.2.1,(t8 y.1).1,(t8 y.1).2.1,(t8 y.1).2.2.1,⟨(t8 y.1).2.2.2.1,(t8 y.1).2.2.2.2.1,(t8 y.1).2.2.2.2.2.1,(t8 y.1).2.2.2.2.2.2.1,(t8 y.1).2.2.2.2.2.2.2.1,(t8 (t8 y.1)).1⟩⟩:ad.bN),(⟨y.2.1.1,y.2.1.2.1,y.2.1.2.2.1,y.2.1.2.2.2.1,y.2.1.2.2.2.2.1,y.2.1.2.2.2.2.2.1,y.2.1.2.2.2.2.2.2.1,y.2.1.2.2.2.2.2.2.2.1,(t8 y.2.1).1,(t8 y.2.1).2.1⟩:ad.State),(⟨y.2.2.2.1.1,y.2.2.2.1.2.1,y.2.2.2.1.2.2.1,y.2.2.2.1.2.2.2.1,y.2.2.2.1.2.2.2.2.1,y.2.2.2.1.2.2.2.2.2.1,y.2.2.2.1.2.2.2.2.2.2.1,y.2.2.2.1.2.2.2.2.2.2.2.1,(t8 y.2.2.2.1).1,(t8 y.2.2.2.1).2.1⟩:ad.State))
def qO (L:kZ R):nD R fx fy:=fun x y K=>L (th x y) x.2.2.1 x.2.2.2.2.1 ((t8 (t8 x)).2.1) ((t8 (t8 x)).2.2.2.2.1) ((t8 (t8 (t8 (t8 (t8 (t8 (t8 (t8 (t8 (t8 (t8 (t8 (t8 x))))))))))))).1) ((t8 (t8 (t8 (t8 (t8 (t8 (t8 (t8 (t8 (t8 (t8 (t8 (t8 x))))))))))))).2.1) ((t8 (t8 (t8 (t8 (t8 (t8 (t8 (t8 (t8 (t8 (t8 (t8 (t8 x))))))))))))).2.2.1) (⟨y.1.1,y.1.2.1,y.1.2.2.1,y.1.2.2.2.1,y.1.2.2.2.2.1,y.1.2.2.2.2.2.1,y.1.2.2.2.2.2.2.1,y.1.2.2.2.2.2.2.2.1,(t8 y.1).1,(t8 y.1).2.1,(t8 y.1).2.2.1,⟨(t8 y.1).2.2.2.1,(t8 y.1).2.2.2.2.1,(t8 y.1).2.2.2.2.2.1,(t8 y.1).2.2.2.2.2.2.1,(t8 y.1).2.2.2.2.2.2.2.1,(t8 (t8 y.1)).1⟩⟩:ad.bN) (⟨y.2.1.1,y.2.1.2.1,y.2.1.2.2.1,y.2.1.2.2.2.1,y.2.1.2.2.2.2.1,y.2.1.2.2.2.2.2.1,y.2.1.2.2.2.2.2.2.1,y.2.1.2.2.2.2.2.2.2.1,(t8 y.2.1).1,(t8 y.2.1).2.1⟩:ad.State) (⟨y.2.2.2.1.1,y.2.2.2.1.2.1,y.2.2.2.1.2.2.1,y.2.2.2.1.2.2.2.1,y.2.2.2.1.2.2.2.2.1,y.2.2.2.1.2.2.2.2.2.1,y.2.2.2.1.2.2.2.2.2.2.1,y.2.2.2.1.2.2.2.2.2.2.2.1,(t8 y.2.2.2.1).1,(t8 y.2.2.2.1).2.1⟩:ad.State) (k5 K) (k6 K)
section
variable (bG:m6 R) (aM:lT R) (bB:pr R) (bn:pd R) (cq:uR R) (bT:sd R) (db:vW R) (bp:pz R) (dc:vY R) (cx:sA R) (av:pE R) (aT:lV R) (cJ:tg R) (bI:pA R) (cA:uS R) (cg:uL R) (aU:uN R) (cQ:wc R) (aj:j8 R) (ak:j9 R) (aq:kZ R)
def cL:List (xm R) := [(21,true,(yD bG aL)),(12,true,(vQ aM aL)),(15,true,(BX bB aL)),(9,true,(BO bn aL)),(14,true,(Ir cq aL)),(18,true,(Es bT aL)),(6,true,(Kd db aL)),(20,true,(Cj bp aL)),(7,true,(Kg dc aL)),(5,true,(F6 cx aL)),(8,true,(CR av aL)),(17,true,(vS aT aL)),(22,true,(Gt cJ aL)),(13,true,(Cp bI aL)),(16,true,(Iv cA aL)),(10,true,(HX cg aL)),(11,true,(H2 aU aL)),(19,true,(Kq cQ aL))]
def gK (bS:(List Int)→Int→Bool→(List Int)→(List ad.bN)→Int→Int→(List Int)→Int→Int→ad.bN→ad.State→ad.State→ad.bN→Option R) (Tp:List Int) (R5:Int) (YF:Bool) (x46:List Int) (x47:List ad.bN) (x48:Int) (x49:Int) (x50:List Int) (x51:Int) (x52:Int) (x53:ad.bN) (x54:ad.State) (x55:ad.State) (x56:ad.bN) (e0:(List Int)→Int→Bool→(List Int)→(List ad.bN)→Int→Int→ad.bN→ad.State→ad.State→ad.bN→Option R) (e1:(List Int)→Int→Bool→Bool→(List Int)→(List ad.bN)→Int→Int→ad.bN→ad.State→ad.State→ad.bN→Option R):Option R :=
 bif (decide (x52<x51))then (cC (decide ((0:Int)≤x52)&&decide (x52<x50.length)) (bB x56 (x50.getD x52.toNat (Ty.aC (.int .i64))) (fun y57 y58 y59=>cA x56 (x50.getD x52.toNat (Ty.aC (.int .i64))) (fun y60 y61 y62=>aU y57 y60 (fun y63=>bif (!y63)then (e1 Tp R5 false YF x46 x47 x48 x49 x53 x54 x55 x56)else (aT y58 y61 (fun y64=>bif (!y64)then (e1 Tp R5 false YF x46 x47 x48 x49 x53 x54 x55 x56)else (bif (!(y59==y62))then (e1 Tp R5 false YF x46 x47 x48 x49 x53 x54 x55 x56)else (bS Tp R5 YF x46 x47 x48 x49 x50 x51 (IntKind.i64.wrap (x52+1)) x53 x54 x55 x56)))))))))else (e0 Tp R5 YF x46 x47 x48 x49 x53 x54 x55 x56)
def qP (K:Ex→St→Option R) (rc:dP→Option R) (d:dP):Option R:=gK bB aT cA aU (fun z0 z1 z2 z3 z4 z5 z6 z7 z8 z9 ME KD z12 NQ=>rc (z0,z1,z2,z3,z4,z5,z6,z7,z8,z9,ME,KD,z12,NQ)) d.1 d.2.1 d.2.2.1 d.2.2.2.1 d.2.2.2.2.1 d.2.2.2.2.2.1 d.2.2.2.2.2.2.1 d.2.2.2.2.2.2.2.1 d.2.2.2.2.2.2.2.2.1 d.2.2.2.2.2.2.2.2.2.1 d.2.2.2.2.2.2.2.2.2.2.1 d.2.2.2.2.2.2.2.2.2.2.2.1 d.2.2.2.2.2.2.2.2.2.2.2.2.1 d.2.2.2.2.2.2.2.2.2.2.2.2.2 (ka K) (kb K)
def gL (bS:(List Int)→Int→Bool→(List Int)→(List ad.bN)→Int→Int→(List ad.State)→Int→Int→ad.bN→ad.State→ad.State→ad.bN→Option R) (Qk:List Int) (YZ:Int) (Zt:Bool) (Zu:List Int) (Zv:List ad.bN) (Zw:Int) (Zx:Int) (x96:List ad.State) (x97:Int) (Y0:Int) (Zy:ad.bN) (Og:ad.State) (Oh:ad.State) (RZ:ad.bN) (e0:(List Int)→Int→Bool→(List Int)→(List ad.bN)→Int→Int→ad.bN→ad.State→ad.State→Option R) (e1:(List Int)→Int→Bool→Bool→(List Int)→(List ad.bN)→Int→Int→ad.bN→ad.State→ad.State→Option R):Option R :=
 bif (decide (Y0<x97))then (cC (decide ((0:Int)≤Y0)&&decide (Y0<x96.length)) (bT RZ (x96.getD Y0.toNat (Ty.aC .state)) (fun y103 y104 y105=>cQ RZ (x96.getD Y0.toNat (Ty.aC .state)) (fun YB YC y108=>aU y103 YB (fun VW=>bif (!VW)then (e1 Qk YZ false Zt Zu Zv Zw Zx Zy Og Oh)else (bp y104 YC (fun YD=>bif (!YD)then (e1 Qk YZ false Zt Zu Zv Zw Zx Zy Og Oh)else (bif (!(y105==y108))then (e1 Qk YZ false Zt Zu Zv Zw Zx Zy Og Oh)else (bS Qk YZ Zt Zu Zv Zw Zx x96 x97 (IntKind.i64.wrap (Y0+1)) Zy Og Oh RZ)))))))))else (e0 Qk YZ Zt Zu Zv Zw Zx Zy Og Oh)
def qQ (K:Ex→St→Option R) (rc:dQ→Option R) (d:dQ):Option R:=gL bT bp aU cQ (fun z0 z1 z2 z3 z4 z5 z6 z7 z8 z9 ME KD z12 NQ=>rc (z0,z1,z2,z3,z4,z5,z6,z7,z8,z9,ME,KD,z12,NQ)) d.1 d.2.1 d.2.2.1 d.2.2.2.1 d.2.2.2.2.1 d.2.2.2.2.2.1 d.2.2.2.2.2.2.1 d.2.2.2.2.2.2.2.1 d.2.2.2.2.2.2.2.2.1 d.2.2.2.2.2.2.2.2.2.1 d.2.2.2.2.2.2.2.2.2.2.1 d.2.2.2.2.2.2.2.2.2.2.2.1 d.2.2.2.2.2.2.2.2.2.2.2.2.1 d.2.2.2.2.2.2.2.2.2.2.2.2.2 (ke K) (kf K)
def ig (bS:(List Int)→Int→Bool→(List Int)→(List ad.bN)→Int→Int→ad.bN→ad.State→ad.State→Option R) (Fl:List Int) (DJ:Int) (Dg:Bool) (uc:List Int) (uf:List ad.bN) (P2:Int) (Jo:Int) (Up:ad.bN) (O0:ad.State) (Wn:ad.State) (e0:Int→Bool→ad.State→Option R) (e1:Int→Bool→Bool→ad.State→Option R):Option R :=
 bif (decide (Jo<P2))then (cC (decide ((0:Int)≤Jo)&&decide (Jo<uf.length)) (bn (uf.getD Jo.toNat (Ty.aC .C8)) Fl (fun Nw Fp=>cg (uf.getD Jo.toNat (Ty.aC .C8)) Fl (fun Qn y29=>bn (uf.getD Jo.toNat (Ty.aC .C8)) uc (fun Wm Yf=>cg (uf.getD Jo.toNat (Ty.aC .C8)) uc (fun y32 y33=>aU Nw Qn (fun y34=>bif (!y34)then (e1 DJ false Dg O0)else (bif (!(Fp==y29))then (e1 DJ false Dg O0)else (aU Wm y32 (fun y35=>bif (!y35)then (e1 DJ false Dg O0)else (bif (!(Yf==y33))then (e1 DJ false Dg O0)else (aM (uf.getD Jo.toNat (Ty.aC .C8)) (fun y36=>bI (uf.getD Jo.toNat (Ty.aC .C8)) (fun y37=>bif (!(y36==y37))then (e1 DJ false Dg O0)else (cq (uf.getD Jo.toNat (Ty.aC .C8)) Up (fun y38=>aU (uf.getD Jo.toNat (Ty.aC .C8)) Up (fun y39=>bif (!(y38==y39))then (e1 DJ false Dg O0)else (cq (uf.getD Jo.toNat (Ty.aC .C8)) (uf.getD Jo.toNat (Ty.aC .C8)) (fun y40=>bif (!y40)then (e1 DJ false Dg O0)else (av DJ 4 (fun y42=>aj (List.length Fl+Int.natAbs DJ+List.length uc+List.length uf+Int.natAbs P2+Int.natAbs Jo+List.length ([DJ,0,(IntKind.i64.wrap (1+y42))]:List Int)+Int.natAbs 3+Int.natAbs 0+ad.bN.fu Up+ad.State.fu O0+ad.State.fu Wn+ad.bN.fu (uf.getD Jo.toNat (Ty.aC .C8))+64) Fl DJ Dg uc uf P2 Jo ([DJ,0,(IntKind.i64.wrap (1+y42))]:List Int) 3 0 Up O0 Wn (uf.getD Jo.toNat (Ty.aC .C8)) (fun y66 y67 y68 y69 y70 y71 y72 y73 y74 y75 y76=>ak (List.length y66+Int.natAbs y67+List.length y69+List.length y70+Int.natAbs y71+Int.natAbs y72+List.length ([y74,y75]:List ad.State)+Int.natAbs 2+Int.natAbs 0+ad.bN.fu y73+ad.State.fu y74+ad.State.fu y75+ad.bN.fu y76+64) y66 y67 y68 y69 y70 y71 y72 ([y74,y75]:List ad.State) 2 0 y73 y74 y75 y76 (fun Tn y113 y114 y115 y116 y117 y118 y119 y120 y121=>bS Tn y113 y114 y115 y116 y117 (IntKind.i64.wrap (y118+1)) y119 y120 y121) (fun y122 y123 y124 VX YE y127 y128 y129 y130 y131 y132=>e1 y123 y124 VX y131)) (fun y77 y78 y79 y80 y81 y82 y83 y84 y85 y86 y87 y88=>e1 y78 y79 y80 y86))))))))))))))))))))))else (e0 DJ Dg O0)
def ti (K:Ex→St→Option R) (rc:eb→Option R) (d:eb):Option R:=ig aM bn cq av bI cg aU aj ak (fun z0 z1 z2 z3 z4 z5 z6 z7 z8 z9=>rc (z0,z1,z2,z3,z4,z5,z6,z7,z8,z9)) d.1 d.2.1 d.2.2.1 d.2.2.2.1 d.2.2.2.2.1 d.2.2.2.2.2.1 d.2.2.2.2.2.2.1 d.2.2.2.2.2.2.2.1 d.2.2.2.2.2.2.2.2.1 d.2.2.2.2.2.2.2.2.2 (k5 K) (k6 K)
def cY:Nat→Option (Hint×bO R):=fun i=>match i with
 | 7=>some (ie,(bF fx fy (qO aq) dZ))
 | 16=>some (gI,(bF e7 e9 (pF aj) dZ))
 | 24=>some (gJ,(bF fa fb (pG ak) dZ))
 | _=>none
theorem xk (K:Ex→St→Option R) (rc:St→Option R) (d:dP):roundOf tt (bQ (cL bG aM bB bn cq bT db bp dc cx av aT cJ bI cA cg aU cQ)) (cY aj ak aq) 0 ((ah (ar Tryd.f3)).getD 1 .skip) gI (jB d) rc K=qP bB aT cA aU K (fun d=>rc (jB d)) d:=by kernel_rfl
theorem xl (K:Ex→St→Option R) (rc:St→Option R) (d:dQ):roundOf tt (bQ (cL bG aM bB bn cq bT db bp dc cx av aT cJ bI cA cg aU cQ)) (cY aj ak aq) 0 ((ah (ar Tryd.f3)).getD 2 .skip) gJ (jC d) rc K=qQ bT bp aU cQ K (fun d=>rc (jC d)) d:=by kernel_rfl
theorem xF (K:Ex→St→Option R) (rc:St→Option R) (d:eb):roundOf tt (bQ (cL bG aM bB bn cq bT db bp dc cx av aT cJ bI cA cg aU cQ)) (cY aj ak aq) 0 ((ah (ar Tryd.f3)).getD 0 .skip) ie (kg d) rc K=ti aM bn cq av bI cg aU aj ak K (fun d=>rc (kg d)) d:=by kernel_rfl
def qw (x1:ad.bN) (x2:ad.bN) (x3:List Int) (x4:ad.State) (x5:Int) (x6:Int) (x7:List oD) (x8:kh) (k0:Bool→Option R):Option R :=
 cx (fun y9=>db x6 x7 (fun vD=>dc vD x1 x8 (fun uJ=>cC (decide ((0:Int)<uJ.path.length)) (cC (decide ((1:Int)≤uJ.path.length)) (cC (decide ((1+(uJ.path.drop 1).length)*8≤140737488355328)) (av x4.header 2 (fun pH=>av x4.node vD.nodes (fun IL=>av x4.seq 5 (fun Bk=>av x4.accepted 3 (fun Kb=>aq (List.length x3+Int.natAbs x5+List.length ((([(uJ.path.getD 0 (Ty.aC (.int .i64)))]:List Int):List Int)++((uJ.path.drop 1):List Int))+List.length ([x1,uJ]:List ad.bN)+Int.natAbs 2+Int.natAbs 0+ad.bN.fu x2+ad.State.fu x4+ad.State.fu (⟨(IntKind.i64.wrap ((IntKind.i64.wrap (uJ.seen+1))+pH)),uJ.aX,([118]:aA),uJ.order,uJ.update,x4.live,IL,(IntKind.i64.wrap (uJ.seq+(IntKind.i64.wrap (2*Bk)))),false,(IntKind.i64.wrap ((IntKind.i64.wrap (uJ.pending.header - 1))+Kb))⟩:ad.State)+64) x3 x5 y9 ((([(uJ.path.getD 0 (Ty.aC (.int .i64)))]:List Int):List Int)++((uJ.path.drop 1):List Int)) ([x1,uJ]:List ad.bN) 2 0 x2 x4 (⟨(IntKind.i64.wrap ((IntKind.i64.wrap (uJ.seen+1))+pH)),uJ.aX,([118]:aA),uJ.order,uJ.update,x4.live,IL,(IntKind.i64.wrap (uJ.seq+(IntKind.i64.wrap (2*Bk)))),false,(IntKind.i64.wrap ((IntKind.i64.wrap (uJ.pending.header - 1))+Kb))⟩:ad.State) (fun y133 y134 y135=>bif y134 then (bG y135.ae y133 (fun y140=>cJ y135.ae y133 (fun y141=>aU y140 y141 (fun y142=>k0 y142))))else (k0 false)) (fun y136 y137 y138 y139=>k0 y137)))))))))))
theorem FF:dT (R:=R) tt (cL bG aM bB bn cq bT db bp dc cx av aT cJ bI cA cg aU cQ) (cY aj ak aq) false Tryd.f3 lB lC (o5 (qw bG db dc cx av cJ aU aq)):=fun x y k=>by kernel_rfl
end
theorem E1:dG (R:=R) Tryd.prog (cL (R:=R) bG aM bB bn cq bT db bp dc cx av aT cJ bI cA cg aU cQ) := .c (Ah R) <| .c (vh R) <| .c (Dh R) <| .c (Df R) <| .c (KY R) <| .c (Eu R) <| .c (M4 R) <| .c (Dj R) <| .c (Na R) <| .c (Ju R) <| .c (Dv R) <| .c (vq R) <| .c (JO R) <| .c (Dl R) <| .c (KZ R) <| .c (KM R) <| .c (KO R) <| .c (Nr R) <| .n
def aj:j8 R
 | 0,_,_,_,_,_,_,_,_,_,_,_,_,_,_,_,_=>none
 | n+1,eE,eF,eR,jZ,ug,vi,yY,yZ,Eg,GV,uh,ui,uj,uk,e0,e1=>gK bB aT cA aU (fun eE eF eR jZ ug vi yY yZ Eg GV uh ui uj uk=>aj n eE eF eR jZ ug vi yY yZ Eg GV uh ui uj uk e0 e1) eE eF eR jZ ug vi yY yZ Eg GV uh ui uj uk e0 e1
def qR (K:Ex→St→Option R) (n:Nat) (d:dP):Option R:=aj n d.1 d.2.1 d.2.2.1 d.2.2.2.1 d.2.2.2.2.1 d.2.2.2.2.2.1 d.2.2.2.2.2.2.1 d.2.2.2.2.2.2.2.1 d.2.2.2.2.2.2.2.2.1 d.2.2.2.2.2.2.2.2.2.1 d.2.2.2.2.2.2.2.2.2.2.1 d.2.2.2.2.2.2.2.2.2.2.2.1 d.2.2.2.2.2.2.2.2.2.2.2.2.1 d.2.2.2.2.2.2.2.2.2.2.2.2.2 (ka K) (kb K)
def ak:j9 R
 | 0,_,_,_,_,_,_,_,_,_,_,_,_,_,_,_,_=>none
 | n+1,eE,eF,eR,jZ,ug,vi,yY,yZ,Eg,GV,uh,ui,uj,uk,e0,e1=>gL bT bp aU cQ (fun eE eF eR jZ ug vi yY yZ Eg GV uh ui uj uk=>ak n eE eF eR jZ ug vi yY yZ Eg GV uh ui uj uk e0 e1) eE eF eR jZ ug vi yY yZ Eg GV uh ui uj uk e0 e1
def qS (K:Ex→St→Option R) (n:Nat) (d:dQ):Option R:=ak n d.1 d.2.1 d.2.2.1 d.2.2.2.1 d.2.2.2.2.1 d.2.2.2.2.2.1 d.2.2.2.2.2.2.1 d.2.2.2.2.2.2.2.1 d.2.2.2.2.2.2.2.2.1 d.2.2.2.2.2.2.2.2.2.1 d.2.2.2.2.2.2.2.2.2.2.1 d.2.2.2.2.2.2.2.2.2.2.2.1 d.2.2.2.2.2.2.2.2.2.2.2.2.1 d.2.2.2.2.2.2.2.2.2.2.2.2.2 (ke K) (kf K)
def aq:kZ R
 | 0,_,_,_,_,_,_,_,_,_,_,_,_=>none
 | n+1,eE,eF,eR,jZ,ug,vi,yY,yZ,Eg,GV,e0,e1=>ig aM bn cq av bI cg aU aj ak (fun eE eF eR jZ ug vi yY yZ Eg GV=>aq n eE eF eR jZ ug vi yY yZ Eg GV e0 e1) eE eF eR jZ ug vi yY yZ Eg GV e0 e1
def tj (K:Ex→St→Option R) (n:Nat) (d:eb):Option R:=aq n d.1 d.2.1 d.2.2.1 d.2.2.2.1 d.2.2.2.2.1 d.2.2.2.2.2.1 d.2.2.2.2.2.2.1 d.2.2.2.2.2.2.2.1 d.2.2.2.2.2.2.2.2.1 d.2.2.2.2.2.2.2.2.2 (k5 K) (k6 K)
theorem zP (other:bO R) (ho:dK tt (bQ (cL (R:=R) bG aM bB bn cq bT db bp dc cx av aT cJ bI cA cg aU cQ)) (cY (R:=R) aj ak aq) 0 ((ah (ar Tryd.f3)).getD 1 .skip) gI other):dK tt (bQ (cL (R:=R) bG aM bB bn cq bT db bp dc cx av aT cJ bI cA cg aU cQ)) (cY (R:=R) aj ak aq) 0 ((ah (ar Tryd.f3)).getD 1 .skip) gI (bF e7 e9 (pF (aj)) other) :=
 bM (A:=qR) ho (cI jB (qP bB aT cA aU) (qR) (fun _ _=>by kernel_rfl) (xk bG aM bB bn cq bT db bp dc cx av aT cJ bI cA cg aU cQ aj ak aq) (fun _ _ _=>by kernel_rfl)) qM Bf (fun _ _=>by kernel_rfl) (fun _ _ _=>by kernel_rfl)
theorem zQ (other:bO R) (ho:dK tt (bQ (cL (R:=R) bG aM bB bn cq bT db bp dc cx av aT cJ bI cA cg aU cQ)) (cY (R:=R) aj ak aq) 0 ((ah (ar Tryd.f3)).getD 2 .skip) gJ other):dK tt (bQ (cL (R:=R) bG aM bB bn cq bT db bp dc cx av aT cJ bI cA cg aU cQ)) (cY (R:=R) aj ak aq) 0 ((ah (ar Tryd.f3)).getD 2 .skip) gJ (bF fa fb (pG (ak)) other) :=
 bM (A:=qS) ho (cI jC (qQ bT bp aU cQ) (qS) (fun _ _=>by kernel_rfl) (xl bG aM bB bn cq bT db bp dc cx av aT cJ bI cA cg aU cQ aj ak aq) (fun _ _ _=>by kernel_rfl)) qN Bg (fun _ _=>by kernel_rfl) (fun _ _ _=>by kernel_rfl)
theorem Bh (other:bO R) (ho:dK tt (bQ (cL (R:=R) bG aM bB bn cq bT db bp dc cx av aT cJ bI cA cg aU cQ)) (cY (R:=R) aj ak aq) 0 ((ah (ar Tryd.f3)).getD 0 .skip) ie other):dK tt (bQ (cL (R:=R) bG aM bB bn cq bT db bp dc cx av aT cJ bI cA cg aU cQ)) (cY (R:=R) aj ak aq) 0 ((ah (ar Tryd.f3)).getD 0 .skip) ie (bF fx fy (qO (aq)) other) :=
 bM (A:=tj) ho (cI kg (ti aM bn cq av bI cg aU aj ak) (tj) (fun _ _=>by kernel_rfl) (xF bG aM bB bn cq bT db bp dc cx av aT cJ bI cA cg aU cQ aj ak aq) (fun _ _ _=>by kernel_rfl)) th C6 (fun _ _=>by kernel_rfl) (fun _ _ _=>by kernel_rfl)
def k7:o4 R:=fun x1 x2 x3 x4 x5 x6 x7 x8 k0=>qw bG db dc cx av cJ aU aq x1 x2 x3 x4 x5 x6 x7 x8 k0
theorem C7 (R:Type):∀a∈ah (ar Tryd.f3),dY tt (bQ (cL (R:=R) bG aM bB bn cq bT db bp dc cx av aT cJ bI cA cg aU cQ)) (cY (R:=R) aj ak aq) 0 a:=by
 refine dx 3 (by kernel_rfl) fun i hi => ?_
 match i,hi with
 | 0,_=>exact bw (by kernel_rfl) (Bh _ cj)
 | 1,_=>exact bw (by kernel_rfl) (zP _ cj)
 | 2,_=>exact bw (by kernel_rfl) (zQ _ cj)
 | n+3,hi=>omega
theorem DI (R:Type):mW Tryd.prog 3 (G8 (k7 (R:=R))):=bL TT mixed (E1 (R:=R)) rfl rfl rfl rfl (C7 R) (FF bG aM bB bn cq bT db bp dc cx av aT cJ bI cA cg aU cQ aj ak aq)

end Go.Proofs.YtolnaonmpohciaaDoor

set_option maxRecDepth 100000
namespace Go.Proofs.YtolnaonmpohciaaDoor
open Go Go.ad Go.Lib

def Kr (c:bD) (l:List Int):bD×Bool:=bif IF c l then (Kp c l,true)else (c,false)
theorem Ks {c:bD} (h:dm c) {l:List Int} (hl:l.length≤1099511627776):dm (Kr c l).1:=by
 unfold Kr
 cases IF c l
 ·exact h
 ·exact RU h hl
theorem R1 {R:Type} (c:bD) (h:dm c) (l:List Int) (hl:l.length≤1099511627776) (k:bD→Bool→Option R):bn c l k=k (Kr c l).1 (Kr c l).2:=by
 rw[Uy c h l hl]
 unfold Kr
 cases IF c l <;> rfl
theorem O7 {R:Type} (c:bD) (h:dm c) (l:List Int) (hl:l.length≤1099511627776) (k:bD→Bool→Option R):cg c l k=k (Kr c l).1 (Kr c l).2:=by
 rw[YW c h l hl]
 unfold Kr
 cases IF c l <;> rfl
theorem E2 {c:bD} (h:dm c) (w:Int):dm (A8 c w).1∧mE (A8 c w).2.1:=by
 have h1:=nr ⟨IntKind.i64.wrap (c.header+1),c.ae,IntKind.i64.wrap (c.order+1),0, [], []⟩ h.name c.path 0 (IntKind.i64.wrap (min (jy c w) 63+1))
 have h2:=nr ⟨IntKind.i64.wrap (c.header+1),c.ae,c.order,IntKind.i64.wrap (c.update+1), [], []⟩ h.name (c.path.drop (IntKind.i64.wrap (2*c.rel)).toNat) (IntKind.i64.wrap (c.seq+IntKind.i64.wrap (2*c.rel))) (IntKind.i64.wrap (IntKind.i64.wrap (min (jy c w) (IntKind.i64.wrap (c.rel+63)) - c.rel)+1))
 have hz:=EU
 have g1:∀o,mE o→dm (C5 c (jy c w) o):=fun o ho=>⟨h.path,h.name,ho⟩
 have g2:∀o,mE o→dm (IG c (jy c w) o):=fun o ho=>⟨h.path,h.name,ho⟩
 have h1':mE (eS c (jy c w)).1:=h1
 have TU:mE (iu c (jy c w)).1:=h2
 have hp:=h.Iz
 unfold A8
 generalize (!vz c)=b1
 generalize c.wait=b2
 generalize (!c.open_&&(decide (nt c>0)&&(!decide (c.header≥1000000000)&&decide (c.order<1000000000))))=b3
 generalize (c.open_&&(decide (c.rel<jy c w)&&(!decide (c.header≥1000000000)&&decide (c.update<1000000000))))=b4
 generalize (eS c (jy c w)).2=b5
 generalize (iu c (jy c w)).2=b6
 cases b1 with
 | true=>exact ⟨h,hz⟩
 | false =>
 cases b2 with
 | true=>exact ⟨h,hp⟩
 | false =>
 cases b3 with
 | true =>
  cases b5 with
  | true=>exact ⟨g1 _ h1',h1'⟩
  | false=>exact ⟨h,hz⟩
 | false =>
 cases b4 with
 | true =>
  cases b6 with
  | true=>exact ⟨g2 _ TU,TU⟩
  | false=>exact ⟨h,hz⟩
 | false=>exact ⟨h,hz⟩
def Nt (c:bD) (s:cv):bD×List Int×Bool:=bif Qi c s then (ID c s,Ko c s,true)else (c, [],false)
theorem Nu {c:bD} (h:dm c) (s:cv):dm (Nt c s).1∧(Nt c s).2.1.length≤1099511627776:=by
 have h1:=RX h s
 have h2:(Ko c s).length≤1099511627776:=by
  unfold Ko
  cases (s.order==0||s.order != c.order)
  ·cases Nq c s
   ·exact Nat.zero_le _
   ·have:=JK (c.path.drop (A6 c s).toNat) (c.path.take (A6 c s).toNat) []
    rw[List.length_take]at this
    have hp:=h.path
    have h0:([]:List Int).length=0:=rfl
    show (u6 (c.path.drop (A6 c s).toNat) [] (c.path.take (A6 c s).toNat)).length≤_
    omega
  ·exact Nat.zero_le _
 unfold Nt
 cases Qi c s
 ·exact ⟨h,Nat.zero_le _⟩
 ·exact ⟨h1,h2⟩
theorem seeR_ok {R:Type} (c:bD) (s:cv) (h:dm c) (k:bD→List Int→Bool→Option R):bT c s k=k (Nt c s).1 (Nt c s).2.1 (Nt c s).2.2:=by
 rw[YV c s h]
 unfold Nt
 cases Qi c s <;> rfl
theorem Y1 {R:Type} (c:bD) (s:cv) (h:dm c) (hq:i64 c.seq) (hv:s.ae.length≤1099511627776) (k:bD→List Int→Bool→Option R):cQ c s k=k (Nt c s).1 (Nt c s).2.1 (Nt c s).2.2:=by
 rw[rsee_ok c s h hq hv]
 unfold Nt
 cases Qi c s <;> rfl

theorem tells16 {R:Type} (c:bD) (hc:dm c) (Oj:List Int) (hwins:Oj.length≤1099511627776) (x1:List Int) (x2:Int) (x3:Bool) (x4:List Int) (x5:List bD) (x6 x7:Int) (o:bD) (s t:cv)
  (e0:List Int→Int→Bool→List Int→List bD→Int→Int→bD→cv→cv→bD→Option R) (e1:List Int→Int→Bool→Bool→List Int→List bD→Int→Int→bD→cv→cv→bD→Option R):∀(F i:Nat),i≤Oj.length→Oj.length - i<F →
  aj F x1 x2 x3 x4 x5 x6 x7 Oj (Oj.length:Int) (i:Int) o s t c e0 e1=e0 x1 x2 x3 x4 x5 x6 x7 o s t c:=by
 intro F
 induction F with
 | zero=>intro i _ hF; omega
 | succ F ih =>
  intro i hi hF
  show gK bB aT cA aU (fun a b d g h j l m n p q r u v=>aj F a b d g h j l m n p q r u v e0 e1) x1 x2 x3 x4 x5 x6 x7 Oj (Oj.length:Int) (i:Int) o s t c e0 e1=_
  unfold gK
  by_cases h:i<Oj.length
  ·have ct:∀a:Option R,cC true a=a:=fun _=>rfl
   rw[cD h]
   simp only[ct]
   rw[au (show (i:Int)<(Oj.length:Int) by omega),cond_true,RW c hc,V6 c hc,wk _ _ (E2 hc _).1,uC,Bool.not_true,cond_false,Nk _ _ (E2 hc _).2.nodes (E2 hc _).2.af,Nj,Bool.not_true,cond_false,beq_self_eq_true,Bool.not_true,cond_false,dU h (by omega)]
   exact ih (i+1) (by omega) (by omega)
  ·rw[az (show ¬(i:Int)<(Oj.length:Int) by omega),cond_false]
theorem tells24 {R:Type} (c:bD) (hc:dm c) (hq:i64 c.seq) (ss:List cv) (hss:ss.length≤1099511627776) (hv:∀s∈ss,s.ae.length≤1099511627776) (x1:List Int) (x2:Int) (x3:Bool) (x4:List Int) (x5:List bD) (x6 x7:Int) (o:bD) (s t:cv)
  (e0:List Int→Int→Bool→List Int→List bD→Int→Int→bD→cv→cv→Option R) (e1:List Int→Int→Bool→Bool→List Int→List bD→Int→Int→bD→cv→cv→Option R):∀(F i:Nat),i≤ss.length→ss.length - i<F →
  ak F x1 x2 x3 x4 x5 x6 x7 ss (ss.length:Int) (i:Int) o s t c e0 e1=e0 x1 x2 x3 x4 x5 x6 x7 o s t:=by
 intro F
 induction F with
 | zero=>intro i _ hF; omega
 | succ F ih =>
  intro i hi hF
  show gL bT bp aU cQ (fun a b d g h j l m n p q r u v=>ak F a b d g h j l m n p q r u v e0 e1) x1 x2 x3 x4 x5 x6 x7 ss (ss.length:Int) (i:Int) o s t c e0 e1=_
  unfold gL
  by_cases h:i<ss.length
  ·have ct:∀a:Option R,cC true a=a:=fun _=>rfl
   have hg:ss.getD (i:Int).toNat (Ty.aC .state)=ss[i]:=getD_at h _
   have hvi:=hv ss[i] (List.getElem_mem h)
   rw[cD h]
   simp only[ct]
   rw[hg,au (show (i:Int)<(ss.length:Int) by omega),cond_true,seeR_ok c _ hc,Y1 c _ hc hq hvi,wk _ _ (Nu hc _).1,uC,Bool.not_true,cond_false,Qf _ _ (Nu hc _).2,Lo.2 rfl,Bool.not_true,cond_false,beq_self_eq_true,Bool.not_true,cond_false,dU h (by omega)]
   exact ih (i+1) (by omega) (by omega)
  ·rw[az (show ¬(i:Int)<(ss.length:Int) by omega),cond_false]
theorem Y2 {R:Type} (c:bD) (hc:dm c) (a b d:Int) (x1:List Int) (x2:Int) (x3:Bool) (x4:List Int) (x5:List bD) (x6 x7:Int) (o:bD) (s t:cv)
  (e0:List Int→Int→Bool→List Int→List bD→Int→Int→bD→cv→cv→bD→Option R) (e1:List Int→Int→Bool→Bool→List Int→List bD→Int→Int→bD→cv→cv→bD→Option R) (F:Nat) :
  aj (F+64) x1 x2 x3 x4 x5 x6 x7 [a,b,d] 3 0 o s t c e0 e1=e0 x1 x2 x3 x4 x5 x6 x7 o s t c :=
 tells16 c hc [a,b,d] (by show 3≤1099511627776; decide) x1 x2 x3 x4 x5 x6 x7 o s t e0 e1 (F+64) 0 (Nat.zero_le _) (by show 3<F+64; omega)
theorem Y3 {R:Type} (c:bD) (hc:dm c) (hq:i64 c.seq) (s t:cv) (hs:s.ae.length≤1099511627776) (ht:t.ae.length≤1099511627776) (x1:List Int) (x2:Int) (x3:Bool) (x4:List Int) (x5:List bD) (x6 x7:Int) (o:bD)
  (e0:List Int→Int→Bool→List Int→List bD→Int→Int→bD→cv→cv→Option R) (e1:List Int→Int→Bool→Bool→List Int→List bD→Int→Int→bD→cv→cv→Option R) (F:Nat) :
  ak (F+64) x1 x2 x3 x4 x5 x6 x7 [s,t] 2 0 o s t c e0 e1=e0 x1 x2 x3 x4 x5 x6 x7 o s t :=
 tells24 c hc hq [s,t] (by show 2≤1099511627776; decide) (fun x hx=>by
  rcases List.mem_cons.1 hx with rfl|hx
  ·exact hs
  ·rcases List.mem_cons.1 hx with rfl|hx
   ·exact ht
   ·cases hx) x1 x2 x3 x4 x5 x6 x7 o s t e0 e1 (F+64) 0 (Nat.zero_le _) (by show 2<F+64; omega)
theorem tells7 {R:Type} (w:List Int) (hw:w.length≤1099511627776) (n:Int) (hn:i64 n) (b:Bool) (l:List Int) (hl:l.length≤1099511627776) (cs:List bD) (tW:cs.length≤1099511627776) (hc:∀c∈cs,dm c∧i64 c.seq) (o:bD) (s t:cv) (hs:s.ae.length≤1099511627776) (ht:t.ae.length≤1099511627776)
  (e0:Int→Bool→cv→Option R) (e1:Int→Bool→Bool→cv→Option R):∀(F i:Nat),i≤cs.length→cs.length - i<F →
  aq F w n b l cs (cs.length:Int) (i:Int) o s t e0 e1=e0 n b s:=by
 intro F
 induction F with
 | zero=>intro i _ hF; omega
 | succ F ih =>
  intro i hi hF
  show ig aM bn cq av bI cg aU aj ak (fun a b d g h j l m n p=>aq F a b d g h j l m n p e0 e1) w n b l cs (cs.length:Int) (i:Int) o s t e0 e1=_
  unfold ig
  by_cases h:i<cs.length
  ·have ct:∀a:Option R,cC true a=a:=fun _=>rfl
   have hg:cs.getD (i:Int).toNat (Ty.aC .C8)=cs[i]:=getD_at h _
   obtain ⟨Y4,hq⟩:=hc cs[i] (List.getElem_mem h)
   rw[cD h]
   simp only[ct]
   rw[hg,au (show (i:Int)<(cs.length:Int) by omega),cond_true,R1 _ Y4 w hw,O7 _ Y4 w hw,R1 _ Y4 l hl,O7 _ Y4 l hl,wk _ _ (Ks Y4 hw),uC,Bool.not_true,cond_false,beq_self_eq_true,Bool.not_true,cond_false,wk _ _ (Ks Y4 hl),uC,Bool.not_true,cond_false,beq_self_eq_true,Bool.not_true,cond_false,IE,RS,beq_self_eq_true,Bool.not_true,cond_false,RQ _ _ Y4,wk _ _ Y4,beq_self_eq_true,Bool.not_true,cond_false,RQ _ _ Y4,uC,Bool.not_true,cond_false]
   refine IH n 4 hn (by omega) (by omega) _ _ fun z hz => ?_
   rw[Y2 _ Y4,Y3 _ Y4 hq s t hs ht,dU h (by omega)]
   exact ih (i+1) (by omega) (by omega)
  ·rw[az (show ¬(i:Int)<(cs.length:Int) by omega),cond_false]
theorem tells7' {R:Type} (w:List Int) (hw:w.length≤1099511627776) (n:Int) (hn:i64 n) (b:Bool) (l:List Int) (hl:l.length≤1099511627776) (c d:bD) (hc:dm c) (hcq:i64 c.seq) (hd:dm d) (hdq:i64 d.seq) (o:bD) (s t:cv) (hs:s.ae.length≤1099511627776) (ht:t.ae.length≤1099511627776)
  (e0:Int→Bool→cv→Option R) (e1:Int→Bool→Bool→cv→Option R) (F:Nat) :
  aq (F+64) w n b l [c,d] 2 0 o s t e0 e1=e0 n b s :=
 tells7 w hw n hn b l hl [c,d] (by show 2≤1099511627776; decide) (fun x hx=>by
  rcases List.mem_cons.1 hx with rfl|hx
  ·exact ⟨hc,hcq⟩
  ·rcases List.mem_cons.1 hx with rfl|hx
   ·exact ⟨hd,hdq⟩
   ·cases hx) o s t hs ht e0 e1 (F+64) 0 (Nat.zero_le _) (by show 2<F+64; omega)

theorem K4 {R:Type} (a c:bD) (w:List Int) (s:cv) (n nodes:Int) (raw:List oD) (x:kh) (h1:∀v∈Ty.cells .C8 a,Small 1048576 v) (h2:∀v∈Ty.cells .C8 c,Small 1048576 v) (h3:Small 1048576 (.sl (.int .i64) w .no)) (h4:∀v∈Ty.cells .state s,Small 1048576 v) (h5:Small 1048576 (.int .i64 n)) (h6:Small 1048576 (.int .i64 nodes)) (h7:Small 1048576 (.sl .u7 raw .no)) (h8:∀v∈Ty.cells .C9 x,Small 1048576 v) (k:Bool→Option R):k7 a c w s n nodes raw x k=k true:=by
 have s1:i64 s.header:=fw (h4 (.int .i64 s.header) (by simp[Ty.cells]))
 have s2:i64 s.node:=fw (h4 (.int .i64 s.node) (by simp[Ty.cells]))
 have s3:i64 s.seq:=fw (h4 (.int .i64 s.seq) (by simp[Ty.cells]))
 have s4:i64 s.accepted:=fw (h4 (.int .i64 s.accepted) (by simp[Ty.cells]))
 have sv:s.ae.length≤1099511627776:=Nat.le_trans (Qj (h4 (.str s.ae) (by simp[Ty.cells]))) (by decide)
 obtain ⟨an,ash⟩:=Wa h1
 have hw:=Nat.le_trans (G7 h3).1 (show 1048576≤1099511627776 by decide)
 have hn:=fw h5
 unfold k7 qw
 rw[awake18]
 refine layFit' nodes raw (fw h6) (V8 h7) _ _ fun y hy => ?_
 refine fit18' y hy a an x (V9 h8) _ _ fun d hd => ?_
 have hp:=hd.path
 have hp0:0<d.path.length:=by
  cases hl:d.path with
  | nil=>rw[hl]at hp; exact absurd hp.1 (by decide)
  | cons=>exact Nat.succ_pos _
 have ct:∀a:Option R,cC true a=a:=fun _=>rfl
 have hdl:(d.path.drop 1).length=d.path.length - 1:=List.length_drop ..
 rw[au (show (0:Int)<(d.path.length:Int) by omega),au (show (1:Int)≤(d.path.length:Int) by omega),au (show (1+(d.path.drop 1).length)*8≤140737488355328 by omega)]
 simp only[ct]
 refine IH s.header 2 s1 (by omega) (by omega) _ _ fun z1 hz1 => ?_
 refine IH s.node y.nodes s2 (by have:=hy.nodes; omega) (by have:=hy.nodes; omega) _ _ fun z2 hz2 => ?_
 refine IH s.seq 5 s3 (by omega) (by omega) _ _ fun z3 hz3 => ?_
 refine IH s.accepted 3 s4 (by omega) (by omega) _ _ fun z4 hz4 => ?_
 obtain ⟨q,hq,hq8⟩:=hd.seq
 rw[tells7' w hw n hn true _ (by rw[List.length_append,hdl]; show 1+_≤_; omega) a d ash an.seq hd.short (by unfold i64; omega) c s _ sv YS,cond_true]
 have hb:dm ⟨s.ae,0,0,0,0,0, [n],0,false,0,false,⟨0, [],0,0, [], []⟩⟩:=⟨by show 1≤1099511627776; decide,sv,⟨Nat.zero_le _,Nat.zero_le _,Nat.zero_le _⟩⟩
 unfold bG yE cJ zO
 dsimp only
 rw[wk _ _ hb,uC]
end Go.Proofs.YtolnaonmpohciaaDoor
end
