/-
  OrderBack, part 7 of 10.
-/
import Derived.Lib.ValidLaws
import Derived.Lib.MapLaws
import Derived.Lib.TrimUEq
import Derived.Lib.RuneBytes
import Derived.KernelRfl
import Derived.Lib.ItoaMem
import Derived.Test.YtidfokedcnhahaaGreatDoorOrderBackB6
set_option linter.unusedSimpArgs false
set_option linter.unnecessarySimpa false
set_option linter.unusedVariables false
set_option linter.unusedSectionVars false
noncomputable section
/-
 Functions of the program as pure Lean functions, and the ties; printed by wip/tools/emit.py.
-/
set_option maxRecDepth 100000
namespace Go.Proofs.YtidfokedcnhahaaGreatDoor
open Go Go.aC
variable {R:Type}
/-! ### humpyard/json.Parse -/
abbrev DY (R:Type):Type:=ah→(Json→Int→Int→Option R)→Option R
abbrev LL:List cM := [.leaf (.str)]
abbrev LM:List aW := []
def QI (fn:DY R):k9 R LL LM:=fun x y k=>fn x.1 (fun q0 q1 q2=>k (.tuple [.agg [.int .i64 q0.kind, .int .i64 q0.num.ao, .int .i64 q0.num.exp, .str q0.text, .sl .str q0.names .no, .sl .json q0.items .no], .int .i64 q1, .int .i64 q2]) [])
def S2 (fn:DY R):=aI LL LM (QI fn)
section
variable (aq:fy R) (dc:aD R) (nf:DX R)
def S3:List (oi R) := [(81,false,(jT aq ax)),(80,false,(zc dc ax)),(79,true,(S0 nf ax))]
def F9 (x1:ah) (k0:Json→Int→Int→Option R):Option R :=
 nf x1 (fun y2 y3 y4=>bif (y3 != 0)then (k0 (⟨0,⟨0,0⟩,([]:ah),([]:List ah),([]:List Json)⟩:Json) y3 y4)else (dc 1 y2 0 (fun y5 y6 y7=>let j12:=fun (Rp:List Token) (vN:Int)=>bif (vN != 0)then (ca (decide ((0:Int)<Rp.length)) (k0 (⟨0,⟨0,0⟩,([]:ah),([]:List ah),([]:List Json)⟩:Json) vN ((Rp.getD 0 (Ty.aZ .token)).at_)))else (k0 (⟨y5.kind,⟨y5.num.ao,y5.num.exp⟩,y5.text,y5.names,y5.items⟩:Json) 0 0); ca (decide ((0:Int)<y6.length)) (bif ((y6.getD 0 (Ty.aZ .token)).kind != 5)then (aq 40 y6 y7 (fun y8 y9=>j12 y8 y9))else (j12 y6 y7)))))
theorem aae:dC (R:=R) tt (S3 aq dc nf) rP false Tryz.f32 LL LM (QI (F9 aq dc nf)):=fun x y k=>by kernel_rfl
end
theorem Yy:ct (R:=R) Tryz.prog (S3 (R:=R) aq dc nf) := .d (kN R) rfl <| .f (F8 R _ (jl _)) rfl <| .c (Wf R) <| .n
def fA:DY R:=fun x1 k0=>F9 aq dc nf x1 k0
theorem Wg (R:Type):k6 Tryz.prog 32 (S2 (fA (R:=R))):=br TT mixed (Yy (R:=R)) rfl rfl rfl rfl cb (aae aq dc nf)
/-! ### humpyard/field.find -/
abbrev qS (R:Type):Type:=Json→ah→(Json→Bool→Option R)→Option R
abbrev LN:List cM := [.agg [.int .i64, .int .i64, .int .i64, .str, .sl .str, .sl .json], .leaf (.str)]
abbrev LO:List aW := []
def QJ (fn:qS R):k9 R LN LO:=fun x y k=>fn (⟨x.1.1,⟨x.1.2.1,x.1.2.2.1⟩,x.1.2.2.2.1,x.1.2.2.2.2.1,x.1.2.2.2.2.2.1⟩:Json) x.2.1 (fun q0 q1=>k (.tuple [.agg [.int .i64 q0.kind, .int .i64 q0.num.ao, .int .i64 q0.num.exp, .str q0.text, .sl .str q0.names .no, .sl .json q0.items .no], .bool q1]) [])
def BT (fn:qS R):=aI LN LO (QJ fn)
section
variable (bp:gK R)
def S4:List (oi R) := [(127,true,(nK bp ax))]
def LP (x1:Json) (x2:ah) (k0:Json→Bool→Option R):Option R :=
 bp x1.names x2 (fun y3=>bif (x1.kind != 7)then (k0 (⟨0,⟨0,0⟩,([]:ah),([]:List ah),([]:List Json)⟩:Json) false)else (bif (decide (y3<(0:Int)))then (k0 (⟨0,⟨0,0⟩,([]:ah),([]:List ah),([]:List Json)⟩:Json) false)else (bif (decide (y3≥(x1.items.length:Int)))then (k0 (⟨0,⟨0,0⟩,([]:ah),([]:List ah),([]:List Json)⟩:Json) false)else (ca (decide ((0:Int)≤y3)&&decide (y3<x1.items.length)) (k0 (⟨(x1.items.getD y3.toNat (Ty.aZ .json)).kind,⟨(x1.items.getD y3.toNat (Ty.aZ .json)).num.ao,(x1.items.getD y3.toNat (Ty.aZ .json)).num.exp⟩,(x1.items.getD y3.toNat (Ty.aZ .json)).text,(x1.items.getD y3.toNat (Ty.aZ .json)).names,(x1.items.getD y3.toNat (Ty.aZ .json)).items⟩:Json) true)))))
theorem aaf:dC (R:=R) tt (S4 bp) rP false Tryz.f144 LN LO (QJ (LP bp)):=fun x y k=>by kernel_rfl
end
theorem Yz:ct (R:=R) Tryz.prog (S4 (R:=R) bp) := .c (rV R) <| .n
def cF:qS R:=fun x1 x2 k0=>LP bp x1 x2 k0
theorem zC (R:Type):k6 Tryz.prog 144 (BT (cF (R:=R))):=br TT mixed (Yz (R:=R)) rfl rfl rfl rfl cb (aaf bp)
/-! ### humpyard/field.Text$1 -/
abbrev zD (R:Type):Type:=Json→(ah→Bool→Option R)→Option R
abbrev Hb:List cM := [.agg [.int .i64, .int .i64, .int .i64, .str, .sl .str, .sl .json]]
abbrev Hc:List aW := []
def MV (fn:zD R):k9 R Hb Hc:=fun x y k=>fn (⟨x.1.1,⟨x.1.2.1,x.1.2.2.1⟩,x.1.2.2.2.1,x.1.2.2.2.2.1,x.1.2.2.2.2.2.1⟩:Json) (fun q0 q1=>k (.tuple [.str q0, .bool q1]) [])
def OA (fn:zD R):=aI Hb Hc (MV fn)
section
def Hd (x1:Json) (k0:ah→Bool→Option R):Option R :=
 k0 x1.text (x1.kind==5)
theorem Wh:dC (R:=R) tt [] rP false Tryz.f109 Hb Hc (MV Hd):=fun x y k=>by kernel_rfl
end
def mc:zD R:=fun x1 k0=>Hd x1 k0
theorem S5 (R:Type):k6 Tryz.prog 109 (OA (mc (R:=R))):=br TT mixed .n rfl rfl rfl rfl cb (Wh)
/-! ### humpyard/field.of[string] -/
abbrev mL (R:Type):Type:=Json→ah→(ah→Bool→Option R)→Option R
abbrev tG:List cM := [.agg [.int .i64, .int .i64, .int .i64, .str, .sl .str, .sl .json], .leaf (.str), .leaf (.fn 109)]
abbrev tH:List aW := []
def AU (fn:mL R):k9 R tG tH:=fun x y k=>fn (⟨x.1.1,⟨x.1.2.1,x.1.2.2.1⟩,x.1.2.2.2.1,x.1.2.2.2.2.1,x.1.2.2.2.2.2.1⟩:Json) x.2.1 (fun q0 q1=>k (.tuple [.str q0, .bool q1]) [])
def BU (fn:mL R):=aI tG tH (AU fn)
section
variable (mc:zD R) (cF:qS R)
def BV:List (oi R) := [(109,true,(OA mc ax)),(144,true,(BT cF ax))]
def tI (x1:Json) (x2:ah) (k0:ah→Bool→Option R):Option R :=
 cF (⟨x1.kind,⟨x1.num.ao,x1.num.exp⟩,x1.text,x1.names,x1.items⟩:Json) x2 (fun y3 y4=>bif (!y4)then (k0 ([]:ah) false)else (mc (⟨y3.kind,⟨y3.num.ao,y3.num.exp⟩,y3.text,y3.names,y3.items⟩:Json) (fun y5 y6=>bif y6 then (k0 y5 true)else (k0 ([]:ah) false))))
theorem Km:dC (R:=R) tt (BV mc cF) rP false Tryz.f108 tG tH (AU (tI mc cF)):=fun x y k=>by kernel_rfl
end
theorem Jy:ct (R:=R) Tryz.prog (BV (R:=R) mc cF) := .c (S5 R) <| .c (zC R) <| .n
def eM:mL R:=fun x1 x2 k0=>tI mc cF x1 x2 k0
theorem HR (R:Type):k6 Tryz.prog 108 (BU (eM (R:=R))):=br TT mixed (Jy (R:=R)) rfl rfl rfl rfl cb (Km mc cF)
/-! ### humpyard/field.Text -/
abbrev DZ (R:Type):Type:=Json→ah→(ah→Bool→Option R)→Option R
abbrev LQ:List cM := [.agg [.int .i64, .int .i64, .int .i64, .str, .sl .str, .sl .json], .leaf (.str)]
abbrev LR:List aW := []
def QK (fn:DZ R):k9 R LQ LR:=fun x y k=>fn (⟨x.1.1,⟨x.1.2.1,x.1.2.2.1⟩,x.1.2.2.2.1,x.1.2.2.2.2.1,x.1.2.2.2.2.2.1⟩:Json) x.2.1 (fun q0 q1=>k (.tuple [.str q0, .bool q1]) [])
def S6 (fn:DZ R):=aI LQ LR (QK fn)
section
variable (eM:mL R)
def S7:List (oi R) := [(108,true,(BU eM ax))]
def LS (x1:Json) (x2:ah) (k0:ah→Bool→Option R):Option R :=
 eM (⟨x1.kind,⟨x1.num.ao,x1.num.exp⟩,x1.text,x1.names,x1.items⟩:Json) x2 (fun y3 y4=>k0 y3 y4)
theorem aag:dC (R:=R) tt (S7 eM) rP false Tryz.f68 LQ LR (QK (LS eM)):=fun x y k=>by kernel_rfl
end
theorem YA:ct (R:=R) Tryz.prog (S7 (R:=R) eM) := .c (HR R) <| .n
def fB:DZ R:=fun x1 x2 k0=>LS eM x1 x2 k0
theorem Wi (R:Type):k6 Tryz.prog 68 (S6 (fB (R:=R))):=br TT mixed (YA (R:=R)) rfl rfl rfl rfl cb (aag eM)
/-! ### humpyard/decimal.shifted -/
abbrev tJ (R:Type):Type:=ft→Int→(Int→Bool→Option R)→Option R
abbrev BW:List cM := [.agg [.int .i64, .int .i64], .leaf (.int .i64)]
abbrev BX:List aW := []
def He (fn:tJ R):k9 R BW BX:=fun x y k=>fn (⟨x.1.1,x.1.2.1⟩:ft) x.2.1 (fun q0 q1=>k (.tuple [.int .i64 q0, .bool q1]) [])
def Iz (fn:tJ R):=aI BW BX (He fn)
abbrev tK (R:Type):Type:=Nat→Int→Int→Int→(Int→Option R)→(Int→Bool→Int→Option R)→Option R
def o9:Hint := { live := [6,12,13],own := [],rows := [],cells := [],drop := [],out := [4,5,6] }
abbrev jq:Type:=Int×Int×Int
def su:jq→St:=fun d=>⟨U 6 (.int .i64 d.1::U 5 (.int .i64 d.2.1 :: .int .i64 d.2.2::U 8 ([]))), []⟩
def tM (K:Ex→St→Option R) (q0:Int):Option R:=K (.exit 0) ⟨U 6 (.int .i64 q0::U 15 ([])), []⟩
def tO (K:Ex→St→Option R) (q0:Int) (q1:Bool) (q2:Int):Option R:=K (.ret) ⟨U 4 (.int .i64 q0 :: .bool q1 :: .int .i64 q2::U 15 ([])), []⟩
abbrev lH:List cM:=PU 6 (.leaf (.int .i64)::PU 5 (.leaf (.int .i64) :: .leaf (.int .i64)::PU 8 ([])))
abbrev lI:List aW := []
def C2 (x:cM.bQ lH) (y:aW.bQ lI):Nat:=(Int.natAbs x.2.2.2.2.2.2.1+Int.natAbs ((t8 x).2.2.2.2.1)+Int.natAbs ((t8 x).2.2.2.2.2.1)+64)
def Nr (x:cM.bQ lH) (y:aW.bQ lI):jq:=(x.2.2.2.2.2.2.1,(t8 x).2.2.2.2.1,(t8 x).2.2.2.2.2.1)
def BY (L:tK R):wU R lH lI:=fun x y K=>L (C2 x y) x.2.2.2.2.2.2.1 ((t8 x).2.2.2.2.1) ((t8 x).2.2.2.2.2.1) (tM K) (tO K)
section
variable (ay:jm R) (bZ:tK R)
def mM:List (oi R) := [(135,true,(pV ay ax))]
def pa (dx:Int→Int→Int→Option R) (x3:Int) (x4:Int) (x5:Int) (e0:Int→Option R) (e1:Int→Bool→Int→Option R):Option R :=
 bif (decide (x5<x4))then (ay (-100000000000000000) x3 100000000000000000 (fun y6=>bif (!y6)then (e1 0 false x3)else (dx (IntKind.i64.wrap (x3*10)) x4 (IntKind.i64.wrap (x5+1)))))else (e0 x3)
def C3 (K:Ex→St→Option R) (rc:jq→Option R) (d:jq):Option R:=pa ay (fun z0 z1 z2=>rc (z0,z1,z2)) d.1 d.2.1 d.2.2 (tM K) (tO K)
def ql:Nat→Option (Hint×cJ R):=fun i=>match i with
 | 3=>some (o9,(cE lH lI (BY bZ) iK))
 | _=>none
theorem Jz (K:Ex→St→Option R) (rc:St→Option R) (d:jq):roundOf tt (cO (mM ay)) (ql bZ) 0 ((aA (bb Tryz.f212)).getD 0 .skip) o9 (su d) rc K=C3 ay K (fun d=>rc (su d)) d:=by kernel_rfl
def BZ (x1:ft) (x2:Int) (k0:Int→Bool→Option R):Option R :=
 bZ (Int.natAbs x1.ao+Int.natAbs (IntKind.i64.wrap (x1.exp - x2))+Int.natAbs 0+64) x1.ao (IntKind.i64.wrap (x1.exp - x2)) 0 (fun y7=>k0 y7 true) (fun y8 y9 uf=>k0 y8 y9)
theorem Ry:dC (R:=R) tt (mM ay) (ql bZ) false Tryz.f212 BW BX (He (BZ bZ)):=fun x y k=>by kernel_rfl
end
theorem P8:ct (R:=R) Tryz.prog (mM (R:=R) ay) := .c (rY R) <| .n
def bZ:tK R
 | 0,_,_,_,_,_=>none
 | n+1,gh,gl,gv,e0,e1=>pa ay (fun gh gl gv=>bZ n gh gl gv e0 e1) gh gl gv e0 e1
def C4 (K:Ex→St→Option R) (n:Nat) (d:jq):Option R:=bZ n d.1 d.2.1 d.2.2 (tM K) (tO K)
theorem LU (other:cJ R) (ho:gV tt (cO (mM (R:=R) ay)) (ql (R:=R) bZ) 0 ((aA (bb Tryz.f212)).getD 0 .skip) o9 other):gV tt (cO (mM (R:=R) ay)) (ql (R:=R) bZ) 0 ((aA (bb Tryz.f212)).getD 0 .skip) o9 (cE lH lI (BY (bZ)) other) :=
 cN (A:=C4) ho (dT su (C3 ay) (C4) (fun _ _=>by kernel_rfl) (Jz ay bZ) (fun _ _ _=>by kernel_rfl)) C2 Nr (fun _ _=>by kernel_rfl) (fun _ _ _=>by kernel_rfl)
def iJ:tJ R:=fun x1 x2 k0=>BZ bZ x1 x2 k0
theorem Ns (R:Type):∀a∈aA (bb Tryz.f212),gJ tt (cO (mM (R:=R) ay)) (ql (R:=R) bZ) 0 a:=by
 refine eX 1 (by kernel_rfl) fun i hi => ?_
 match i,hi with
 | 0,_=>exact cy (by kernel_rfl) (LU _ dt)
 | n+1,hi=>omega
theorem OB (R:Type):k6 Tryz.prog 212 (Iz (iJ (R:=R))):=br TT mixed (P8 (R:=R)) rfl rfl rfl rfl (Ns R) (Ry ay bZ)
/-! ### humpyard/decimal.Int -/
abbrev B0 (R:Type):Type:=ft→(Int→Bool→Option R)→Option R
abbrev JA:List cM := [.agg [.int .i64, .int .i64]]
abbrev JB:List aW := []
def OC (fn:B0 R):k9 R JA JB:=fun x y k=>fn (⟨x.1.1,x.1.2.1⟩:ft) (fun q0 q1=>k (.tuple [.int .i64 q0, .bool q1]) [])
def QL (fn:B0 R):=aI JA JB (OC fn)
section
variable (bK:oo R) (iJ:tJ R)
def QM:List (oi R) := [(164,true,(zA bK ax)),(212,true,(Iz iJ ax))]
def JC (x1:ft) (k0:Int→Bool→Option R):Option R :=
 bK x1 (fun y2=>bif (!y2)then (k0 0 false)else (bif (decide (x1.exp<(0:Int)))then (k0 0 false)else (iJ x1 0 (fun y4 y5=>k0 y4 y5))))
theorem YB:dC (R:=R) tt (QM bK iJ) rP false Tryz.f186 JA JB (OC (JC bK iJ)):=fun x y k=>by kernel_rfl
end
theorem Wj:ct (R:=R) Tryz.prog (QM (R:=R) bK iJ) := .c (Af R) <| .c (OB R) <| .n
def mv:B0 R:=fun x1 k0=>JC bK iJ x1 k0
theorem UG (R:Type):k6 Tryz.prog 186 (QL (mv (R:=R))):=br TT mixed (Wj (R:=R)) rfl rfl rfl rfl cb (YB bK iJ)
/-! ### humpyard/field.num -/
abbrev Ga (R:Type):Type:=Json→(Int→Bool→Option R)→Option R
abbrev OD:List cM := [.agg [.int .i64, .int .i64, .int .i64, .str, .sl .str, .sl .json]]
abbrev OE:List aW := []
def S8 (fn:Ga R):k9 R OD OE:=fun x y k=>fn (⟨x.1.1,⟨x.1.2.1,x.1.2.2.1⟩,x.1.2.2.2.1,x.1.2.2.2.2.1,x.1.2.2.2.2.2.1⟩:Json) (fun q0 q1=>k (.tuple [.int .i64 q0, .bool q1]) [])
def Vw (fn:Ga R):=aI OD OE (S8 fn)
section
variable (mv:B0 R)
def Vx:List (oi R) := [(186,true,(QL mv ax))]
def OF (x1:Json) (k0:Int→Bool→Option R):Option R :=
 mv x1.num (fun y2 y3=>bif y3 then (k0 y2 (x1.kind==4))else (k0 y2 false))
theorem field_num_ok:dC (R:=R) tt (Vx mv) rP false Tryz.f146 OD OE (S8 (OF mv)):=fun x y k=>by kernel_rfl
end
theorem aah:ct (R:=R) Tryz.prog (Vx (R:=R) mv) := .c (UG R) <| .n
def sv:Ga R:=fun x1 k0=>OF mv x1 k0
theorem YC (R:Type):k6 Tryz.prog 146 (Vw (sv (R:=R))):=br TT mixed (aah (R:=R)) rfl rfl rfl rfl cb (field_num_ok mv)
/-! ### humpyard/field.of[int] -/
abbrev qm (R:Type):Type:=Json→ah→(Int→Bool→Option R)→Option R
abbrev ym:List cM := [.agg [.int .i64, .int .i64, .int .i64, .str, .sl .str, .sl .json], .leaf (.str), .leaf (.fn 146)]
abbrev yn:List aW := []
def Ep (fn:qm R):k9 R ym yn:=fun x y k=>fn (⟨x.1.1,⟨x.1.2.1,x.1.2.2.1⟩,x.1.2.2.2.1,x.1.2.2.2.2.1,x.1.2.2.2.2.2.1⟩:Json) x.2.1 (fun q0 q1=>k (.tuple [.int .i64 q0, .bool q1]) [])
def FB (fn:qm R):=aI ym yn (Ep fn)
section
variable (cF:qS R) (sv:Ga R)
def FC:List (oi R) := [(144,true,(BT cF ax)),(146,true,(Vw sv ax))]
def yo (x1:Json) (x2:ah) (k0:Int→Bool→Option R):Option R :=
 cF (⟨x1.kind,⟨x1.num.ao,x1.num.exp⟩,x1.text,x1.names,x1.items⟩:Json) x2 (fun y3 y4=>bif (!y4)then (k0 0 false)else (sv (⟨y3.kind,⟨y3.num.ao,y3.num.exp⟩,y3.text,y3.names,y3.items⟩:Json) (fun y5 y6=>bif y6 then (k0 y5 true)else (k0 0 false))))
theorem OG:dC (R:=R) tt (FC cF sv) rP false Tryz.f145 ym yn (Ep (yo cF sv)):=fun x y k=>by kernel_rfl
end
theorem Nt:ct (R:=R) Tryz.prog (FC (R:=R) cF sv) := .c (zC R) <| .c (YC R) <| .n
def gk:qm R:=fun x1 x2 k0=>yo cF sv x1 x2 k0
theorem LV (R:Type):k6 Tryz.prog 145 (FB (gk (R:=R))):=br TT mixed (Nt (R:=R)) rfl rfl rfl rfl cb (OG cF sv)
/-! ### humpyard/field.Num -/
abbrev Gb (R:Type):Type:=Json→ah→(Int→Bool→Option R)→Option R
abbrev OH:List cM := [.agg [.int .i64, .int .i64, .int .i64, .str, .sl .str, .sl .json], .leaf (.str)]
abbrev OI:List aW := []
def S9 (fn:Gb R):k9 R OH OI:=fun x y k=>fn (⟨x.1.1,⟨x.1.2.1,x.1.2.2.1⟩,x.1.2.2.2.1,x.1.2.2.2.2.1,x.1.2.2.2.2.2.1⟩:Json) x.2.1 (fun q0 q1=>k (.tuple [.int .i64 q0, .bool q1]) [])
def Vy (fn:Gb R):=aI OH OI (S9 fn)
section
variable (gk:qm R)
def Vz:List (oi R) := [(145,true,(FB gk ax))]
def OJ (x1:Json) (x2:ah) (k0:Int→Bool→Option R):Option R :=
 gk (⟨x1.kind,⟨x1.num.ao,x1.num.exp⟩,x1.text,x1.names,x1.items⟩:Json) x2 (fun y3 y4=>k0 y3 y4)
theorem field_Num_ok:dC (R:=R) tt (Vz gk) rP false Tryz.f110 OH OI (S9 (OJ gk)):=fun x y k=>by kernel_rfl
end
theorem aai:ct (R:=R) Tryz.prog (Vz (R:=R) gk) := .c (LV R) <| .n
def sw:Gb R:=fun x1 x2 k0=>OJ gk x1 x2 k0
theorem YD (R:Type):k6 Tryz.prog 110 (Vy (sw (R:=R))):=br TT mixed (aai (R:=R)) rfl rfl rfl rfl cb (field_Num_ok gk)
/-! ### (*humpyard/order.taker).num -/
abbrev mN (R:Type):Type:=Json→ah→Bool→(Int→Bool→Option R)→Option R
abbrev tP:List cM := [.leaf (.ptr 0 0), .agg [.int .i64, .int .i64, .int .i64, .str, .sl .str, .sl .json], .leaf (.str)]
abbrev tQ:List aW := [.cells [.bool]]
def AV (fn:mN R):k9 R tP tQ:=fun x y k=>fn (⟨x.2.1.1,⟨x.2.1.2.1,x.2.1.2.2.1⟩,x.2.1.2.2.2.1,x.2.1.2.2.2.2.1,x.2.1.2.2.2.2.2.1⟩:Json) x.2.2.1 y.1.1 (fun q0 q1=>k (.int .i64 q0) [.cells [.bool q1]])
def B1 (fn:mN R):=aI tP tQ (AV fn)
section
variable (sw:Gb R)
def B2:List (oi R) := [(110,true,(Vy sw ax))]
def tR (x1:Json) (x2:ah) (x3:Bool) (k0:Int→Bool→Option R):Option R :=
 sw (⟨x1.kind,⟨x1.num.ao,x1.num.exp⟩,x1.text,x1.names,x1.items⟩:Json) x2 (fun y4 y5=>bif x3 then (k0 y4 true)else (k0 y4 (!y5)))
theorem Kn:dC (R:=R) tt (B2 sw) rP false Tryz.f69 tP tQ (AV (tR sw)):=fun x y k=>by kernel_rfl
end
theorem JD:ct (R:=R) Tryz.prog (B2 (R:=R) sw) := .c (YD R) <| .n
def aO:mN R:=fun x1 x2 x3 k0=>tR sw x1 x2 x3 k0
theorem HS (R:Type):k6 Tryz.prog 69 (B1 (aO (R:=R))):=br TT mixed (JD (R:=R)) rfl rfl rfl rfl cb (Kn sw)
/-! ### humpyard/field.List$1 -/
abbrev zE (R:Type):Type:=Json→((List Json)→Bool→Option R)→Option R
abbrev Hf:List cM := [.agg [.int .i64, .int .i64, .int .i64, .str, .sl .str, .sl .json]]
abbrev Hg:List aW := []
def MW (fn:zE R):k9 R Hf Hg:=fun x y k=>fn (⟨x.1.1,⟨x.1.2.1,x.1.2.2.1⟩,x.1.2.2.2.1,x.1.2.2.2.2.1,x.1.2.2.2.2.2.1⟩:Json) (fun q0 q1=>k (.tuple [.sl .json q0 .no, .bool q1]) [])
def OK (fn:zE R):=aI Hf Hg (MW fn)
section
variable (cp:dJ R)
def OL:List (oi R) := [(86,true,(DR cp ax))]
def Hh (x1:Json) (k0:(List Json)→Bool→Option R):Option R :=
 cp (⟨x1.kind,⟨x1.num.ao,x1.num.exp⟩,x1.text,x1.names,x1.items⟩:Json) (fun y2=>k0 y2.items (x1.kind==6))
theorem Wl:dC (R:=R) tt (OL cp) rP false Tryz.f148 Hf Hg (MW (Hh cp)):=fun x y k=>by kernel_rfl
end
theorem UH:ct (R:=R) Tryz.prog (OL (R:=R) cp) := .p (Dp R _ (jl _)) <| .n
def me:zE R:=fun x1 k0=>Hh cp x1 k0
theorem Ta (R:Type):k6 Tryz.prog 148 (OK (me (R:=R))):=br TT mixed (UH (R:=R)) rfl rfl rfl rfl cb (Wl cp)
/-! ### humpyard/field.of[[]humpyard/api.Json] -/
abbrev pb (R:Type):Type:=Json→ah→((List Json)→Bool→Option R)→Option R
abbrev wD:List cM := [.agg [.int .i64, .int .i64, .int .i64, .str, .sl .str, .sl .json], .leaf (.str), .leaf (.fn 148)]
abbrev wE:List aW := []
def C5 (fn:pb R):k9 R wD wE:=fun x y k=>fn (⟨x.1.1,⟨x.1.2.1,x.1.2.2.1⟩,x.1.2.2.2.1,x.1.2.2.2.2.1,x.1.2.2.2.2.2.1⟩:Json) x.2.1 (fun q0 q1=>k (.tuple [.sl .json q0 .no, .bool q1]) [])
def Er (fn:pb R):=aI wD wE (C5 fn)
section
variable (me:zE R) (cF:qS R)
def Es:List (oi R) := [(148,true,(OK me ax)),(144,true,(BT cF ax))]
def wF (x1:Json) (x2:ah) (k0:(List Json)→Bool→Option R):Option R :=
 cF (⟨x1.kind,⟨x1.num.ao,x1.num.exp⟩,x1.text,x1.names,x1.items⟩:Json) x2 (fun y3 y4=>bif (!y4)then (k0 ([]:List Json) false)else (me (⟨y3.kind,⟨y3.num.ao,y3.num.exp⟩,y3.text,y3.names,y3.items⟩:Json) (fun y5 y6=>bif y6 then (k0 y5 true)else (k0 ([]:List Json) false))))
theorem Nu:dC (R:=R) tt (Es me cF) rP false Tryz.f147 wD wE (C5 (wF me cF)):=fun x y k=>by kernel_rfl
end
theorem LW:ct (R:=R) Tryz.prog (Es (R:=R) me cF) := .c (Ta R) <| .c (zC R) <| .n
def fC:pb R:=fun x1 x2 k0=>wF me cF x1 x2 k0
theorem Ko (R:Type):k6 Tryz.prog 147 (Er (fC (R:=R))):=br TT mixed (LW (R:=R)) rfl rfl rfl rfl cb (Nu me cF)
/-! ### humpyard/field.List -/
abbrev D0 (R:Type):Type:=Json→ah→((List Json)→Bool→Option R)→Option R
abbrev LX:List cM := [.agg [.int .i64, .int .i64, .int .i64, .str, .sl .str, .sl .json], .leaf (.str)]
abbrev LY:List aW := []
def QN (fn:D0 R):k9 R LX LY:=fun x y k=>fn (⟨x.1.1,⟨x.1.2.1,x.1.2.2.1⟩,x.1.2.2.2.1,x.1.2.2.2.2.1,x.1.2.2.2.2.2.1⟩:Json) x.2.1 (fun q0 q1=>k (.tuple [.sl .json q0 .no, .bool q1]) [])
def Tb (fn:D0 R):=aI LX LY (QN fn)
section
variable (fC:pb R)
def Tc:List (oi R) := [(147,true,(Er fC ax))]
def LZ (x1:Json) (x2:ah) (k0:(List Json)→Bool→Option R):Option R :=
 fC (⟨x1.kind,⟨x1.num.ao,x1.num.exp⟩,x1.text,x1.names,x1.items⟩:Json) x2 (fun y3 y4=>k0 y3 y4)
theorem aaj:dC (R:=R) tt (Tc fC) rP false Tryz.f111 LX LY (QN (LZ fC)):=fun x y k=>by kernel_rfl
end
theorem YE:ct (R:=R) Tryz.prog (Tc (R:=R) fC) := .c (Ko R) <| .n
def oX:D0 R:=fun x1 x2 k0=>LZ fC x1 x2 k0
theorem Wm (R:Type):k6 Tryz.prog 111 (Tb (oX (R:=R))):=br TT mixed (YE (R:=R)) rfl rfl rfl rfl cb (aaj fC)
/-! ### (*humpyard/order.taker).list -/
abbrev mf (R:Type):Type:=Json→ah→Bool→((List Json)→Bool→Option R)→Option R
abbrev sA:List cM := [.leaf (.ptr 0 0), .agg [.int .i64, .int .i64, .int .i64, .str, .sl .str, .sl .json], .leaf (.str)]
abbrev sB:List aW := [.cells [.bool]]
def zj (fn:mf R):k9 R sA sB:=fun x y k=>fn (⟨x.2.1.1,⟨x.2.1.2.1,x.2.1.2.2.1⟩,x.2.1.2.2.2.1,x.2.1.2.2.2.2.1,x.2.1.2.2.2.2.2.1⟩:Json) x.2.2.1 y.1.1 (fun q0 q1=>k (.sl .json q0 .no) [.cells [.bool q1]])
def AW (fn:mf R):=aI sA sB (zj fn)
section
variable (oX:D0 R)
def AX:List (oi R) := [(111,true,(Tb oX ax))]
def sC (x1:Json) (x2:ah) (x3:Bool) (k0:(List Json)→Bool→Option R):Option R :=
 oX (⟨x1.kind,⟨x1.num.ao,x1.num.exp⟩,x1.text,x1.names,x1.items⟩:Json) x2 (fun y4 y5=>bif x3 then (k0 y4 true)else (k0 y4 (!y5)))
theorem JE:dC (R:=R) tt (AX oX) rP false Tryz.f70 sA sB (zj (sC oX)):=fun x y k=>by kernel_rfl
end
theorem HT:ct (R:=R) Tryz.prog (AX (R:=R) oX) := .c (Wm R) <| .n
def bF:mf R:=fun x1 x2 x3 k0=>sC oX x1 x2 x3 k0
theorem Hi (R:Type):k6 Tryz.prog 70 (AW (bF (R:=R))):=br TT mixed (HT (R:=R)) rfl rfl rfl rfl cb (JE oX)
/-! ### humpyard/field.flag -/
abbrev D1 (R:Type):Type:=Json→(Bool→Bool→Option R)→Option R
abbrev L0:List cM := [.agg [.int .i64, .int .i64, .int .i64, .str, .sl .str, .sl .json]]
abbrev L1:List aW := []
def QO (fn:D1 R):k9 R L0 L1:=fun x y k=>fn (⟨x.1.1,⟨x.1.2.1,x.1.2.2.1⟩,x.1.2.2.2.1,x.1.2.2.2.2.1,x.1.2.2.2.2.2.1⟩:Json) (fun q0 q1=>k (.tuple [.bool q0, .bool q1]) [])
def Td (fn:D1 R):=aI L0 L1 (QO fn)
section
def L2 (x1:Json) (k0:Bool→Bool→Option R):Option R :=
 bif (x1.kind==3)then (k0 (x1.kind==3) true)else (k0 (x1.kind==3) (x1.kind==2))
theorem aak:dC (R:=R) tt [] rP false Tryz.f150 L0 L1 (QO L2):=fun x y k=>by kernel_rfl
end
def oY:D1 R:=fun x1 k0=>L2 x1 k0
theorem Wn (R:Type):k6 Tryz.prog 150 (Td (oY (R:=R))):=br TT mixed .n rfl rfl rfl rfl cb (aak)
/-! ### humpyard/field.of[bool] -/
abbrev pc (R:Type):Type:=Json→ah→(Bool→Bool→Option R)→Option R
abbrev wG:List cM := [.agg [.int .i64, .int .i64, .int .i64, .str, .sl .str, .sl .json], .leaf (.str), .leaf (.fn 150)]
abbrev wH:List aW := []
def C6 (fn:pc R):k9 R wG wH:=fun x y k=>fn (⟨x.1.1,⟨x.1.2.1,x.1.2.2.1⟩,x.1.2.2.2.1,x.1.2.2.2.2.1,x.1.2.2.2.2.2.1⟩:Json) x.2.1 (fun q0 q1=>k (.tuple [.bool q0, .bool q1]) [])
def Et (fn:pc R):=aI wG wH (C6 fn)
section
variable (cF:qS R) (oY:D1 R)
def Eu:List (oi R) := [(144,true,(BT cF ax)),(150,true,(Td oY ax))]
def wI (x1:Json) (x2:ah) (k0:Bool→Bool→Option R):Option R :=
 cF (⟨x1.kind,⟨x1.num.ao,x1.num.exp⟩,x1.text,x1.names,x1.items⟩:Json) x2 (fun y3 y4=>bif (!y4)then (k0 false false)else (oY (⟨y3.kind,⟨y3.num.ao,y3.num.exp⟩,y3.text,y3.names,y3.items⟩:Json) (fun y5 y6=>bif y6 then (k0 y5 true)else (k0 false false))))
theorem Nv:dC (R:=R) tt (Eu cF oY) rP false Tryz.f149 wG wH (C6 (wI cF oY)):=fun x y k=>by kernel_rfl
end
theorem L3:ct (R:=R) Tryz.prog (Eu (R:=R) cF oY) := .c (zC R) <| .c (Wn R) <| .n
def fE:pc R:=fun x1 x2 k0=>wI cF oY x1 x2 k0
theorem Kp (R:Type):k6 Tryz.prog 149 (Et (fE (R:=R))):=br TT mixed (L3 (R:=R)) rfl rfl rfl rfl cb (Nv cF oY)
/-! ### humpyard/field.Flag -/
abbrev D2 (R:Type):Type:=Json→ah→(Bool→Bool→Option R)→Option R
abbrev L4:List cM := [.agg [.int .i64, .int .i64, .int .i64, .str, .sl .str, .sl .json], .leaf (.str)]
abbrev L5:List aW := []
def QP (fn:D2 R):k9 R L4 L5:=fun x y k=>fn (⟨x.1.1,⟨x.1.2.1,x.1.2.2.1⟩,x.1.2.2.2.1,x.1.2.2.2.2.1,x.1.2.2.2.2.2.1⟩:Json) x.2.1 (fun q0 q1=>k (.tuple [.bool q0, .bool q1]) [])
def Te (fn:D2 R):=aI L4 L5 (QP fn)
section
variable (fE:pc R)
def Tf:List (oi R) := [(149,true,(Et fE ax))]
def L6 (x1:Json) (x2:ah) (k0:Bool→Bool→Option R):Option R :=
 fE (⟨x1.kind,⟨x1.num.ao,x1.num.exp⟩,x1.text,x1.names,x1.items⟩:Json) x2 (fun y3 y4=>k0 y3 y4)
theorem aal:dC (R:=R) tt (Tf fE) rP false Tryz.f112 L4 L5 (QP (L6 fE)):=fun x y k=>by kernel_rfl
end
theorem YF:ct (R:=R) Tryz.prog (Tf (R:=R) fE) := .c (Kp R) <| .n
def oZ:D2 R:=fun x1 x2 k0=>L6 fE x1 x2 k0
theorem Wo (R:Type):k6 Tryz.prog 112 (Te (oZ (R:=R))):=br TT mixed (YF (R:=R)) rfl rfl rfl rfl cb (aal fE)
end Go.Proofs.YtidfokedcnhahaaGreatDoor
namespace Go.Proofs.YtidfokedcnhahaaGreatDoor.Pu
open Go Go.aC
def FD (x:Json):Prop:=∀c∈Ty.cells .json x,Small 1099511627776 c
theorem FD.text {x:Json} (h:FD x):x.text.length≤1099511627776:=(h (.str x.text) (by simp[Ty.cells])).iq
theorem FD.names {x:Json} (h:FD x):x.names.length≤1099511627776:=(h (.sl .str x.names .no) (by simp[Ty.cells])).EO.1
theorem FD.items {x:Json} (h:FD x):x.items.length≤1099511627776:=(h (.sl .json x.items .no) (by simp[Ty.cells])).EO.1
theorem FD.item {x:Json} (h:FD x) {y:Json} (hy:y∈x.items):FD y:=(h (.sl .json x.items .no) (by simp[Ty.cells])).EO.2 y hy
theorem anyT_same {R:Type} {a b:Option R} (h:a=b):anyT a b=b:=by subst h; unfold anyT; rw[if_pos rfl]
theorem clone_str {R:Type} (l:List ah) (hl:l.length≤1099511627776) (k:List ah→Option R):bl l k=k l:=by
 unfold bl nO
 have h:decide ((0+l.length)*16≤140737488355328)=true:=by simp; omega
 rw[aw h]
 cases l with
 | nil=>exact anyT_same rfl
 | cons a l=>rfl
theorem clone_json {R:Type} (l:List Json) (hl:l.length≤1099511627776) (k0:Option R) (k1:Nat→List Json→Option R) (h0:l = []→k0=k1 0 []):bg l k0 k1=k1 l.length l:=by
 unfold bg mV
 have h:decide ((0+l.length)*88≤140737488355328)=true:=by simp; omega
 rw[aw h,Nat.zero_add]
 cases l with
 | nil=>exact anyT_same (h0 rfl)
 | cons a l=>rfl
theorem depthL_mem {l:List Json} {y:Json} (h:y∈l):y.depth≤Json.GK l:=by
 induction l with
 | nil=>cases h
 | cons a l ih =>
  simp only[Json.GK]
  rcases List.mem_cons.1 h with rfl|h
  ·exact Nat.le_max_left _ _
  ·exact Nat.le_trans (ih h) (Nat.le_max_right _ _)
theorem depth_eq (x:Json):x.depth=Json.GK x.items+1:=by cases x; simp[Json.depth]
theorem depth_item {x y:Json} (h:y∈x.items):y.depth<x.depth:=by rw[depth_eq x]; exact Nat.lt_succ_of_le (depthL_mem h)
theorem XR {α:Type} {l:List α} {i:Nat} (h:i<l.length):l.set i l[i]=l:=List.set_getElem_self h
theorem fresh_loop {R:Type} (f:dJ R) (l:List Json) (hl:l.length≤1099511627776) (hf:∀y∈l,∀k,f y k=k y) (a b c:Int) (t:ah) (ns:List ah) (p q r:Int) (u:ah)
  (e0:Int→Int→Int→ah→List ah→Nat→Int→Int→Int→ah→List Json→Option R):∀(n i:Nat),i≤l.length→l.length - i<n →
  cg f n l.length (l.length:Int) (i:Int) a b c t ns l.length p q r u l e0=e0 a b c t ns l.length p q r u l:=by
 intro n
 induction n with
 | zero=>intro i _ h; omega
 | succ n ih =>
  intro i hi hn
  show vg f (fun x1 x2 x3 x4 x5 x6 x7 x8 x9 Un Ni CI HC Lp=>cg f n x1 x2 x3 x4 x5 x6 x7 x8 x9 Un Ni CI HC Lp e0) _ _ _ _ _ _ _ _ _ _ _ _ _ _ e0=_
  unfold vg
  by_cases h:i<l.length
  ·have h1:decide ((i:Int)<(l.length:Int))=true:=by simp; omega
   have h2:(decide ((0:Int)≤(i:Int))&&true)=true:=by simp
   have h3:decide ((i:Int).toNat<l.length)=true:=by simp; omega
   have hw:IntKind.i64.wrap ((i:Int)+1)=((i+1:Nat):Int):=by rw[cz (by omega) (by omega)]; omega
   have hg:l.getD (i:Int).toNat (Ty.aZ .json)=l[i]:=getD_at h _
   rw[h1,cond_true,aw h2,aw h3,hg,Json.eta,hf _ (List.getElem_mem h),aw h2,aw h3,hw,Json.eta]
   have hs:l.set (i:Int).toNat l[i]=l:=XR h
   rw[hs]
   exact ih (i+1) (by omega) (by omega)
  ·have h1:decide ((i:Int)<(l.length:Int))=false:=by simp; omega
   rw[h1,cond_false]
theorem fresh_N {R:Type}:∀(n:Nat) (x:Json),FD x→x.depth<n→∀k:Json→Option R,iI n x k=k x:=by
 intro n
 induction n with
 | zero=>intro x _ h; omega
 | succ n ih =>
  intro x hx hd k
  show yD (iI n) x k=_
  unfold yD I6
  rw[clone_str _ hx.names,clone_json _ hx.items]
  ·have:=fresh_loop (iI (R:=R) n) x.items hx.items (fun y hy k=>ih y (hx.item hy) (by have:=depth_item hy; omega) k) x.kind x.num.ao x.num.exp x.text x.names 0 0 0 []
    (fun ZH ZZ Z0 W1 y44 y45 y46 y47 y48 y49 y50=>k (⟨ZH,⟨ZZ,Z0⟩,W1,y44,y50⟩:Json))
   refine (this _ 0 (by omega) (by omega)).trans ?_
   rw[Json.eta]
  ·intro h0
   have:x=⟨x.kind,⟨x.num.ao,x.num.exp⟩,x.text,x.names, []⟩:=by rw[←h0,Json.eta]
   rfl
theorem YG {R:Type} (x:Json) (hx:FD x) (k:Json→Option R):cp x k=k x:=fresh_N _ x hx (by omega) k
theorem Rz {R:Type} (l:List ah) (hl:l.length≤1099511627776) (s:ah) (e0:Int→Option R) (e1:Option R):∀(n i:Nat),i≤l.length→l.length - i<n →
  aS n l s (l.length:Int) (i:Int) e1 e0=match (l.drop i).findIdx? (s == ·)with|some j=>e0 ((i+j:Nat):Int)|none=>e1:=by
 intro n
 induction n with
 | zero=>intro i _ h; omega
 | succ n ih =>
  intro i hi hn
  show eH (fun a b c d=>aS n a b c d e1 e0) _ _ _ _ e1 e0=_
  unfold eH
  by_cases h:i<l.length
  ·have h1:decide ((i:Int)<(l.length:Int))=true:=by simp; omega
   have h2:(decide ((0:Int)≤(i:Int))&&true)=true:=by simp
   have hw:IntKind.i64.wrap ((i:Int)+1)=((i+1:Nat):Int):=by rw[cz (by omega) (by omega)]; omega
   have hg:l.getD (i:Int).toNat (Ty.aZ .str)=l[i]:=getD_at h _
   have e1':=ih (i+1) (by omega) (by omega)
   rw[h1,cond_true,aw h2,hg,hw,List.drop_eq_getElem_cons h,List.findIdx?_cons]
   simp only[e1']
   cases hq:(s==l[i])with
   | true=>simp
   | false =>
    simp only[cond_false,Bool.false_eq_true,if_false]
    cases (l.drop (i+1)).findIdx? (s == ·)with
    | none=>rfl
    | some j =>
     show e0 ((i+1+j:Nat):Int)=e0 ((i+(j+1):Nat):Int)
     rw[show i+1+j=i+(j+1) by omega]
  ·have h1:decide ((i:Int)<(l.length:Int))=false:=by simp; omega
   rw[h1,cond_false,List.drop_eq_nil_of_le (by omega)]
   rfl
theorem index_eq {R:Type} (l:List ah) (hl:l.length≤1099511627776) (s:ah) (k:Int→Option R):bp l s k=k (match l.findIdx? (s == ·)with|some j=>(j:Int)|none => -1):=by
 unfold bp nL
 refine (Rz l hl s _ _ _ 0 (by omega) (by omega)).trans ?_
 simp only[List.drop_zero,Nat.zero_add]
 cases l.findIdx? (s == ·) <;> rfl
theorem contains_eq {R:Type} (l:List ah) (hl:l.length≤1099511627776) (s:ah) (k:Bool→Option R):aB l s k=k (l.contains s):=by
 unfold aB lN
 rw[index_eq l hl]
 congr 1
 cases hq:l.findIdx? (s == ·)with
 | none =>
  have:l.contains s=false:=by
   rw[List.findIdx?_eq_none_iff]at hq
   rw[List.contains_eq_any_beq]
   simpa [List.any_eq_false]using hq
  rw[this]; rfl
 | some j =>
  have:l.contains s=true:=by
   obtain ⟨hj,hp,_⟩:=List.findIdx?_eq_some_iff_getElem.1 hq
   rw[List.contains_eq_any_beq,List.any_eq_true]
   exact ⟨l[j],List.getElem_mem hj,hp⟩
  rw[this]
  simp
def look (s:ah):List ah→List Json→Option Json
 | n::ns,x::xs=>if s==n then some x else look s ns xs
 | _,_=>none
theorem RA (s:ah):∀(ns:List ah) (xs:List Json),look s ns xs=(ns.findIdx? (s == ·)).bind fun j=>xs[j]?
 | [],xs=>by simp[look]
 | n::ns, []=>by
  simp only[look]
  cases (n::ns).findIdx? (s == ·) <;> simp
 | n::ns,x::xs=>by
  simp only[look,List.findIdx?_cons]
  cases hq:(s==n)with
  | true=>simp
  | false =>
   simp only[Bool.false_eq_true,if_false,RA s ns xs]
   cases ns.findIdx? (s == ·) <;> simp
def zeroJ:Json:=⟨0,⟨0,0⟩, [], [], []⟩
theorem find_eq {R:Type} (v:Json) (hv:FD v) (s:ah) (k:Json→Bool→Option R) :
  cF v s k=match (if v.kind=7 then look s v.names v.items else none)with|some x=>k x true|none=>k zeroJ false:=by
 unfold cF LP
 rw[index_eq _ hv.names]
 by_cases h7:v.kind=7
 ·have c1:(v.kind != 7)=false:=by simp[h7]
  rw[c1,cond_false,if_pos h7,RA]
  cases hq:v.names.findIdx? (s == ·)with
  | none=>rfl
  | some j =>
   have hj:decide ((j:Int)<0)=false:=by simp
   simp only[Option.bind_some]
   by_cases hi:j<v.items.length
   ·have h1:decide ((j:Int)<(0:Int))=false:=by simp
    have h2:decide ((j:Int)≥(v.items.length:Int))=false:=by simp; omega
    have h3:(decide ((0:Int)≤(j:Int))&&decide ((j:Int)<v.items.length))=true:=by simp; omega
    have hg:v.items.getD (j:Int).toNat (Ty.aZ .json)=v.items[j]:=getD_at hi _
    simp only[h1,h2,cond_false,hg,Json.eta]
    rw[aw h3]
    simp[hi]
   ·have h1:decide ((j:Int)<(0:Int))=false:=by simp
    have h2:decide ((j:Int)≥(v.items.length:Int))=true:=by simp; omega
    simp only[h1,h2,cond_false,cond_true]
    simp[show v.items.length≤j by omega]
    rfl
 ·have c1:(v.kind != 7)=true:=by simp[h7]
  rw[c1,cond_true,if_neg h7]
  rfl
end Go.Proofs.YtidfokedcnhahaaGreatDoor.Pu
set_option maxRecDepth 100000
namespace Go.aC
open Go.Lib
def vr (c:Nat):Prop:=c<55296∨(57344≤c∧c≤1114111)
instance (c:Nat):Decidable (vr c):=inferInstanceAs (Decidable (_∨_))
def enc (c:Nat):ah:=encodeRune (c:Int)
theorem enc1 {c:Nat} (h:c<128):enc c = [UInt8.ofNat c]:=by
 unfold enc encodeRune encodeRuneZ
 rw[if_pos (by omega)]
 rfl
theorem enc2 {c:Nat} (h0:128≤c) (h:c<2048):enc c = [UInt8.ofNat (192+c / 64),UInt8.ofNat (128+c % 64)]:=by
 unfold enc encodeRune encodeRuneZ
 rw[if_neg (by omega),if_pos (by omega)]
 have e1:(192+(c:Int) / 64).toNat=192+c / 64:=by omega
 have e2:(128+(c:Int) % 64).toNat=128+c % 64:=by omega
 simp only[List.map_cons,List.map_nil,e1,e2]
theorem enc3 {c:Nat} (h0:2048≤c) (h:c<65536) (hv:vr c):enc c = [UInt8.ofNat (224+c / 4096),UInt8.ofNat (128+c / 64 % 64),UInt8.ofNat (128+c % 64)]:=by
 unfold vr at hv
 unfold enc encodeRune encodeRuneZ
 rw[if_neg (by omega),if_neg (by omega),if_pos (by omega)]
 have e1:(224+(c:Int) / 4096).toNat=224+c / 4096:=by omega
 have e2:(128+(c:Int) / 64 % 64).toNat=128+c / 64 % 64:=by omega
 have e3:(128+(c:Int) % 64).toNat=128+c % 64:=by omega
 simp only[List.map_cons,List.map_nil,e1,e2,e3]
theorem enc4 {c:Nat} (h0:65536≤c) (h:c<1114112):enc c = [UInt8.ofNat (240+c / 262144),UInt8.ofNat (128+c / 4096 % 64),UInt8.ofNat (128+c / 64 % 64),UInt8.ofNat (128+c % 64)]:=by
 unfold enc encodeRune encodeRuneZ
 rw[if_neg (by omega),if_neg (by omega),if_neg (by omega),if_pos (by omega)]
 have e1:(240+(c:Int) / 262144).toNat=240+c / 262144:=by omega
 have e2:(128+(c:Int) / 4096 % 64).toNat=128+c / 4096 % 64:=by omega
 have e3:(128+(c:Int) / 64 % 64).toNat=128+c / 64 % 64:=by omega
 have e4:(128+(c:Int) % 64).toNat=128+c % 64:=by omega
 simp only[List.map_cons,List.map_nil,e1,e2,e3,e4]
theorem gO (n:Nat) (h:n<256):(UInt8.ofNat n).toNat=n:=by
 simp only[UInt8.toNat_ofNat']
 omega
theorem vr_lt {c:Nat} (h:vr c):c<1114112:=by unfold vr at h; omega
theorem Kq {c:Nat} (hv:vr c):(c<128∧enc c = [UInt8.ofNat c])∨(128≤c∧c<2048∧enc c = [UInt8.ofNat (192+c / 64),UInt8.ofNat (128+c % 64)]) ∨
  (2048≤c∧c<65536∧enc c = [UInt8.ofNat (224+c / 4096),UInt8.ofNat (128+c / 64 % 64),UInt8.ofNat (128+c % 64)]) ∨
  (65536≤c∧enc c = [UInt8.ofNat (240+c / 262144),UInt8.ofNat (128+c / 4096 % 64),UInt8.ofNat (128+c / 64 % 64),UInt8.ofNat (128+c % 64)]):=by
 have:=vr_lt hv
 by_cases h1:c<128
 ·exact .inl ⟨h1,enc1 h1⟩
 by_cases h2:c<2048
 ·exact .inr (.inl ⟨by omega,h2,enc2 (by omega) h2⟩)
 by_cases h3:c<65536
 ·exact .inr (.inr (.inl ⟨by omega,h3,enc3 (by omega) h3 hv⟩))
 ·exact .inr (.inr (.inr ⟨by omega,enc4 (by omega) this⟩))
theorem IA {c:Nat} (hv:vr c):1≤(enc c).length∧(enc c).length≤4:=by
 rcases Kq hv with ⟨_,e⟩|⟨_,_,e⟩|⟨_,_,e⟩|⟨_,e⟩ <;> rw[e] <;> simp
theorem Tg {c:Nat} (hv:vr c) (t:ah):decodeL (enc c++t)=(c,(enc c).length):=by
 have kh:=vr_lt hv
 unfold vr at hv
 rw[decodeL_N]
 rcases Kq hv with ⟨h1,e⟩|⟨h0,h1,e⟩|⟨h0,h1,e⟩|⟨h0,e⟩ <;> rw[e]
 ·simp only[List.cons_append,List.getD_cons_zero,gO c (by omega)]
  exact decodeN_ascii _ _ _ _ _ h1
 ·simp only[List.cons_append,List.nil_append,List.getD_cons_zero,List.getD_cons_succ,gO (192+c / 64) (by omega),gO (128+c % 64) (by omega),List.length_cons]
  unfold decodeN
  rw[if_neg (by omega),if_pos ⟨by omega,by omega,by omega⟩,if_pos (by omega)]
  refine Prod.ext ?_ rfl
  show (192+c / 64) % 32*64+(128+c % 64) % 64=c
  omega
 ·simp only[List.cons_append,List.nil_append,List.getD_cons_zero,List.getD_cons_succ,gO (224+c / 4096) (by omega),gO (128+c / 64 % 64) (by omega),gO (128+c % 64) (by omega),List.length_cons]
  unfold decodeN
  have k:(224+c / 4096) % 16*4096+(128+c / 64 % 64) % 64*64+(128+c % 64) % 64=c:=by omega
  rw[if_neg (by omega),if_neg (by omega),if_pos ⟨by omega,⟨by omega,by omega⟩,by omega,by omega⟩,k,if_pos (by omega)]
  simp only[List.length_nil]
 ·simp only[List.cons_append,List.nil_append,List.getD_cons_zero,List.getD_cons_succ,gO (240+c / 262144) (by omega),gO (128+c / 4096 % 64) (by omega),gO (128+c / 64 % 64) (by omega),gO (128+c % 64) (by omega),List.length_cons]
  unfold decodeN
  have k:(240+c / 262144) % 8*262144+(128+c / 4096 % 64) % 64*4096+(128+c / 64 % 64) % 64*64+(128+c % 64) % 64=c:=by omega
  rw[if_neg (by omega),if_neg (by omega),if_neg (by omega),if_pos ⟨by omega,⟨by omega,by omega⟩,⟨by omega,by omega⟩,by omega,by omega⟩,k,if_pos (by omega)]
  simp only[List.length_nil]
def good (l:ah):Prop:=¬((decodeL l).1=65533∧(decodeL l).2=1)
instance (l:ah):Decidable (good l):=inferInstanceAs (Decidable (¬_))
theorem good_enc {c:Nat} (hv:vr c) (t:ah):good (enc c++t):=by
 unfold good
 rw[Tg hv t]
 rintro ⟨h1,h2⟩
 simp only at h1 h2
 rw[h1]at h2
 rw[enc3 (by omega) (by omega) (by unfold vr; omega)]at h2
 cases h2
theorem decodeN_vr (n b0 b1 b2 b3:Nat) (h0:b0<256):vr (decodeN n b0 b1 b2 b3).1:=by
 unfold vr decodeN
 repeat' split
 all_goals simp only
 all_goals omega
theorem dec_vr (l:ah):vr (decodeL l).1:=by
 rw[decodeL_N]
 exact decodeN_vr _ _ _ _ _ (UInt8.toNat_lt _)
theorem dec_good {l:ah} (jS:l ≠ []) (h:good l):l=enc (decodeL l).1++l.drop (decodeL l).2∧(enc (decodeL l).1).length=(decodeL l).2:=by
 have h1:=encode_decode l jS h
 have h2:=decodeL_le l jS
 refine ⟨?_,?_⟩
 ·unfold enc
  rw[h1,List.take_append_drop]
 ·unfold enc
  rw[h1,List.length_take]
  omega
theorem VA {l:ah} (jS:l ≠ []):fU l=if good l then fU (l.drop (decodeL l).2)else false:=by
 unfold fU
 rw[validD_step l jS]
 by_cases h:good l
 ·rw[if_pos h,if_neg (show ¬((decodeL l).1=65533∧(decodeL l).2=1)from h)]
 ·rw[if_neg h,if_pos (Decidable.not_not.1 h)]
theorem enc_ne {c:Nat} (hv:vr c) (t:ah):enc c++t ≠ []:=by
 have:=IA hv
 intro e
 have:=congrArg List.length e
 rw[List.length_append,List.length_nil]at this
 omega
theorem validS_enc {c:Nat} (hv:vr c) (t:ah):fU (enc c++t)=fU t:=by
 rw[VA (enc_ne hv t),if_pos (good_enc hv t),Tg hv t]
 simp
def ff (rs:List Nat):ah:=rs.flatMap enc
theorem VB:∀(rs:List Nat),(∀c∈rs,vr c)→∀t,fU (ff rs++t)=fU t
 | [],_,t=>rfl
 | c::rs,h,t=>by
  have:ff (c::rs)++t=enc c++(ff rs++t):=by simp[ff]
  rw[this,validS_enc (h c (by simp)),VB rs (fun x hx=>h x (by simp[hx]))]
theorem VC:∀(n:Nat) (l:ah),l.length≤n→fU l=true→∃rs:List Nat,(∀c∈rs,vr c)∧l=ff rs
 | 0,l,hl,_=>⟨[],by simp,List.eq_nil_of_length_eq_zero (by omega)⟩
 | n+1,l,hl,h=>by
  by_cases jS:l = []
  ·exact ⟨[],by simp,jS⟩
  rw[VA jS]at h
  split at h
  ·rename_i hg
   obtain ⟨h1,h2⟩:=dec_good jS hg
   have h3:=IA (dec_vr l)
   obtain ⟨rs,hr,e⟩:=VC n (l.drop (decodeL l).2) (by rw[List.length_drop]; omega) h
   refine ⟨(decodeL l).1::rs,?_,?_⟩
   ·intro c hc
    rcases List.mem_cons.1 hc with rfl|hc
    ·exact dec_vr l
    ·exact hr c hc
   ·exact h1.trans ((congrArg (enc (decodeL l).1 ++ ·) e).trans (by simp[ff]))
  ·cases h
theorem Kr {l:ah}:fU l=true↔∃rs:List Nat,(∀c∈rs,vr c)∧l=ff rs:=by
 refine ⟨VC l.length l (Nat.le_refl _),?_⟩
 rintro ⟨rs,hr,rfl⟩
 have:=VB rs hr []
 rw[List.append_nil]at this
 rw[this]; rfl
theorem OM {s t:ah} {i:Nat} (h:i<s.length):(s++t).getD i 0=s.getD i 0:=by
 simp[List.getD,List.getElem?_append_left h]
theorem VD {s t:ah} {x:UInt8}:(s++x::t).getD s.length 0=x:=by
 simp[List.getD]
end Go.aC
set_option maxRecDepth 100000
namespace Go.Proofs.YtidfokedcnhahaaGreatDoor
open Go Go.aC
def xE (n:Int):Prop := -9223372036854775808≤n∧n≤9223372036854775807
theorem qo {n:Int}:IntKind.i64.has n↔xE n:=by
 unfold IntKind.has xE
 simp only[IntKind.min,IntKind.max,IntKind.bits,IntKind.signed]
 simp
theorem wrap32_id {n:Int} (h1:0≤n) (h2:n<1114112):IntKind.i32.wrap n=n:=by
 simp only[IntKind.wrap,IntKind.bits,IntKind.signed,IntKind.min,IntKind.max]
 simp
 omega
theorem encL_snoc (rs:List Nat) (c:Nat):ff (rs ++ [c])=ff rs++enc c:=by simp[ff]
theorem aM {p:Prop} [Decidable p] (h:p):decide p=true:=decide_eq_true h
theorem bJ {p:Prop} [Decidable p] (h:¬p):decide p=false:=decide_eq_false h
end Go.Proofs.YtidfokedcnhahaaGreatDoor
namespace Go.Proofs.YtidfokedcnhahaaGreatDoor.Pu
open Go Go.aC
theorem jok_mk {k m e:Int} {t:ah} {ns:List ah} {xs:List Json} (hk:xE k) (hm:xE m) (he:xE e) (ht:t.length≤1099511627776) (hn:ns.length≤1099511627776) (Rh:∀s∈ns,s.length≤1099511627776) (hx:xs.length≤1099511627776) (hxs:∀y∈xs,FD y) :
  FD ⟨k,⟨m,e⟩,t,ns,xs⟩:=by
 intro c hc
 simp only[Ty.cells,List.mem_cons,List.not_mem_nil,or_false]at hc
 rcases hc with rfl|rfl|rfl|rfl|rfl|rfl
 ·exact .int (qo.2 hk)
 ·exact .int (qo.2 hm)
 ·exact .int (qo.2 he)
 ·exact .str ht
 ·exact .sl hn fun s hs v hv=>by
   simp only[Ty.cells,List.mem_singleton]at hv
   subst hv
   exact .str (Rh s hs)
 ·exact .sl hx fun y hy v hv=>hxs y hy v hv
def mk:List ah→List Json→List ah→List Json→List ah×List Json
 | n::ns,x::xs,a,b=>if a.contains n then mk ns xs a b else mk ns xs (a ++ [n]) (b ++ [x])
 | [],_,a,b=>(a,b)
 | _::_, [],a,b=>(a,b)
theorem UI {R:Type} (ns:List ah) (xs:List Json) (hx:xs.length≤ns.length) (hn:ns.length≤1099511627776) (hj:∀y∈xs,FD y) (p q r:Int) (t:ah) (a b c:Int) (u:ah)
  (e0:Int→Int→Int→ah→Int→Int→Int→ah→List ah→List Json→Option R):∀(n i:Nat) (l:List ah) (m:List Json),i≤xs.length→xs.length - i<n→l.length=m.length→l.length≤i →
  di n ns xs (xs.length:Int) (i:Int) p q r t a b c u l m e0=e0 p q r t a b c u (mk (ns.drop i) (xs.drop i) l m).1 (mk (ns.drop i) (xs.drop i) l m).2:=by
 intro n
 induction n with
 | zero=>intro i l m _ h; omega
 | succ n ih =>
  intro i l m hi hni hlm hli
  show wZ _ _ (fun x1 x2 x3 x4 x5 x6 x7 x8 x9 Un Ni CI HC Lp=>di n x1 x2 x3 x4 x5 x6 x7 x8 x9 Un Ni CI HC Lp e0) _ _ _ _ _ _ _ _ _ _ _ _ _ _ e0=_
  unfold wZ
  by_cases h:i<xs.length
  ·have h1:decide ((i:Int)<(xs.length:Int))=true:=by simp; omega
   have h2:(decide ((0:Int)≤(i:Int))&&true)=true:=by simp
   have h2':(decide ((0:Int)≤(i:Int))&&decide ((i:Int)<ns.length))=true:=by simp; omega
   have hw:IntKind.i64.wrap ((i:Int)+1)=((i+1:Nat):Int):=by rw[cz (by omega) (by omega)]; omega
   have hg:xs.getD (i:Int).toNat (Ty.aZ .json)=xs[i]:=getD_at h _
   have hg':ns.getD (i:Int).toNat (Ty.aZ .str)=ns[i]:=getD_at (by omega) _
   have hr1:decide ((l.length+1)*16≤140737488355328)=true:=by simp; omega
   have hr2:decide ((m.length+1)*88≤140737488355328)=true:=by simp; omega
   rw[h1,cond_true,aw h2,aw h2',hg,hg',contains_eq l (by omega),Json.eta,hw]
   rw[List.drop_eq_getElem_cons h,List.drop_eq_getElem_cons (show i<ns.length by omega)]
   simp only[mk]
   cases hc:l.contains ns[i]with
   | true =>
    simp only[Bool.not_true,cond_false,if_true]
    exact ih (i+1) l m (by omega) (by omega) hlm (by omega)
   | false =>
    simp only[Bool.not_false,cond_true,Bool.false_eq_true,if_false]
    rw[aw h2',aw hr1,YG _ (hj _ (List.getElem_mem h)),aw hr2,Json.eta]
    exact ih (i+1) (l ++ [ns[i]]) (m ++ [xs[i]]) (by omega) (by omega) (by simp[hlm]) (by first|omega|(simp; done)|(simp; omega))
  ·have h1:decide ((i:Int)<(xs.length:Int))=false:=by simp; omega
   rw[h1,cond_false,List.drop_eq_nil_of_le (show xs.length≤i by omega)]
   have:∀ns:List ah,mk ns [] l m=(l,m):=fun ns=>by cases ns <;> rfl
   rw[this]
theorem make_eq {R:Type} (ns:List ah) (xs:List Json) (hn:ns.length≤1099511627776) (hj:∀y∈xs,FD y) (k:Json→Option R) :
  gE ns xs k=k ⟨7,⟨0,0⟩, [],(mk ns xs [] []).1,(mk ns xs [] []).2⟩:=by
 unfold gE Lt
 have hm:(min (xs.length:Int) (ns.length:Int)).toNat - 0=min xs.length ns.length:=by omega
 rw[aw (by first|omega|(simp; done)|(simp; omega)),aw (by first|omega|(simp; done)|(simp; omega)),hm,List.drop_zero]
 have hl:(xs.take (min xs.length ns.length)).length=min xs.length ns.length:=by simp
 refine (UI ns (xs.take (min xs.length ns.length)) (by rw[hl]; omega) hn (fun y hy=>hj y (List.mem_of_mem_take hy)) 0 0 0 [] 7 0 0 [] _ _ 0 [] [] (by omega) (by first|omega|(simp; done)|(simp; omega)) rfl (by simp)).trans ?_
 have key:∀(ns:List ah) (xs:List Json) (a:List ah) (b:List Json),mk ns (xs.take (min xs.length ns.length)) a b=mk ns xs a b:=by
  intro ns
  induction ns with
  | nil=>intro xs a b; cases xs <;> simp[mk]
  | cons n ns ih =>
   intro xs a b
   cases xs with
   | nil=>simp
   | cons x xs =>
    have:min (x::xs).length (n::ns).length=min xs.length ns.length+1:=by simp only[List.length_cons]; omega
    rw[this,List.take_succ_cons]
    simp only[mk,ih]
 simp only[List.drop_zero,key]
theorem FD.ao {x:Json} (h:FD x):xE x.num.ao:=qo.1 (h (.int .i64 x.num.ao) (by simp[Ty.cells])).fj
theorem FD.exp {x:Json} (h:FD x):xE x.num.exp:=qo.1 (h (.int .i64 x.num.exp) (by simp[Ty.cells])).fj
def L7:Nat→Int→Option Int
 | 0,n=>some n
 | k+1,n=>if -100000000000000000≤n∧n≤100000000000000000 then L7 k (n*10)else none
def RB (d:ft):Bool:=if d.ao=0 then decide (d.exp=0)else (decide (Int.tmod d.ao 10≠0)&&(decide (-1000000000000000≤d.ao)&&decide (d.ao≤1000000000000000)))&&(decide (-9≤d.exp)&&decide (d.exp≤9))
def tp (d:ft):Option Int:=if RB d=true∧0≤d.exp then L7 d.exp.toNat d.ao else none
theorem Gu {R:Type} (a b c:Int) (k:Bool→Option R):ay a b c k=k (decide (a≤b)&&decide (b≤c)):=by
 unfold ay mq
 cases decide (a≤b) <;> rfl
theorem right_eq {R:Type} (d:ft) (k:Bool→Option R):bK d k=k (RB d):=by
 unfold bK jD RB
 simp only[Gu]
 by_cases h:d.ao=0
 ·have h1:(d.ao==0)=true:=by simpa using h
  rw[h1,cond_true,if_pos h]
  rfl
 ·have h1:(d.ao==0)=false:=by simpa using h
  rw[h1,cond_false,if_neg h]
  by_cases hq:Int.tmod d.ao 10=0
  ·have h2:(Int.tmod d.ao 10 != 0)=false:=by simp[hq]
   rw[h2,cond_false]
   simp[hq]
  ·have h2:(Int.tmod d.ao 10 != 0)=true:=by simp[hq]
   rw[h2,cond_true]
   cases hw:(decide (-1000000000000000≤d.ao)&&decide (d.ao≤1000000000000000))with
   | true=>simp[hq]
   | false=>simp[hq]
theorem shift_loop {R:Type} (e0:Int→Option R) (e1:Int→Bool→Int→Option R) (f:Int→Bool→Option R) (h1:∀x,e1 0 false x=f 0 false) (h0:∀x,e0 x=f x true) (m:Nat) (hm:m≤9223372036854775806) :
  ∀(n i:Nat) (x:Int),i≤m→m - i<n → -1000000000000000000≤x→x≤1000000000000000000 →
  bZ n x (m:Int) (i:Int) e0 e1=match L7 (m - i) x with|some y=>f y true|none=>f 0 false:=by
 intro n
 induction n with
 | zero=>intro i x _ h; omega
 | succ n ih =>
  intro i x hi hn hx1 hx2
  show pa ay (fun a b c=>bZ n a b c e0 e1) _ _ _ e0 e1=_
  unfold pa
  by_cases h:i<m
  ·have c1:decide ((i:Int)<(m:Int))=true:=by simp; omega
   have hw:IntKind.i64.wrap ((i:Int)+1)=((i+1:Nat):Int):=by rw[cz (by omega) (by omega)]; omega
   have e:m - i=(m - (i+1))+1:=by omega
   rw[c1,cond_true,Gu,e]
   simp only[L7]
   by_cases hb : -100000000000000000≤x∧x≤100000000000000000
   ·have hd:(decide (-100000000000000000≤x)&&decide (x≤100000000000000000))=true:=by simp; exact hb
    rw[hd,if_pos hb]
    simp only[Bool.not_true,cond_false,hw]
    rw[cz (by omega) (by omega)]
    exact ih (i+1) (x*10) (by omega) (by omega) (by omega) (by omega)
   ·have hd:(decide (-100000000000000000≤x)&&decide (x≤100000000000000000))=false:=by
     simp only[Bool.and_eq_false_imp,decide_eq_true_eq,decide_eq_false_iff_not]
     exact fun q1 q2=>hb ⟨q1,q2⟩
    rw[hd,if_neg hb]
    simp only[Bool.not_false,cond_true]
    exact h1 x
  ·have c1:decide ((i:Int)<(m:Int))=false:=by simp; omega
   have e:m - i=0:=by omega
   rw[c1,cond_false,e]
   exact h0 x
theorem T5 {R:Type} (d:ft) (k:Int→Bool→Option R):mv d k=match tp d with|some n=>k n true|none=>k 0 false:=by
 unfold mv JC
 rw[right_eq]
 cases hr:RB d with
 | false =>
  have:tp d=none:=by unfold tp; rw[if_neg (by simp[hr])]
  rw[this]; rfl
 | true =>
  by_cases he:d.exp<0
  ·have:tp d=none:=by unfold tp; rw[if_neg (by omega)]
   have c:decide (d.exp<(0:Int))=true:=by simpa using he
   rw[this]
   simp only[Bool.not_true,cond_false,c,cond_true]
  ·have c:decide (d.exp<(0:Int))=false:=by simpa using he
   have hb : -1000000000000000≤d.ao∧d.ao≤1000000000000000∧d.exp≤9:=by
    unfold RB at hr
    split at hr
    ·simp at hr; omega
    ·simp at hr; omega
   have e:tp d=L7 d.exp.toNat d.ao:=by unfold tp; rw[if_pos ⟨hr,by omega⟩]
   rw[e]
   simp only[Bool.not_true,cond_false,c]
   unfold iJ BZ
   rw[cz (by omega) (by omega)]
   have ec:d.exp - 0=((d.exp.toNat:Nat):Int):=by omega
   rw[ec]
   exact shift_loop _ _ (fun a b=>k a b) (fun x=>rfl) (fun x=>rfl) d.exp.toNat (by omega) _ 0 d.ao (by omega) (by omega) (by omega) (by omega)
def YH (x:Json):Option Int:=if x.kind=4 then tp x.num else none
theorem num_eq {R:Type} (x:Json) (k:Int→Bool→Option R):∃z:Int,sv x k=match YH x with|some n=>k n true|none=>k z false:=by
 unfold sv OF YH
 have eta:(⟨x.num.ao,x.num.exp⟩:ft)=x.num:=rfl
 simp only[T5]
 by_cases h:x.kind=4
 ·have h1:(x.kind==4)=true:=by simpa using h
  refine ⟨0,?_⟩
  rw[if_pos h]
  cases hd:tp x.num with
  | some n=>simp only[hd,cond_true,h1]
  | none=>simp only[hd,cond_false]
 ·have h1:(x.kind==4)=false:=by simpa using h
  refine ⟨(tp x.num).getD 0,?_⟩
  rw[if_neg h]
  cases hd:tp x.num with
  | some n=>simp only[hd,cond_true,h1,Option.getD_some]
  | none=>simp only[hd,cond_false,Option.getD_none]
def Wp (v:Json) (s:ah):Option Json:=if v.kind=7 then look s v.names v.items else none
theorem at7_ok {v:Json} (hv:FD v) {s:ah} {x:Json} (h:Wp v s=some x):FD x:=by
 unfold Wp at h
 split at h
 ·rw[RA]at h
  cases hp:v.names.findIdx? (s == ·)with
  | none=>rw[hp]at h; cases h
  | some j=>rw[hp]at h; exact hv.item (List.mem_of_getElem? h)
 ·cases h
theorem Num_eq {R:Type} (v:Json) (hv:FD v) (s:ah) (k:Int→Bool→Option R):sw v s k=match (Wp v s).bind YH with|some n=>k n true|none=>k 0 false:=by
 unfold sw OJ gk yo
 simp only[Json.eta]
 rw[find_eq v hv]
 show (match Wp v s with|some x=>_|none=>_)=_
 cases Wp v s with
 | none=>rfl
 | some x =>
  simp only[Bool.not_true,cond_false,Option.bind_some]
  obtain ⟨z,hz⟩:=num_eq x (fun y5 y6=>bif y6 then (k y5 true)else (k 0 false))
  refine hz.trans ?_
  cases YH x <;> rfl
def textF (x:Json):Option ah:=if x.kind=5 then some x.text else none
theorem Text_eq {R:Type} (v:Json) (hv:FD v) (s:ah) (k:ah→Bool→Option R):fB v s k=match (Wp v s).bind textF with|some n=>k n true|none=>k [] false:=by
 unfold fB LS eM tI mc Hd
 simp only[Json.eta]
 rw[find_eq v hv]
 show (match Wp v s with|some x=>_|none=>_)=_
 cases Wp v s with
 | none=>rfl
 | some x =>
  simp only[Bool.not_true,cond_false,Option.bind_some,textF]
  by_cases h:x.kind=5
  ·have h1:(x.kind==5)=true:=by simpa using h
   simp only[h1,cond_true,if_pos h]
  ·have h1:(x.kind==5)=false:=by simpa using h
   simp only[h1,cond_false,if_neg h]
def YI (x:Json):Option Bool:=if x.kind=3 then some true else if x.kind=2 then some false else none
theorem flag_eq {R:Type} (x:Json) (k:Bool→Bool→Option R):oY x k=match YI x with|some b=>k b true|none=>k false false:=by
 unfold oY L2 YI
 by_cases h:x.kind=3
 ·have h1:(x.kind==3)=true:=by simpa using h
  simp only[h1,cond_true,if_pos h]
 ·have h1:(x.kind==3)=false:=by simpa using h
  by_cases h':x.kind=2
  ·have h2:(x.kind==2)=true:=by simpa using h'
   simp only[h1,h2,cond_false,if_neg h,if_pos h']
  ·have h2:(x.kind==2)=false:=by simpa using h'
   simp only[h1,h2,cond_false,if_neg h,if_neg h']
theorem Flag_eq {R:Type} (v:Json) (hv:FD v) (s:ah) (k:Bool→Bool→Option R):oZ v s k=match (Wp v s).bind YI with|some n=>k n true|none=>k false false:=by
 unfold oZ L6 fE wI
 simp only[Json.eta]
 rw[find_eq v hv]
 show (match Wp v s with|some x=>_|none=>_)=_
 cases Wp v s with
 | none=>rfl
 | some x =>
  simp only[Bool.not_true,cond_false,Option.bind_some,flag_eq]
  cases YI x <;> rfl
def listF (x:Json):Option (List Json):=if x.kind=6 then some x.items else none
theorem List_eq {R:Type} (v:Json) (hv:FD v) (s:ah) (k:List Json→Bool→Option R):oX v s k=match (Wp v s).bind listF with|some n=>k n true|none=>k [] false:=by
 unfold oX LZ fC wF me Hh
 simp only[Json.eta]
 rw[find_eq v hv]
 show (match Wp v s with|some x=>_|none=>_)=_
 cases hq:Wp v s with
 | none=>rfl
 | some x =>
  simp only[Bool.not_true,cond_false,Option.bind_some,listF]
  rw[YG x (at7_ok hv hq)]
  by_cases h:x.kind=6
  ·have h1:(x.kind==6)=true:=by simpa using h
   simp only[h1,cond_true,if_pos h]
  ·have h1:(x.kind==6)=false:=by simpa using h
   simp only[h1,cond_false,if_neg h]
end Go.Proofs.YtidfokedcnhahaaGreatDoor.Pu
/-
 Functions of the program as pure Lean functions, and the ties; printed by wip/tools/emit.py.
-/
set_option maxRecDepth 100000
namespace Go.Proofs.YtidfokedcnhahaaGreatDoor
open Go Go.aC
variable {R:Type}
/-! ### humpyard/humpyardref01.Make -/
abbrev JF (R:Type):Type:=Int→Int→(ft→Bool→Option R)→Option R
abbrev L8:List cM := [.leaf (.int .i64), .leaf (.int .i64)]
abbrev L9:List aW := []
def QQ (fn:JF R):k9 R L8 L9:=fun x y k=>fn x.1 x.2.1 (fun q0 q1=>k (.tuple [.agg [.int .i64 q0.ao, .int .i64 q0.exp], .bool q1]) [])
def ref01_Make_s (fn:JF R):=aI L8 L9 (QQ fn)
abbrev B3 (R:Type):Type:=Nat→Int→Int→ft→(Int→Int→ft→Option R)→(Int→Int→Bool→ft→Option R)→Option R
def xe:Hint := { live := [0,1,4],own := [],rows := [],cells := [],drop := [],out := [0,1,4,5] }
abbrev ot:Type:=Int×Int×ft
def Ar:ot→St:=fun d=>⟨.int .i64 d.1 :: .int .i64 d.2.1::U 2 (.ptr 0 0::U 32 ([])), [.cells [.int .i64 d.2.2.ao, .int .i64 d.2.2.exp]]⟩
def B4 (K:Ex→St→Option R) (q0:Int) (q1:Int) (q2:ft):Option R:=K (.exit 0) ⟨.int .i64 q0 :: .int .i64 q1::U 2 (.ptr 0 0::U 32 ([])), [.cells [.int .i64 q2.ao, .int .i64 q2.exp]]⟩
def B5 (K:Ex→St→Option R) (q0:Int) (q1:Int) (q2:Bool) (q3:ft):Option R:=K (.ret) ⟨.int .i64 q0 :: .int .i64 q1::U 2 (.ptr 0 0 :: .bool q2::U 31 ([])), [.cells [.int .i64 q3.ao, .int .i64 q3.exp]]⟩
abbrev sD:List cM := .leaf (.int .i64) :: .leaf (.int .i64)::PU 2 (.leaf (.ptr 0 0)::PU 32 ([]))
abbrev sE:List aW := [.cells [.int .i64, .int .i64]]
def Ks (x:cM.bQ sD) (y:aW.bQ sE):Nat:=(Int.natAbs x.1+Int.natAbs x.2.1+ft.fu (⟨y.1.1,y.1.2.1⟩:ft)+64)
def UJ (x:cM.bQ sD) (y:aW.bQ sE):ot:=(x.1,x.2.1,(⟨y.1.1,y.1.2.1⟩:ft))
def IB (L:B3 R):wU R sD sE:=fun x y K=>L (Ks x y) x.1 x.2.1 (⟨y.1.1,y.1.2.1⟩:ft) (B4 K) (B5 K)
section
variable (cm:B3 R)
def jV (dx:Int→Int→ft→Option R) (x3:Int) (x4:Int) (x5:ft) (e0:Int→Int→ft→Option R) (e1:Int→Int→Bool→ft→Option R):Option R :=
 bif ((Int.tmod x3 10)==0)then (bif (decide (x4>(1099511627776:Int)))then (e1 (IntKind.i64.wrap (Int.tdiv x3 10)) x4 false (⟨0,0⟩:ft))else (dx (IntKind.i64.wrap (Int.tdiv x3 10)) (IntKind.i64.wrap (x4+1)) x5))else (e0 x3 x4 x5)
def Kt (K:Ex→St→Option R) (rc:ot→Option R) (d:ot):Option R:=jV (fun z0 z1 z2=>rc (z0,z1,z2)) d.1 d.2.1 d.2.2 (B4 K) (B5 K)
def B6:Nat→Option (Hint×cJ R):=fun i=>match i with
 | 3=>some (xe,(cE sD sE (IB cm) iK))
 | _=>none
theorem P9 (K:Ex→St→Option R) (rc:St→Option R) (d:ot):roundOf tt (cO []) (B6 cm) 0 ((aA (bb Tryz.f101)).getD 0 .skip) xe (Ar d) rc K=Kt K (fun d=>rc (Ar d)) d:=by kernel_rfl
def tS (x1:Int) (x2:Int) (k0:ft→Bool→Option R):Option R :=
 bif (x1==0)then (k0 (⟨0,0⟩:ft) true)else (cm (Int.natAbs x1+Int.natAbs x2+ft.fu (⟨0,0⟩:ft)+64) x1 x2 (⟨0,0⟩:ft) (fun y6 y7 y8=>bif (decide (y6>(1000000000000000:Int)))then (k0 (⟨0,0⟩:ft) false)else (bif (decide (y6<(-1000000000000000:Int)))then (k0 (⟨0,0⟩:ft) false)else (bif (decide (y7>(9:Int)))then (k0 (⟨0,0⟩:ft) false)else (bif (decide (y7<(-9:Int)))then (k0 (⟨0,0⟩:ft) false)else (k0 (⟨y6,y7⟩:ft) true))))) (fun y9 uf vO Ad=>k0 Ad vO))
theorem aam:dC (R:=R) tt [] (B6 cm) false Tryz.f101 L8 L9 (QQ (tS cm)):=fun x y k=>by kernel_rfl
end
def cm:B3 R
 | 0,_,_,_,_,_=>none
 | n+1,gh,gl,gv,e0,e1=>jV (fun gh gl gv=>cm n gh gl gv e0 e1) gh gl gv e0 e1
def Ku (K:Ex→St→Option R) (n:Nat) (d:ot):Option R:=cm n d.1 d.2.1 d.2.2 (B4 K) (B5 K)
theorem Th (other:cJ R) (ho:gV tt (cO []) (B6 (R:=R) cm) 0 ((aA (bb Tryz.f101)).getD 0 .skip) xe other):gV tt (cO []) (B6 (R:=R) cm) 0 ((aA (bb Tryz.f101)).getD 0 .skip) xe (cE sD sE (IB (cm)) other) :=
 cN (A:=Ku) ho (dT Ar (Kt) (Ku) (fun _ _=>by kernel_rfl) (P9 cm) (fun _ _ _=>by kernel_rfl)) Ks UJ (fun _ _=>by kernel_rfl) (fun _ _ _=>by kernel_rfl)
def tT:JF R:=fun x1 x2 k0=>tS cm x1 x2 k0
theorem UK (R:Type):∀a∈aA (bb Tryz.f101),gJ tt (cO []) (B6 (R:=R) cm) 0 a:=by
 refine eX 1 (by kernel_rfl) fun i hi => ?_
 match i,hi with
 | 0,_=>exact cy (by kernel_rfl) (Th _ dt)
 | n+1,hi=>omega
theorem ref01_Make_S_ok (R:Type):k6 Tryz.prog 101 (ref01_Make_s (tT (R:=R))):=br TT mixed .n rfl rfl rfl rfl (UK R) (aam cm)
end Go.Proofs.YtidfokedcnhahaaGreatDoor
/-
 Functions of the program as pure Lean functions, and the ties; printed by wip/tools/emit.py.
-/
set_option maxRecDepth 100000
namespace Go.Proofs.YtidfokedcnhahaaGreatDoor
open Go Go.aC
variable {R:Type}
/-! ### humpyard/humpyardref04.has -/
abbrev Gc (R:Type):Type:=(List ah)→ah→(Bool→Option R)→Option R
abbrev ON:List cM := [.leaf (.sl .str), .leaf (.str)]
abbrev OO:List aW := []
def Ti (fn:Gc R):k9 R ON OO:=fun x y k=>fn x.1 x.2.1 (fun q0=>k (.bool q0) [])
def VE (fn:Gc R):=aI ON OO (Ti fn)
abbrev Dw (R:Type):Type:=Nat→(List ah)→ah→Int→(Option R)→(Bool→Option R)→Option R
def zF:Hint := { live := [0,1,5],own := [],rows := [],cells := [],drop := [],out := [4] }
abbrev pJ:Type:=(List ah)×ah×Int
def B7:pJ→St:=fun d=>⟨.sl .str d.1 .no :: .str d.2.1::U 3 (.int .i64 d.2.2::U 12 ([])), []⟩
def Dx (K:Ex→St→Option R):Option R:=K (.exit 0) ⟨U 18 ([]), []⟩
def Dy (K:Ex→St→Option R) (q0:Bool):Option R:=K (.ret) ⟨U 4 (.bool q0::U 13 ([])), []⟩
abbrev uA:List cM := .leaf (.sl .str) :: .leaf (.str)::PU 3 (.leaf (.int .i64)::PU 12 ([]))
abbrev uB:List aW := []
def MX (x:cM.bQ uA) (y:aW.bQ uB):Nat:=(List.length x.1+List.length x.2.1+Int.natAbs x.2.2.2.2.2.1+64)
def Wq (x:cM.bQ uA) (y:aW.bQ uB):pJ:=(x.1,x.2.1,x.2.2.2.2.2.1)
def Kv (L:Dw R):wU R uA uB:=fun x y K=>L (MX x y) x.1 x.2.1 x.2.2.2.2.2.1 (Dx K) (Dy K)
section
variable (ei:Dw R)
def MY (dx:(List ah)→ah→Int→Option R) (x3:List ah) (x4:ah) (x5:Int) (e0:Option R) (e1:Bool→Option R):Option R :=
 bif (decide (x5<(x3.length:Int)))then (ca (decide ((0:Int)≤x5)&&decide (x5<x3.length)) (bif ((x3.getD x5.toNat (Ty.aZ .str))==x4)then (e1 true)else (dx x3 x4 (IntKind.i64.wrap (x5+1)))))else (e0)
def MZ (K:Ex→St→Option R) (rc:pJ→Option R) (d:pJ):Option R:=MY (fun z0 z1 z2=>rc (z0,z1,z2)) d.1 d.2.1 d.2.2 (Dx K) (Dy K)
def Ev:Nat→Option (Hint×cJ R):=fun i=>match i with
 | 2=>some (zF,(cE uA uB (Kv ei) iK))
 | _=>none
theorem RC (K:Ex→St→Option R) (rc:St→Option R) (d:pJ):roundOf tt (cO []) (Ev ei) 0 ((aA (bb Tryz.f154)).getD 0 .skip) zF (B7 d) rc K=MZ K (fun d=>rc (B7 d)) d:=by kernel_rfl
def VF (x1:List ah) (x2:ah) (k0:Bool→Option R):Option R :=
 ei (List.length x1+List.length x2+Int.natAbs 0+64) x1 x2 0 (k0 false) (fun y6=>k0 y6)
theorem ref04_has_ok:dC (R:=R) tt [] (Ev ei) false Tryz.f154 ON OO (Ti (VF ei)):=fun x y k=>by kernel_rfl
end
def ei:Dw R
 | 0,_,_,_,_,_=>none
 | n+1,gh,gl,gv,e0,e1=>MY (fun gh gl gv=>ei n gh gl gv e0 e1) gh gl gv e0 e1
def M0 (K:Ex→St→Option R) (n:Nat) (d:pJ):Option R:=ei n d.1 d.2.1 d.2.2 (Dx K) (Dy K)
theorem UL (other:cJ R) (ho:gV tt (cO []) (Ev (R:=R) ei) 0 ((aA (bb Tryz.f154)).getD 0 .skip) zF other):gV tt (cO []) (Ev (R:=R) ei) 0 ((aA (bb Tryz.f154)).getD 0 .skip) zF (cE uA uB (Kv (ei)) other) :=
 cN (A:=M0) ho (dT B7 (MZ) (M0) (fun _ _=>by kernel_rfl) (RC ei) (fun _ _ _=>by kernel_rfl)) MX Wq (fun _ _=>by kernel_rfl) (fun _ _ _=>by kernel_rfl)
def ij:Gc R:=fun x1 x2 k0=>VF ei x1 x2 k0
theorem Wr (R:Type):∀a∈aA (bb Tryz.f154),gJ tt (cO []) (Ev (R:=R) ei) 0 a:=by
 refine eX 1 (by kernel_rfl) fun i hi => ?_
 match i,hi with
 | 0,_=>exact cy (by kernel_rfl) (UL _ dt)
 | n+1,hi=>omega
theorem YJ (R:Type):k6 Tryz.prog 154 (VE (ij (R:=R))):=br TT mixed .n rfl rfl rfl rfl (Wr R) (ref04_has_ok ei)
end Go.Proofs.YtidfokedcnhahaaGreatDoor
/-
 Functions of the program as pure Lean functions, and the ties; printed by wip/tools/emit.py.
-/
set_option maxRecDepth 100000
namespace Go.Proofs.YtidfokedcnhahaaGreatDoor
open Go Go.aC
variable {R:Type}
/-! ### humpyard/quote.Quote -/
abbrev wJ (R:Type):Type:=ah→(ah→Bool→Option R)→Option R
abbrev JG:List cM := [.leaf (.str)]
abbrev JH:List aW := []
def OP (fn:wJ R):k9 R JG JH:=fun x y k=>fn x.1 (fun q0 q1=>k (.tuple [.str q0, .bool q1]) [])
def JI (fn:wJ R):=aI JG JH (OP fn)
abbrev As (R:Type):Type:=Nat→(List Int)→ah→Nat→((List Int)→Option R)→Option R
def vz:Hint := { live := [4,13],own := [],rows := [],cells := [],drop := [],out := [2,3,4] }
abbrev mO:Type:=(List Int)×ah×Nat
def yp:mO→St:=fun d=>⟨U 4 (.ptr 0 0::U 8 (.ptr 1 0::U 27 ([]))), [.mA (.sl (.int .u8) d.1 (.own 2)), .iter d.2.1 d.2.2, .tok]⟩
def Au (K:Ex→St→Option R) (q0:List Int):Option R:=K (.exit 0) ⟨U 4 (.ptr 0 0::U 36 ([])), [.mA (.sl (.int .u8) q0 (.own 1)), .tok]⟩
abbrev qp:List cM:=PU 4 (.leaf (.ptr 0 0)::PU 8 (.leaf (.ptr 1 0)::PU 27 ([])))
abbrev qq:List aW := [.mA (.TY (.int .u8) 2), .iter, .tok]
def IC (x:cM.bQ qp) (y:aW.bQ qq):Nat:=(List.length y.1+List.length y.2.1.1+64)
def Tj (x:cM.bQ qp) (y:aW.bQ qq):mO:=(y.1,y.2.1.1,y.2.1.2)
def Hj (L:As R):wU R qp qq:=fun x y K=>L (IC x y) y.1 y.2.1.1 y.2.1.2 (Au K)
section
variable (bM:r6 R) (aj:dQ R) (ad:dR R) (eW:BK R) (ae:cZ R) (ak:eY R) (cC:As R)
def uS:List (oi R) := [(165,true,(DS bM ax)),(126,false,(gY ad (gX aj ax))),(169,true,(QE eW ax)),(124,false,(eU ae ax)),(170,false,(kG ak ax)),(84,false,(Lo R))]
def kO (dx:(List Int)→ah→Nat→Option R) (x4:List Int) (x5:ah) (x6:Nat) (e0:(List Int)→Option R):Option R :=
 bif decide (x6<x5.length)then (eW ((ml x5 x6).1:Int) (fun y7=>bif (y7 != 0)then (ad 92 x4 (fun y8=>ad y7 y8 (fun y9=>dx y9 x5 (x6+(ml x5 x6).2))))else (bif (decide (((ml x5 x6).1:Int)<(32:Int)))then (ae ([92,117,48,48]:ah) x4 (fun uf vO=>ca (decide ((0:Int)≤(Int.fdiv ((ml x5 x6).1:Int) (2 ^ (min 4 IntKind.i32.bits))))&&decide ((Int.fdiv ((ml x5 x6).1:Int) (2 ^ (min 4 IntKind.i32.bits)))<(16:Int))) (ad ((([48,49,50,51,52,53,54,55,56,57,97,98,99,100,101,102]:ah).getD ((Int.fdiv ((ml x5 x6).1:Int) (2 ^ (min 4 IntKind.i32.bits))).toNat) 0).toNat:Int) vO (fun Ad=>ca (decide ((0:Int)≤(IntKind.i32.wrap ((BitVec.ofInt IntKind.i32.bits ((ml x5 x6).1:Int) &&& BitVec.ofInt IntKind.i32.bits 15).toNat:Int)))&&decide ((IntKind.i32.wrap ((BitVec.ofInt IntKind.i32.bits ((ml x5 x6).1:Int) &&& BitVec.ofInt IntKind.i32.bits 15).toNat:Int))<(16:Int))) (ad ((([48,49,50,51,52,53,54,55,56,57,97,98,99,100,101,102]:ah).getD ((IntKind.i32.wrap ((BitVec.ofInt IntKind.i32.bits ((ml x5 x6).1:Int) &&& BitVec.ofInt IntKind.i32.bits 15).toNat:Int)).toNat) 0).toNat:Int) Ad (fun Jg=>dx Jg x5 (x6+(ml x5 x6).2)))))))else (ak ((ml x5 x6).1:Int) x4 (fun HF JR=>dx JR x5 (x6+(ml x5 x6).2))))))else (e0 x4)
def ID (K:Ex→St→Option R) (rc:mO→Option R) (d:mO):Option R:=kO ad eW ae ak (fun z0 z1 z2=>rc (z0,z1,z2)) d.1 d.2.1 d.2.2 (Au K)
def zk:Nat→Option (Hint×cJ R):=fun i=>match i with
 | 6=>some (vz,(cE qp qq (Hj cC) iK))
 | _=>none
theorem OQ (K:Ex→St→Option R) (rc:St→Option R) (d:mO):roundOf tt (cO (uS bM aj ad eW ae ak)) (zk cC) 0 ((aA (bb Tryz.f123)).getD 0 .skip) vz (yp d) rc K=ID ad eW ae ak K (fun d=>rc (yp d)) d:=by kernel_rfl
def uT (x1:ah) (k0:ah→Bool→Option R):Option R :=
 bM x1 (fun y2=>bif (!y2)then (k0 ([]:ah) false)else (aj 34 (fun y3=>cC (List.length y3+List.length x1+64) y3 x1 0 (fun Fo=>ad 34 Fo (fun R4=>k0 (vM R4) true)))))
theorem YK:dC (R:=R) tt (uS bM aj ad eW ae ak) (zk cC) false Tryz.f123 JG JH (OP (uT bM aj ad cC)):=fun x y k=>by kernel_rfl
end
theorem Ws:ct (R:=R) Tryz.prog (uS (R:=R) bM aj ad eW ae ak) := .c (Dq R) <| .f (jy R _ (jx R _ (jl _))) rfl <| .c (UA R) <| .d (fG R) rfl <| .d (og R) rfl <| .s (WZ) PG <| .n
def cC:As R
 | 0,_,_,_,_=>none
 | n+1,gh,gl,gv,e0=>kO ad eW ae ak (fun gh gl gv=>cC n gh gl gv e0) gh gl gv e0
def IE (K:Ex→St→Option R) (n:Nat) (d:mO):Option R:=cC n d.1 d.2.1 d.2.2 (Au K)
theorem RD (other:cJ R) (ho:gV tt (cO (uS (R:=R) bM aj ad eW ae ak)) (zk (R:=R) cC) 0 ((aA (bb Tryz.f123)).getD 0 .skip) vz other):gV tt (cO (uS (R:=R) bM aj ad eW ae ak)) (zk (R:=R) cC) 0 ((aA (bb Tryz.f123)).getD 0 .skip) vz (cE qp qq (Hj (cC)) other) :=
 cN (A:=IE) ho (dT yp (ID ad eW ae ak) (IE) (fun _ _=>by kernel_rfl) (OQ bM aj ad eW ae ak cC) (fun _ _ _=>by kernel_rfl)) IC Tj (fun _ _=>by kernel_rfl) (fun _ _ _=>by kernel_rfl)
def dX:wJ R:=fun x1 k0=>uT bM aj ad cC x1 k0
theorem Tk (R:Type):∀a∈aA (bb Tryz.f123),gJ tt (cO (uS (R:=R) bM aj ad eW ae ak)) (zk (R:=R) cC) 0 a:=by
 refine eX 1 (by kernel_rfl) fun i hi => ?_
 match i,hi with
 | 0,_=>exact cy (by kernel_rfl) (RD _ dt)
 | n+1,hi=>omega
theorem Kw (R:Type):k6 Tryz.prog 123 (JI (dX (R:=R))):=br TT mixed (Ws (R:=R)) rfl rfl rfl rfl (Tk R) (YK bM aj ad eW ae ak cC)
/-! ### humpyard/json.write$1 -/
abbrev qs (R:Type):Type:=ah→((List Int)→Option R)→Option R
abbrev yq:List cM := [.leaf (.str), .leaf (.ptr 0 0)]
abbrev yr:List aW := [.cells [.ptr 1 0], .mA (.bw)]
def Ew (fn:qs R):k9 R yq yr:=fun x y k=>fn x.1 (fun q0=>k (.tuple []) [.cells [.ptr 1 0], .mA (.sl (.int .u8) q0 (.own 2)), .tok])
def FE (fn:qs R):=aI yq yr (Ew fn)
section
variable (dX:wJ R) (ai:dz R)
def FF:List (oi R) := [(123,true,(JI dX ax)),(124,false,(gI ai ax))]
def FG (x1:ah) (k0:(List Int)→Option R):Option R :=
 dX x1 (fun y2 y3=>ai y2 (fun y4 y5=>k0 y5))
theorem OR:dC (R:=R) tt (FF dX ai) rP false Tryz.f122 yq yr (Ew (FG dX ai)):=fun x y k=>by kernel_rfl
end
theorem Nw:ct (R:=R) Tryz.prog (FF (R:=R) dX ai) := .c (Kw R) <| .d (iP R) rfl <| .n
def dq:qs R:=fun x1 k0=>FG dX ai x1 k0
theorem Ma (R:Type):k6 Tryz.prog 122 (FE (dq (R:=R))):=br TT mixed (Nw (R:=R)) rfl rfl rfl rfl cb (OR dX ai)
/-! ### humpyard/json.write$1 -/
abbrev mw (R:Type):Type:=ah→(List Int)→((List Int)→Option R)→Option R
abbrev yt:List cM := [.leaf (.str), .leaf (.ptr 0 0)]
abbrev yu:List aW := [.cells [.ptr 1 0], .mA (.TY (.int .u8) 2), .tok]
def Ey (fn:mw R):k9 R yt yu:=fun x y k=>fn x.1 y.2.1 (fun q0=>k (.tuple []) [.cells [.ptr 1 0], .mA (.sl (.int .u8) q0 (.own 3)), .dead, .tok])
def yv (fn:mw R):=aI yt yu (Ey fn)
section
variable (dX:wJ R) (ae:cZ R)
def FH:List (oi R) := [(123,true,(JI dX ax)),(124,false,(eU ae ax))]
def FI (x1:ah) (x2:List Int) (k0:(List Int)→Option R):Option R :=
 dX x1 (fun y3 y4=>ae y3 x2 (fun y5 y6=>k0 y6))
theorem OS:dC (R:=R) tt (FH dX ae) rP false Tryz.f122 yt yu (Ey (FI dX ae)):=fun x y k=>by kernel_rfl
end
theorem Nx:ct (R:=R) Tryz.prog (FH (R:=R) dX ae) := .c (Kw R) <| .d (fG R) rfl <| .n
def aL:mw R:=fun x1 x2 k0=>FI dX ae x1 x2 k0
theorem B8 (R:Type):k6 Tryz.prog 122 (yv (aL (R:=R))):=br TT mixed (Nx (R:=R)) rfl rfl rfl rfl cb (OS dX ae)
/-! ### humpyard/json.write -/
abbrev dd (R:Type):Type:=Json→(List Int)→((List Int)→Option R)→Option R
abbrev hY:List cM := [.leaf (.ptr 0 0), .agg [.int .i64, .int .i64, .int .i64, .str, .sl .str, .sl .json]]
abbrev hZ:List aW := [.mA (.TY (.int .u8) 1), .tok]
def ej (fn:dd R):k9 R hY hZ:=fun x y k=>fn (⟨x.2.1.1,⟨x.2.1.2.1,x.2.1.2.2.1⟩,x.2.1.2.2.2.1,x.2.1.2.2.2.2.1,x.2.1.2.2.2.2.2.1⟩:Json) y.1 (fun q0=>k (.tuple []) [.mA (.sl (.int .u8) q0 (.own 2)), .dead, .tok])
def IF (fn:dd R):=aI hY hZ (ej fn)
abbrev sF (R:Type):Type:=Nat→ah→(List Json)→Int→Int→(List Int)→Json→(ah→(List Int)→Option R)→Option R
def nW:Hint := { live := [2,3,4,5,43,44,45],own := [],rows := [],cells := [],drop := [],out := [2,5] }
abbrev iV:Type:=ah×(List Json)×Int×Int×(List Int)×Json
def qT:iV→St:=fun d=>⟨U 2 (.ptr 2 0 :: .ptr 3 0 :: .func 122 [] [.ptr 2 0] :: .str d.1::U 37 (.sl .json d.2.1 .no :: .int .i64 d.2.2.1 :: .int .i64 d.2.2.2.1::U 28 ([]))), [.mA (.sl (.int .u8) d.2.2.2.2.1 (.own 4)), .dead, .cells [.ptr 0 0], .cells [.int .i64 d.2.2.2.2.2.kind, .int .i64 d.2.2.2.2.2.num.ao, .int .i64 d.2.2.2.2.2.num.exp, .str d.2.2.2.2.2.text, .sl .str d.2.2.2.2.2.names .no, .sl .json d.2.2.2.2.2.items .no], .tok]⟩
def sG (K:Ex→St→Option R) (q0:ah) (q1:List Int):Option R:=K (.exit 1) ⟨U 2 (.ptr 2 0::U 2 (.str q0::U 68 ([]))), [.mA (.sl (.int .u8) q1 (.own 3)), .dead, .cells [.ptr 0 0], .tok]⟩
abbrev kP:List cM:=PU 2 (.leaf (.ptr 2 0) :: .leaf (.ptr 3 0) :: .func 122 [] [.ptr 2 0] :: .leaf (.str)::PU 37 (.leaf (.sl .json) :: .leaf (.int .i64) :: .leaf (.int .i64)::PU 28 ([])))
abbrev kQ:List aW := [.mA (.TY (.int .u8) 4), .dead, .cells [.ptr 0 0], .cells [.int .i64, .int .i64, .int .i64, .str, .sl .str, .sl .json], .tok]
def B9 (x:cM.bQ kP) (y:aW.bQ kQ):Nat:=(List.length x.2.2.2.2.2.1+List.length ((t8 (t8 (t8 (t8 (t8 x))))).2.2.2.1)+Int.natAbs ((t8 (t8 (t8 (t8 (t8 x))))).2.2.2.2.1)+Int.natAbs ((t8 (t8 (t8 (t8 (t8 x))))).2.2.2.2.2.1)+List.length y.1+Json.fu (⟨y.2.2.2.1.1,⟨y.2.2.2.1.2.1,y.2.2.2.1.2.2.1⟩,y.2.2.2.1.2.2.2.1,y.2.2.2.1.2.2.2.2.1,y.2.2.2.1.2.2.2.2.2.1⟩:Json)+64)
def Mb (x:cM.bQ kP) (y:aW.bQ kQ):iV:=(x.2.2.2.2.2.1,(t8 (t8 (t8 (t8 (t8 x))))).2.2.2.1,(t8 (t8 (t8 (t8 (t8 x))))).2.2.2.2.1,(t8 (t8 (t8 (t8 (t8 x))))).2.2.2.2.2.1,y.1,(⟨y.2.2.2.1.1,⟨y.2.2.2.1.2.1,y.2.2.2.1.2.2.1⟩,y.2.2.2.1.2.2.2.1,y.2.2.2.1.2.2.2.2.1,y.2.2.2.1.2.2.2.2.2.1⟩:Json))
def AY (L:sF R):wU R kP kQ:=fun x y K=>L (B9 x y) x.2.2.2.2.2.1 ((t8 (t8 (t8 (t8 (t8 x))))).2.2.2.1) ((t8 (t8 (t8 (t8 (t8 x))))).2.2.2.2.1) ((t8 (t8 (t8 (t8 (t8 x))))).2.2.2.2.2.1) y.1 (⟨y.2.2.2.1.1,⟨y.2.2.2.1.2.1,y.2.2.2.1.2.2.1⟩,y.2.2.2.1.2.2.2.1,y.2.2.2.1.2.2.2.2.1,y.2.2.2.1.2.2.2.2.2.1⟩:Json) (sG K)
section
variable (bL:r7 R) (ad:dR R) (ae:cZ R) (az:dd R) (aL:mw R) (aT:sF R)
def mP:List (oi R) := [(125,true,(EZ bL ax)),(126,false,(gY ad ax)),(124,false,(eU ae ax)),(83,false,(aI hY hZ (ej az) ax)),(122,false,(yv aL ax))]
def iW (dx:ah→(List Json)→Int→Int→(List Int)→Json→Option R) (oj:ah) (tB:List Json) (lG:Int) (oT:Int) (E8:List Int) (uR:Json) (e0:ah→(List Int)→Option R):Option R :=
 bif (decide (oT<lG))then (ca (decide ((0:Int)≤oT)&&decide (oT<tB.length)) (bif (decide (oT>(0:Int)))then (ad 44 E8 (fun GO=>bif (uR.kind==7)then (ca (decide ((0:Int)≤oT)&&decide (oT<uR.names.length)) (aL (uR.names.getD oT.toNat (Ty.aZ .str)) GO (fun y22=>ad 58 y22 (fun y23=>az (⟨(tB.getD oT.toNat (Ty.aZ .json)).kind,⟨(tB.getD oT.toNat (Ty.aZ .json)).num.ao,(tB.getD oT.toNat (Ty.aZ .json)).num.exp⟩,(tB.getD oT.toNat (Ty.aZ .json)).text,(tB.getD oT.toNat (Ty.aZ .json)).names,(tB.getD oT.toNat (Ty.aZ .json)).items⟩:Json) y23 (fun y24=>dx oj tB lG (IntKind.i64.wrap (oT+1)) y24 (⟨uR.kind,⟨uR.num.ao,uR.num.exp⟩,uR.text,uR.names,uR.items⟩:Json))))))else (az (⟨(tB.getD oT.toNat (Ty.aZ .json)).kind,⟨(tB.getD oT.toNat (Ty.aZ .json)).num.ao,(tB.getD oT.toNat (Ty.aZ .json)).num.exp⟩,(tB.getD oT.toNat (Ty.aZ .json)).text,(tB.getD oT.toNat (Ty.aZ .json)).names,(tB.getD oT.toNat (Ty.aZ .json)).items⟩:Json) GO (fun Qq=>dx oj tB lG (IntKind.i64.wrap (oT+1)) Qq (⟨uR.kind,⟨uR.num.ao,uR.num.exp⟩,uR.text,uR.names,uR.items⟩:Json)))))else (bif (uR.kind==7)then (ca (decide ((0:Int)≤oT)&&decide (oT<uR.names.length)) (aL (uR.names.getD oT.toNat (Ty.aZ .str)) E8 (fun SI=>ad 58 SI (fun Jd=>az (⟨(tB.getD oT.toNat (Ty.aZ .json)).kind,⟨(tB.getD oT.toNat (Ty.aZ .json)).num.ao,(tB.getD oT.toNat (Ty.aZ .json)).num.exp⟩,(tB.getD oT.toNat (Ty.aZ .json)).text,(tB.getD oT.toNat (Ty.aZ .json)).names,(tB.getD oT.toNat (Ty.aZ .json)).items⟩:Json) Jd (fun Qr=>dx oj tB lG (IntKind.i64.wrap (oT+1)) Qr (⟨uR.kind,⟨uR.num.ao,uR.num.exp⟩,uR.text,uR.names,uR.items⟩:Json))))))else (az (⟨(tB.getD oT.toNat (Ty.aZ .json)).kind,⟨(tB.getD oT.toNat (Ty.aZ .json)).num.ao,(tB.getD oT.toNat (Ty.aZ .json)).num.exp⟩,(tB.getD oT.toNat (Ty.aZ .json)).text,(tB.getD oT.toNat (Ty.aZ .json)).names,(tB.getD oT.toNat (Ty.aZ .json)).items⟩:Json) E8 (fun Yv=>dx oj tB lG (IntKind.i64.wrap (oT+1)) Yv (⟨uR.kind,⟨uR.num.ao,uR.num.exp⟩,uR.text,uR.names,uR.items⟩:Json))))))else (e0 oj E8)
def Ca (K:Ex→St→Option R) (rc:iV→Option R) (d:iV):Option R:=iW ad az aL (fun z0 z1 z2 z3 z4 z5=>rc (z0,z1,z2,z3,z4,z5)) d.1 d.2.1 d.2.2.1 d.2.2.2.1 d.2.2.2.2.1 d.2.2.2.2.2 (sG K)
def qu:Nat→Option (Hint×cJ R):=fun i=>match i with
 | 18=>some (nW,(cE kP kQ (AY aT) iK))
 | _=>none
theorem HU (K:Ex→St→Option R) (rc:St→Option R) (d:iV):roundOf tt (cO (mP bL ad ae az aL)) (qu aT) 2 ((aA (bb Tryz.f83)).getD 0 .skip) nW (qT d) rc K=Ca ad az aL K (fun d=>rc (qT d)) d:=by kernel_rfl
def Cb (x1:Json) (x2:List Int) (k0:(List Int)→Option R):Option R :=
 let j33:=fun (z13:ah)=>ca (decide ((0:Int)<z13.length)) (ad ((z13.getD 0 0).toNat:Int) x2 (fun HF=>aT (List.length z13+List.length x1.items+Int.natAbs (x1.items.length:Int)+Int.natAbs 0+List.length HF+Json.fu (⟨x1.kind,⟨x1.num.ao,x1.num.exp⟩,x1.text,x1.names,x1.items⟩:Json)+64) z13 x1.items (x1.items.length:Int) 0 HF (⟨x1.kind,⟨x1.num.ao,x1.num.exp⟩,x1.text,x1.names,x1.items⟩:Json) (fun W2 Z8=>ca (decide ((1:Int)<W2.length)) (ad ((W2.getD 1 0).toNat:Int) Z8 (fun UC=>k0 UC))))); bif (x1.kind==1)then (ae ([110,117,108,108]:ah) x2 (fun y3 y4=>k0 y4))else (bif (x1.kind==2)then (ae ([102,97,108,115,101]:ah) x2 (fun y5 y6=>k0 y6))else (bif (x1.kind==3)then (ae ([116,114,117,101]:ah) x2 (fun y7 y8=>k0 y8))else (bif (x1.kind==4)then (bL x1.num (fun y9=>ae y9 x2 (fun uf vO=>k0 vO)))else (bif (x1.kind==5)then (aL x1.text x2 (fun Ad=>k0 Ad))else (bif (x1.kind==7)then (j33 ([123,125]:ah))else (j33 ([91,93]:ah)))))))
theorem RE:dC (R:=R) tt (mP bL ad ae az aL) (qu aT) false Tryz.f83 hY hZ (ej (Cb bL ad ae aL aT)):=fun x y k=>by kernel_rfl
end
theorem Qa (az:dd R) (nF:aC.Spec.Ok Tryz.prog 83 (aI hY hZ (ej az) ax)):ct (R:=R) Tryz.prog (mP (R:=R) bL ad ae az aL) := .c (G2 R) <| .d (jy R) rfl <| .d (fG R) rfl <| .f nF rfl <| .d (B8 R) rfl <| .n
def aT (az:dd R):sF R
 | 0,_,_,_,_,_,_,_=>none
 | n+1,gh,gl,gv,mB,v7,xS,e0=>iW ad az aL (fun gh gl gv mB v7 xS=>aT az n gh gl gv mB v7 xS e0) gh gl gv mB v7 xS e0
def Cc (az:dd R) (K:Ex→St→Option R) (n:Nat) (d:iV):Option R:=aT az n d.1 d.2.1 d.2.2.1 d.2.2.2.1 d.2.2.2.2.1 d.2.2.2.2.2 (sG K)
theorem Kx (az:dd R) (other:cJ R) (ho:gV tt (cO (mP (R:=R) bL ad ae az aL)) (qu (R:=R) (aT az)) 2 ((aA (bb Tryz.f83)).getD 0 .skip) nW other):gV tt (cO (mP (R:=R) bL ad ae az aL)) (qu (R:=R) (aT az)) 2 ((aA (bb Tryz.f83)).getD 0 .skip) nW (cE kP kQ (AY (aT az)) other) :=
 cN (A:=Cc az) ho (dT qT (Ca ad az aL) (Cc az) (fun _ _=>by kernel_rfl) (HU bL ad ae az aL (aT az)) (fun _ _ _=>by kernel_rfl)) B9 Mb (fun _ _=>by kernel_rfl) (fun _ _ _=>by kernel_rfl)
def Cd (az:dd R):dd R:=fun x1 x2 k0=>Cb bL ad ae aL (aT az) x1 x2 k0
theorem Ny (R:Type) (az:dd R) (nF:aC.Spec.Ok Tryz.prog 83 (aI hY hZ (ej az) ax)):∀a∈aA (bb Tryz.f83),gJ tt (cO (mP (R:=R) bL ad ae az aL)) (qu (R:=R) (aT az)) 2 a:=by
 refine eX 1 (by kernel_rfl) fun i hi => ?_
 match i,hi with
 | 0,_=>exact cy (by kernel_rfl) (Kx az _ dt)
 | n+1,hi=>omega
theorem Nz (R:Type) (az:dd R) (nF:aC.Spec.Ok Tryz.prog 83 (aI hY hZ (ej az) ax)):k6 Tryz.prog 83 (IF (Cd az)):=br TT mixed (Qa az nF) rfl rfl rfl rfl (Ny R az nF) (RE bL ad ae az aL (aT az))
def de:Nat→dd R
 | 0,_,_,_=>none
 | n+1,gh,gl,k0'=>Cd (de n) gh gl k0'
theorem json_write_9953_N_succ (n:Nat):de (R:=R) (n+1)=Cd (de n):=by kernel_rfl
theorem OT (R:Type):∀n,aC.Spec.Ok Tryz.prog 83 (aI hY hZ (ej (de (R:=R) n)) ax) :=
 AL (run:=fun n=>ej (de (R:=R) n)) (fun x y k=>by kernel_rfl) fun n hyp=>Nz R (de n) hyp ax (jl _)
def bT:dd R:=fun x1 x2 k0=>de (Json.depth x1+2) x1 x2 k0
theorem OU (R:Type):ej (R:=R) bT=fun x y k=>ej (de (Json.depth (⟨x.2.1.1,⟨x.2.1.2.1,x.2.1.2.2.1⟩,x.2.1.2.2.2.1,x.2.1.2.2.2.2.1,x.2.1.2.2.2.2.2.1⟩:Json)+2)) x y k:=by kernel_rfl
theorem OV (R:Type) (other:aC.Spec R) (ho:aC.Spec.Ok Tryz.prog 83 other):aC.Spec.Ok Tryz.prog 83 (aI hY hZ (ej bT) other) :=
 GL (J8 (run:=fun n=>ej (de (R:=R) n)) (fun x y=>(Json.depth (⟨x.2.1.1,⟨x.2.1.2.1,x.2.1.2.2.1⟩,x.2.1.2.2.2.1,x.2.1.2.2.2.2.1,x.2.1.2.2.2.2.2.1⟩:Json)+2)) ho (OT R)) (OU R)
end Go.Proofs.YtidfokedcnhahaaGreatDoor
/-
 Functions of the program as pure Lean functions, and the ties; printed by wip/tools/emit.py.
-/
set_option maxRecDepth 100000
namespace Go.Proofs.YtidfokedcnhahaaGreatDoor
open Go Go.aC
variable {R:Type}
/-! ### humpyard/json.write -/
abbrev tU (R:Type):Type:=Json→((List Int)→Option R)→Option R
abbrev Ce:List cM := [.leaf (.ptr 0 0), .agg [.int .i64, .int .i64, .int .i64, .str, .sl .str, .sl .json]]
abbrev Cf:List aW := [.mA (.bw)]
def Hk (fn:tU R):k9 R Ce Cf:=fun x y k=>fn (⟨x.2.1.1,⟨x.2.1.2.1,x.2.1.2.2.1⟩,x.2.1.2.2.2.1,x.2.1.2.2.2.2.1,x.2.1.2.2.2.2.2.1⟩:Json) (fun q0=>k (.tuple []) [.mA (.sl (.int .u8) q0 (.own 1)), .tok])
def IG (fn:tU R):=aI Ce Cf (Hk fn)
abbrev sH (R:Type):Type:=Nat→ah→(List Json)→Int→Int→(List Int)→Json→(ah→(List Int)→Option R)→Option R
def nX:Hint := { live := [2,3,4,5,43,44,45],own := [],rows := [],cells := [],drop := [],out := [2,5] }
abbrev iX:Type:=ah×(List Json)×Int×Int×(List Int)×Json
def qU:iX→St:=fun d=>⟨U 2 (.ptr 1 0 :: .ptr 2 0 :: .func 122 [] [.ptr 1 0] :: .str d.1::U 37 (.sl .json d.2.1 .no :: .int .i64 d.2.2.1 :: .int .i64 d.2.2.2.1::U 28 ([]))), [.mA (.sl (.int .u8) d.2.2.2.2.1 (.own 3)), .cells [.ptr 0 0], .cells [.int .i64 d.2.2.2.2.2.kind, .int .i64 d.2.2.2.2.2.num.ao, .int .i64 d.2.2.2.2.2.num.exp, .str d.2.2.2.2.2.text, .sl .str d.2.2.2.2.2.names .no, .sl .json d.2.2.2.2.2.items .no], .tok]⟩
def sI (K:Ex→St→Option R) (q0:ah) (q1:List Int):Option R:=K (.exit 1) ⟨U 2 (.ptr 1 0::U 2 (.str q0::U 68 ([]))), [.mA (.sl (.int .u8) q1 (.own 2)), .cells [.ptr 0 0], .tok]⟩
abbrev kR:List cM:=PU 2 (.leaf (.ptr 1 0) :: .leaf (.ptr 2 0) :: .func 122 [] [.ptr 1 0] :: .leaf (.str)::PU 37 (.leaf (.sl .json) :: .leaf (.int .i64) :: .leaf (.int .i64)::PU 28 ([])))
abbrev kS:List aW := [.mA (.TY (.int .u8) 3), .cells [.ptr 0 0], .cells [.int .i64, .int .i64, .int .i64, .str, .sl .str, .sl .json], .tok]
def Cg (x:cM.bQ kR) (y:aW.bQ kS):Nat:=(List.length x.2.2.2.2.2.1+List.length ((t8 (t8 (t8 (t8 (t8 x))))).2.2.2.1)+Int.natAbs ((t8 (t8 (t8 (t8 (t8 x))))).2.2.2.2.1)+Int.natAbs ((t8 (t8 (t8 (t8 (t8 x))))).2.2.2.2.2.1)+List.length y.1+Json.fu (⟨y.2.2.1.1,⟨y.2.2.1.2.1,y.2.2.1.2.2.1⟩,y.2.2.1.2.2.2.1,y.2.2.1.2.2.2.2.1,y.2.2.1.2.2.2.2.2.1⟩:Json)+64)
def Mc (x:cM.bQ kR) (y:aW.bQ kS):iX:=(x.2.2.2.2.2.1,(t8 (t8 (t8 (t8 (t8 x))))).2.2.2.1,(t8 (t8 (t8 (t8 (t8 x))))).2.2.2.2.1,(t8 (t8 (t8 (t8 (t8 x))))).2.2.2.2.2.1,y.1,(⟨y.2.2.1.1,⟨y.2.2.1.2.1,y.2.2.1.2.2.1⟩,y.2.2.1.2.2.2.1,y.2.2.1.2.2.2.2.1,y.2.2.1.2.2.2.2.2.1⟩:Json))
def AZ (L:sH R):wU R kR kS:=fun x y K=>L (Cg x y) x.2.2.2.2.2.1 ((t8 (t8 (t8 (t8 (t8 x))))).2.2.2.1) ((t8 (t8 (t8 (t8 (t8 x))))).2.2.2.2.1) ((t8 (t8 (t8 (t8 (t8 x))))).2.2.2.2.2.1) y.1 (⟨y.2.2.1.1,⟨y.2.2.1.2.1,y.2.2.1.2.2.1⟩,y.2.2.1.2.2.2.1,y.2.2.1.2.2.2.2.1,y.2.2.1.2.2.2.2.2.1⟩:Json) (sI K)
section
variable (bL:r7 R) (aj:dQ R) (ad:dR R) (ai:dz R) (bT:dd R) (dq:qs R) (aL:mw R) (bz:sH R)
def mQ:List (oi R) := [(125,true,(EZ bL ax)),(126,false,(gY ad (gX aj ax))),(124,false,(gI ai ax)),(83,false,(IF bT ax)),(122,false,(yv aL (FE dq ax)))]
def Ch (dx:ah→(List Json)→Int→Int→(List Int)→Json→Option R) (Lp:ah) (oj:List Json) (tB:Int) (lG:Int) (oT:List Int) (E8:Json) (e0:ah→(List Int)→Option R):Option R :=
 bif (decide (lG<tB))then (ca (decide ((0:Int)≤lG)&&decide (lG<oj.length)) (bif (decide (lG>(0:Int)))then (ad 44 oT (fun V1=>bif (E8.kind==7)then (ca (decide ((0:Int)≤lG)&&decide (lG<E8.names.length)) (aL (E8.names.getD lG.toNat (Ty.aZ .str)) V1 (fun GO=>ad 58 GO (fun y22=>bT (⟨(oj.getD lG.toNat (Ty.aZ .json)).kind,⟨(oj.getD lG.toNat (Ty.aZ .json)).num.ao,(oj.getD lG.toNat (Ty.aZ .json)).num.exp⟩,(oj.getD lG.toNat (Ty.aZ .json)).text,(oj.getD lG.toNat (Ty.aZ .json)).names,(oj.getD lG.toNat (Ty.aZ .json)).items⟩:Json) y22 (fun y23=>dx Lp oj tB (IntKind.i64.wrap (lG+1)) y23 (⟨E8.kind,⟨E8.num.ao,E8.num.exp⟩,E8.text,E8.names,E8.items⟩:Json))))))else (bT (⟨(oj.getD lG.toNat (Ty.aZ .json)).kind,⟨(oj.getD lG.toNat (Ty.aZ .json)).num.ao,(oj.getD lG.toNat (Ty.aZ .json)).num.exp⟩,(oj.getD lG.toNat (Ty.aZ .json)).text,(oj.getD lG.toNat (Ty.aZ .json)).names,(oj.getD lG.toNat (Ty.aZ .json)).items⟩:Json) V1 (fun y24=>dx Lp oj tB (IntKind.i64.wrap (lG+1)) y24 (⟨E8.kind,⟨E8.num.ao,E8.num.exp⟩,E8.text,E8.names,E8.items⟩:Json)))))else (bif (E8.kind==7)then (ca (decide ((0:Int)≤lG)&&decide (lG<E8.names.length)) (aL (E8.names.getD lG.toNat (Ty.aZ .str)) oT (fun Qq=>ad 58 Qq (fun SI=>bT (⟨(oj.getD lG.toNat (Ty.aZ .json)).kind,⟨(oj.getD lG.toNat (Ty.aZ .json)).num.ao,(oj.getD lG.toNat (Ty.aZ .json)).num.exp⟩,(oj.getD lG.toNat (Ty.aZ .json)).text,(oj.getD lG.toNat (Ty.aZ .json)).names,(oj.getD lG.toNat (Ty.aZ .json)).items⟩:Json) SI (fun Jd=>dx Lp oj tB (IntKind.i64.wrap (lG+1)) Jd (⟨E8.kind,⟨E8.num.ao,E8.num.exp⟩,E8.text,E8.names,E8.items⟩:Json))))))else (bT (⟨(oj.getD lG.toNat (Ty.aZ .json)).kind,⟨(oj.getD lG.toNat (Ty.aZ .json)).num.ao,(oj.getD lG.toNat (Ty.aZ .json)).num.exp⟩,(oj.getD lG.toNat (Ty.aZ .json)).text,(oj.getD lG.toNat (Ty.aZ .json)).names,(oj.getD lG.toNat (Ty.aZ .json)).items⟩:Json) oT (fun Qr=>dx Lp oj tB (IntKind.i64.wrap (lG+1)) Qr (⟨E8.kind,⟨E8.num.ao,E8.num.exp⟩,E8.text,E8.names,E8.items⟩:Json))))))else (e0 Lp oT)
def Ci (K:Ex→St→Option R) (rc:iX→Option R) (d:iX):Option R:=Ch ad bT aL (fun z0 z1 z2 z3 z4 z5=>rc (z0,z1,z2,z3,z4,z5)) d.1 d.2.1 d.2.2.1 d.2.2.2.1 d.2.2.2.2.1 d.2.2.2.2.2 (sI K)
def qv:Nat→Option (Hint×cJ R):=fun i=>match i with
 | 18=>some (nX,(cE kR kS (AZ bz) iK))
 | _=>none
theorem HV (K:Ex→St→Option R) (rc:St→Option R) (d:iX):roundOf tt (cO (mQ bL aj ad ai bT dq aL)) (qv bz) 1 ((aA (bb Tryz.f83)).getD 0 .skip) nX (qU d) rc K=Ci ad bT aL K (fun d=>rc (qU d)) d:=by kernel_rfl
def Cj (x1:Json) (k0:(List Int)→Option R):Option R :=
 let j32:=fun (z12:ah)=>ca (decide ((0:Int)<z12.length)) (aj ((z12.getD 0 0).toNat:Int) (fun Jg=>bz (List.length z12+List.length x1.items+Int.natAbs (x1.items.length:Int)+Int.natAbs 0+List.length Jg+Json.fu (⟨x1.kind,⟨x1.num.ao,x1.num.exp⟩,x1.text,x1.names,x1.items⟩:Json)+64) z12 x1.items (x1.items.length:Int) 0 Jg (⟨x1.kind,⟨x1.num.ao,x1.num.exp⟩,x1.text,x1.names,x1.items⟩:Json) (fun Yv W2=>ca (decide ((1:Int)<Yv.length)) (ad ((Yv.getD 1 0).toNat:Int) W2 (fun Z8=>k0 Z8))))); bif (x1.kind==1)then (ai ([110,117,108,108]:ah) (fun y2 y3=>k0 y3))else (bif (x1.kind==2)then (ai ([102,97,108,115,101]:ah) (fun y4 y5=>k0 y5))else (bif (x1.kind==3)then (ai ([116,114,117,101]:ah) (fun y6 y7=>k0 y7))else (bif (x1.kind==4)then (bL x1.num (fun y8=>ai y8 (fun y9 uf=>k0 uf)))else (bif (x1.kind==5)then (dq x1.text (fun vO=>k0 vO))else (bif (x1.kind==7)then (j32 ([123,125]:ah))else (j32 ([91,93]:ah)))))))
theorem RF:dC (R:=R) tt (mQ bL aj ad ai bT dq aL) (qv bz) false Tryz.f83 Ce Cf (Hk (Cj bL aj ad ai dq bz)):=fun x y k=>by kernel_rfl
end
theorem Qb:ct (R:=R) Tryz.prog (mQ (R:=R) bL aj ad ai bT dq aL) := .c (G2 R) <| .f (jy R _ (jx R _ (jl _))) rfl <| .d (iP R) rfl <| .f (OV R _ (jl _)) rfl <| .f (B8 R _ (Ma R _ (jl _))) rfl <| .n
def bz:sH R
 | 0,_,_,_,_,_,_,_=>none
 | n+1,gh,gl,gv,mB,v7,xS,e0=>Ch ad bT aL (fun gh gl gv mB v7 xS=>bz n gh gl gv mB v7 xS e0) gh gl gv mB v7 xS e0
def Ck (K:Ex→St→Option R) (n:Nat) (d:iX):Option R:=bz n d.1 d.2.1 d.2.2.1 d.2.2.2.1 d.2.2.2.2.1 d.2.2.2.2.2 (sI K)
theorem Ky (other:cJ R) (ho:gV tt (cO (mQ (R:=R) bL aj ad ai bT dq aL)) (qv (R:=R) bz) 1 ((aA (bb Tryz.f83)).getD 0 .skip) nX other):gV tt (cO (mQ (R:=R) bL aj ad ai bT dq aL)) (qv (R:=R) bz) 1 ((aA (bb Tryz.f83)).getD 0 .skip) nX (cE kR kS (AZ (bz)) other) :=
 cN (A:=Ck) ho (dT qU (Ci ad bT aL) (Ck) (fun _ _=>by kernel_rfl) (HV bL aj ad ai bT dq aL bz) (fun _ _ _=>by kernel_rfl)) Cg Mc (fun _ _=>by kernel_rfl) (fun _ _ _=>by kernel_rfl)
def gP:tU R:=fun x1 k0=>Cj bL aj ad ai dq bz x1 k0
theorem NA (R:Type):∀a∈aA (bb Tryz.f83),gJ tt (cO (mQ (R:=R) bL aj ad ai bT dq aL)) (qv (R:=R) bz) 1 a:=by
 refine eX 1 (by kernel_rfl) fun i hi => ?_
 match i,hi with
 | 0,_=>exact cy (by kernel_rfl) (Ky _ dt)
 | n+1,hi=>omega
theorem OW (R:Type):k6 Tryz.prog 83 (IG (gP (R:=R))):=br TT mixed (Qb (R:=R)) rfl rfl rfl rfl (NA R) (RF bL aj ad ai bT dq aL bz)
/-! ### humpyard/json.Print -/
abbrev D3 (R:Type):Type:=Json→(ah→Option R)→Option R
abbrev Md:List cM := [.agg [.int .i64, .int .i64, .int .i64, .str, .sl .str, .sl .json]]
abbrev Me:List aW := []
def QR (fn:D3 R):k9 R Md Me:=fun x y k=>fn (⟨x.1.1,⟨x.1.2.1,x.1.2.2.1⟩,x.1.2.2.2.1,x.1.2.2.2.2.1,x.1.2.2.2.2.2.1⟩:Json) (fun q0=>k (.str q0) [])
def Tl (fn:D3 R):=aI Md Me (QR fn)
section
variable (mX:DT R) (gP:tU R)
def Tm:List (oi R) := [(84,false,(Lo R)),(82,true,(SS mX ax)),(83,false,(IG gP ax))]
def Gd (x1:Json) (k0:ah→Option R):Option R :=
 mX (⟨x1.kind,⟨x1.num.ao,x1.num.exp⟩,x1.text,x1.names,x1.items⟩:Json) (fun y2=>bif (!y2)then (k0 ([]:ah))else (gP (⟨x1.kind,⟨x1.num.ao,x1.num.exp⟩,x1.text,x1.names,x1.items⟩:Json) (fun y3=>k0 (vM y3))))
theorem aan:dC (R:=R) tt (Tm mX gP) rP false Tryz.f35 Md Me (QR (Gd mX gP)):=fun x y k=>by kernel_rfl
end
theorem YL:ct (R:=R) Tryz.prog (Tm (R:=R) mX gP) := .s (WZ) PG <| .c (Wc R) <| .d (OW R) rfl <| .n
def o0:D3 R:=fun x1 k0=>Gd mX gP x1 k0
theorem Wu (R:Type):k6 Tryz.prog 35 (Tl (o0 (R:=R))):=br TT mixed (YL (R:=R)) rfl rfl rfl rfl cb (aan mX gP)
/-! ### humpyard/seal.Sum -/
abbrev IH (R:Type):Type:=ah→(Int→Option R)→Option R
abbrev RG:List cM := [.leaf (.str)]
abbrev RH:List aW := []
def VG (fn:IH R):k9 R RG RH:=fun x y k=>fn x.1 (fun q0=>k (.int .u32 q0) [])
def YM (fn:IH R):=aI RG RH (VG fn)
abbrev Fb (R:Type):Type:=Nat→Int→Nat→Int→Int→(List Int)→(Int→Option R)→Option R
def Cl:Hint := { live := [3,7,8,9],own := [],rows := [],cells := [],drop := [],out := [2,3] }
abbrev sJ:Type:=Int×Nat×Int×Int×(List Int)
def Dz:sJ→St:=fun d=>⟨U 3 (.int .u32 d.1::U 3 (.row 0 d.2.1 :: .int .i64 d.2.2.1 :: .int .i64 d.2.2.2.1::U 10 ([]))), [.row (.int .u8) d.2.2.2.2]⟩
def Fc (K:Ex→St→Option R) (q0:Int):Option R:=K (.exit 0) ⟨U 3 (.int .u32 q0::U 16 ([])), []⟩
abbrev wK:List cM:=PU 3 (.leaf (.int .u32)::PU 3 (.leaf (.row 0) :: .leaf (.int .i64) :: .leaf (.int .i64)::PU 10 ([])))
abbrev wL:List aW := [.row (.int .u8)]
def OX (x:cM.bQ wK) (y:aW.bQ wL):Nat:=(Int.natAbs x.2.2.2.1+Int.natAbs ((t8 x).1)+Int.natAbs ((t8 x).2.1)+List.length y.1+64)
def YN (x:cM.bQ wK) (y:aW.bQ wL):sJ:=(x.2.2.2.1,x.2.2.2.2.2.2.2.1,(t8 x).1,(t8 x).2.1,y.1)
def M1 (L:Fb R):wU R wK wL:=fun x y K=>L (OX x y) x.2.2.2.1 x.2.2.2.2.2.2.2.1 ((t8 x).1) ((t8 x).2.1) y.1 (Fc K)
section
variable (dK:Fb R)
def Cm (dx:Int→Nat→Int→Int→(List Int)→Option R) (x2:Int) (x3:Nat) (x4:Int) (x5:Int) (x6:List Int) (e0:Int→Option R):Option R :=
 bif (decide (x5<x4))then (ca (decide ((0:Int)≤x5)&&decide (x5<x3)) (ca (decide (x5.toNat<x6.length)) (dx (IntKind.u32.wrap ((IntKind.u32.wrap ((BitVec.ofInt IntKind.u32.bits x2 ^^^ BitVec.ofInt IntKind.u32.bits (IntKind.u32.wrap (x6.getD x5.toNat (Ty.aZ (.int .u8))))).toNat:Int))*16777619)) x3 x4 (IntKind.i64.wrap (x5+1)) x6)))else (e0 x2)
def OY (K:Ex→St→Option R) (rc:sJ→Option R) (d:sJ):Option R:=Cm (fun z0 z1 z2 z3 z4=>rc (z0,z1,z2,z3,z4)) d.1 d.2.1 d.2.2.1 d.2.2.2.1 d.2.2.2.2 (Fc K)
def Hl:Nat→Option (Hint×cJ R):=fun i=>match i with
 | 3=>some (Cl,(cE wK wL (M1 dK) iK))
 | _=>none
theorem Tn (K:Ex→St→Option R) (rc:St→Option R) (d:sJ):roundOf tt (cO []) (Hl dK) 0 ((aA (bb Tryz.f67)).getD 0 .skip) Cl (Dz d) rc K=OY K (fun d=>rc (Dz d)) d:=by kernel_rfl
def YO (x1:ah) (k0:Int→Option R):Option R :=
 dK (Int.natAbs 2166136261+Int.natAbs (x1.length:Int)+Int.natAbs 0+List.length (jH x1)+64) 2166136261 x1.length (x1.length:Int) 0 (jH x1) (fun y7=>k0 y7)
theorem seal_Sum_ok:dC (R:=R) tt [] (Hl dK) false Tryz.f67 RG RH (VG (YO dK)):=fun x y k=>by kernel_rfl
end
def dK:Fb R
 | 0,_,_,_,_,_,_=>none
 | n+1,gh,gl,gv,mB,v7,e0=>Cm (fun gh gl gv mB v7=>dK n gh gl gv mB v7 e0) gh gl gv mB v7 e0
def OZ (K:Ex→St→Option R) (n:Nat) (d:sJ):Option R:=dK n d.1 d.2.1 d.2.2.1 d.2.2.2.1 d.2.2.2.2 (Fc K)
theorem Wv (other:cJ R) (ho:gV tt (cO []) (Hl (R:=R) dK) 0 ((aA (bb Tryz.f67)).getD 0 .skip) Cl other):gV tt (cO []) (Hl (R:=R) dK) 0 ((aA (bb Tryz.f67)).getD 0 .skip) Cl (cE wK wL (M1 (dK)) other) :=
 cN (A:=OZ) ho (dT Dz (OY) (OZ) (fun _ _=>by kernel_rfl) (Tn dK) (fun _ _ _=>by kernel_rfl)) OX YN (fun _ _=>by kernel_rfl) (fun _ _ _=>by kernel_rfl)
def uC:IH R:=fun x1 k0=>YO dK x1 k0
theorem YP (R:Type):∀a∈aA (bb Tryz.f67),gJ tt (cO []) (Hl (R:=R) dK) 0 a:=by
 refine eX 1 (by kernel_rfl) fun i hi => ?_
 match i,hi with
 | 0,_=>exact cy (by kernel_rfl) (Wv _ dt)
 | n+1,hi=>omega
theorem aao (R:Type):k6 Tryz.prog 67 (YM (uC (R:=R))):=br TT mixed .n rfl rfl rfl rfl (YP R) (seal_Sum_ok dK)
/-! ### humpyard/seal.Seal -/
abbrev xf (R:Type):Type:=ah→(ah→Option R)→Option R
abbrev O0:List cM := [.leaf (.str)]
abbrev O1:List aW := []
def To (fn:xf R):k9 R O0 O1:=fun x y k=>fn x.1 (fun q0=>k (.str q0) [])
def II (fn:xf R):=aI O0 O1 (To fn)
section
variable (uC:IH R)
def VH:List (oi R) := [(67,true,(YM uC ax))]
def IJ (x1:ah) (k0:ah→Option R):Option R :=
 uC x1 (fun y2=>ca (decide ((0:Int)≤(IntKind.u32.wrap ((BitVec.ofInt IntKind.u32.bits y2 &&& BitVec.ofInt IntKind.u32.bits 15).toNat:Int)))&&decide ((IntKind.u32.wrap ((BitVec.ofInt IntKind.u32.bits y2 &&& BitVec.ofInt IntKind.u32.bits 15).toNat:Int))<(16:Int))) (ca (decide ((0:Int)≤(IntKind.u32.wrap ((BitVec.ofInt IntKind.u32.bits (Int.fdiv y2 (2 ^ (min 4 IntKind.u32.bits))) &&& BitVec.ofInt IntKind.u32.bits 15).toNat:Int)))&&decide ((IntKind.u32.wrap ((BitVec.ofInt IntKind.u32.bits (Int.fdiv y2 (2 ^ (min 4 IntKind.u32.bits))) &&& BitVec.ofInt IntKind.u32.bits 15).toNat:Int))<(16:Int))) (ca (decide ((0:Int)≤(IntKind.u32.wrap ((BitVec.ofInt IntKind.u32.bits (Int.fdiv (Int.fdiv y2 (2 ^ (min 4 IntKind.u32.bits))) (2 ^ (min 4 IntKind.u32.bits))) &&& BitVec.ofInt IntKind.u32.bits 15).toNat:Int)))&&decide ((IntKind.u32.wrap ((BitVec.ofInt IntKind.u32.bits (Int.fdiv (Int.fdiv y2 (2 ^ (min 4 IntKind.u32.bits))) (2 ^ (min 4 IntKind.u32.bits))) &&& BitVec.ofInt IntKind.u32.bits 15).toNat:Int))<(16:Int))) (ca (decide ((0:Int)≤(IntKind.u32.wrap ((BitVec.ofInt IntKind.u32.bits (Int.fdiv (Int.fdiv (Int.fdiv y2 (2 ^ (min 4 IntKind.u32.bits))) (2 ^ (min 4 IntKind.u32.bits))) (2 ^ (min 4 IntKind.u32.bits))) &&& BitVec.ofInt IntKind.u32.bits 15).toNat:Int)))&&decide ((IntKind.u32.wrap ((BitVec.ofInt IntKind.u32.bits (Int.fdiv (Int.fdiv (Int.fdiv y2 (2 ^ (min 4 IntKind.u32.bits))) (2 ^ (min 4 IntKind.u32.bits))) (2 ^ (min 4 IntKind.u32.bits))) &&& BitVec.ofInt IntKind.u32.bits 15).toNat:Int))<(16:Int))) (ca (decide ((0:Int)≤(IntKind.u32.wrap ((BitVec.ofInt IntKind.u32.bits (Int.fdiv (Int.fdiv (Int.fdiv (Int.fdiv y2 (2 ^ (min 4 IntKind.u32.bits))) (2 ^ (min 4 IntKind.u32.bits))) (2 ^ (min 4 IntKind.u32.bits))) (2 ^ (min 4 IntKind.u32.bits))) &&& BitVec.ofInt IntKind.u32.bits 15).toNat:Int)))&&decide ((IntKind.u32.wrap ((BitVec.ofInt IntKind.u32.bits (Int.fdiv (Int.fdiv (Int.fdiv (Int.fdiv y2 (2 ^ (min 4 IntKind.u32.bits))) (2 ^ (min 4 IntKind.u32.bits))) (2 ^ (min 4 IntKind.u32.bits))) (2 ^ (min 4 IntKind.u32.bits))) &&& BitVec.ofInt IntKind.u32.bits 15).toNat:Int))<(16:Int))) (ca (decide ((0:Int)≤(IntKind.u32.wrap ((BitVec.ofInt IntKind.u32.bits (Int.fdiv (Int.fdiv (Int.fdiv (Int.fdiv (Int.fdiv y2 (2 ^ (min 4 IntKind.u32.bits))) (2 ^ (min 4 IntKind.u32.bits))) (2 ^ (min 4 IntKind.u32.bits))) (2 ^ (min 4 IntKind.u32.bits))) (2 ^ (min 4 IntKind.u32.bits))) &&& BitVec.ofInt IntKind.u32.bits 15).toNat:Int)))&&decide ((IntKind.u32.wrap ((BitVec.ofInt IntKind.u32.bits (Int.fdiv (Int.fdiv (Int.fdiv (Int.fdiv (Int.fdiv y2 (2 ^ (min 4 IntKind.u32.bits))) (2 ^ (min 4 IntKind.u32.bits))) (2 ^ (min 4 IntKind.u32.bits))) (2 ^ (min 4 IntKind.u32.bits))) (2 ^ (min 4 IntKind.u32.bits))) &&& BitVec.ofInt IntKind.u32.bits 15).toNat:Int))<(16:Int))) (ca (decide ((0:Int)≤(IntKind.u32.wrap ((BitVec.ofInt IntKind.u32.bits (Int.fdiv (Int.fdiv (Int.fdiv (Int.fdiv (Int.fdiv (Int.fdiv y2 (2 ^ (min 4 IntKind.u32.bits))) (2 ^ (min 4 IntKind.u32.bits))) (2 ^ (min 4 IntKind.u32.bits))) (2 ^ (min 4 IntKind.u32.bits))) (2 ^ (min 4 IntKind.u32.bits))) (2 ^ (min 4 IntKind.u32.bits))) &&& BitVec.ofInt IntKind.u32.bits 15).toNat:Int)))&&decide ((IntKind.u32.wrap ((BitVec.ofInt IntKind.u32.bits (Int.fdiv (Int.fdiv (Int.fdiv (Int.fdiv (Int.fdiv (Int.fdiv y2 (2 ^ (min 4 IntKind.u32.bits))) (2 ^ (min 4 IntKind.u32.bits))) (2 ^ (min 4 IntKind.u32.bits))) (2 ^ (min 4 IntKind.u32.bits))) (2 ^ (min 4 IntKind.u32.bits))) (2 ^ (min 4 IntKind.u32.bits))) &&& BitVec.ofInt IntKind.u32.bits 15).toNat:Int))<(16:Int))) (ca (decide ((0:Int)≤(IntKind.u32.wrap ((BitVec.ofInt IntKind.u32.bits (Int.fdiv (Int.fdiv (Int.fdiv (Int.fdiv (Int.fdiv (Int.fdiv (Int.fdiv y2 (2 ^ (min 4 IntKind.u32.bits))) (2 ^ (min 4 IntKind.u32.bits))) (2 ^ (min 4 IntKind.u32.bits))) (2 ^ (min 4 IntKind.u32.bits))) (2 ^ (min 4 IntKind.u32.bits))) (2 ^ (min 4 IntKind.u32.bits))) (2 ^ (min 4 IntKind.u32.bits))) &&& BitVec.ofInt IntKind.u32.bits 15).toNat:Int)))&&decide ((IntKind.u32.wrap ((BitVec.ofInt IntKind.u32.bits (Int.fdiv (Int.fdiv (Int.fdiv (Int.fdiv (Int.fdiv (Int.fdiv (Int.fdiv y2 (2 ^ (min 4 IntKind.u32.bits))) (2 ^ (min 4 IntKind.u32.bits))) (2 ^ (min 4 IntKind.u32.bits))) (2 ^ (min 4 IntKind.u32.bits))) (2 ^ (min 4 IntKind.u32.bits))) (2 ^ (min 4 IntKind.u32.bits))) (2 ^ (min 4 IntKind.u32.bits))) &&& BitVec.ofInt IntKind.u32.bits 15).toNat:Int))<(16:Int))) (ca (decide (x1.length+1≤9223372036854775807)) (ca (decide ((x1++([35]:ah)).length+(List.map (fun n:Int=>UInt8.ofNat n.toNat) ([((([48,49,50,51,52,53,54,55,56,57,97,98,99,100,101,102]:ah).getD ((IntKind.u32.wrap ((BitVec.ofInt IntKind.u32.bits (Int.fdiv (Int.fdiv (Int.fdiv (Int.fdiv (Int.fdiv (Int.fdiv (Int.fdiv y2 (2 ^ (min 4 IntKind.u32.bits))) (2 ^ (min 4 IntKind.u32.bits))) (2 ^ (min 4 IntKind.u32.bits))) (2 ^ (min 4 IntKind.u32.bits))) (2 ^ (min 4 IntKind.u32.bits))) (2 ^ (min 4 IntKind.u32.bits))) (2 ^ (min 4 IntKind.u32.bits))) &&& BitVec.ofInt IntKind.u32.bits 15).toNat:Int)).toNat) 0).toNat:Int),((([48,49,50,51,52,53,54,55,56,57,97,98,99,100,101,102]:ah).getD ((IntKind.u32.wrap ((BitVec.ofInt IntKind.u32.bits (Int.fdiv (Int.fdiv (Int.fdiv (Int.fdiv (Int.fdiv (Int.fdiv y2 (2 ^ (min 4 IntKind.u32.bits))) (2 ^ (min 4 IntKind.u32.bits))) (2 ^ (min 4 IntKind.u32.bits))) (2 ^ (min 4 IntKind.u32.bits))) (2 ^ (min 4 IntKind.u32.bits))) (2 ^ (min 4 IntKind.u32.bits))) &&& BitVec.ofInt IntKind.u32.bits 15).toNat:Int)).toNat) 0).toNat:Int),((([48,49,50,51,52,53,54,55,56,57,97,98,99,100,101,102]:ah).getD ((IntKind.u32.wrap ((BitVec.ofInt IntKind.u32.bits (Int.fdiv (Int.fdiv (Int.fdiv (Int.fdiv (Int.fdiv y2 (2 ^ (min 4 IntKind.u32.bits))) (2 ^ (min 4 IntKind.u32.bits))) (2 ^ (min 4 IntKind.u32.bits))) (2 ^ (min 4 IntKind.u32.bits))) (2 ^ (min 4 IntKind.u32.bits))) &&& BitVec.ofInt IntKind.u32.bits 15).toNat:Int)).toNat) 0).toNat:Int),((([48,49,50,51,52,53,54,55,56,57,97,98,99,100,101,102]:ah).getD ((IntKind.u32.wrap ((BitVec.ofInt IntKind.u32.bits (Int.fdiv (Int.fdiv (Int.fdiv (Int.fdiv y2 (2 ^ (min 4 IntKind.u32.bits))) (2 ^ (min 4 IntKind.u32.bits))) (2 ^ (min 4 IntKind.u32.bits))) (2 ^ (min 4 IntKind.u32.bits))) &&& BitVec.ofInt IntKind.u32.bits 15).toNat:Int)).toNat) 0).toNat:Int),((([48,49,50,51,52,53,54,55,56,57,97,98,99,100,101,102]:ah).getD ((IntKind.u32.wrap ((BitVec.ofInt IntKind.u32.bits (Int.fdiv (Int.fdiv (Int.fdiv y2 (2 ^ (min 4 IntKind.u32.bits))) (2 ^ (min 4 IntKind.u32.bits))) (2 ^ (min 4 IntKind.u32.bits))) &&& BitVec.ofInt IntKind.u32.bits 15).toNat:Int)).toNat) 0).toNat:Int),((([48,49,50,51,52,53,54,55,56,57,97,98,99,100,101,102]:ah).getD ((IntKind.u32.wrap ((BitVec.ofInt IntKind.u32.bits (Int.fdiv (Int.fdiv y2 (2 ^ (min 4 IntKind.u32.bits))) (2 ^ (min 4 IntKind.u32.bits))) &&& BitVec.ofInt IntKind.u32.bits 15).toNat:Int)).toNat) 0).toNat:Int),((([48,49,50,51,52,53,54,55,56,57,97,98,99,100,101,102]:ah).getD ((IntKind.u32.wrap ((BitVec.ofInt IntKind.u32.bits (Int.fdiv y2 (2 ^ (min 4 IntKind.u32.bits))) &&& BitVec.ofInt IntKind.u32.bits 15).toNat:Int)).toNat) 0).toNat:Int),((([48,49,50,51,52,53,54,55,56,57,97,98,99,100,101,102]:ah).getD ((IntKind.u32.wrap ((BitVec.ofInt IntKind.u32.bits y2 &&& BitVec.ofInt IntKind.u32.bits 15).toNat:Int)).toNat) 0).toNat:Int)]:List Int):ah).length≤9223372036854775807)) (k0 ((x1++([35]:ah))++(List.map (fun n:Int=>UInt8.ofNat n.toNat) ([((([48,49,50,51,52,53,54,55,56,57,97,98,99,100,101,102]:ah).getD ((IntKind.u32.wrap ((BitVec.ofInt IntKind.u32.bits (Int.fdiv (Int.fdiv (Int.fdiv (Int.fdiv (Int.fdiv (Int.fdiv (Int.fdiv y2 (2 ^ (min 4 IntKind.u32.bits))) (2 ^ (min 4 IntKind.u32.bits))) (2 ^ (min 4 IntKind.u32.bits))) (2 ^ (min 4 IntKind.u32.bits))) (2 ^ (min 4 IntKind.u32.bits))) (2 ^ (min 4 IntKind.u32.bits))) (2 ^ (min 4 IntKind.u32.bits))) &&& BitVec.ofInt IntKind.u32.bits 15).toNat:Int)).toNat) 0).toNat:Int),((([48,49,50,51,52,53,54,55,56,57,97,98,99,100,101,102]:ah).getD ((IntKind.u32.wrap ((BitVec.ofInt IntKind.u32.bits (Int.fdiv (Int.fdiv (Int.fdiv (Int.fdiv (Int.fdiv (Int.fdiv y2 (2 ^ (min 4 IntKind.u32.bits))) (2 ^ (min 4 IntKind.u32.bits))) (2 ^ (min 4 IntKind.u32.bits))) (2 ^ (min 4 IntKind.u32.bits))) (2 ^ (min 4 IntKind.u32.bits))) (2 ^ (min 4 IntKind.u32.bits))) &&& BitVec.ofInt IntKind.u32.bits 15).toNat:Int)).toNat) 0).toNat:Int),((([48,49,50,51,52,53,54,55,56,57,97,98,99,100,101,102]:ah).getD ((IntKind.u32.wrap ((BitVec.ofInt IntKind.u32.bits (Int.fdiv (Int.fdiv (Int.fdiv (Int.fdiv (Int.fdiv y2 (2 ^ (min 4 IntKind.u32.bits))) (2 ^ (min 4 IntKind.u32.bits))) (2 ^ (min 4 IntKind.u32.bits))) (2 ^ (min 4 IntKind.u32.bits))) (2 ^ (min 4 IntKind.u32.bits))) &&& BitVec.ofInt IntKind.u32.bits 15).toNat:Int)).toNat) 0).toNat:Int),((([48,49,50,51,52,53,54,55,56,57,97,98,99,100,101,102]:ah).getD ((IntKind.u32.wrap ((BitVec.ofInt IntKind.u32.bits (Int.fdiv (Int.fdiv (Int.fdiv (Int.fdiv y2 (2 ^ (min 4 IntKind.u32.bits))) (2 ^ (min 4 IntKind.u32.bits))) (2 ^ (min 4 IntKind.u32.bits))) (2 ^ (min 4 IntKind.u32.bits))) &&& BitVec.ofInt IntKind.u32.bits 15).toNat:Int)).toNat) 0).toNat:Int),((([48,49,50,51,52,53,54,55,56,57,97,98,99,100,101,102]:ah).getD ((IntKind.u32.wrap ((BitVec.ofInt IntKind.u32.bits (Int.fdiv (Int.fdiv (Int.fdiv y2 (2 ^ (min 4 IntKind.u32.bits))) (2 ^ (min 4 IntKind.u32.bits))) (2 ^ (min 4 IntKind.u32.bits))) &&& BitVec.ofInt IntKind.u32.bits 15).toNat:Int)).toNat) 0).toNat:Int),((([48,49,50,51,52,53,54,55,56,57,97,98,99,100,101,102]:ah).getD ((IntKind.u32.wrap ((BitVec.ofInt IntKind.u32.bits (Int.fdiv (Int.fdiv y2 (2 ^ (min 4 IntKind.u32.bits))) (2 ^ (min 4 IntKind.u32.bits))) &&& BitVec.ofInt IntKind.u32.bits 15).toNat:Int)).toNat) 0).toNat:Int),((([48,49,50,51,52,53,54,55,56,57,97,98,99,100,101,102]:ah).getD ((IntKind.u32.wrap ((BitVec.ofInt IntKind.u32.bits (Int.fdiv y2 (2 ^ (min 4 IntKind.u32.bits))) &&& BitVec.ofInt IntKind.u32.bits 15).toNat:Int)).toNat) 0).toNat:Int),((([48,49,50,51,52,53,54,55,56,57,97,98,99,100,101,102]:ah).getD ((IntKind.u32.wrap ((BitVec.ofInt IntKind.u32.bits y2 &&& BitVec.ofInt IntKind.u32.bits 15).toNat:Int)).toNat) 0).toNat:Int)]:List Int):ah)))))))))))))
theorem seal_Seal_ok:dC (R:=R) tt (VH uC) rP false Tryz.f28 O0 O1 (To (IJ uC)):=fun x y k=>by kernel_rfl
end
theorem aap:ct (R:=R) Tryz.prog (VH (R:=R) uC) := .c (aao R) <| .n
def eJ:xf R:=fun x1 k0=>IJ uC x1 k0
theorem Hm (R:Type):k6 Tryz.prog 28 (II (eJ (R:=R))):=br TT mixed (aap (R:=R)) rfl rfl rfl rfl cb (seal_Seal_ok uC)
/-! ### humpyard/order.Lay -/
abbrev Cn (R:Type):Type:=Order→(ah→Int→Option R)→Option R
abbrev O2:List cM := [.agg [.int .i64, .str, .int .i64, .int .i64, .sl .stop, .sl .qD]]
abbrev O3:List aW := []
def Tp (fn:Cn R):k9 R O2 O3:=fun x y k=>fn (⟨x.1.1,x.1.2.1,x.1.2.2.1,x.1.2.2.2.1,x.1.2.2.2.2.1,x.1.2.2.2.2.2.1⟩:Order) (fun q0 q1=>k (.tuple [.str q0, .int .i64 q1]) [])
def O4 (fn:Cn R):=aI O2 O3 (Tp fn)
section
variable (gn:BA R) (gE:yI R) (uO:FP R) (o0:D3 R) (bG:oG R) (dU:mH R) (ez:nR R) (eJ:xf R)
def VI:List (oi R) := [(48,true,(N7 gn ax)),(36,true,(Ls gE ax)),(34,true,(Vp uO ax)),(35,true,(Tl o0 ax)),(21,true,(yG bG ax)),(49,true,(BG dU ax)),(52,true,(C1 ez ax)),(28,true,(II eJ ax))]
def O5 (x1:Order) (k0:ah→Int→Option R):Option R :=
 bG x1 (fun y2=>bif (!y2)then (k0 ([]:ah) 1)else (gn x1.header (fun y3=>uO x1.cU (fun y4=>gn x1.order (fun y5=>gn x1.update (fun y6=>dU x1.nodes (fun y7=>ez x1.bN (fun y8=>gE ([([104,101,97,100,101,114,73,100]:ah),([115,101,114,105,97,108,78,117,109,98,101,114]:ah),([111,114,100,101,114,73,100]:ah),([111,114,100,101,114,85,112,100,97,116,101,73,100]:ah),([110,111,100,101,115]:ah),([101,100,103,101,115]:ah)]:List ah) ([(⟨y3.kind,⟨y3.num.ao,y3.num.exp⟩,y3.text,y3.names,y3.items⟩:Json),(⟨y4.kind,⟨y4.num.ao,y4.num.exp⟩,y4.text,y4.names,y4.items⟩:Json),(⟨y5.kind,⟨y5.num.ao,y5.num.exp⟩,y5.text,y5.names,y5.items⟩:Json),(⟨y6.kind,⟨y6.num.ao,y6.num.exp⟩,y6.text,y6.names,y6.items⟩:Json),(⟨y7.kind,⟨y7.num.ao,y7.num.exp⟩,y7.text,y7.names,y7.items⟩:Json),(⟨y8.kind,⟨y8.num.ao,y8.num.exp⟩,y8.text,y8.names,y8.items⟩:Json)]:List Json) (fun y9=>o0 (⟨y9.kind,⟨y9.num.ao,y9.num.exp⟩,y9.text,y9.names,y9.items⟩:Json) (fun uf=>eJ uf (fun vO=>k0 vO 0)))))))))))
theorem order_Lay_ok:dC (R:=R) tt (VI gn gE uO o0 bG dU ez eJ) rP false Tryz.f19 O2 O3 (Tp (O5 gn gE uO o0 bG dU ez eJ)):=fun x y k=>by kernel_rfl
end
theorem aaq:ct (R:=R) Tryz.prog (VI (R:=R) gn gE uO o0 bG dU ez eJ) := .c (N9 R) <| .c (MO R) <| .c (Yi R) <| .c (Wu R) <| .c (wW R) <| .c (HG R) <| .c (Jk R) <| .c (Hm R) <| .n
def gq:Cn R:=fun x1 k0=>O5 gn gE uO o0 bG dU ez eJ x1 k0
theorem O6 (R:Type):k6 Tryz.prog 19 (O4 (gq (R:=R))):=br TT mixed (aaq (R:=R)) rfl rfl rfl rfl cb (order_Lay_ok gn gE uO o0 bG dU ez eJ)
/-! ### humpyard/seal.Open -/
abbrev Ge (R:Type):Type:=ah→(ah→Int→Option R)→Option R
abbrev O7:List cM := [.leaf (.str)]
abbrev O8:List aW := []
def Tq (fn:Ge R):k9 R O7 O8:=fun x y k=>fn x.1 (fun q0 q1=>k (.tuple [.str q0, .int .i64 q1]) [])
def VJ (fn:Ge R):=aI O7 O8 (Tq fn)
section
variable (eJ:xf R)
def VK:List (oi R) := [(28,true,(II eJ ax)),(78,true,(lastI_S R))]
def IK (x1:ah) (k0:ah→Int→Option R):Option R :=
 ca (decide (x1.length≤281474976710656)) (bif (decide ((Ec x1 35)<(0:Int)))then (k0 ([]:ah) 60)else (ca (decide ((0:Int)≤(Ec x1 35))&&decide ((Ec x1 35)≤x1.length)) (ca (decide ((0:Int)≤(Ec x1 35))) (eJ ((x1.drop 0).take ((Ec x1 35).toNat - 0)) (fun y2=>bif (!(y2==x1))then (k0 ([]:ah) 60)else (ca (decide ((0:Int)≤(Ec x1 35))&&decide ((Ec x1 35)≤x1.length)) (ca (decide ((0:Int)≤(Ec x1 35))) (k0 ((x1.drop 0).take ((Ec x1 35).toNat - 0)) 0))))))))
theorem seal_Open_ok:dC (R:=R) tt (VK eJ) rP false Tryz.f31 O7 O8 (Tq (IK eJ)):=fun x y k=>by kernel_rfl
end
theorem aar:ct (R:=R) Tryz.prog (VK (R:=R) eJ) := .c (Hm R) <| .p (lastI_ok) <| .n
def im:Ge R:=fun x1 k0=>IK eJ x1 k0
theorem YQ (R:Type):k6 Tryz.prog 31 (VJ (im (R:=R))):=br TT mixed (aar (R:=R)) rfl rfl rfl rfl cb (seal_Open_ok eJ)
end Go.Proofs.YtidfokedcnhahaaGreatDoor
/-
 Functions of the program as pure Lean functions, and the ties; printed by wip/tools/emit.py.
-/
set_option maxRecDepth 100000
namespace Go.Proofs.YtidfokedcnhahaaGreatDoor
open Go Go.aC
variable {R:Type}
/-! ### (*humpyard/order.taker).flag -/
abbrev mg (R:Type):Type:=Json→ah→Bool→(Bool→Bool→Option R)→Option R
abbrev sK:List cM := [.leaf (.ptr 0 0), .agg [.int .i64, .int .i64, .int .i64, .str, .sl .str, .sl .json], .leaf (.str)]
abbrev sL:List aW := [.cells [.bool]]
def zm (fn:mg R):k9 R sK sL:=fun x y k=>fn (⟨x.2.1.1,⟨x.2.1.2.1,x.2.1.2.2.1⟩,x.2.1.2.2.2.1,x.2.1.2.2.2.2.1,x.2.1.2.2.2.2.2.1⟩:Json) x.2.2.1 y.1.1 (fun q0 q1=>k (.bool q0) [.cells [.bool q1]])
def A0 (fn:mg R):=aI sK sL (zm fn)
section
variable (oZ:D2 R)
def A1:List (oi R) := [(112,true,(Te oZ ax))]
def sM (x1:Json) (x2:ah) (x3:Bool) (k0:Bool→Bool→Option R):Option R :=
 oZ (⟨x1.kind,⟨x1.num.ao,x1.num.exp⟩,x1.text,x1.names,x1.items⟩:Json) x2 (fun y4 y5=>bif x3 then (k0 y4 true)else (k0 y4 (!y5)))
theorem JJ:dC (R:=R) tt (A1 oZ) rP false Tryz.f71 sK sL (zm (sM oZ)):=fun x y k=>by kernel_rfl
end
theorem HW:ct (R:=R) Tryz.prog (A1 (R:=R) oZ) := .c (Wo R) <| .n
def bf:mg R:=fun x1 x2 x3 k0=>sM oZ x1 x2 x3 k0
theorem Hn (R:Type):k6 Tryz.prog 71 (A0 (bf (R:=R))):=br TT mixed (HW (R:=R)) rfl rfl rfl rfl cb (JJ oZ)
end Go.Proofs.YtidfokedcnhahaaGreatDoor
/-
 Functions of the program as pure Lean functions, and the ties; printed by wip/tools/emit.py.
-/
set_option maxRecDepth 100000
namespace Go.Proofs.YtidfokedcnhahaaGreatDoor
open Go Go.aC
variable {R:Type}
/-! ### humpyard/order.Take -/
abbrev zn (R:Type):Type:=ah→(Order→Int→Option R)→Option R
abbrev Mf:List cM := [.leaf (.str)]
abbrev Mg:List aW := []
def QS (fn:zn R):k9 R Mf Mg:=fun x y k=>fn x.1 (fun q0 q1=>k (.tuple [.agg [.int .i64 q0.header, .str q0.cU, .int .i64 q0.order, .int .i64 q0.update, .sl .stop q0.nodes .no, .sl .qD q0.bN .no], .int .i64 q1]) [])
def Mh (fn:zn R):=aI Mf Mg (QS fn)
abbrev Av (R:Type):Type:=Nat→Bool→(List Json)→Int→Int→Int→ah→Int→Int→Json→Bool→Int→ah→Int→Int→(List Stop)→(Bool→Int→ah→Int→Int→Json→Bool→Int→ah→Int→Int→(List Stop)→Option R)→Option R
abbrev Aw (R:Type):Type:=Nat→Bool→(List Json)→Int→Int→Int→ah→Int→Int→Bool→Int→ah→Int→Int→(List Stop)→(List aC.Way)→(Bool→Int→ah→Int→Int→Bool→Int→ah→Int→Int→(List Stop)→(List aC.Way)→Option R)→Option R
def vA:Hint := { live := [2,6,8,10,11,55,56,57],own := [],rows := [],cells := [(3,4, .stop,false)],drop := [],out := [2,3,6,8,10,11] }
abbrev mR:Type:=Bool×(List Json)×Int×Int×Int×ah×Int×Int×Json×Bool×Int×ah×Int×Int×(List Stop)
def yw:mR→St:=fun d=>⟨U 2 (.ptr 0 0::U 3 (.ptr 1 0 :: .undef :: .ptr 2 0 :: .undef :: .bool d.1 :: .ptr 3 0::U 43 (.sl .json d.2.1 .no :: .int .i64 d.2.2.1 :: .int .i64 d.2.2.2.1::U 58 ([])))), [.cells [.int .i64 d.2.2.2.2.1, .str d.2.2.2.2.2.1, .int .i64 d.2.2.2.2.2.2.1, .int .i64 d.2.2.2.2.2.2.2.1, .bw, .bw], .cells [.int .i64 d.2.2.2.2.2.2.2.2.1.kind, .int .i64 d.2.2.2.2.2.2.2.2.1.num.ao, .int .i64 d.2.2.2.2.2.2.2.2.1.num.exp, .str d.2.2.2.2.2.2.2.2.1.text, .sl .str d.2.2.2.2.2.2.2.2.1.names .no, .sl .json d.2.2.2.2.2.2.2.2.1.items .no], .cells [.bool d.2.2.2.2.2.2.2.2.2.1], .cells [.int .i64 d.2.2.2.2.2.2.2.2.2.2.1, .str d.2.2.2.2.2.2.2.2.2.2.2.1, .int .i64 d.2.2.2.2.2.2.2.2.2.2.2.2.1, .int .i64 d.2.2.2.2.2.2.2.2.2.2.2.2.2.1, .sl .stop d.2.2.2.2.2.2.2.2.2.2.2.2.2.2 (.own 4), .bw], .tok]⟩
def Ax (K:Ex→St→Option R) (q0:Bool) (q1:Int) (q2:ah) (q3:Int) (q4:Int) (q5:Json) (q6:Bool) (q7:Int) (q8:ah) (q9:Int) (ZY:Int) (q11:List Stop):Option R:=K (.exit 0) ⟨U 2 (.ptr 0 0::U 3 (.ptr 1 0 :: .undef :: .ptr 2 0 :: .undef :: .bool q0 :: .ptr 3 0::U 104 ([]))), [.cells [.int .i64 q1, .str q2, .int .i64 q3, .int .i64 q4, .bw, .bw], .cells [.int .i64 q5.kind, .int .i64 q5.num.ao, .int .i64 q5.num.exp, .str q5.text, .sl .str q5.names .no, .sl .json q5.items .no], .cells [.bool q6], .cells [.int .i64 q7, .str q8, .int .i64 q9, .int .i64 ZY, .sl .stop q11 (.own 4), .bw], .tok]⟩
abbrev qw:List cM:=PU 2 (.leaf (.ptr 0 0)::PU 3 (.leaf (.ptr 1 0) :: .leaf (.undef) :: .leaf (.ptr 2 0) :: .leaf (.undef) :: .leaf (.bool) :: .leaf (.ptr 3 0)::PU 43 (.leaf (.sl .json) :: .leaf (.int .i64) :: .leaf (.int .i64)::PU 58 ([]))))
abbrev qx:List aW := [.cells [.int .i64, .str, .int .i64, .int .i64, .bw, .bw], .cells [.int .i64, .int .i64, .int .i64, .str, .sl .str, .sl .json], .cells [.bool], .cells [.int .i64, .str, .int .i64, .int .i64, .TY .stop 4, .bw], .tok]
def IL (x:cM.bQ qw) (y:aW.bQ qx):Nat:=(List.length ((t8 (t8 (t8 (t8 (t8 (t8 x)))))).2.2.2.2.2.2.2.1)+Int.natAbs ((t8 (t8 (t8 (t8 (t8 (t8 (t8 x))))))).1)+Int.natAbs ((t8 (t8 (t8 (t8 (t8 (t8 (t8 x))))))).2.1)+Int.natAbs y.1.1+List.length y.1.2.1+Int.natAbs y.1.2.2.1+Int.natAbs y.1.2.2.2.1+Json.fu (⟨y.2.1.1,⟨y.2.1.2.1,y.2.1.2.2.1⟩,y.2.1.2.2.2.1,y.2.1.2.2.2.2.1,y.2.1.2.2.2.2.2.1⟩:Json)+Int.natAbs y.2.2.2.1.1+List.length y.2.2.2.1.2.1+Int.natAbs y.2.2.2.1.2.2.1+Int.natAbs y.2.2.2.1.2.2.2.1+List.length y.2.2.2.1.2.2.2.2.1+64)
def Tr (x:cM.bQ qw) (y:aW.bQ qx):mR:=((t8 x).2.2.1,(t8 (t8 (t8 (t8 (t8 (t8 x)))))).2.2.2.2.2.2.2.1,(t8 (t8 (t8 (t8 (t8 (t8 (t8 x))))))).1,(t8 (t8 (t8 (t8 (t8 (t8 (t8 x))))))).2.1,y.1.1,y.1.2.1,y.1.2.2.1,y.1.2.2.2.1,(⟨y.2.1.1,⟨y.2.1.2.1,y.2.1.2.2.1⟩,y.2.1.2.2.2.1,y.2.1.2.2.2.2.1,y.2.1.2.2.2.2.2.1⟩:Json),y.2.2.1.1,y.2.2.2.1.1,y.2.2.2.1.2.1,y.2.2.2.1.2.2.1,y.2.2.2.1.2.2.2.1,y.2.2.2.1.2.2.2.2.1)
def Ho (L:Av R):wU R qw qx:=fun x y K=>L (IL x y) ((t8 x).2.2.1) ((t8 (t8 (t8 (t8 (t8 (t8 x)))))).2.2.2.2.2.2.2.1) ((t8 (t8 (t8 (t8 (t8 (t8 (t8 x))))))).1) ((t8 (t8 (t8 (t8 (t8 (t8 (t8 x))))))).2.1) y.1.1 y.1.2.1 y.1.2.2.1 y.1.2.2.2.1 (⟨y.2.1.1,⟨y.2.1.2.1,y.2.1.2.2.1⟩,y.2.1.2.2.2.1,y.2.1.2.2.2.2.1,y.2.1.2.2.2.2.2.1⟩:Json) y.2.2.1.1 y.2.2.2.1.1 y.2.2.2.1.2.1 y.2.2.2.1.2.2.1 y.2.2.2.1.2.2.2.1 y.2.2.2.1.2.2.2.2.1 (Ax K)
def vB:Hint := { live := [2,8,10,11,79,80,81],own := [],rows := [],cells := [(2,5, .qD,false)],drop := [],out := [2,3,8,10,11] }
abbrev mS:Type:=Bool×(List Json)×Int×Int×Int×ah×Int×Int×Bool×Int×ah×Int×Int×(List Stop)×(List aC.Way)
def yx:mS→St:=fun d=>⟨U 2 (.ptr 0 0::U 5 (.ptr 1 0 :: .undef :: .bool d.1 :: .ptr 2 0::U 67 (.sl .json d.2.1 .no :: .int .i64 d.2.2.1 :: .int .i64 d.2.2.2.1::U 34 ([])))), [.cells [.int .i64 d.2.2.2.2.1, .str d.2.2.2.2.2.1, .int .i64 d.2.2.2.2.2.2.1, .int .i64 d.2.2.2.2.2.2.2.1, .bw, .bw], .cells [.bool d.2.2.2.2.2.2.2.2.1], .cells [.int .i64 d.2.2.2.2.2.2.2.2.2.1, .str d.2.2.2.2.2.2.2.2.2.2.1, .int .i64 d.2.2.2.2.2.2.2.2.2.2.2.1, .int .i64 d.2.2.2.2.2.2.2.2.2.2.2.2.1, .sl .stop d.2.2.2.2.2.2.2.2.2.2.2.2.2.1 (.own 3), .sl .qD d.2.2.2.2.2.2.2.2.2.2.2.2.2.2 (.own 4)], .tok, .tok]⟩
def Ay (K:Ex→St→Option R) (q0:Bool) (q1:Int) (q2:ah) (q3:Int) (q4:Int) (q5:Bool) (q6:Int) (q7:ah) (q8:Int) (q9:Int) (ZY:List Stop) (q11:List aC.Way):Option R:=K (.exit 2) ⟨U 2 (.ptr 0 0::U 5 (.ptr 1 0 :: .undef :: .bool q0 :: .ptr 2 0::U 104 ([]))), [.cells [.int .i64 q1, .str q2, .int .i64 q3, .int .i64 q4, .bw, .bw], .cells [.bool q5], .cells [.int .i64 q6, .str q7, .int .i64 q8, .int .i64 q9, .sl .stop ZY (.own 3), .sl .qD q11 (.own 4)], .tok, .tok]⟩
abbrev qy:List cM:=PU 2 (.leaf (.ptr 0 0)::PU 5 (.leaf (.ptr 1 0) :: .leaf (.undef) :: .leaf (.bool) :: .leaf (.ptr 2 0)::PU 67 (.leaf (.sl .json) :: .leaf (.int .i64) :: .leaf (.int .i64)::PU 34 ([]))))
abbrev qz:List aW := [.cells [.int .i64, .str, .int .i64, .int .i64, .bw, .bw], .cells [.bool], .cells [.int .i64, .str, .int .i64, .int .i64, .TY .stop 3, .TY .qD 4], .tok, .tok]
def IM (x:cM.bQ qy) (y:aW.bQ qz):Nat:=(List.length ((t8 (t8 (t8 (t8 (t8 (t8 (t8 (t8 (t8 x))))))))).2.2.2.2.2.2.2.1)+Int.natAbs ((t8 (t8 (t8 (t8 (t8 (t8 (t8 (t8 (t8 (t8 x)))))))))).1)+Int.natAbs ((t8 (t8 (t8 (t8 (t8 (t8 (t8 (t8 (t8 (t8 x)))))))))).2.1)+Int.natAbs y.1.1+List.length y.1.2.1+Int.natAbs y.1.2.2.1+Int.natAbs y.1.2.2.2.1+Int.natAbs y.2.2.1.1+List.length y.2.2.1.2.1+Int.natAbs y.2.2.1.2.2.1+Int.natAbs y.2.2.1.2.2.2.1+List.length y.2.2.1.2.2.2.2.1+List.length y.2.2.1.2.2.2.2.2.1+64)
def Ts (x:cM.bQ qy) (y:aW.bQ qz):mS:=((t8 x).2.2.1,(t8 (t8 (t8 (t8 (t8 (t8 (t8 (t8 (t8 x))))))))).2.2.2.2.2.2.2.1,(t8 (t8 (t8 (t8 (t8 (t8 (t8 (t8 (t8 (t8 x)))))))))).1,(t8 (t8 (t8 (t8 (t8 (t8 (t8 (t8 (t8 (t8 x)))))))))).2.1,y.1.1,y.1.2.1,y.1.2.2.1,y.1.2.2.2.1,y.2.1.1,y.2.2.1.1,y.2.2.1.2.1,y.2.2.1.2.2.1,y.2.2.1.2.2.2.1,y.2.2.1.2.2.2.2.1,y.2.2.1.2.2.2.2.2.1)
def Hp (L:Aw R):wU R qy qz:=fun x y K=>L (IM x y) ((t8 x).2.2.1) ((t8 (t8 (t8 (t8 (t8 (t8 (t8 (t8 (t8 x))))))))).2.2.2.2.2.2.2.1) ((t8 (t8 (t8 (t8 (t8 (t8 (t8 (t8 (t8 (t8 x)))))))))).1) ((t8 (t8 (t8 (t8 (t8 (t8 (t8 (t8 (t8 (t8 x)))))))))).2.1) y.1.1 y.1.2.1 y.1.2.2.1 y.1.2.2.2.1 y.2.1.1 y.2.2.1.1 y.2.2.1.2.1 y.2.2.1.2.2.1 y.2.2.1.2.2.2.1 y.2.2.1.2.2.2.2.1 y.2.2.1.2.2.2.2.2.1 (Ay K)
section
variable (bf:mg R) (bF:mf R) (aO:mN R) (fB:DZ R) (fA:DY R) (bG:oG R) (im:Ge R) (cj:Av R) (ck:Aw R)
def nY:List (oi R) := [(71,false,(A0 bf ax)),(70,false,(AW bF ax)),(69,false,(B1 aO ax)),(68,true,(S6 fB ax)),(32,true,(S2 fA ax)),(21,true,(yG bG ax)),(31,true,(VJ im ax))]
def vC (dx:Bool→(List Json)→Int→Int→Int→ah→Int→Int→Json→Bool→Int→ah→Int→Int→(List Stop)→Option R) (lG:Bool) (oT:List Json) (E8:Int) (uR:Int) (x21:Int) (x22:ah) (Z9:Int) (x24:Int) (Qn:Json) (x26:Bool) (ZF:Int) (x28:ah) (x29:Int) (x30:Int) (x31:List Stop) (e0:Bool→Int→ah→Int→Int→Json→Bool→Int→ah→Int→Int→(List Stop)→Option R):Option R :=
 bif (decide (uR<E8))then (ca (decide ((0:Int)≤uR)&&decide (uR<oT.length)) (aO (⟨(oT.getD uR.toNat (Ty.aZ .json)).kind,⟨(oT.getD uR.toNat (Ty.aZ .json)).num.ao,(oT.getD uR.toNat (Ty.aZ .json)).num.exp⟩,(oT.getD uR.toNat (Ty.aZ .json)).text,(oT.getD uR.toNat (Ty.aZ .json)).names,(oT.getD uR.toNat (Ty.aZ .json)).items⟩:Json) ([110,111,100,101,73,100]:ah) x26 (fun UC y33=>aO (⟨(oT.getD uR.toNat (Ty.aZ .json)).kind,⟨(oT.getD uR.toNat (Ty.aZ .json)).num.ao,(oT.getD uR.toNat (Ty.aZ .json)).num.exp⟩,(oT.getD uR.toNat (Ty.aZ .json)).text,(oT.getD uR.toNat (Ty.aZ .json)).names,(oT.getD uR.toNat (Ty.aZ .json)).items⟩:Json) ([115,101,113,117,101,110,99,101,73,100]:ah) y33 (fun y34 y35=>bf (⟨(oT.getD uR.toNat (Ty.aZ .json)).kind,⟨(oT.getD uR.toNat (Ty.aZ .json)).num.ao,(oT.getD uR.toNat (Ty.aZ .json)).num.exp⟩,(oT.getD uR.toNat (Ty.aZ .json)).text,(oT.getD uR.toNat (Ty.aZ .json)).names,(oT.getD uR.toNat (Ty.aZ .json)).items⟩:Json) ([114,101,108,101,97,115,101,100]:ah) y35 (fun y36 y37=>ca (decide ((x31.length+1)*24≤140737488355328)) (dx lG oT E8 (IntKind.i64.wrap (uR+1)) x21 x22 Z9 x24 (⟨Qn.kind,⟨Qn.num.ao,Qn.num.exp⟩,Qn.text,Qn.names,Qn.items⟩:Json) y37 ZF x28 x29 x30 (x31++([(⟨UC,y34,y36⟩:Stop)]:List Stop))))))))else (e0 lG x21 x22 Z9 x24 (⟨Qn.kind,⟨Qn.num.ao,Qn.num.exp⟩,Qn.text,Qn.names,Qn.items⟩:Json) x26 ZF x28 x29 x30 x31)
def IN (K:Ex→St→Option R) (rc:mR→Option R) (d:mR):Option R:=vC bf aO (fun z0 z1 z2 z3 z4 z5 z6 z7 z8 z9 Rp vN z12 z13 z14=>rc (z0,z1,z2,z3,z4,z5,z6,z7,z8,z9,Rp,vN,z12,z13,z14)) d.1 d.2.1 d.2.2.1 d.2.2.2.1 d.2.2.2.2.1 d.2.2.2.2.2.1 d.2.2.2.2.2.2.1 d.2.2.2.2.2.2.2.1 d.2.2.2.2.2.2.2.2.1 d.2.2.2.2.2.2.2.2.2.1 d.2.2.2.2.2.2.2.2.2.2.1 d.2.2.2.2.2.2.2.2.2.2.2.1 d.2.2.2.2.2.2.2.2.2.2.2.2.1 d.2.2.2.2.2.2.2.2.2.2.2.2.2.1 d.2.2.2.2.2.2.2.2.2.2.2.2.2.2 (Ax K)
def vD (dx:Bool→(List Json)→Int→Int→Int→ah→Int→Int→Bool→Int→ah→Int→Int→(List Stop)→(List aC.Way)→Option R) (x52:Bool) (x53:List Json) (x54:Int) (VL:Int) (x56:Int) (x57:ah) (x58:Int) (x59:Int) (x60:Bool) (x61:Int) (x62:ah) (x63:Int) (x64:Int) (x65:List Stop) (x66:List aC.Way) (e0:Bool→Int→ah→Int→Int→Bool→Int→ah→Int→Int→(List Stop)→(List aC.Way)→Option R):Option R :=
 bif (decide (VL<x54))then (ca (decide ((0:Int)≤VL)&&decide (VL<x53.length)) (aO (⟨(x53.getD VL.toNat (Ty.aZ .json)).kind,⟨(x53.getD VL.toNat (Ty.aZ .json)).num.ao,(x53.getD VL.toNat (Ty.aZ .json)).num.exp⟩,(x53.getD VL.toNat (Ty.aZ .json)).text,(x53.getD VL.toNat (Ty.aZ .json)).names,(x53.getD VL.toNat (Ty.aZ .json)).items⟩:Json) ([101,100,103,101,73,100]:ah) x60 (fun y67 y68=>aO (⟨(x53.getD VL.toNat (Ty.aZ .json)).kind,⟨(x53.getD VL.toNat (Ty.aZ .json)).num.ao,(x53.getD VL.toNat (Ty.aZ .json)).num.exp⟩,(x53.getD VL.toNat (Ty.aZ .json)).text,(x53.getD VL.toNat (Ty.aZ .json)).names,(x53.getD VL.toNat (Ty.aZ .json)).items⟩:Json) ([115,101,113,117,101,110,99,101,73,100]:ah) y68 (fun y69 y70=>bf (⟨(x53.getD VL.toNat (Ty.aZ .json)).kind,⟨(x53.getD VL.toNat (Ty.aZ .json)).num.ao,(x53.getD VL.toNat (Ty.aZ .json)).num.exp⟩,(x53.getD VL.toNat (Ty.aZ .json)).text,(x53.getD VL.toNat (Ty.aZ .json)).names,(x53.getD VL.toNat (Ty.aZ .json)).items⟩:Json) ([114,101,108,101,97,115,101,100]:ah) y70 (fun y71 y72=>ca (decide ((x66.length+1)*24≤140737488355328)) (dx x52 x53 x54 (IntKind.i64.wrap (VL+1)) x56 x57 x58 x59 y72 x61 x62 x63 x64 x65 (x66++([(⟨y67,y69,y71⟩:aC.Way)]:List aC.Way))))))))else (e0 x52 x56 x57 x58 x59 x60 x61 x62 x63 x64 x65 x66)
def IP (K:Ex→St→Option R) (rc:mS→Option R) (d:mS):Option R:=vD bf aO (fun z0 z1 z2 z3 z4 z5 z6 z7 z8 z9 Rp vN z12 z13 z14=>rc (z0,z1,z2,z3,z4,z5,z6,z7,z8,z9,Rp,vN,z12,z13,z14)) d.1 d.2.1 d.2.2.1 d.2.2.2.1 d.2.2.2.2.1 d.2.2.2.2.2.1 d.2.2.2.2.2.2.1 d.2.2.2.2.2.2.2.1 d.2.2.2.2.2.2.2.2.1 d.2.2.2.2.2.2.2.2.2.1 d.2.2.2.2.2.2.2.2.2.2.1 d.2.2.2.2.2.2.2.2.2.2.2.1 d.2.2.2.2.2.2.2.2.2.2.2.2.1 d.2.2.2.2.2.2.2.2.2.2.2.2.2.1 d.2.2.2.2.2.2.2.2.2.2.2.2.2.2 (Ay K)
def qA:Nat→Option (Hint×cJ R):=fun i=>match i with
 | 11=>some (vA,(cE qw qx (Ho cj) iK))
 | 16=>some (vB,(cE qy qz (Hp ck) iK))
 | _=>none
theorem O9 (K:Ex→St→Option R) (rc:St→Option R) (d:mR):roundOf tt (cO (nY bf bF aO fB fA bG im)) (qA cj ck) 0 ((aA (bb Tryz.f29)).getD 0 .skip) vA (yw d) rc K=IN bf aO K (fun d=>rc (yw d)) d:=by kernel_rfl
theorem Pa (K:Ex→St→Option R) (rc:St→Option R) (d:mS):roundOf tt (cO (nY bf bF aO fB fA bG im)) (qA cj ck) 0 ((aA (bb Tryz.f29)).getD 1 .skip) vB (yx d) rc K=IP bf aO K (fun d=>rc (yx d)) d:=by kernel_rfl
def Mi (x1:ah) (k0:Order→Int→Option R):Option R :=
 im x1 (fun y2 y3=>bif (y3 != 0)then (k0 (⟨0,([]:ah),0,0,([]:List Stop),([]:List aC.Way)⟩:Order) y3)else (fA y2 (fun y4 y5 y6=>bif (y5 != 0)then (k0 (⟨0,([]:ah),0,0,([]:List Stop),([]:List aC.Way)⟩:Order) y5)else (fB (⟨y4.kind,⟨y4.num.ao,y4.num.exp⟩,y4.text,y4.names,y4.items⟩:Json) ([115,101,114,105,97,108,78,117,109,98,101,114]:ah) (fun y7 y8=>aO (⟨y4.kind,⟨y4.num.ao,y4.num.exp⟩,y4.text,y4.names,y4.items⟩:Json) ([104,101,97,100,101,114,73,100]:ah) false (fun y9 uf=>aO (⟨y4.kind,⟨y4.num.ao,y4.num.exp⟩,y4.text,y4.names,y4.items⟩:Json) ([111,114,100,101,114,73,100]:ah) uf (fun vO Ad=>aO (⟨y4.kind,⟨y4.num.ao,y4.num.exp⟩,y4.text,y4.names,y4.items⟩:Json) ([111,114,100,101,114,85,112,100,97,116,101,73,100]:ah) Ad (fun Jg HF=>bF (⟨y4.kind,⟨y4.num.ao,y4.num.exp⟩,y4.text,y4.names,y4.items⟩:Json) ([110,111,100,101,115]:ah) HF (fun JR Fo=>cj (List.length JR+Int.natAbs (JR.length:Int)+Int.natAbs 0+Int.natAbs 0+List.length ([]:ah)+Int.natAbs 0+Int.natAbs 0+Json.fu (⟨y4.kind,⟨y4.num.ao,y4.num.exp⟩,y4.text,y4.names,y4.items⟩:Json)+Int.natAbs y9+List.length y7+Int.natAbs vO+Int.natAbs Jg+List.length ([]:List Stop)+64) y8 JR (JR.length:Int) 0 0 ([]:ah) 0 0 (⟨y4.kind,⟨y4.num.ao,y4.num.exp⟩,y4.text,y4.names,y4.items⟩:Json) Fo y9 y7 vO Jg ([]:List Stop) (fun y38 W0 ZH ZZ Z0 W1 y44 y45 y46 y47 y48 y49=>bF (⟨W1.kind,⟨W1.num.ao,W1.num.exp⟩,W1.text,W1.names,W1.items⟩:Json) ([101,100,103,101,115]:ah) y44 (fun y50 y51=>ck (List.length y50+Int.natAbs (y50.length:Int)+Int.natAbs 0+Int.natAbs W0+List.length ZH+Int.natAbs ZZ+Int.natAbs Z0+Int.natAbs y45+List.length y46+Int.natAbs y47+Int.natAbs y48+List.length y49+List.length ([]:List aC.Way)+64) y38 y50 (y50.length:Int) 0 W0 ZH ZZ Z0 y51 y45 y46 y47 y48 y49 ([]:List aC.Way) (fun y73 y74 y75 y76 y77 y78 y79 y80 y81 y82 y83 y84=>bif y78 then (k0 (⟨0,([]:ah),0,0,([]:List Stop),([]:List aC.Way)⟩:Order) 80)else (bif (!y73)then (k0 (⟨0,([]:ah),0,0,([]:List Stop),([]:List aC.Way)⟩:Order) 80)else (bG (⟨y79,y80,y81,y82,y83,y84⟩:Order) (fun y85=>bif (!y85)then (k0 (⟨0,([]:ah),0,0,([]:List Stop),([]:List aC.Way)⟩:Order) 80)else (k0 (⟨y79,y80,y81,y82,y83,y84⟩:Order) 0))))))))))))))))
theorem aas:dC (R:=R) tt (nY bf bF aO fB fA bG im) (qA cj ck) false Tryz.f29 Mf Mg (QS (Mi bF aO fB fA bG im cj ck)):=fun x y k=>by kernel_rfl
end
theorem YR:ct (R:=R) Tryz.prog (nY (R:=R) bf bF aO fB fA bG im) := .d (Hn R) rfl <| .d (Hi R) rfl <| .d (HS R) rfl <| .c (Wi R) <| .c (Wg R) <| .c (wW R) <| .c (YQ R) <| .n
def cj:Av R
 | 0,_,_,_,_,_,_,_,_,_,_,_,_,_,_,_,_=>none
 | n+1,gh,gl,gv,mB,v7,xS,Ee,Ef,HD,HE,pA,xT,Dm,Dn,Mj,e0=>vC bf aO (fun gh gl gv mB v7 xS Ee Ef HD HE pA xT Dm Dn Mj=>cj n gh gl gv mB v7 xS Ee Ef HD HE pA xT Dm Dn Mj e0) gh gl gv mB v7 xS Ee Ef HD HE pA xT Dm Dn Mj e0
def IQ (K:Ex→St→Option R) (n:Nat) (d:mR):Option R:=cj n d.1 d.2.1 d.2.2.1 d.2.2.2.1 d.2.2.2.2.1 d.2.2.2.2.2.1 d.2.2.2.2.2.2.1 d.2.2.2.2.2.2.2.1 d.2.2.2.2.2.2.2.2.1 d.2.2.2.2.2.2.2.2.2.1 d.2.2.2.2.2.2.2.2.2.2.1 d.2.2.2.2.2.2.2.2.2.2.2.1 d.2.2.2.2.2.2.2.2.2.2.2.2.1 d.2.2.2.2.2.2.2.2.2.2.2.2.2.1 d.2.2.2.2.2.2.2.2.2.2.2.2.2.2 (Ax K)
def ck:Aw R
 | 0,_,_,_,_,_,_,_,_,_,_,_,_,_,_,_,_=>none
 | n+1,gh,gl,gv,mB,v7,xS,Ee,Ef,HD,HE,pA,xT,Dm,Dn,Mj,e0=>vD bf aO (fun gh gl gv mB v7 xS Ee Ef HD HE pA xT Dm Dn Mj=>ck n gh gl gv mB v7 xS Ee Ef HD HE pA xT Dm Dn Mj e0) gh gl gv mB v7 xS Ee Ef HD HE pA xT Dm Dn Mj e0
def IS (K:Ex→St→Option R) (n:Nat) (d:mS):Option R:=ck n d.1 d.2.1 d.2.2.1 d.2.2.2.1 d.2.2.2.2.1 d.2.2.2.2.2.1 d.2.2.2.2.2.2.1 d.2.2.2.2.2.2.2.1 d.2.2.2.2.2.2.2.2.1 d.2.2.2.2.2.2.2.2.2.1 d.2.2.2.2.2.2.2.2.2.2.1 d.2.2.2.2.2.2.2.2.2.2.2.1 d.2.2.2.2.2.2.2.2.2.2.2.2.1 d.2.2.2.2.2.2.2.2.2.2.2.2.2.1 d.2.2.2.2.2.2.2.2.2.2.2.2.2.2 (Ay K)
theorem RI (other:cJ R) (ho:gV tt (cO (nY (R:=R) bf bF aO fB fA bG im)) (qA (R:=R) cj ck) 0 ((aA (bb Tryz.f29)).getD 0 .skip) vA other):gV tt (cO (nY (R:=R) bf bF aO fB fA bG im)) (qA (R:=R) cj ck) 0 ((aA (bb Tryz.f29)).getD 0 .skip) vA (cE qw qx (Ho (cj)) other) :=
 cN (A:=IQ) ho (dT yw (IN bf aO) (IQ) (fun _ _=>by kernel_rfl) (O9 bf bF aO fB fA bG im cj ck) (fun _ _ _=>by kernel_rfl)) IL Tr (fun _ _=>by kernel_rfl) (fun _ _ _=>by kernel_rfl)
theorem RJ (other:cJ R) (ho:gV tt (cO (nY (R:=R) bf bF aO fB fA bG im)) (qA (R:=R) cj ck) 0 ((aA (bb Tryz.f29)).getD 1 .skip) vB other):gV tt (cO (nY (R:=R) bf bF aO fB fA bG im)) (qA (R:=R) cj ck) 0 ((aA (bb Tryz.f29)).getD 1 .skip) vB (cE qy qz (Hp (ck)) other) :=
 cN (A:=IS) ho (dT yx (IP bf aO) (IS) (fun _ _=>by kernel_rfl) (Pa bf bF aO fB fA bG im cj ck) (fun _ _ _=>by kernel_rfl)) IM Ts (fun _ _=>by kernel_rfl) (fun _ _ _=>by kernel_rfl)
def fY:zn R:=fun x1 k0=>Mi bF aO fB fA bG im cj ck x1 k0
theorem UM (R:Type):∀a∈aA (bb Tryz.f29),gJ tt (cO (nY (R:=R) bf bF aO fB fA bG im)) (qA (R:=R) cj ck) 0 a:=by
 refine eX 2 (by kernel_rfl) fun i hi => ?_
 match i,hi with
 | 0,_=>exact cy (by kernel_rfl) (RI _ dt)
 | 1,_=>exact cy (by kernel_rfl) (RJ _ dt)
 | n+2,hi=>omega
theorem M3 (R:Type):k6 Tryz.prog 29 (Mh (fY (R:=R))):=br TT mixed (YR (R:=R)) rfl rfl rfl rfl (UM R) (aas bf bF aO fB fA bG im cj ck)
end Go.Proofs.YtidfokedcnhahaaGreatDoor
/-
 Functions of the program as pure Lean functions, and the ties; printed by wip/tools/emit.py.
-/
set_option maxRecDepth 100000
namespace Go.Proofs.YtidfokedcnhahaaGreatDoor
open Go Go.aC
variable {R:Type}
/-! ### slices.Equal[[]humpyard/api.Stop,humpyard/api.Stop] -/
abbrev mh (R:Type):Type:=(List Stop)→(List Stop)→(Bool→Option R)→Option R
abbrev sN:List cM := [.leaf (.sl .stop), .leaf (.sl .stop)]
abbrev sO:List aW := []
def zo (fn:mh R):k9 R sN sO:=fun x y k=>fn x.1 x.2.1 (fun q0=>k (.bool q0) [])
def A2 (fn:mh R):=aI sN sO (zo fn)
abbrev ni (R:Type):Type:=Nat→(List Stop)→(List Stop)→Int→Int→(Option R)→(Bool→Option R)→Option R
def j7:Hint := { live := [0,1,12,13],own := [],rows := [],cells := [],drop := [],out := [4] }
abbrev fI:Type:=(List Stop)×(List Stop)×Int×Int
def my:fI→St:=fun d=>⟨.sl .stop d.1 .no :: .sl .stop d.2.1 .no::U 10 (.int .i64 d.2.2.1 :: .int .i64 d.2.2.2::U 12 ([])), []⟩
def nj (K:Ex→St→Option R):Option R:=K (.exit 0) ⟨U 26 ([]), []⟩
def nk (K:Ex→St→Option R) (q0:Bool):Option R:=K (.ret) ⟨U 4 (.bool q0::U 21 ([])), []⟩
abbrev ia:List cM := .leaf (.sl .stop) :: .leaf (.sl .stop)::PU 10 (.leaf (.int .i64) :: .leaf (.int .i64)::PU 12 ([]))
abbrev ib:List aW := []
def vE (x:cM.bQ ia) (y:aW.bQ ib):Nat:=(List.length x.1+List.length x.2.1+Int.natAbs ((t8 x).2.2.2.2.1)+Int.natAbs ((t8 x).2.2.2.2.2.1)+64)
def Gf (x:cM.bQ ia) (y:aW.bQ ib):fI:=(x.1,x.2.1,(t8 x).2.2.2.2.1,(t8 x).2.2.2.2.2.1)
def uD (L:ni R):wU R ia ib:=fun x y K=>L (vE x y) x.1 x.2.1 ((t8 x).2.2.2.2.1) ((t8 x).2.2.2.2.2.1) (nj K) (nk K)
section
variable (bu:ni R)
def j8 (dx:(List Stop)→(List Stop)→Int→Int→Option R) (x3:List Stop) (x4:List Stop) (x5:Int) (x6:Int) (e0:Option R) (e1:Bool→Option R):Option R :=
 bif (decide (x6<x5))then (ca (decide ((0:Int)≤x6)&&decide (x6<x3.length)) (ca (decide ((0:Int)≤x6)&&decide (x6<x4.length)) (bif (!((x3.getD x6.toNat (Ty.aZ .stop)).node==(x4.getD x6.toNat (Ty.aZ .stop)).node&&((x3.getD x6.toNat (Ty.aZ .stop)).seq==(x4.getD x6.toNat (Ty.aZ .stop)).seq&&((x3.getD x6.toNat (Ty.aZ .stop)).bP==(x4.getD x6.toNat (Ty.aZ .stop)).bP&&true))))then (e1 false)else (dx x3 x4 x5 (IntKind.i64.wrap (x6+1))))))else (e0)
def vF (K:Ex→St→Option R) (rc:fI→Option R) (d:fI):Option R:=j8 (fun z0 z1 z2 z3=>rc (z0,z1,z2,z3)) d.1 d.2.1 d.2.2.1 d.2.2.2 (nj K) (nk K)
def jW:Nat→Option (Hint×cJ R):=fun i=>match i with
 | 4=>some (j7,(cE ia ib (uD bu) iK))
 | _=>none
theorem DA (K:Ex→St→Option R) (rc:St→Option R) (d:fI):roundOf tt (cO []) (jW bu) 0 ((aA (bb Tryz.f65)).getD 0 .skip) j7 (my d) rc K=vF K (fun d=>rc (my d)) d:=by kernel_rfl
def sP (x1:List Stop) (x2:List Stop) (k0:Bool→Option R):Option R :=
 bif ((x1.length:Int) != (x2.length:Int))then (k0 false)else (bu (List.length x1+List.length x2+Int.natAbs (x1.length:Int)+Int.natAbs 0+64) x1 x2 (x1.length:Int) 0 (k0 true) (fun y7=>k0 y7))
theorem JK:dC (R:=R) tt [] (jW bu) false Tryz.f65 sN sO (zo (sP bu)):=fun x y k=>by kernel_rfl
end
def bu:ni R
 | 0,_,_,_,_,_,_=>none
 | n+1,gh,gl,gv,mB,e0,e1=>j8 (fun gh gl gv mB=>bu n gh gl gv mB e0 e1) gh gl gv mB e0 e1
def vG (K:Ex→St→Option R) (n:Nat) (d:fI):Option R:=bu n d.1 d.2.1 d.2.2.1 d.2.2.2 (nj K) (nk K)
theorem Fe (other:cJ R) (ho:gV tt (cO []) (jW (R:=R) bu) 0 ((aA (bb Tryz.f65)).getD 0 .skip) j7 other):gV tt (cO []) (jW (R:=R) bu) 0 ((aA (bb Tryz.f65)).getD 0 .skip) j7 (cE ia ib (uD (bu)) other) :=
 cN (A:=vG) ho (dT my (vF) (vG) (fun _ _=>by kernel_rfl) (DA bu) (fun _ _ _=>by kernel_rfl)) vE Gf (fun _ _=>by kernel_rfl) (fun _ _ _=>by kernel_rfl)
def dL:mh R:=fun x1 x2 k0=>sP bu x1 x2 k0
theorem Gg (R:Type):∀a∈aA (bb Tryz.f65),gJ tt (cO []) (jW (R:=R) bu) 0 a:=by
 refine eX 1 (by kernel_rfl) fun i hi => ?_
 match i,hi with
 | 0,_=>exact cy (by kernel_rfl) (Fe _ dt)
 | n+1,hi=>omega
theorem Hq (R:Type):k6 Tryz.prog 65 (A2 (dL (R:=R))):=br TT mixed .n rfl rfl rfl rfl (Gg R) (JK bu)
/-! ### slices.Equal[[]humpyard/api.Way,humpyard/api.Way] -/
abbrev nZ (R:Type):Type:=(List aC.Way)→(List aC.Way)→(Bool→Option R)→Option R
abbrev uY:List cM := [.leaf (.sl .qD), .leaf (.sl .qD)]
abbrev uZ:List aW := []
def Co (fn:nZ R):k9 R uY uZ:=fun x y k=>fn x.1 x.2.1 (fun q0=>k (.bool q0) [])
def C7 (fn:nZ R):=aI uY uZ (Co fn)
abbrev o3 (R:Type):Type:=Nat→(List aC.Way)→(List aC.Way)→Int→Int→(Option R)→(Bool→Option R)→Option R
def lB:Hint := { live := [0,1,12,13],own := [],rows := [],cells := [],drop := [],out := [4] }
abbrev gu:Type:=(List aC.Way)×(List aC.Way)×Int×Int
def n0:gu→St:=fun d=>⟨.sl .qD d.1 .no :: .sl .qD d.2.1 .no::U 10 (.int .i64 d.2.2.1 :: .int .i64 d.2.2.2::U 12 ([])), []⟩
def o4 (K:Ex→St→Option R):Option R:=K (.exit 0) ⟨U 26 ([]), []⟩
def o5 (K:Ex→St→Option R) (q0:Bool):Option R:=K (.ret) ⟨U 4 (.bool q0::U 21 ([])), []⟩
abbrev jg:List cM := .leaf (.sl .qD) :: .leaf (.sl .qD)::PU 10 (.leaf (.int .i64) :: .leaf (.int .i64)::PU 12 ([]))
abbrev jh:List aW := []
def xF (x:cM.bQ jg) (y:aW.bQ jh):Nat:=(List.length x.1+List.length x.2.1+Int.natAbs ((t8 x).2.2.2.2.1)+Int.natAbs ((t8 x).2.2.2.2.2.1)+64)
def HX (x:cM.bQ jg) (y:aW.bQ jh):gu:=(x.1,x.2.1,(t8 x).2.2.2.2.1,(t8 x).2.2.2.2.2.1)
def wM (L:o3 R):wU R jg jh:=fun x y K=>L (xF x y) x.1 x.2.1 ((t8 x).2.2.2.2.1) ((t8 x).2.2.2.2.2.1) (o4 K) (o5 K)
section
variable (bI:o3 R)
def lC (dx:(List aC.Way)→(List aC.Way)→Int→Int→Option R) (x3:List aC.Way) (x4:List aC.Way) (x5:Int) (x6:Int) (e0:Option R) (e1:Bool→Option R):Option R :=
 bif (decide (x6<x5))then (ca (decide ((0:Int)≤x6)&&decide (x6<x3.length)) (ca (decide ((0:Int)≤x6)&&decide (x6<x4.length)) (bif (!((x3.getD x6.toNat (Ty.aZ .qD)).yz==(x4.getD x6.toNat (Ty.aZ .qD)).yz&&((x3.getD x6.toNat (Ty.aZ .qD)).seq==(x4.getD x6.toNat (Ty.aZ .qD)).seq&&((x3.getD x6.toNat (Ty.aZ .qD)).bP==(x4.getD x6.toNat (Ty.aZ .qD)).bP&&true))))then (e1 false)else (dx x3 x4 x5 (IntKind.i64.wrap (x6+1))))))else (e0)
def xG (K:Ex→St→Option R) (rc:gu→Option R) (d:gu):Option R:=lC (fun z0 z1 z2 z3=>rc (z0,z1,z2,z3)) d.1 d.2.1 d.2.2.1 d.2.2.2 (o4 K) (o5 K)
def lJ:Nat→Option (Hint×cJ R):=fun i=>match i with
 | 4=>some (lB,(cE jg jh (wM bI) iK))
 | _=>none
theorem Ff (K:Ex→St→Option R) (rc:St→Option R) (d:gu):roundOf tt (cO []) (lJ bI) 0 ((aA (bb Tryz.f66)).getD 0 .skip) lB (n0 d) rc K=xG K (fun d=>rc (n0 d)) d:=by kernel_rfl
def u0 (x1:List aC.Way) (x2:List aC.Way) (k0:Bool→Option R):Option R :=
 bif ((x1.length:Int) != (x2.length:Int))then (k0 false)else (bI (List.length x1+List.length x2+Int.natAbs (x1.length:Int)+Int.natAbs 0+64) x1 x2 (x1.length:Int) 0 (k0 true) (fun y7=>k0 y7))
theorem Mk:dC (R:=R) tt [] (lJ bI) false Tryz.f66 uY uZ (Co (u0 bI)):=fun x y k=>by kernel_rfl
end
def bI:o3 R
 | 0,_,_,_,_,_,_=>none
 | n+1,gh,gl,gv,mB,e0,e1=>lC (fun gh gl gv mB=>bI n gh gl gv mB e0 e1) gh gl gv mB e0 e1
def xH (K:Ex→St→Option R) (n:Nat) (d:gu):Option R:=bI n d.1 d.2.1 d.2.2.1 d.2.2.2 (o4 K) (o5 K)
theorem Hr (other:cJ R) (ho:gV tt (cO []) (lJ (R:=R) bI) 0 ((aA (bb Tryz.f66)).getD 0 .skip) lB other):gV tt (cO []) (lJ (R:=R) bI) 0 ((aA (bb Tryz.f66)).getD 0 .skip) lB (cE jg jh (wM (bI)) other) :=
 cN (A:=xH) ho (dT n0 (xG) (xH) (fun _ _=>by kernel_rfl) (Ff bI) (fun _ _ _=>by kernel_rfl)) xF HX (fun _ _=>by kernel_rfl) (fun _ _ _=>by kernel_rfl)
def eF:nZ R:=fun x1 x2 k0=>u0 bI x1 x2 k0
theorem HY (R:Type):∀a∈aA (bb Tryz.f66),gJ tt (cO []) (lJ (R:=R) bI) 0 a:=by
 refine eX 1 (by kernel_rfl) fun i hi => ?_
 match i,hi with
 | 0,_=>exact cy (by kernel_rfl) (Hr _ dt)
 | n+1,hi=>omega
theorem JL (R:Type):k6 Tryz.prog 66 (C7 (eF (R:=R))):=br TT mixed .n rfl rfl rfl rfl (HY R) (Mk bI)
/-! ### humpyard/order.Same -/
abbrev zp (R:Type):Type:=Order→Order→(Bool→Option R)→Option R
abbrev Ml:List cM := [.agg [.int .i64, .str, .int .i64, .int .i64, .sl .stop, .sl .qD], .agg [.int .i64, .str, .int .i64, .int .i64, .sl .stop, .sl .qD]]
abbrev Mm:List aW := []
def QT (fn:zp R):k9 R Ml Mm:=fun x y k=>fn (⟨x.1.1,x.1.2.1,x.1.2.2.1,x.1.2.2.2.1,x.1.2.2.2.2.1,x.1.2.2.2.2.2.1⟩:Order) (⟨x.2.1.1,x.2.1.2.1,x.2.1.2.2.1,x.2.1.2.2.2.1,x.2.1.2.2.2.2.1,x.2.1.2.2.2.2.2.1⟩:Order) (fun q0=>k (.bool q0) [])
def Mn (fn:zp R):=aI Ml Mm (QT fn)
section
variable (dL:mh R) (eF:nZ R)
def Tt:List (oi R) := [(65,true,(A2 dL ax)),(66,true,(C7 eF ax))]
def Mo (x1:Order) (x2:Order) (k0:Bool→Option R):Option R :=
 bif (x1.header==x2.header)then (bif (x1.cU==x2.cU)then (bif (x1.order==x2.order)then (bif (x1.update==x2.update)then (dL x1.nodes x2.nodes (fun y3=>bif y3 then (eF x1.bN x2.bN (fun y4=>k0 y4))else (k0 false)))else (k0 false))else (k0 false))else (k0 false))else (k0 false)
theorem aat:dC (R:=R) tt (Tt dL eF) rP false Tryz.f23 Ml Mm (QT (Mo dL eF)):=fun x y k=>by kernel_rfl
end
theorem YS:ct (R:=R) Tryz.prog (Tt (R:=R) dL eF) := .c (Hq R) <| .c (JL R) <| .n
def fF:zp R:=fun x1 x2 k0=>Mo dL eF x1 x2 k0
theorem M4 (R:Type):k6 Tryz.prog 23 (Mn (fF (R:=R))):=br TT mixed (YS (R:=R)) rfl rfl rfl rfl cb (aat dL eF)
/-! ### humpyard/order.Base -/
abbrev D4 (R:Type):Type:=Order→(Int→Option R)→Option R
abbrev Mp:List cM := [.agg [.int .i64, .str, .int .i64, .int .i64, .sl .stop, .sl .qD]]
abbrev Mq:List aW := []
def QU (fn:D4 R):k9 R Mp Mq:=fun x y k=>fn (⟨x.1.1,x.1.2.1,x.1.2.2.1,x.1.2.2.2.1,x.1.2.2.2.2.1,x.1.2.2.2.2.2.1⟩:Order) (fun q0=>k (.int .i64 q0) [])
def Tu (fn:D4 R):=aI Mp Mq (QU fn)
abbrev Cp (R:Type):Type:=Nat→Int→(List Stop)→Int→Int→(Int→Option R)→Option R
def xg:Hint := { live := [2,6,7,8],own := [],rows := [],cells := [],drop := [],out := [2] }
abbrev ou:Type:=Int×(List Stop)×Int×Int
def Az:ou→St:=fun d=>⟨U 2 (.int .i64 d.1::U 3 (.sl .stop d.2.1 .no :: .int .i64 d.2.2.1 :: .int .i64 d.2.2.2::U 8 ([]))), []⟩
def Cq (K:Ex→St→Option R) (q0:Int):Option R:=K (.exit 0) ⟨U 2 (.int .i64 q0::U 14 ([])), []⟩
abbrev sQ:List cM:=PU 2 (.leaf (.int .i64)::PU 3 (.leaf (.sl .stop) :: .leaf (.int .i64) :: .leaf (.int .i64)::PU 8 ([])))
abbrev sR:List aW := []
def Kz (x:cM.bQ sQ) (y:aW.bQ sR):Nat:=(Int.natAbs x.2.2.1+List.length x.2.2.2.2.2.2.1+Int.natAbs x.2.2.2.2.2.2.2.1+Int.natAbs ((t8 x).1)+64)
def UN (x:cM.bQ sQ) (y:aW.bQ sR):ou:=(x.2.2.1,x.2.2.2.2.2.2.1,x.2.2.2.2.2.2.2.1,(t8 x).1)
def IT (L:Cp R):wU R sQ sR:=fun x y K=>L (Kz x y) x.2.2.1 x.2.2.2.2.2.2.1 x.2.2.2.2.2.2.2.1 ((t8 x).1) (Cq K)
section
variable (dj:Cp R)
def xh (dx:Int→(List Stop)→Int→Int→Option R) (x2:Int) (x3:List Stop) (x4:Int) (x5:Int) (e0:Int→Option R):Option R :=
 bif (decide (x5<x4))then (ca (decide ((0:Int)≤x5)&&decide (x5<x3.length)) (bif (x3.getD x5.toNat (Ty.aZ .stop)).bP then (dx (IntKind.i64.wrap (x2+1)) x3 x4 (IntKind.i64.wrap (x5+1)))else (dx x2 x3 x4 (IntKind.i64.wrap (x5+1)))))else (e0 x2)
def KA (K:Ex→St→Option R) (rc:ou→Option R) (d:ou):Option R:=xh (fun z0 z1 z2 z3=>rc (z0,z1,z2,z3)) d.1 d.2.1 d.2.2.1 d.2.2.2 (Cq K)
def Cr:Nat→Option (Hint×cJ R):=fun i=>match i with
 | 2=>some (xg,(cE sQ sR (IT dj) iK))
 | _=>none
theorem Qc (K:Ex→St→Option R) (rc:St→Option R) (d:ou):roundOf tt (cO []) (Cr dj) 0 ((aA (bb Tryz.f25)).getD 0 .skip) xg (Az d) rc K=KA K (fun d=>rc (Az d)) d:=by kernel_rfl
def Mr (x1:Order) (k0:Int→Option R):Option R :=
 dj (Int.natAbs 0+List.length x1.nodes+Int.natAbs (x1.nodes.length:Int)+Int.natAbs 0+64) 0 x1.nodes (x1.nodes.length:Int) 0 (fun y7=>k0 y7)
theorem aau:dC (R:=R) tt [] (Cr dj) false Tryz.f25 Mp Mq (QU (Mr dj)):=fun x y k=>by kernel_rfl
end
def dj:Cp R
 | 0,_,_,_,_,_=>none
 | n+1,gh,gl,gv,mB,e0=>xh (fun gh gl gv mB=>dj n gh gl gv mB e0) gh gl gv mB e0
def KB (K:Ex→St→Option R) (n:Nat) (d:ou):Option R:=dj n d.1 d.2.1 d.2.2.1 d.2.2.2 (Cq K)
theorem Tv (other:cJ R) (ho:gV tt (cO []) (Cr (R:=R) dj) 0 ((aA (bb Tryz.f25)).getD 0 .skip) xg other):gV tt (cO []) (Cr (R:=R) dj) 0 ((aA (bb Tryz.f25)).getD 0 .skip) xg (cE sQ sR (IT (dj)) other) :=
 cN (A:=KB) ho (dT Az (KA) (KB) (fun _ _=>by kernel_rfl) (Qc dj) (fun _ _ _=>by kernel_rfl)) Kz UN (fun _ _=>by kernel_rfl) (fun _ _ _=>by kernel_rfl)
def lW:D4 R:=fun x1 k0=>Mr dj x1 k0
theorem UO (R:Type):∀a∈aA (bb Tryz.f25),gJ tt (cO []) (Cr (R:=R) dj) 0 a:=by
 refine eX 1 (by kernel_rfl) fun i hi => ?_
 match i,hi with
 | 0,_=>exact cy (by kernel_rfl) (Tv _ dt)
 | n+1,hi=>omega
theorem Ww (R:Type):k6 Tryz.prog 25 (Tu (lW (R:=R))):=br TT mixed .n rfl rfl rfl rfl (UO R) (aau dj)
/-! ### humpyard/humpyardlaw08.awake -/
abbrev Cs (R:Type):Type:=(Bool→Option R)→Option R
abbrev JM:List cM := []
abbrev JN:List aW := []
def Pb (fn:Cs R):k9 R JM JN:=fun x y k=>fn (fun q0=>k (.bool q0) [])
def QV (fn:Cs R):=aI JM JN (Pb fn)
section
variable (lW:D4 R) (gq:Cn R) (bG:oG R) (fF:zp R) (fY:zn R) (eJ:xf R)
def QW:List (oi R) := [(25,true,(Tu lW ax)),(19,true,(O4 gq ax)),(21,true,(yG bG ax)),(23,true,(Mn fF ax)),(29,true,(Mh fY ax)),(28,true,(II eJ ax))]
def JO (k0:Bool→Option R):Option R :=
 gq (⟨1,([118,49]:ah),2,0,([(⟨3,0,true⟩:Stop)]:List Stop),([]:List aC.Way)⟩:Order) (fun y1 y2=>fY y1 (fun y3 y4=>gq (⟨0,([]:ah),0,0,([]:List Stop),([]:List aC.Way)⟩:Order) (fun y5 y6=>bif (y2==0)then (eJ ([123,34,104,101,97,100,101,114,73,100,34,58,49,44,34,115,101,114,105,97,108,78,117,109,98,101,114,34,58,34,118,49,34,44,34,111,114,100,101,114,73,100,34,58,50,44,34,111,114,100,101,114,85,112,100,97,116,101,73,100,34,58,48,44,34,110,111,100,101,115,34,58,91,123,34,110,111,100,101,73,100,34,58,51,44,34,115,101,113,117,101,110,99,101,73,100,34,58,48,44,34,114,101,108,101,97,115,101,100,34,58,116,114,117,101,125,93,44,34,101,100,103,101,115,34,58,91,93,125]:ah) (fun y7=>bif (y1==y7)then (bif (decide ((y1.length:Int)>(100:Int)))then (bif (y4==0)then (fF (⟨1,([118,49]:ah),2,0,([(⟨3,0,true⟩:Stop)]:List Stop),([]:List aC.Way)⟩:Order) y3 (fun y8=>bif y8 then (lW (⟨1,([118,49]:ah),2,0,([(⟨3,0,true⟩:Stop)]:List Stop),([]:List aC.Way)⟩:Order) (fun y9=>bif (y9==1)then (bif (y6==1)then (bG (⟨1,([118,49]:ah),2,0,([(⟨3,0,true⟩:Stop)]:List Stop),([]:List aC.Way)⟩:Order) (fun uf=>k0 uf))else (k0 false))else (k0 false)))else (k0 false)))else (k0 false))else (k0 false))else (k0 false)))else (k0 false))))
theorem YT:dC (R:=R) tt (QW lW gq bG fF fY eJ) rP false Tryz.f17 JM JN (Pb (JO lW gq bG fF fY eJ)):=fun x y k=>by kernel_rfl
end
theorem Wx:ct (R:=R) Tryz.prog (QW (R:=R) lW gq bG fF fY eJ) := .c (Ww R) <| .c (O6 R) <| .c (wW R) <| .c (M4 R) <| .c (M3 R) <| .c (Hm R) <| .n
def mz:Cs R:=fun  k0=>JO lW gq bG fF fY eJ  k0
theorem UP (R:Type):k6 Tryz.prog 17 (QV (mz (R:=R))):=br TT mixed (Wx (R:=R)) rfl rfl rfl rfl cb (YT lW gq bG fF fY eJ)
/-! ### humpyard/humpyardlaw08.pick -/
abbrev D5 (R:Type):Type:=Int→Int→(Int→Option R)→Option R
abbrev Ms:List cM := [.leaf (.int .i64), .leaf (.int .i64)]
abbrev Mt:List aW := []
def QX (fn:D5 R):k9 R Ms Mt:=fun x y k=>fn x.1 x.2.1 (fun q0=>k (.int .i64 q0) [])
def Tw (fn:D5 R):=aI Ms Mt (QX fn)
section
def Tx (x1:Int) (x2:Int) (k0:Int→Option R):Option R :=
 bif (decide (x1<(0:Int)))then (ca (!decide (x2=0)) (k0 (Int.tmod (IntKind.i64.wrap (0 - (IntKind.i64.wrap (x1+1)))) x2)))else (ca (!decide (x2=0)) (k0 (Int.tmod x1 x2)))
theorem aav:dC (R:=R) tt [] rP false Tryz.f27 Ms Mt (QX Tx):=fun x y k=>by kernel_rfl
end
def er:D5 R:=fun x1 x2 k0=>Tx x1 x2 k0
theorem Wy (R:Type):k6 Tryz.prog 27 (Tw (er (R:=R))):=br TT mixed .n rfl rfl rfl rfl cb (aav)
/-! ### humpyard/humpyardlaw07.Fit -/
abbrev Gh (R:Type):Type:=ah→(ah→Option R)→Option R
abbrev Pc:List cM := [.leaf (.str)]
abbrev Pd:List aW := []
def Tz (fn:Gh R):k9 R Pc Pd:=fun x y k=>fn x.1 (fun q0=>k (.str q0) [])
def VM (fn:Gh R):=aI Pc Pd (Tz fn)
abbrev DB (R:Type):Type:=Nat→Nat→Int→(List Int)→(Nat→(List Int)→Option R)→Option R
def zG:Hint := { live := [3,4],own := [],rows := [],cells := [],drop := [],out := [2,3] }
abbrev pK:Type:=Nat×Int×(List Int)
def Ct:pK→St:=fun d=>⟨U 3 (.row 0 d.1 :: .int .i64 d.2.1::U 25 ([])), [.row (.int .u8) d.2.2]⟩
def DC (K:Ex→St→Option R) (q0:Nat) (q1:List Int):Option R:=K (.exit 0) ⟨U 3 (.row 0 q0::U 26 ([])), [.row (.int .u8) q1]⟩
abbrev uE:List cM:=PU 3 (.leaf (.row 0) :: .leaf (.int .i64)::PU 25 ([]))
abbrev uF:List aW := [.row (.int .u8)]
def M5 (x:cM.bQ uE) (y:aW.bQ uF):Nat:=(Int.natAbs x.2.2.2.2.1+List.length y.1+64)
def Wz (x:cM.bQ uE) (y:aW.bQ uF):pK:=(x.2.2.2.1,x.2.2.2.2.1,y.1)
def KC (L:DB R):wU R uE uF:=fun x y K=>L (M5 x y) x.2.2.2.1 x.2.2.2.2.1 y.1 (DC K)
section
variable (dw:DB R)
def zH (dx:Nat→Int→(List Int)→Option R) (x2:Nat) (x3:Int) (x4:List Int) (e0:Nat→(List Int)→Option R):Option R :=
 bif (decide (x3<(x2:Int)))then (ca (decide ((0:Int)≤x3)&&decide (x3<x2)) (ca (decide (x3.toNat<x4.length)) (ca (decide ((0:Int)≤(Int.tmod (IntKind.i64.wrap (x4.getD x3.toNat (Ty.aZ (.int .u8)))) 20))&&decide ((Int.tmod (IntKind.i64.wrap (x4.getD x3.toNat (Ty.aZ (.int .u8)))) 20)<(20:Int))) (ca (decide ((0:Int)≤x3)&&decide (x3<x2)) (ca (decide (x3.toNat<x4.length)) (dx x2 (IntKind.i64.wrap (x3+1)) (x4.set x3.toNat ((([97,98,99,120,121,122,65,66,67,88,89,90,48,49,56,57,95,46,58,45]:ah).getD ((Int.tmod (IntKind.i64.wrap (x4.getD x3.toNat (Ty.aZ (.int .u8)))) 20).toNat) 0).toNat:Int))))))))else (e0 x2 x4)
def M6 (K:Ex→St→Option R) (rc:pK→Option R) (d:pK):Option R:=zH (fun z0 z1 z2=>rc (z0,z1,z2)) d.1 d.2.1 d.2.2 (DC K)
def Ez:Nat→Option (Hint×cJ R):=fun i=>match i with
 | 3=>some (zG,(cE uE uF (KC dw) iK))
 | _=>none
theorem RL (K:Ex→St→Option R) (rc:St→Option R) (d:pK):roundOf tt (cO []) (Ez dw) 0 ((aA (bb Tryz.f33)).getD 0 .skip) zG (Ct d) rc K=M6 K (fun d=>rc (Ct d)) d:=by kernel_rfl
def Pe (x1:ah) (k0:ah→Option R):Option R :=
 ca (decide ((0:Int)≤(min (x1.length:Int) 15))&&decide ((min (x1.length:Int) 15)≤x1.length)) (ca (decide ((0:Int)≤(min (x1.length:Int) 15))) (ca (decide (1+((x1.drop 0).take ((min (x1.length:Int) 15).toNat - 0)).length≤9223372036854775807)) (dw (Int.natAbs 1+List.length (jH (([110]:ah)++((x1.drop 0).take ((min (x1.length:Int) 15).toNat - 0))))+64) ((([110]:ah)++((x1.drop 0).take ((min (x1.length:Int) 15).toNat - 0))).length) 1 (jH (([110]:ah)++((x1.drop 0).take ((min (x1.length:Int) 15).toNat - 0)))) (fun y5 y6=>k0 (List.map (fun n:Int=>UInt8.ofNat n.toNat) y6:ah)))))
theorem law07_Fit_ok:dC (R:=R) tt [] (Ez dw) false Tryz.f33 Pc Pd (Tz (Pe dw)):=fun x y k=>by kernel_rfl
end
def dw:DB R
 | 0,_,_,_,_=>none
 | n+1,gh,gl,gv,e0=>zH (fun gh gl gv=>dw n gh gl gv e0) gh gl gv e0
def M7 (K:Ex→St→Option R) (n:Nat) (d:pK):Option R:=dw n d.1 d.2.1 d.2.2 (DC K)
theorem UQ (other:cJ R) (ho:gV tt (cO []) (Ez (R:=R) dw) 0 ((aA (bb Tryz.f33)).getD 0 .skip) zG other):gV tt (cO []) (Ez (R:=R) dw) 0 ((aA (bb Tryz.f33)).getD 0 .skip) zG (cE uE uF (KC (dw)) other) :=
 cN (A:=M7) ho (dT Ct (M6) (M7) (fun _ _=>by kernel_rfl) (RL dw) (fun _ _ _=>by kernel_rfl)) M5 Wz (fun _ _=>by kernel_rfl) (fun _ _ _=>by kernel_rfl)
def kY:Gh R:=fun x1 k0=>Pe dw x1 k0
theorem WA (R:Type):∀a∈aA (bb Tryz.f33),gJ tt (cO []) (Ez (R:=R) dw) 0 a:=by
 refine eX 1 (by kernel_rfl) fun i hi => ?_
 match i,hi with
 | 0,_=>exact cy (by kernel_rfl) (UQ _ dt)
 | n+1,hi=>omega
theorem YU (R:Type):k6 Tryz.prog 33 (VM (kY (R:=R))):=br TT mixed .n rfl rfl rfl rfl (WA R) (law07_Fit_ok dw)
end Go.Proofs.YtidfokedcnhahaaGreatDoor
/-
 Functions of the program as pure Lean functions, and the ties; printed by wip/tools/emit.py.
-/
set_option maxRecDepth 100000
namespace Go.Proofs.YtidfokedcnhahaaGreatDoor
open Go Go.aC
variable {R:Type}
/-! ### humpyard/humpyardlaw08.Fit -/
abbrev Gi (R:Type):Type:=Order→Int→(Order→Option R)→Option R
abbrev Pf:List cM := [.agg [.int .i64, .str, .int .i64, .int .i64, .sl .stop, .sl .qD], .leaf (.int .i64)]
abbrev Pg:List aW := []
def TA (fn:Gi R):k9 R Pf Pg:=fun x y k=>fn (⟨x.1.1,x.1.2.1,x.1.2.2.1,x.1.2.2.2.1,x.1.2.2.2.2.1,x.1.2.2.2.2.2.1⟩:Order) x.2.1 (fun q0=>k (.agg [.int .i64 q0.header, .str q0.cU, .int .i64 q0.order, .int .i64 q0.update, .sl .stop q0.nodes .no, .sl .qD q0.bN .no]) [])
def VN (fn:Gi R):=aI Pf Pg (TA fn)
abbrev DE (R:Type):Type:=Nat→Int→Int→Int→Int→Order→Int→ah→Int→Int→Int→ah→Int→Int→(List Stop)→(List aC.Way)→(Int→ah→Int→Int→Int→ah→Int→Int→(List Stop)→(List aC.Way)→Option R)→Option R
def zI:Hint := { live := [2,4,5,6,7,8,9],own := [],rows := [],cells := [(2,4, .stop,false),(2,5, .qD,false)],drop := [],out := [4,5] }
abbrev pL:Type:=Int×Int×Int×Int×Order×Int×ah×Int×Int×Int×ah×Int×Int×(List Stop)×(List aC.Way)
def Cu:pL→St:=fun d=>⟨U 2 (.ptr 0 0 :: .undef :: .ptr 1 0 :: .ptr 2 0 :: .int .i64 d.1 :: .int .i64 d.2.1 :: .int .i64 d.2.2.1 :: .int .i64 d.2.2.2.1::U 85 ([])), [.cells [.int .i64 d.2.2.2.2.1.header, .str d.2.2.2.2.1.cU, .int .i64 d.2.2.2.2.1.order, .int .i64 d.2.2.2.2.1.update, .sl .stop d.2.2.2.2.1.nodes .no, .sl .qD d.2.2.2.2.1.bN .no], .cells [.int .i64 d.2.2.2.2.2.1, .str d.2.2.2.2.2.2.1, .int .i64 d.2.2.2.2.2.2.2.1, .int .i64 d.2.2.2.2.2.2.2.2.1, .bw, .bw], .cells [.int .i64 d.2.2.2.2.2.2.2.2.2.1, .str d.2.2.2.2.2.2.2.2.2.2.1, .int .i64 d.2.2.2.2.2.2.2.2.2.2.2.1, .int .i64 d.2.2.2.2.2.2.2.2.2.2.2.2.1, .sl .stop d.2.2.2.2.2.2.2.2.2.2.2.2.2.1 (.own 3), .sl .qD d.2.2.2.2.2.2.2.2.2.2.2.2.2.2 (.own 4)], .tok, .tok]⟩
def DF (K:Ex→St→Option R) (q0:Int) (q1:ah) (q2:Int) (q3:Int) (q4:Int) (q5:ah) (q6:Int) (q7:Int) (q8:List Stop) (q9:List aC.Way):Option R:=K (.exit 0) ⟨U 4 (.ptr 0 0 :: .ptr 1 0::U 89 ([])), [.cells [.int .i64 q0, .str q1, .int .i64 q2, .int .i64 q3, .bw, .bw], .cells [.int .i64 q4, .str q5, .int .i64 q6, .int .i64 q7, .sl .stop q8 (.own 2), .sl .qD q9 (.own 3)], .tok, .tok]⟩
abbrev uG:List cM:=PU 2 (.leaf (.ptr 0 0) :: .leaf (.undef) :: .leaf (.ptr 1 0) :: .leaf (.ptr 2 0) :: .leaf (.int .i64) :: .leaf (.int .i64) :: .leaf (.int .i64) :: .leaf (.int .i64)::PU 85 ([]))
abbrev uH:List aW := [.cells [.int .i64, .str, .int .i64, .int .i64, .sl .stop, .sl .qD], .cells [.int .i64, .str, .int .i64, .int .i64, .bw, .bw], .cells [.int .i64, .str, .int .i64, .int .i64, .TY .stop 3, .TY .qD 4], .tok, .tok]
def M8 (x:cM.bQ uG) (y:aW.bQ uH):Nat:=(Int.natAbs x.2.2.2.2.2.2.1+Int.natAbs x.2.2.2.2.2.2.2.1+Int.natAbs ((t8 x).1)+Int.natAbs ((t8 x).2.1)+Order.fu (⟨y.1.1,y.1.2.1,y.1.2.2.1,y.1.2.2.2.1,y.1.2.2.2.2.1,y.1.2.2.2.2.2.1⟩:Order)+Int.natAbs y.2.1.1+List.length y.2.1.2.1+Int.natAbs y.2.1.2.2.1+Int.natAbs y.2.1.2.2.2.1+Int.natAbs y.2.2.1.1+List.length y.2.2.1.2.1+Int.natAbs y.2.2.1.2.2.1+Int.natAbs y.2.2.1.2.2.2.1+List.length y.2.2.1.2.2.2.2.1+List.length y.2.2.1.2.2.2.2.2.1+64)
def WB (x:cM.bQ uG) (y:aW.bQ uH):pL:=(x.2.2.2.2.2.2.1,x.2.2.2.2.2.2.2.1,(t8 x).1,(t8 x).2.1,(⟨y.1.1,y.1.2.1,y.1.2.2.1,y.1.2.2.2.1,y.1.2.2.2.2.1,y.1.2.2.2.2.2.1⟩:Order),y.2.1.1,y.2.1.2.1,y.2.1.2.2.1,y.2.1.2.2.2.1,y.2.2.1.1,y.2.2.1.2.1,y.2.2.1.2.2.1,y.2.2.1.2.2.2.1,y.2.2.1.2.2.2.2.1,y.2.2.1.2.2.2.2.2.1)
def KD (L:DE R):wU R uG uH:=fun x y K=>L (M8 x y) x.2.2.2.2.2.2.1 x.2.2.2.2.2.2.2.1 ((t8 x).1) ((t8 x).2.1) (⟨y.1.1,y.1.2.1,y.1.2.2.1,y.1.2.2.2.1,y.1.2.2.2.2.1,y.1.2.2.2.2.2.1⟩:Order) y.2.1.1 y.2.1.2.1 y.2.1.2.2.1 y.2.1.2.2.2.1 y.2.2.1.1 y.2.2.1.2.1 y.2.2.1.2.2.1 y.2.2.1.2.2.2.1 y.2.2.1.2.2.2.2.1 y.2.2.1.2.2.2.2.2.1 (DF K)
section
variable (kY:Gh R) (er:D5 R) (dn:DE R)
def A3:List (oi R) := [(33,true,(VM kY ax)),(27,true,(Tw er ax))]
def zJ (dx:Int→Int→Int→Int→Order→Int→ah→Int→Int→Int→ah→Int→Int→(List Stop)→(List aC.Way)→Option R) (x9:Int) (Un:Int) (Ni:Int) (CI:Int) (HC:Order) (Lp:Int) (oj:ah) (tB:Int) (lG:Int) (oT:Int) (E8:ah) (uR:Int) (x21:Int) (x22:List Stop) (Z9:List aC.Way) (e0:Int→ah→Int→Int→Int→ah→Int→Int→(List Stop)→(List aC.Way)→Option R):Option R :=
 bif (decide (CI<Un))then (bif (decide (CI<(HC.nodes.length:Int)))then (ca (decide ((0:Int)≤CI)&&decide (CI<HC.nodes.length)) (er ((HC.nodes.getD CI.toNat (Ty.aZ .stop)).node) 1000000001 (fun y24=>ca (decide ((0:Int)≤CI)&&decide (CI<HC.nodes.length)) (er ((HC.nodes.getD CI.toNat (Ty.aZ .stop)).seq) 1000000001 (fun Qq=>bif (decide (CI>(0:Int)))then (ca (decide ((Z9.length+1)*24≤140737488355328)) (ca (decide ((x22.length+1)*24≤140737488355328)) (dx x9 Un Ni (IntKind.i64.wrap (CI+1)) HC Lp oj tB lG oT E8 uR x21 (x22++([(⟨y24,(IntKind.i64.wrap (x9+(IntKind.i64.wrap (2*CI)))),(decide (CI<Ni))⟩:Stop)]:List Stop)) (Z9++([(⟨Qq,(IntKind.i64.wrap ((IntKind.i64.wrap (x9+(IntKind.i64.wrap (2*CI)))) - 1)),(decide (CI<Ni))⟩:aC.Way)]:List aC.Way)))))else (ca (decide ((x22.length+1)*24≤140737488355328)) (dx x9 Un Ni (IntKind.i64.wrap (CI+1)) HC Lp oj tB lG oT E8 uR x21 (x22++([(⟨y24,(IntKind.i64.wrap (x9+(IntKind.i64.wrap (2*CI)))),(decide (CI<Ni))⟩:Stop)]:List Stop)) Z9)))))))else (bif (decide (CI>(0:Int)))then (ca (decide ((Z9.length+1)*24≤140737488355328)) (ca (decide ((x22.length+1)*24≤140737488355328)) (dx x9 Un Ni (IntKind.i64.wrap (CI+1)) HC Lp oj tB lG oT E8 uR x21 (x22++([(⟨0,(IntKind.i64.wrap (x9+(IntKind.i64.wrap (2*CI)))),(decide (CI<Ni))⟩:Stop)]:List Stop)) (Z9++([(⟨0,(IntKind.i64.wrap ((IntKind.i64.wrap (x9+(IntKind.i64.wrap (2*CI)))) - 1)),(decide (CI<Ni))⟩:aC.Way)]:List aC.Way)))))else (ca (decide ((x22.length+1)*24≤140737488355328)) (dx x9 Un Ni (IntKind.i64.wrap (CI+1)) HC Lp oj tB lG oT E8 uR x21 (x22++([(⟨0,(IntKind.i64.wrap (x9+(IntKind.i64.wrap (2*CI)))),(decide (CI<Ni))⟩:Stop)]:List Stop)) Z9))))else (e0 Lp oj tB lG oT E8 uR x21 x22 Z9)
def M9 (K:Ex→St→Option R) (rc:pL→Option R) (d:pL):Option R:=zJ er (fun z0 z1 z2 z3 z4 z5 z6 z7 z8 z9 Rp vN z12 z13 z14=>rc (z0,z1,z2,z3,z4,z5,z6,z7,z8,z9,Rp,vN,z12,z13,z14)) d.1 d.2.1 d.2.2.1 d.2.2.2.1 d.2.2.2.2.1 d.2.2.2.2.2.1 d.2.2.2.2.2.2.1 d.2.2.2.2.2.2.2.1 d.2.2.2.2.2.2.2.2.1 d.2.2.2.2.2.2.2.2.2.1 d.2.2.2.2.2.2.2.2.2.2.1 d.2.2.2.2.2.2.2.2.2.2.2.1 d.2.2.2.2.2.2.2.2.2.2.2.2.1 d.2.2.2.2.2.2.2.2.2.2.2.2.2.1 d.2.2.2.2.2.2.2.2.2.2.2.2.2.2 (DF K)
def EA:Nat→Option (Hint×cJ R):=fun i=>match i with
 | 6=>some (zI,(cE uG uH (KD dn) iK))
 | _=>none
theorem RM (K:Ex→St→Option R) (rc:St→Option R) (d:pL):roundOf tt (cO (A3 kY er)) (EA dn) 0 ((aA (bb Tryz.f18)).getD 0 .skip) zI (Cu d) rc K=M9 er K (fun d=>rc (Cu d)) d:=by kernel_rfl
def Ph (x1:Order) (x2:Int) (k0:Order→Option R):Option R :=
 er x1.header 1000000001 (fun y3=>kY x1.cU (fun y4=>er x1.order 1000000001 (fun y5=>er x1.update 1000000001 (fun y6=>er (x1.bN.length:Int) 500 (fun y7=>er x2 (min (max (x1.nodes.length:Int) 1) 64) (fun y8=>dn (Int.natAbs (IntKind.i64.wrap (2*y7))+Int.natAbs (min (max (x1.nodes.length:Int) 1) 64)+Int.natAbs (IntKind.i64.wrap (1+y8))+Int.natAbs 0+Order.fu x1+Int.natAbs 0+List.length ([]:ah)+Int.natAbs 0+Int.natAbs 0+Int.natAbs y3+List.length y4+Int.natAbs y5+Int.natAbs y6+List.length ([]:List Stop)+List.length ([]:List aC.Way)+64) (IntKind.i64.wrap (2*y7)) (min (max (x1.nodes.length:Int) 1) 64) (IntKind.i64.wrap (1+y8)) 0 x1 0 ([]:ah) 0 0 y3 y4 y5 y6 ([]:List Stop) ([]:List aC.Way) (fun ZH ZZ Z0 W1 y44 y45 y46 y47 y48 y49=>k0 (⟨y44,y45,y46,y47,y48,y49⟩:Order))))))))
theorem law08_Fit_ok:dC (R:=R) tt (A3 kY er) (EA dn) false Tryz.f18 Pf Pg (TA (Ph kY er dn)):=fun x y k=>by kernel_rfl
end
theorem aaw:ct (R:=R) Tryz.prog (A3 (R:=R) kY er) := .c (YU R) <| .c (Wy R) <| .n
def dn:DE R
 | 0,_,_,_,_,_,_,_,_,_,_,_,_,_,_,_,_=>none
 | n+1,gh,gl,gv,mB,v7,xS,Ee,Ef,HD,HE,pA,xT,Dm,Dn,Mj,e0=>zJ er (fun gh gl gv mB v7 xS Ee Ef HD HE pA xT Dm Dn Mj=>dn n gh gl gv mB v7 xS Ee Ef HD HE pA xT Dm Dn Mj e0) gh gl gv mB v7 xS Ee Ef HD HE pA xT Dm Dn Mj e0
def Na (K:Ex→St→Option R) (n:Nat) (d:pL):Option R:=dn n d.1 d.2.1 d.2.2.1 d.2.2.2.1 d.2.2.2.2.1 d.2.2.2.2.2.1 d.2.2.2.2.2.2.1 d.2.2.2.2.2.2.2.1 d.2.2.2.2.2.2.2.2.1 d.2.2.2.2.2.2.2.2.2.1 d.2.2.2.2.2.2.2.2.2.2.1 d.2.2.2.2.2.2.2.2.2.2.2.1 d.2.2.2.2.2.2.2.2.2.2.2.2.1 d.2.2.2.2.2.2.2.2.2.2.2.2.2.1 d.2.2.2.2.2.2.2.2.2.2.2.2.2.2 (DF K)
theorem UR (other:cJ R) (ho:gV tt (cO (A3 (R:=R) kY er)) (EA (R:=R) dn) 0 ((aA (bb Tryz.f18)).getD 0 .skip) zI other):gV tt (cO (A3 (R:=R) kY er)) (EA (R:=R) dn) 0 ((aA (bb Tryz.f18)).getD 0 .skip) zI (cE uG uH (KD (dn)) other) :=
 cN (A:=Na) ho (dT Cu (M9 er) (Na) (fun _ _=>by kernel_rfl) (RM kY er dn) (fun _ _ _=>by kernel_rfl)) M8 WB (fun _ _=>by kernel_rfl) (fun _ _ _=>by kernel_rfl)
def sS:Gi R:=fun x1 x2 k0=>Ph kY er dn x1 x2 k0
theorem WC (R:Type):∀a∈aA (bb Tryz.f18),gJ tt (cO (A3 (R:=R) kY er)) (EA (R:=R) dn) 0 a:=by
 refine eX 1 (by kernel_rfl) fun i hi => ?_
 match i,hi with
 | 0,_=>exact cy (by kernel_rfl) (UR _ dt)
 | n+1,hi=>omega
theorem YV (R:Type):k6 Tryz.prog 18 (VN (sS (R:=R))):=br TT mixed (aaw (R:=R)) rfl rfl rfl rfl (WC R) (law08_Fit_ok kY er dn)
end Go.Proofs.YtidfokedcnhahaaGreatDoor
/-
 Functions of the program as pure Lean functions, and the ties; printed by wip/tools/emit.py.
-/
set_option maxRecDepth 100000
namespace Go.Proofs.YtidfokedcnhahaaGreatDoor
open Go Go.aC
variable {R:Type}
end Go.Proofs.YtidfokedcnhahaaGreatDoor
/-
 Functions of the program as pure Lean functions, and the ties; printed by wip/tools/emit.py.
-/
set_option maxRecDepth 100000
namespace Go.Proofs.YtidfokedcnhahaaGreatDoor
open Go Go.aC
variable {R:Type}
end Go.Proofs.YtidfokedcnhahaaGreatDoor
/-
 Functions of the program as pure Lean functions, and the ties; printed by wip/tools/emit.py.
-/
set_option maxRecDepth 100000
namespace Go.Proofs.YtidfokedcnhahaaGreatDoor
open Go Go.aC
variable {R:Type}
/-! ### humpyard/humpyardref08.Same -/
abbrev D6 (R:Type):Type:=Order→Order→(Bool→Option R)→Option R
abbrev Mu:List cM := [.agg [.int .i64, .str, .int .i64, .int .i64, .sl .stop, .sl .qD], .agg [.int .i64, .str, .int .i64, .int .i64, .sl .stop, .sl .qD]]
abbrev Mv:List aW := []
def QY (fn:D6 R):k9 R Mu Mv:=fun x y k=>fn (⟨x.1.1,x.1.2.1,x.1.2.2.1,x.1.2.2.2.1,x.1.2.2.2.2.1,x.1.2.2.2.2.2.1⟩:Order) (⟨x.2.1.1,x.2.1.2.1,x.2.1.2.2.1,x.2.1.2.2.2.1,x.2.1.2.2.2.2.1,x.2.1.2.2.2.2.2.1⟩:Order) (fun q0=>k (.bool q0) [])
def TB (fn:D6 R):=aI Mu Mv (QY fn)
abbrev Cv (R:Type):Type:=Nat→Int→Order→Order→(Order→Order→Option R)→(Bool→Order→Order→Option R)→Option R
abbrev Cw (R:Type):Type:=Nat→Int→Order→Order→(Option R)→(Bool→Option R)→Option R
def xi:Hint := { live := [2,3,5],own := [],rows := [],cells := [],drop := [],out := [2,3,4] }
abbrev ov:Type:=Int×Order×Order
def AA:ov→St:=fun d=>⟨U 2 (.ptr 0 0 :: .ptr 1 0 :: .undef :: .int .i64 d.1::U 81 ([])), [.cells [.int .i64 d.2.1.header, .str d.2.1.cU, .int .i64 d.2.1.order, .int .i64 d.2.1.update, .sl .stop d.2.1.nodes .no, .sl .qD d.2.1.bN .no], .cells [.int .i64 d.2.2.header, .str d.2.2.cU, .int .i64 d.2.2.order, .int .i64 d.2.2.update, .sl .stop d.2.2.nodes .no, .sl .qD d.2.2.bN .no]]⟩
def Cx (K:Ex→St→Option R) (q0:Order) (q1:Order):Option R:=K (.exit 0) ⟨U 2 (.ptr 0 0 :: .ptr 1 0::U 83 ([])), [.cells [.int .i64 q0.header, .str q0.cU, .int .i64 q0.order, .int .i64 q0.update, .sl .stop q0.nodes .no, .sl .qD q0.bN .no], .cells [.int .i64 q1.header, .str q1.cU, .int .i64 q1.order, .int .i64 q1.update, .sl .stop q1.nodes .no, .sl .qD q1.bN .no]]⟩
def Cy (K:Ex→St→Option R) (q0:Bool) (q1:Order) (q2:Order):Option R:=K (.ret) ⟨U 2 (.ptr 0 0 :: .ptr 1 0 :: .bool q0::U 82 ([])), [.cells [.int .i64 q1.header, .str q1.cU, .int .i64 q1.order, .int .i64 q1.update, .sl .stop q1.nodes .no, .sl .qD q1.bN .no], .cells [.int .i64 q2.header, .str q2.cU, .int .i64 q2.order, .int .i64 q2.update, .sl .stop q2.nodes .no, .sl .qD q2.bN .no]]⟩
abbrev sT:List cM:=PU 2 (.leaf (.ptr 0 0) :: .leaf (.ptr 1 0) :: .leaf (.undef) :: .leaf (.int .i64)::PU 81 ([]))
abbrev sU:List aW := [.cells [.int .i64, .str, .int .i64, .int .i64, .sl .stop, .sl .qD], .cells [.int .i64, .str, .int .i64, .int .i64, .sl .stop, .sl .qD]]
def KE (x:cM.bQ sT) (y:aW.bQ sU):Nat:=(Int.natAbs x.2.2.2.2.2.1+Order.fu (⟨y.1.1,y.1.2.1,y.1.2.2.1,y.1.2.2.2.1,y.1.2.2.2.2.1,y.1.2.2.2.2.2.1⟩:Order)+Order.fu (⟨y.2.1.1,y.2.1.2.1,y.2.1.2.2.1,y.2.1.2.2.2.1,y.2.1.2.2.2.2.1,y.2.1.2.2.2.2.2.1⟩:Order)+64)
def US (x:cM.bQ sT) (y:aW.bQ sU):ov:=(x.2.2.2.2.2.1,(⟨y.1.1,y.1.2.1,y.1.2.2.1,y.1.2.2.2.1,y.1.2.2.2.2.1,y.1.2.2.2.2.2.1⟩:Order),(⟨y.2.1.1,y.2.1.2.1,y.2.1.2.2.1,y.2.1.2.2.2.1,y.2.1.2.2.2.2.1,y.2.1.2.2.2.2.2.1⟩:Order))
def IU (L:Cv R):wU R sT sU:=fun x y K=>L (KE x y) x.2.2.2.2.2.1 (⟨y.1.1,y.1.2.1,y.1.2.2.1,y.1.2.2.2.1,y.1.2.2.2.2.1,y.1.2.2.2.2.2.1⟩:Order) (⟨y.2.1.1,y.2.1.2.1,y.2.1.2.2.1,y.2.1.2.2.2.1,y.2.1.2.2.2.2.1,y.2.1.2.2.2.2.2.1⟩:Order) (Cx K) (Cy K)
def xj:Hint := { live := [2,3,6],own := [],rows := [],cells := [],drop := [],out := [4] }
abbrev ow:Type:=Int×Order×Order
def AB:ow→St:=fun d=>⟨U 2 (.ptr 0 0 :: .ptr 1 0::U 2 (.int .i64 d.1::U 80 ([]))), [.cells [.int .i64 d.2.1.header, .str d.2.1.cU, .int .i64 d.2.1.order, .int .i64 d.2.1.update, .sl .stop d.2.1.nodes .no, .sl .qD d.2.1.bN .no], .cells [.int .i64 d.2.2.header, .str d.2.2.cU, .int .i64 d.2.2.order, .int .i64 d.2.2.update, .sl .stop d.2.2.nodes .no, .sl .qD d.2.2.bN .no]]⟩
def Cz (K:Ex→St→Option R):Option R:=K (.exit 2) ⟨U 87 ([]), []⟩
def CA (K:Ex→St→Option R) (q0:Bool):Option R:=K (.ret) ⟨U 4 (.bool q0::U 82 ([])), []⟩
abbrev sV:List cM:=PU 2 (.leaf (.ptr 0 0) :: .leaf (.ptr 1 0)::PU 2 (.leaf (.int .i64)::PU 80 ([])))
abbrev sW:List aW := [.cells [.int .i64, .str, .int .i64, .int .i64, .sl .stop, .sl .qD], .cells [.int .i64, .str, .int .i64, .int .i64, .sl .stop, .sl .qD]]
def KF (x:cM.bQ sV) (y:aW.bQ sW):Nat:=(Int.natAbs x.2.2.2.2.2.2.1+Order.fu (⟨y.1.1,y.1.2.1,y.1.2.2.1,y.1.2.2.2.1,y.1.2.2.2.2.1,y.1.2.2.2.2.2.1⟩:Order)+Order.fu (⟨y.2.1.1,y.2.1.2.1,y.2.1.2.2.1,y.2.1.2.2.2.1,y.2.1.2.2.2.2.1,y.2.1.2.2.2.2.2.1⟩:Order)+64)
def UT (x:cM.bQ sV) (y:aW.bQ sW):ow:=(x.2.2.2.2.2.2.1,(⟨y.1.1,y.1.2.1,y.1.2.2.1,y.1.2.2.2.1,y.1.2.2.2.2.1,y.1.2.2.2.2.2.1⟩:Order),(⟨y.2.1.1,y.2.1.2.1,y.2.1.2.2.1,y.2.1.2.2.2.1,y.2.1.2.2.2.2.1,y.2.1.2.2.2.2.2.1⟩:Order))
def IV (L:Cw R):wU R sV sW:=fun x y K=>L (KF x y) x.2.2.2.2.2.2.1 (⟨y.1.1,y.1.2.1,y.1.2.2.1,y.1.2.2.2.1,y.1.2.2.2.2.1,y.1.2.2.2.2.2.1⟩:Order) (⟨y.2.1.1,y.2.1.2.1,y.2.1.2.2.1,y.2.1.2.2.2.1,y.2.1.2.2.2.2.1,y.2.1.2.2.2.2.2.1⟩:Order) (Cz K) (CA K)
section
variable (cw:Cv R) (cx:Cw R)
def xk (dx:Int→Order→Order→Option R) (x4:Int) (x5:Order) (x6:Order) (e0:Order→Order→Option R) (e1:Bool→Order→Order→Option R):Option R :=
 bif (decide (x4<(x5.nodes.length:Int)))then (ca (decide ((0:Int)≤x4)&&decide (x4<x5.nodes.length)) (ca (decide ((0:Int)≤x4)&&decide (x4<x6.nodes.length)) (bif (!((x5.nodes.getD x4.toNat (Ty.aZ .stop)).node==(x6.nodes.getD x4.toNat (Ty.aZ .stop)).node&&((x5.nodes.getD x4.toNat (Ty.aZ .stop)).seq==(x6.nodes.getD x4.toNat (Ty.aZ .stop)).seq&&((x5.nodes.getD x4.toNat (Ty.aZ .stop)).bP==(x6.nodes.getD x4.toNat (Ty.aZ .stop)).bP&&true))))then (e1 false x5 x6)else (dx (IntKind.i64.wrap (x4+1)) x5 x6))))else (e0 x5 x6)
def KG (K:Ex→St→Option R) (rc:ov→Option R) (d:ov):Option R:=xk (fun z0 z1 z2=>rc (z0,z1,z2)) d.1 d.2.1 d.2.2 (Cx K) (Cy K)
def xl (dx:Int→Order→Order→Option R) (CI:Int) (HC:Order) (Lp:Order) (e0:Option R) (e1:Bool→Option R):Option R :=
 bif (decide (CI<(HC.bN.length:Int)))then (ca (decide ((0:Int)≤CI)&&decide (CI<HC.bN.length)) (ca (decide ((0:Int)≤CI)&&decide (CI<Lp.bN.length)) (bif (!((HC.bN.getD CI.toNat (Ty.aZ .qD)).yz==(Lp.bN.getD CI.toNat (Ty.aZ .qD)).yz&&((HC.bN.getD CI.toNat (Ty.aZ .qD)).seq==(Lp.bN.getD CI.toNat (Ty.aZ .qD)).seq&&((HC.bN.getD CI.toNat (Ty.aZ .qD)).bP==(Lp.bN.getD CI.toNat (Ty.aZ .qD)).bP&&true))))then (e1 false)else (dx (IntKind.i64.wrap (CI+1)) HC Lp))))else (e0)
def KH (K:Ex→St→Option R) (rc:ow→Option R) (d:ow):Option R:=xl (fun z0 z1 z2=>rc (z0,z1,z2)) d.1 d.2.1 d.2.2 (Cz K) (CA K)
def qB:Nat→Option (Hint×cJ R):=fun i=>match i with
 | 4=>some (xi,(cE sT sU (IU cw) iK))
 | 9=>some (xj,(cE sV sW (IV cx) iK))
 | _=>none
theorem Qd (K:Ex→St→Option R) (rc:St→Option R) (d:ov):roundOf tt (cO []) (qB cw cx) 0 ((aA (bb Tryz.f24)).getD 0 .skip) xi (AA d) rc K=KG K (fun d=>rc (AA d)) d:=by kernel_rfl
theorem Qe (K:Ex→St→Option R) (rc:St→Option R) (d:ow):roundOf tt (cO []) (qB cw cx) 0 ((aA (bb Tryz.f24)).getD 1 .skip) xj (AB d) rc K=KH K (fun d=>rc (AB d)) d:=by kernel_rfl
def Mw (x1:Order) (x2:Order) (k0:Bool→Option R):Option R :=
 bif (x1.header != x2.header)then (k0 false)else (bif (!(x1.cU==x2.cU))then (k0 false)else (bif (x1.order != x2.order)then (k0 false)else (bif (x1.update != x2.update)then (k0 false)else (bif ((x1.nodes.length:Int) != (x2.nodes.length:Int))then (k0 false)else (bif ((x1.bN.length:Int) != (x2.bN.length:Int))then (k0 false)else (cw (Int.natAbs 0+Order.fu x1+Order.fu x2+64) 0 x1 x2 (fun y7 y8=>cx (Int.natAbs 0+Order.fu y7+Order.fu y8+64) 0 y7 y8 (k0 true) (fun JR=>k0 JR)) (fun y9 uf vO=>k0 y9)))))))
theorem aax:dC (R:=R) tt [] (qB cw cx) false Tryz.f24 Mu Mv (QY (Mw cw cx)):=fun x y k=>by kernel_rfl
end
def cw:Cv R
 | 0,_,_,_,_,_=>none
 | n+1,gh,gl,gv,e0,e1=>xk (fun gh gl gv=>cw n gh gl gv e0 e1) gh gl gv e0 e1
def KI (K:Ex→St→Option R) (n:Nat) (d:ov):Option R:=cw n d.1 d.2.1 d.2.2 (Cx K) (Cy K)
def cx:Cw R
 | 0,_,_,_,_,_=>none
 | n+1,gh,gl,gv,e0,e1=>xl (fun gh gl gv=>cx n gh gl gv e0 e1) gh gl gv e0 e1
def KJ (K:Ex→St→Option R) (n:Nat) (d:ow):Option R:=cx n d.1 d.2.1 d.2.2 (Cz K) (CA K)
theorem TC (other:cJ R) (ho:gV tt (cO []) (qB (R:=R) cw cx) 0 ((aA (bb Tryz.f24)).getD 0 .skip) xi other):gV tt (cO []) (qB (R:=R) cw cx) 0 ((aA (bb Tryz.f24)).getD 0 .skip) xi (cE sT sU (IU (cw)) other) :=
 cN (A:=KI) ho (dT AA (KG) (KI) (fun _ _=>by kernel_rfl) (Qd cw cx) (fun _ _ _=>by kernel_rfl)) KE US (fun _ _=>by kernel_rfl) (fun _ _ _=>by kernel_rfl)
theorem TE (other:cJ R) (ho:gV tt (cO []) (qB (R:=R) cw cx) 0 ((aA (bb Tryz.f24)).getD 1 .skip) xj other):gV tt (cO []) (qB (R:=R) cw cx) 0 ((aA (bb Tryz.f24)).getD 1 .skip) xj (cE sV sW (IV (cx)) other) :=
 cN (A:=KJ) ho (dT AB (KH) (KJ) (fun _ _=>by kernel_rfl) (Qe cw cx) (fun _ _ _=>by kernel_rfl)) KF UT (fun _ _=>by kernel_rfl) (fun _ _ _=>by kernel_rfl)
def nn:D6 R:=fun x1 x2 k0=>Mw cw cx x1 x2 k0
theorem UU (R:Type):∀a∈aA (bb Tryz.f24),gJ tt (cO []) (qB (R:=R) cw cx) 0 a:=by
 refine eX 2 (by kernel_rfl) fun i hi => ?_
 match i,hi with
 | 0,_=>exact cy (by kernel_rfl) (TC _ dt)
 | 1,_=>exact cy (by kernel_rfl) (TE _ dt)
 | n+2,hi=>omega
theorem WD (R:Type):k6 Tryz.prog 24 (TB (nn (R:=R))):=br TT mixed .n rfl rfl rfl rfl (UU R) (aax cw cx)
end Go.Proofs.YtidfokedcnhahaaGreatDoor
/-
 Functions of the program as pure Lean functions, and the ties; printed by wip/tools/emit.py.
-/
set_option maxRecDepth 100000
namespace Go.Proofs.YtidfokedcnhahaaGreatDoor
open Go Go.aC
variable {R:Type}
end Go.Proofs.YtidfokedcnhahaaGreatDoor
/-
 Functions of the program as pure Lean functions, and the ties; printed by wip/tools/emit.py.
-/
set_option maxRecDepth 100000
namespace Go.Proofs.YtidfokedcnhahaaGreatDoor
open Go Go.aC
variable {R:Type}
end Go.Proofs.YtidfokedcnhahaaGreatDoor
/-
 Functions of the program as pure Lean functions, and the ties; printed by wip/tools/emit.py.
-/
set_option maxRecDepth 100000
namespace Go.Proofs.YtidfokedcnhahaaGreatDoor
open Go Go.aC
variable {R:Type}
/-! ### (*humpyard/humpyardref04.Parser).is -/
abbrev jX (R:Type):Type:=ah→(List Token)→Int→Int→(Bool→(List Token)→Int→Int→Option R)→Option R
abbrev tV:List cM := [.leaf (.ptr 0 0), .leaf (.str)]
abbrev tW:List aW := [.cells [.sl .token, .int .i64, .int .i64]]
def A4 (fn:jX R):k9 R tV tW:=fun x y k=>fn x.2.1 y.1.1 y.1.2.1 y.1.2.2.1 (fun q0 q1 q2 q3=>k (.bool q0) [.cells [.sl .token q1 .no, .int .i64 q2, .int .i64 q3]])
def tX (fn:jX R):=aI tV tW (A4 fn)
section
def CB (x1:ah) (x2:List Token) (x3:Int) (x4:Int) (k0:Bool→(List Token)→Int→Int→Option R):Option R :=
 bif (x4==0)then (ca (decide ((0:Int)≤x3)&&decide (x3<x2.length)) (bif ((x2.getD x3.toNat (Ty.aZ .token)).kind==1)then (ca (decide ((0:Int)≤x3)&&decide (x3<x2.length)) (bif ((x2.getD x3.toNat (Ty.aZ .token)).text==x1)then (k0 ((x2.getD x3.toNat (Ty.aZ .token)).text==x1) x2 (IntKind.i64.wrap (x3+1)) x4)else (k0 ((x2.getD x3.toNat (Ty.aZ .token)).text==x1) x2 x3 x4)))else (k0 false x2 x3 x4)))else (k0 false x2 x3 x4)
theorem KK:dC (R:=R) (tt.mode [.json]) [] rP false Tryz.f152 tV tW (A4 CB):=fun x y k=>by kernel_rfl
end
def aG:jX R:=fun x1 x2 x3 x4 k0=>CB x1 x2 x3 x4 k0
theorem xI (R:Type):k6 Tryz.prog 152 (tX (aG (R:=R))):=br (TT.mode [.json]) mixed .n rfl rfl rfl rfl cb (KK)
/-! ### (*humpyard/humpyardref04.Parser).must -/
abbrev lD (R:Type):Type:=ah→(List Token)→Int→Int→((List Token)→Int→Int→Option R)→Option R
abbrev qV:List cM := [.leaf (.ptr 0 0), .leaf (.str)]
abbrev qW:List aW := [.cells [.sl .token, .int .i64, .int .i64]]
def xJ (fn:lD R):k9 R qV qW:=fun x y k=>fn x.2.1 y.1.1 y.1.2.1 y.1.2.2.1 (fun q0 q1 q2=>k (.tuple []) [.cells [.sl .token q0 .no, .int .i64 q1, .int .i64 q2]])
def zq (fn:lD R):=aI qV qW (xJ fn)
section
variable (aG:jX R)
def zt:List (oi R) := [(152,false,(tX aG ax))]
def zu (x1:ah) (x2:List Token) (x3:Int) (x4:Int) (k0:(List Token)→Int→Int→Option R):Option R :=
 aG x1 x2 x3 x4 (fun y5 y6 y7 y8=>bif (!y5)then (bif (y8==0)then (k0 y6 y7 40)else (k0 y6 y7 y8))else (k0 y6 y7 y8))
theorem HZ:dC (R:=R) (tt.mode [.json]) (zt aG) rP false Tryz.f153 qV qW (xJ (zu aG)):=fun x y k=>by kernel_rfl
end
theorem Hs:ct (R:=R) Tryz.prog (zt (R:=R) aG) := .d (xI R) rfl <| .n
def bc:lD R:=fun x1 x2 x3 x4 k0=>zu aG x1 x2 x3 x4 k0
theorem Gj (R:Type):k6 Tryz.prog 153 (zq (bc (R:=R))):=br (TT.mode [.json]) mixed (Hs (R:=R)) rfl rfl rfl rfl cb (HZ aG)
end Go.Proofs.YtidfokedcnhahaaGreatDoor
/-
 Functions of the program as pure Lean functions, and the ties; printed by wip/tools/emit.py.
-/
set_option maxRecDepth 100000
namespace Go.Proofs.YtidfokedcnhahaaGreatDoor
open Go Go.aC
variable {R:Type}
/-! ### (*humpyard/humpyardref04.Parser).value -/
abbrev bh (R:Type):Type:=Int→(List Token)→Int→Int→(Json→(List Token)→Int→Int→Option R)→Option R
abbrev dD:List cM := [.leaf (.ptr 0 0), .leaf (.int .i64)]
abbrev dE:List aW := [.cells [.sl .token, .int .i64, .int .i64]]
def cr (fn:bh R):k9 R dD dE:=fun x y k=>fn x.2.1 y.1.1 y.1.2.1 y.1.2.2.1 (fun q0 q1 q2 q3=>k (.agg [.int .i64 q0.kind, .int .i64 q0.num.ao, .int .i64 q0.num.exp, .str q0.text, .sl .str q0.names .no, .sl .json q0.items .no]) [.cells [.sl .token q1 .no, .int .i64 q2, .int .i64 q3]])
def H0 (fn:bh R):=aI dD dE (cr fn)
abbrev lj (R:Type):Type:=Nat→Int→Bool→(List Token)→Int→Int→Int→Int→Int→ah→Int→Int→Int→ah→Nat→(List Json)→((List Token)→Int→Int→Int→Int→Int→ah→Int→Int→Int→ah→Nat→(List Json)→Option R)→Option R
abbrev lk (R:Type):Type:=Nat→Int→Bool→(List Token)→Int→Int→Int→Int→Int→ah→Int→Int→Int→ah→(List ah)→Nat→(List Json)→((List Token)→Int→Int→Int→Int→Int→ah→Int→Int→Int→ah→(List ah)→Nat→(List Json)→Option R)→Option R
def iY:Hint := { live := [0,1,4,7,8],own := [],rows := [],cells := [(2,5, .json,true)],drop := [],out := [4,7] }
abbrev eO:Type:=Int×Bool×(List Token)×Int×Int×Int×Int×Int×ah×Int×Int×Int×ah×Nat×(List Json)
def kT:eO→St:=fun d=>⟨.ptr 0 0 :: .int .i64 d.1::U 2 (.ptr 1 0::U 2 (.ptr 2 0 :: .bool d.2.1::U 184 ([]))), [.cells [.sl .token d.2.2.1 .no, .int .i64 d.2.2.2.1, .int .i64 d.2.2.2.2.1], .cells [.int .i64 d.2.2.2.2.2.1, .int .i64 d.2.2.2.2.2.2.1, .int .i64 d.2.2.2.2.2.2.2.1, .str d.2.2.2.2.2.2.2.2.1, .bw, .bw], .cells [.int .i64 d.2.2.2.2.2.2.2.2.2.1, .int .i64 d.2.2.2.2.2.2.2.2.2.2.1, .int .i64 d.2.2.2.2.2.2.2.2.2.2.2.1, .str d.2.2.2.2.2.2.2.2.2.2.2.2.1, .bw, .row 3 d.2.2.2.2.2.2.2.2.2.2.2.2.2.1], .row .json d.2.2.2.2.2.2.2.2.2.2.2.2.2.2]⟩
def ll (K:Ex→St→Option R) (q0:List Token) (q1:Int) (q2:Int) (q3:Int) (q4:Int) (q5:Int) (q6:ah) (q7:Int) (q8:Int) (q9:Int) (ZY:ah) (q11:Nat) (q12:List Json):Option R:=K (.exit 1) ⟨U 4 (.ptr 1 0::U 2 (.ptr 2 0::U 185 ([]))), [.cells [.sl .token q0 .no, .int .i64 q1, .int .i64 q2], .cells [.int .i64 q3, .int .i64 q4, .int .i64 q5, .str q6, .bw, .bw], .cells [.int .i64 q7, .int .i64 q8, .int .i64 q9, .str ZY, .bw, .row 3 q11], .row .json q12]⟩
abbrev fZ:List cM := .leaf (.ptr 0 0) :: .leaf (.int .i64)::PU 2 (.leaf (.ptr 1 0)::PU 2 (.leaf (.ptr 2 0) :: .leaf (.bool)::PU 184 ([])))
abbrev gd:List aW := [.cells [.sl .token, .int .i64, .int .i64], .cells [.int .i64, .int .i64, .int .i64, .str, .bw, .bw], .cells [.int .i64, .int .i64, .int .i64, .str, .bw, .row 3], .row .json]
def sY (x:cM.bQ fZ) (y:aW.bQ gd):Nat:=(Int.natAbs x.2.1+List.length y.1.1+Int.natAbs y.1.2.1+Int.natAbs y.1.2.2.1+Int.natAbs y.2.1.1+Int.natAbs y.2.1.2.1+Int.natAbs y.2.1.2.2.1+List.length y.2.1.2.2.2.1+Int.natAbs y.2.2.1.1+Int.natAbs y.2.2.1.2.1+Int.natAbs y.2.2.1.2.2.1+List.length y.2.2.1.2.2.2.1+List.length y.2.2.2.1+64)
def DG (x:cM.bQ fZ) (y:aW.bQ gd):eO:=(x.2.1,(t8 x).1,y.1.1,y.1.2.1,y.1.2.2.1,y.2.1.1,y.2.1.2.1,y.2.1.2.2.1,y.2.1.2.2.2.1,y.2.2.1.1,y.2.2.1.2.1,y.2.2.1.2.2.1,y.2.2.1.2.2.2.1,y.2.2.1.2.2.2.2.2.1,y.2.2.2.1)
def rJ (L:lj R):wU R fZ gd:=fun x y K=>L (sY x y) x.2.1 ((t8 x).1) y.1.1 y.1.2.1 y.1.2.2.1 y.2.1.1 y.2.1.2.1 y.2.1.2.2.1 y.2.1.2.2.2.1 y.2.2.1.1 y.2.2.1.2.1 y.2.2.1.2.2.1 y.2.2.1.2.2.2.1 y.2.2.1.2.2.2.2.2.1 y.2.2.2.1 (ll K)
def iZ:Hint := { live := [0,1,4,10,11],own := [],rows := [],cells := [(2,4, .str,false),(2,5, .json,true)],drop := [],out := [4,10] }
abbrev eP:Type:=Int×Bool×(List Token)×Int×Int×Int×Int×Int×ah×Int×Int×Int×ah×(List ah)×Nat×(List Json)
def kU:eP→St:=fun d=>⟨.ptr 0 0 :: .int .i64 d.1::U 2 (.ptr 1 0::U 5 (.ptr 2 0 :: .bool d.2.1::U 181 ([]))), [.cells [.sl .token d.2.2.1 .no, .int .i64 d.2.2.2.1, .int .i64 d.2.2.2.2.1], .cells [.int .i64 d.2.2.2.2.2.1, .int .i64 d.2.2.2.2.2.2.1, .int .i64 d.2.2.2.2.2.2.2.1, .str d.2.2.2.2.2.2.2.2.1, .bw, .bw], .cells [.int .i64 d.2.2.2.2.2.2.2.2.2.1, .int .i64 d.2.2.2.2.2.2.2.2.2.2.1, .int .i64 d.2.2.2.2.2.2.2.2.2.2.2.1, .str d.2.2.2.2.2.2.2.2.2.2.2.2.1, .sl .str d.2.2.2.2.2.2.2.2.2.2.2.2.2.1 (.own 3), .row 4 d.2.2.2.2.2.2.2.2.2.2.2.2.2.2.1], .tok, .row .json d.2.2.2.2.2.2.2.2.2.2.2.2.2.2.2]⟩
def ln (K:Ex→St→Option R) (q0:List Token) (q1:Int) (q2:Int) (q3:Int) (q4:Int) (q5:Int) (q6:ah) (q7:Int) (q8:Int) (q9:Int) (ZY:ah) (q11:List ah) (q12:Nat) (q13:List Json):Option R:=K (.exit 3) ⟨U 4 (.ptr 1 0::U 5 (.ptr 2 0::U 182 ([]))), [.cells [.sl .token q0 .no, .int .i64 q1, .int .i64 q2], .cells [.int .i64 q3, .int .i64 q4, .int .i64 q5, .str q6, .bw, .bw], .cells [.int .i64 q7, .int .i64 q8, .int .i64 q9, .str ZY, .sl .str q11 (.own 3), .row 4 q12], .tok, .row .json q13]⟩
abbrev gf:List cM := .leaf (.ptr 0 0) :: .leaf (.int .i64)::PU 2 (.leaf (.ptr 1 0)::PU 5 (.leaf (.ptr 2 0) :: .leaf (.bool)::PU 181 ([])))
abbrev gg:List aW := [.cells [.sl .token, .int .i64, .int .i64], .cells [.int .i64, .int .i64, .int .i64, .str, .bw, .bw], .cells [.int .i64, .int .i64, .int .i64, .str, .TY .str 3, .row 4], .tok, .row .json]
def sZ (x:cM.bQ gf) (y:aW.bQ gg):Nat:=(Int.natAbs x.2.1+List.length y.1.1+Int.natAbs y.1.2.1+Int.natAbs y.1.2.2.1+Int.natAbs y.2.1.1+Int.natAbs y.2.1.2.1+Int.natAbs y.2.1.2.2.1+List.length y.2.1.2.2.2.1+Int.natAbs y.2.2.1.1+Int.natAbs y.2.2.1.2.1+Int.natAbs y.2.2.1.2.2.1+List.length y.2.2.1.2.2.2.1+List.length y.2.2.1.2.2.2.2.1+List.length y.2.2.2.2.1+64)
def DH (x:cM.bQ gf) (y:aW.bQ gg):eP:=(x.2.1,(t8 x).2.2.2.1,y.1.1,y.1.2.1,y.1.2.2.1,y.2.1.1,y.2.1.2.1,y.2.1.2.2.1,y.2.1.2.2.2.1,y.2.2.1.1,y.2.2.1.2.1,y.2.2.1.2.2.1,y.2.2.1.2.2.2.1,y.2.2.1.2.2.2.2.1,y.2.2.1.2.2.2.2.2.1,y.2.2.2.2.1)
def rK (L:lk R):wU R gf gg:=fun x y K=>L (sZ x y) x.2.1 ((t8 x).2.2.2.1) y.1.1 y.1.2.1 y.1.2.2.1 y.2.1.1 y.2.1.2.1 y.2.1.2.2.1 y.2.1.2.2.2.1 y.2.2.1.1 y.2.2.1.2.1 y.2.2.1.2.2.1 y.2.2.1.2.2.2.1 y.2.2.1.2.2.2.2.1 y.2.2.1.2.2.2.2.2.1 y.2.2.2.2.1 (ln K)
section
variable (aG:jX R) (bc:lD R) (af:bh R) (ij:Gc R) (aX:lj R) (aY:lk R)
def dG:List (oi R) := [(152,false,(tX aG ax)),(153,false,(zq bc ax)),(114,false,(aI dD dE (cr af) ax)),(154,true,(VE ij ax))]
def s4 (dx:Int→Bool→(List Token)→Int→Int→Int→Int→Int→ah→Int→Int→Int→ah→Nat→(List Json)→Option R) (Ni:Int) (CI:Bool) (HC:List Token) (Lp:Int) (oj:Int) (tB:Int) (lG:Int) (oT:Int) (E8:ah) (uR:Int) (x21:Int) (x22:Int) (Z9:ah) (x24:Nat) (Qn:List Json) (e0:(List Token)→Int→Int→Int→Int→Int→ah→Int→Int→Int→ah→Nat→(List Json)→Option R):Option R :=
 bif (!CI)then (bif (oj==0)then (af (IntKind.i64.wrap (Ni+1)) HC Lp oj (fun Jd Qr Yv W2=>ca (decide ((Qn.length+1)*88≤140737488355328)) (aG ([44]:ah) Qr Yv W2 (fun Z8 UC y33 y34=>bif (!Z8)then (bc ([93]:ah) UC y33 y34 (fun y35 y36 y37=>dx Ni true y35 y36 y37 tB lG oT E8 uR x21 x22 Z9 (Qn.length+1) (Qn++([(⟨Jd.kind,⟨Jd.num.ao,Jd.num.exp⟩,Jd.text,Jd.names,Jd.items⟩:Json)]:List Json))))else (dx Ni CI UC y33 y34 tB lG oT E8 uR x21 x22 Z9 (Qn.length+1) (Qn++([(⟨Jd.kind,⟨Jd.num.ao,Jd.num.exp⟩,Jd.text,Jd.names,Jd.items⟩:Json)]:List Json)))))))else (e0 HC Lp oj tB lG oT E8 uR x21 x22 Z9 x24 Qn))else (e0 HC Lp oj tB lG oT E8 uR x21 x22 Z9 x24 Qn)
def s5 (K:Ex→St→Option R) (rc:eO→Option R) (d:eO):Option R:=s4 aG bc af (fun z0 z1 z2 z3 z4 z5 z6 z7 z8 z9 Rp vN z12 z13 z14=>rc (z0,z1,z2,z3,z4,z5,z6,z7,z8,z9,Rp,vN,z12,z13,z14)) d.1 d.2.1 d.2.2.1 d.2.2.2.1 d.2.2.2.2.1 d.2.2.2.2.2.1 d.2.2.2.2.2.2.1 d.2.2.2.2.2.2.2.1 d.2.2.2.2.2.2.2.2.1 d.2.2.2.2.2.2.2.2.2.1 d.2.2.2.2.2.2.2.2.2.2.1 d.2.2.2.2.2.2.2.2.2.2.2.1 d.2.2.2.2.2.2.2.2.2.2.2.2.1 d.2.2.2.2.2.2.2.2.2.2.2.2.2.1 d.2.2.2.2.2.2.2.2.2.2.2.2.2.2 (ll K)
def s6 (dx:Int→Bool→(List Token)→Int→Int→Int→Int→Int→ah→Int→Int→Int→ah→(List ah)→Nat→(List Json)→Option R) (VL:Int) (x56:Bool) (x57:List Token) (x58:Int) (x59:Int) (x60:Int) (x61:Int) (x62:Int) (x63:ah) (x64:Int) (x65:Int) (x66:Int) (x67:ah) (x68:List ah) (x69:Nat) (x70:List Json) (e0:(List Token)→Int→Int→Int→Int→Int→ah→Int→Int→Int→ah→(List ah)→Nat→(List Json)→Option R):Option R :=
 bif (!x56)then (bif (x59==0)then (ca (decide ((0:Int)≤x58)&&decide (x58<x57.length)) (bif ((x57.getD x58.toNat (Ty.aZ .token)).kind != 2)then (e0 x57 x58 40 x60 x61 x62 x63 x64 x65 x66 x67 x68 x69 x70)else (ij x68 ((x57.getD x58.toNat (Ty.aZ .token)).text) (fun y72=>bif y72 then (e0 x57 x58 42 x60 x61 x62 x63 x64 x65 x66 x67 x68 x69 x70)else (bc ([58]:ah) x57 (IntKind.i64.wrap (x58+1)) x59 (fun y73 y74 y75=>ca (decide ((x68.length+1)*16≤140737488355328)) (af (IntKind.i64.wrap (VL+1)) y73 y74 y75 (fun y76 y77 y78 y79=>ca (decide ((x70.length+1)*88≤140737488355328)) (aG ([44]:ah) y77 y78 y79 (fun y80 y81 y82 y83=>bif (!y80)then (bc ([125]:ah) y81 y82 y83 (fun y84 y85 y86=>dx VL true y84 y85 y86 x60 x61 x62 x63 x64 x65 x66 x67 (x68++([(x57.getD x58.toNat (Ty.aZ .token)).text]:List ah)) (x70.length+1) (x70++([(⟨y76.kind,⟨y76.num.ao,y76.num.exp⟩,y76.text,y76.names,y76.items⟩:Json)]:List Json))))else (dx VL x56 y81 y82 y83 x60 x61 x62 x63 x64 x65 x66 x67 (x68++([(x57.getD x58.toNat (Ty.aZ .token)).text]:List ah)) (x70.length+1) (x70++([(⟨y76.kind,⟨y76.num.ao,y76.num.exp⟩,y76.text,y76.names,y76.items⟩:Json)]:List Json)))))))))))))else (e0 x57 x58 x59 x60 x61 x62 x63 x64 x65 x66 x67 x68 x69 x70))else (e0 x57 x58 x59 x60 x61 x62 x63 x64 x65 x66 x67 x68 x69 x70)
def s7 (K:Ex→St→Option R) (rc:eP→Option R) (d:eP):Option R:=s6 aG bc af ij (fun z0 z1 z2 z3 z4 z5 z6 z7 z8 z9 Rp vN z12 z13 z14 z15=>rc (z0,z1,z2,z3,z4,z5,z6,z7,z8,z9,Rp,vN,z12,z13,z14,z15)) d.1 d.2.1 d.2.2.1 d.2.2.2.1 d.2.2.2.2.1 d.2.2.2.2.2.1 d.2.2.2.2.2.2.1 d.2.2.2.2.2.2.2.1 d.2.2.2.2.2.2.2.2.1 d.2.2.2.2.2.2.2.2.2.1 d.2.2.2.2.2.2.2.2.2.2.1 d.2.2.2.2.2.2.2.2.2.2.2.1 d.2.2.2.2.2.2.2.2.2.2.2.2.1 d.2.2.2.2.2.2.2.2.2.2.2.2.2.1 d.2.2.2.2.2.2.2.2.2.2.2.2.2.2.1 d.2.2.2.2.2.2.2.2.2.2.2.2.2.2.2 (ln K)
def ew:Nat→Option (Hint×cJ R):=fun i=>match i with
 | 22=>some (iY,(cE fZ gd (rJ aX) iK))
 | 31=>some (iZ,(cE gf gg (rK aY) iK))
 | _=>none
theorem Bj (K:Ex→St→Option R) (rc:St→Option R) (d:eO):roundOf (tt.mode [.json]) (cO (dG aG bc af ij)) (ew aX aY) 1 ((aA (bb Tryz.f114)).getD 0 .skip) iY (kT d) rc K=s5 aG bc af K (fun d=>rc (kT d)) d:=by kernel_rfl
theorem Bk (K:Ex→St→Option R) (rc:St→Option R) (d:eP):roundOf (tt.mode [.json]) (cO (dG aG bc af ij)) (ew aX aY) 1 ((aA (bb Tryz.f114)).getD 1 .skip) iZ (kU d) rc K=s7 aG bc af ij K (fun d=>rc (kU d)) d:=by kernel_rfl
def xK (x1:Int) (x2:List Token) (x3:Int) (x4:Int) (k0:Json→(List Token)→Int→Int→Option R):Option R :=
 bif (x4 != 0)then (k0 (⟨0,⟨0,0⟩,([]:ah),([]:List ah),([]:List Json)⟩:Json) x2 x3 x4)else (ca (decide ((0:Int)≤x3)&&decide (x3<x2.length)) (let j102:=fun (z5:Bool)=>let j101:=bif (decide (x1>(16:Int)))then (k0 (⟨0,⟨0,0⟩,([]:ah),([]:List ah),([]:List Json)⟩:Json) x2 x3 41)else (bif ((x2.getD x3.toNat (Ty.aZ .token)).kind==2)then (k0 (⟨5,⟨0,0⟩,(x2.getD x3.toNat (Ty.aZ .token)).text,([]:List ah),([]:List Json)⟩:Json) x2 (IntKind.i64.wrap (x3+1)) x4)else (bif ((x2.getD x3.toNat (Ty.aZ .token)).kind==3)then (k0 (⟨4,⟨(x2.getD x3.toNat (Ty.aZ .token)).num.ao,(x2.getD x3.toNat (Ty.aZ .token)).num.exp⟩,([]:ah),([]:List ah),([]:List Json)⟩:Json) x2 (IntKind.i64.wrap (x3+1)) x4)else (bif ((x2.getD x3.toNat (Ty.aZ .token)).kind==4)then (k0 (⟨((mj .str (.int .i64) ((x2.getD x3.toNat (Ty.aZ .token)).text) ([(([110,117,108,108]:ah),1),(([102,97,108,115,101]:ah),2),(([116,114,117,101]:ah),3)]:List (ah×Int))):Int),⟨0,0⟩,([]:ah),([]:List ah),([]:List Json)⟩:Json) x2 (IntKind.i64.wrap (x3+1)) x4)else (bif ((x2.getD x3.toNat (Ty.aZ .token)).text==([91]:ah))then (aG ([93]:ah) x2 (IntKind.i64.wrap (x3+1)) x4 (fun y7 y8 y9 uf=>aX (Int.natAbs x1+List.length y8+Int.natAbs y9+Int.natAbs uf+Int.natAbs 0+Int.natAbs 0+Int.natAbs 0+List.length ([]:ah)+Int.natAbs 6+Int.natAbs 0+Int.natAbs 0+List.length ([]:ah)+List.length ([]:List Json)+64) x1 y7 y8 y9 uf 0 0 0 ([]:ah) 6 0 0 ([]:ah) 0 ([]:List Json) (fun y38 W0 ZH ZZ Z0 W1 y44 y45 y46 y47 y48 y49 y50=>k0 (⟨y45,⟨y46,y47⟩,y48,([]:List ah),y50⟩:Json) y38 W0 ZH)))else (aG ([125]:ah) x2 (IntKind.i64.wrap (x3+1)) x4 (fun y51 y52 y53 y54=>aY (Int.natAbs x1+List.length y52+Int.natAbs y53+Int.natAbs y54+Int.natAbs 0+Int.natAbs 0+Int.natAbs 0+List.length ([]:ah)+Int.natAbs 7+Int.natAbs 0+Int.natAbs 0+List.length ([]:ah)+List.length ([]:List ah)+List.length ([]:List Json)+64) x1 y51 y52 y53 y54 0 0 0 ([]:ah) 7 0 0 ([]:ah) ([]:List ah) 0 ([]:List Json) (fun y87 y88 y89 y90 y91 y92 y93 y94 y95 y96 y97 y98 y99 y100=>k0 (⟨y94,⟨y95,y96⟩,y97,y98,y100⟩:Json) y87 y88 y89))))))); bif ((x2.getD x3.toNat (Ty.aZ .token)).kind==5)then (k0 (⟨0,⟨0,0⟩,([]:ah),([]:List ah),([]:List Json)⟩:Json) x2 x3 40)else (bif ((x2.getD x3.toNat (Ty.aZ .token)).kind==1)then (bif (!z5)then (k0 (⟨0,⟨0,0⟩,([]:ah),([]:List ah),([]:List Json)⟩:Json) x2 x3 40)else (j101))else (j101)); bif ((x2.getD x3.toNat (Ty.aZ .token)).kind==1)then (bif ((x2.getD x3.toNat (Ty.aZ .token)).text==([91]:ah))then (j102 true)else (j102 ((x2.getD x3.toNat (Ty.aZ .token)).text==([123]:ah))))else (j102 false)))
theorem Ht:dC (R:=R) (tt.mode [.json]) (dG aG bc af ij) (ew aX aY) false Tryz.f114 dD dE (cr (xK aG aX aY)):=fun x y k=>by kernel_rfl
end
theorem Gk (af:bh R) (ic:aC.Spec.Ok Tryz.prog 114 (aI dD dE (cr af) ax)):ct (R:=R) Tryz.prog (dG (R:=R) aG bc af ij) := .d (xI R) rfl <| .d (Gj R) rfl <| .f ic rfl <| .c (YJ R) <| .n
def aX (af:bh R):lj R
 | 0,_,_,_,_,_,_,_,_,_,_,_,_,_,_,_,_=>none
 | n+1,gh,gl,gv,mB,v7,xS,Ee,Ef,HD,HE,pA,xT,Dm,Dn,Mj,e0=>s4 aG bc af (fun gh gl gv mB v7 xS Ee Ef HD HE pA xT Dm Dn Mj=>aX af n gh gl gv mB v7 xS Ee Ef HD HE pA xT Dm Dn Mj e0) gh gl gv mB v7 xS Ee Ef HD HE pA xT Dm Dn Mj e0
def s8 (af:bh R) (K:Ex→St→Option R) (n:Nat) (d:eO):Option R:=aX af n d.1 d.2.1 d.2.2.1 d.2.2.2.1 d.2.2.2.2.1 d.2.2.2.2.2.1 d.2.2.2.2.2.2.1 d.2.2.2.2.2.2.2.1 d.2.2.2.2.2.2.2.2.1 d.2.2.2.2.2.2.2.2.2.1 d.2.2.2.2.2.2.2.2.2.2.1 d.2.2.2.2.2.2.2.2.2.2.2.1 d.2.2.2.2.2.2.2.2.2.2.2.2.1 d.2.2.2.2.2.2.2.2.2.2.2.2.2.1 d.2.2.2.2.2.2.2.2.2.2.2.2.2.2 (ll K)
def aY (af:bh R):lk R
 | 0,_,_,_,_,_,_,_,_,_,_,_,_,_,_,_,_,_=>none
 | n+1,gh,gl,gv,mB,v7,xS,Ee,Ef,HD,HE,pA,xT,Dm,Dn,Mj,x15',e0=>s6 aG bc af ij (fun gh gl gv mB v7 xS Ee Ef HD HE pA xT Dm Dn Mj x15'=>aY af n gh gl gv mB v7 xS Ee Ef HD HE pA xT Dm Dn Mj x15' e0) gh gl gv mB v7 xS Ee Ef HD HE pA xT Dm Dn Mj x15' e0
def s9 (af:bh R) (K:Ex→St→Option R) (n:Nat) (d:eP):Option R:=aY af n d.1 d.2.1 d.2.2.1 d.2.2.2.1 d.2.2.2.2.1 d.2.2.2.2.2.1 d.2.2.2.2.2.2.1 d.2.2.2.2.2.2.2.1 d.2.2.2.2.2.2.2.2.1 d.2.2.2.2.2.2.2.2.2.1 d.2.2.2.2.2.2.2.2.2.2.1 d.2.2.2.2.2.2.2.2.2.2.2.1 d.2.2.2.2.2.2.2.2.2.2.2.2.1 d.2.2.2.2.2.2.2.2.2.2.2.2.2.1 d.2.2.2.2.2.2.2.2.2.2.2.2.2.2.1 d.2.2.2.2.2.2.2.2.2.2.2.2.2.2.2 (ln K)
theorem CT (af:bh R) (other:cJ R) (ho:gV (tt.mode [.json]) (cO (dG (R:=R) aG bc af ij)) (ew (R:=R) (aX af) (aY af)) 1 ((aA (bb Tryz.f114)).getD 0 .skip) iY other):gV (tt.mode [.json]) (cO (dG (R:=R) aG bc af ij)) (ew (R:=R) (aX af) (aY af)) 1 ((aA (bb Tryz.f114)).getD 0 .skip) iY (cE fZ gd (rJ (aX af)) other) :=
 cN (A:=s8 af) ho (dT kT (s5 aG bc af) (s8 af) (fun _ _=>by kernel_rfl) (Bj aG bc af ij (aX af) (aY af)) (fun _ _ _=>by kernel_rfl)) sY DG (fun _ _=>by kernel_rfl) (fun _ _ _=>by kernel_rfl)
theorem CU (af:bh R) (other:cJ R) (ho:gV (tt.mode [.json]) (cO (dG (R:=R) aG bc af ij)) (ew (R:=R) (aX af) (aY af)) 1 ((aA (bb Tryz.f114)).getD 1 .skip) iZ other):gV (tt.mode [.json]) (cO (dG (R:=R) aG bc af ij)) (ew (R:=R) (aX af) (aY af)) 1 ((aA (bb Tryz.f114)).getD 1 .skip) iZ (cE gf gg (rK (aY af)) other) :=
 cN (A:=s9 af) ho (dT kU (s7 aG bc af ij) (s9 af) (fun _ _=>by kernel_rfl) (Bk aG bc af ij (aX af) (aY af)) (fun _ _ _=>by kernel_rfl)) sZ DH (fun _ _=>by kernel_rfl) (fun _ _ _=>by kernel_rfl)
def pD (af:bh R):bh R:=fun x1 x2 x3 x4 k0=>xK aG (aX af) (aY af) x1 x2 x3 x4 k0
theorem EB (R:Type) (af:bh R) (ic:aC.Spec.Ok Tryz.prog 114 (aI dD dE (cr af) ax)):∀a∈aA (bb Tryz.f114),gJ (tt.mode [.json]) (cO (dG (R:=R) aG bc af ij)) (ew (R:=R) (aX af) (aY af)) 1 a:=by
 refine eX 2 (by kernel_rfl) fun i hi => ?_
 match i,hi with
 | 0,_=>exact cy (by kernel_rfl) (CT af _ dt)
 | 1,_=>exact cy (by kernel_rfl) (CU af _ dt)
 | n+2,hi=>omega
theorem EC (R:Type) (af:bh R) (ic:aC.Spec.Ok Tryz.prog 114 (aI dD dE (cr af) ax)):k6 Tryz.prog 114 (H0 (pD af)):=br (TT.mode [.json]) mixed (Gk af ic) rfl rfl rfl rfl (EB R af ic) (Ht aG bc af ij (aX af) (aY af))
def dH:Nat→bh R
 | 0,_,_,_,_,_=>none
 | n+1,gh,gl,gv,mB,k0'=>pD (dH n) gh gl gv mB k0'
theorem UW (n:Nat):dH (R:=R) (n+1)=pD (dH n):=by kernel_rfl
theorem Fg (R:Type):∀n,aC.Spec.Ok Tryz.prog 114 (aI dD dE (cr (dH (R:=R) n)) ax) :=
 AL (run:=fun n=>cr (dH (R:=R) n)) (fun x y k=>by kernel_rfl) fun n hyp=>EC R (dH n) hyp ax (jl _)
def A5:bh R:=fun x1 x2 x3 x4 k0=>dH 40 x1 x2 x3 x4 k0
theorem Fh (R:Type):cr (R:=R) A5=fun x y k=>cr (dH 40) x y k:=by kernel_rfl
theorem WE (R:Type) (other:aC.Spec R) (ho:aC.Spec.Ok Tryz.prog 114 other):aC.Spec.Ok Tryz.prog 114 (aI dD dE (cr A5) other) :=
 GL (J8 (run:=fun n=>cr (dH (R:=R) n)) (fun x y=>40) ho (Fg R)) (Fh R)
end Go.Proofs.YtidfokedcnhahaaGreatDoor
/-
 Functions of the program as pure Lean functions, and the ties; printed by wip/tools/emit.py.
-/
set_option maxRecDepth 100000
namespace Go.Proofs.YtidfokedcnhahaaGreatDoor
open Go Go.aC
variable {R:Type}
end Go.Proofs.YtidfokedcnhahaaGreatDoor
namespace Go.Proofs.YtidfokedcnhahaaGreatDoor.Pu
open Go Go.aC
theorem tmod_zero {m:Int} (h0:m≠0) (h:Int.tmod m 10=0):∃c:Int,m=10*c∧c≠0∧Int.tdiv m 10=c:=by
 obtain ⟨c,rfl⟩:=Int.dvd_of_tmod_eq_zero h
 exact ⟨c,rfl,by rintro rfl; exact h0 rfl,Int.mul_tdiv_cancel_left c (by decide)⟩
theorem made_loops {R:Type} (d:ft):∀(j:Nat) (m e:Int) (n:Nat),m≠0→m.natAbs<10 ^ j→m.natAbs<n→0≤e→e+j≤19→xE m →
  ∃m' e':Int,xE m'∧xE e'∧(∀e0,bB (R:=R) n m e d e0=e0 m' e' d)∧(∀e0 e1,cm (R:=R) n m e d e0 e1=e0 m' e' d):=by
 intro j
 induction j with
 | zero=>intro m e n h0 h; omega
 | succ j ih =>
  intro m e n h0 h hn he hej hm
  obtain ⟨hm1,hm2⟩:=hm
  cases n with
  | zero=>omega
  | succ n =>
   by_cases hq:Int.tmod m 10=0
   ·have c1:(Int.tmod m 10==0)=true:=by simpa using hq
    have c2:decide (e>(1099511627776:Int))=false:=decide_eq_false (by omega)
    obtain ⟨c,hc,Qk,hcd⟩:=tmod_zero h0 hq
    have hp:10 ^ (j+1)=10*10 ^ j:=by rw[Nat.pow_succ,Nat.mul_comm]
    obtain ⟨m',e',g1,g2,g3,g4⟩:=ih c (e+1) n Qk (by rw[hp]at h; omega) (by omega) (by omega) (by omega) ⟨by omega,by omega⟩
    refine ⟨m',e',g1,g2,fun e0 => ?_,fun e0 e1 => ?_⟩
    ·show fw (fun a b c=>bB n a b c e0) m e d e0=_
     unfold fw
     rw[c1,cond_true,hcd,cz (by omega) (by omega),cz (by omega) (by omega)]
     exact g3 e0
    ·show jV (fun a b c=>cm n a b c e0 e1) m e d e0 e1=_
     unfold jV
     rw[c1,cond_true,c2,cond_false,hcd,cz (by omega) (by omega),cz (by omega) (by omega)]
     exact g4 e0 e1
   ·have c1:(Int.tmod m 10==0)=false:=by simpa using hq
    refine ⟨m,e,⟨hm1,hm2⟩,⟨by omega,by omega⟩,fun e0 => ?_,fun e0 e1 => ?_⟩
    ·show fw _ m e d e0=_
     unfold fw
     rw[c1,cond_false]
    ·show jV _ m e d e0 e1=_
     unfold jV
     rw[c1,cond_false]
theorem made_same {R:Type} (n:Int) (hn:xE n):∃(d:ft) (b:Bool),xE d.ao∧xE d.exp∧(∀k:ft→Bool→Option R,bj n 0 k=k d b)∧∀k:ft→Bool→Option R,tT n 0 k=k d b:=by
 obtain ⟨hn1,hn2⟩:=hn
 by_cases h0:n=0
 ·subst h0
  exact ⟨⟨0,0⟩,true,⟨by decide,by decide⟩,⟨by decide,by decide⟩,fun k=>rfl,fun k=>rfl⟩
 ·have c0:(n==0)=false:=by simpa using h0
  have c5:min (0:Int) 1000000=0:=by decide
  obtain ⟨m',e',g1,g2,g3,g4⟩:=made_loops (R:=R) ⟨0,0⟩ 19 n 0 (Int.natAbs n+Int.natAbs 0+ft.fu (⟨0,0⟩:ft)+64) h0 (by omega) (by omega) (by omega) (by omega) ⟨hn1,hn2⟩
  by_cases hb:(-1000000000000000≤m'∧m'≤1000000000000000)∧(-9≤e'∧e'≤9)
  ·refine ⟨⟨m',e'⟩,true,g1,g2,fun k => ?_,fun k => ?_⟩
   ·unfold bj ko
    rw[c0,cond_false,c5,g3,Gu]
    have d1:(decide (-1000000000000000≤m')&&decide (m'≤1000000000000000))=true:=by simp; omega
    have d2:(decide (-9≤e')&&decide (e'≤9))=true:=by simp; omega
    rw[d1,Bool.not_true,cond_false,Gu,d2,Bool.not_true,cond_false]
   ·unfold tT tS
    rw[c0,cond_false,g4]
    have d1:decide (m'>(1000000000000000:Int))=false:=decide_eq_false (by omega)
    have d2:decide (m'<(-1000000000000000:Int))=false:=decide_eq_false (by omega)
    have d3:decide (e'>(9:Int))=false:=decide_eq_false (by omega)
    have d4:decide (e'<(-9:Int))=false:=decide_eq_false (by omega)
    simp only[d1,d2,d3,d4,cond_false]
  ·refine ⟨⟨0,0⟩,false,⟨by decide,by decide⟩,⟨by decide,by decide⟩,fun k => ?_,fun k => ?_⟩
   ·unfold bj ko
    rw[c0,cond_false,c5,g3,Gu]
    by_cases hm : -1000000000000000≤m'∧m'≤1000000000000000
    ·have d1:(decide (-1000000000000000≤m')&&decide (m'≤1000000000000000))=true:=by simp; omega
     have d2:(decide (-9≤e')&&decide (e'≤9))=false:=by simp only[Bool.and_eq_false_imp,decide_eq_true_eq,decide_eq_false_iff_not]; omega
     rw[d1,Bool.not_true,cond_false,Gu,d2,Bool.not_false,cond_true]
    ·have d1:(decide (-1000000000000000≤m')&&decide (m'≤1000000000000000))=false:=by simp only[Bool.and_eq_false_imp,decide_eq_true_eq,decide_eq_false_iff_not]; omega
     rw[d1,Bool.not_false,cond_true]
   ·unfold tT tS
    rw[c0,cond_false,g4]
    by_cases d1:m'>(1000000000000000:Int)
    ·simp only[decide_eq_true d1,cond_true]
    ·by_cases d2:m'<(-1000000000000000:Int)
     ·simp only[decide_eq_false d1,decide_eq_true d2,cond_true,cond_false]
     ·by_cases d3:e'>(9:Int)
      ·simp only[decide_eq_false d1,decide_eq_false d2,decide_eq_true d3,cond_true,cond_false]
      ·have d4:e'<(-9:Int):=by omega
       simp only[decide_eq_false d1,decide_eq_false d2,decide_eq_false d3,decide_eq_true d4,cond_true,cond_false]
end Go.Proofs.YtidfokedcnhahaaGreatDoor.Pu
set_option maxRecDepth 100000
namespace Go.Proofs.YtidfokedcnhahaaGreatDoor
open Go Go.aC
end Go.Proofs.YtidfokedcnhahaaGreatDoor
namespace Go.Proofs.YtidfokedcnhahaaGreatDoor
open Go Go.aC
end Go.Proofs.YtidfokedcnhahaaGreatDoor
set_option maxRecDepth 100000
namespace Go.Proofs.YtidfokedcnhahaaGreatDoor
open Go Go.aC
theorem strip_ex:∀(b:Nat) (m:Int),m≠0→m.natAbs<b→∃(j:Nat) (u:Int),m=u*10 ^ j∧Int.tmod u 10≠0
 | 0,m,_,h=>by omega
 | b+1,m,h0,hb=>by
  by_cases h:Int.tmod m 10=0
  ·have hd:m=Int.tdiv m 10*10:=by have:=Int.tmod_add_mul_tdiv m 10; omega
   have hn:(Int.tdiv m 10).natAbs<m.natAbs:=by rw[Int.natAbs_tdiv]; show m.natAbs / 10<m.natAbs; omega
   obtain ⟨j,u,e,hu⟩:=strip_ex b (Int.tdiv m 10) (by omega) (by omega)
   refine ⟨j+1,u,?_,hu⟩
   rw[Int.pow_succ,←Int.mul_assoc,←e]
   exact hd
  ·exact ⟨0,m,by simp,h⟩
theorem strip_one:∀(i j:Nat) (u v:Int),Int.tmod u 10≠0→Int.tmod v 10≠0→u*10 ^ i=v*10 ^ j→i=j∧u=v
 | 0,0,u,v,_,_,h=>⟨rfl,by simpa using h⟩
 | 0,j+1,u,v,hu,_,h=>by
  exfalso
  apply hu
  have:u=(v*10 ^ j)*10:=by rw[Int.pow_succ,←Int.mul_assoc]at h; simpa using h
  rw[this]
  exact Int.mul_tmod_left _ _
 | i+1,0,u,v,_,hv,h=>by
  exfalso
  apply hv
  have:v=(u*10 ^ i)*10:=by rw[Int.pow_succ,←Int.mul_assoc]at h; simpa using h.symm
  rw[this]
  exact Int.mul_tmod_left _ _
 | i+1,j+1,u,v,hu,hv,h=>by
  have h2:u*10 ^ i=v*10 ^ j:=by
   rw[Int.pow_succ,Int.pow_succ,←Int.mul_assoc,←Int.mul_assoc]at h
   omega
  obtain ⟨h3,h4⟩:=strip_one i j u v hu hv h2
  exact ⟨by omega,h4⟩
theorem PI (j:Nat):(1:Int)≤10 ^ j:=by
 induction j with
 | zero=>simp
 | succ j ih=>rw[Int.pow_succ]; omega
theorem RN (u:Int) (j:Nat):u.natAbs≤(u*10 ^ j).natAbs:=by
 rw[Int.natAbs_mul]
 have h:=PI j
 have:1≤((10:Int) ^ j).natAbs:=by omega
 exact Nat.le_mul_of_pos_right _ this
theorem noughts_le (u:Int) (hu:u≠0):∀j:Nat,j≤(u*10 ^ j).natAbs:=by
 intro j
 rw[Int.natAbs_mul]
 have h1:1≤u.natAbs:=by omega
 have h2:j≤((10:Int) ^ j).natAbs:=by
  induction j with
  | zero=>simp
  | succ j ih =>
   have:=PI j
   rw[Int.pow_succ,Int.natAbs_mul]
   show j+1≤((10:Int) ^ j).natAbs*10
   omega
 calc j≤((10:Int) ^ j).natAbs:=h2
  _≤u.natAbs*((10:Int) ^ j).natAbs:=Nat.le_mul_of_pos_left _ h1
theorem noughts_pow (u:Int) (hu:u≠0) (j:Nat):2 ^ j≤(u*10 ^ j).natAbs:=by
 rw[Int.natAbs_mul]
 have h2:∀j:Nat,2 ^ j≤((10:Int) ^ j).natAbs:=by
  intro j
  induction j with
  | zero=>simp
  | succ j ih =>
   rw[Int.pow_succ,Int.natAbs_mul,Nat.pow_succ]
   show 2 ^ j*2≤((10:Int) ^ j).natAbs*10
   omega
 exact Nat.le_trans (h2 j) (Nat.le_mul_of_pos_left _ (by omega))
theorem YW {u:Int} (hu:u≠0) {j:Nat} (hb:xE (u*10 ^ j)):j<64:=by
 have h:=noughts_pow u hu j
 unfold xE at hb
 rcases Nat.lt_or_ge j 64 with h1|h1
 ·exact h1
 ·have h2:(2:Nat) ^ 64≤2 ^ j:=Nat.pow_le_pow_right (by omega) h1
  have h3:(2:Nat) ^ 64=18446744073709551616:=rfl
  omega
theorem UI {R:Type} (d:ft) (e0:Int→Int→ft→Option R):∀(j n:Nat) (u x:Int),j<n→Int.tmod u 10≠0→xE (u*10 ^ j) → -9223372036854775808≤x→x+j≤4000000000000000000 →
  bB n (u*10 ^ j) x d e0=e0 u (x+j) d:=by
 intro j
 induction j with
 | zero =>
  intro n u x hn hu hb h1 h2
  obtain ⟨m,rfl⟩:∃m,n=m+1:=⟨n - 1,by omega⟩
  have e:bB (m+1) (u*10 ^ 0) x d e0=fw (fun gh gl gv=>bB m gh gl gv e0) (u*10 ^ 0) x d e0:=rfl
  rw[e]
  unfold fw
  have e1:u*10 ^ 0=u:=by simp
  have e2:(Int.tmod u 10==0)=false:=by rw[beq_eq_false_iff_ne]; exact hu
  rw[e1,e2,cond_false]
  simp
 | succ j ih =>
  intro n u x hn hu hb h1 h2
  obtain ⟨m,rfl⟩:∃m,n=m+1:=⟨n - 1,by omega⟩
  have e:bB (m+1) (u*10 ^ (j+1)) x d e0=fw (fun gh gl gv=>bB m gh gl gv e0) (u*10 ^ (j+1)) x d e0:=rfl
  rw[e]
  unfold fw
  have ep:u*10 ^ (j+1)=u*10 ^ j*10:=by rw[Int.pow_succ,Int.mul_assoc]
  unfold xE at hb
  rw[ep]at hb ⊢
  have e1:(Int.tmod (u*10 ^ j*10) 10==0)=true:=by rw[Int.mul_tmod_left]; rfl
  have e2:Int.tdiv (u*10 ^ j*10) 10=u*10 ^ j:=Int.mul_tdiv_cancel _ (by omega)
  rw[e1,cond_true,e2,cz (n:=u*10 ^ j) (by omega) (by omega),cz (n:=x+1) (by omega) (by omega)]
  show bB m (u*10 ^ j) (x+1) d e0=_
  rw[ih m u (x+1) (by omega) hu (by unfold xE; omega) (by omega) (by omega)]
  have:x+1+(j:Int)=x+((j+1:Nat):Int):=by omega
  rw[this]
theorem KL {R:Type} (a b c:Int) (k:Bool→Option R):ay a b c k=k (decide (a≤b)&&decide (b≤c)):=by
 have e:ay a b c k=mq a b c k:=rfl
 rw[e]
 unfold mq
 by_cases h1:a≤b
 ·rw[aM h1]; first|rfl|simp
 ·rw[bJ h1]; first|rfl|simp
def VO (u x:Int):ft×Bool:=if -1000000000000000≤u∧u≤1000000000000000 ∧ -9≤x∧x≤9 then (⟨u,x⟩,true)else (⟨0,0⟩,false)
theorem make_ok {R:Type} (u:Int) (j:Nat) (x:Int) (hu:Int.tmod u 10≠0) (hb:xE (u*10 ^ j)) (h1 : -9223372036854775808≤x) (h2:x≤1000000) (k:ft→Bool→Option R) :
  bj (u*10 ^ j) x k=k (VO u (x+j)).1 (VO u (x+j)).2:=by
 have e:bj (u*10 ^ j) x k=ko ay bB (u*10 ^ j) x k:=rfl
 rw[e]
 unfold ko
 have hu0:u≠0:=by rintro rfl; exact hu rfl
 have ha:=RN u j
 have hn:=noughts_le u hu0 j
 have h64:=YW hu0 hb
 have h0:(u*10 ^ j==0)=false:=by rw[beq_eq_false_iff_ne]; omega
 have hm:min x 1000000=x:=Int.min_eq_left h2
 unfold xE at hb
 rw[h0,cond_false,hm,UI _ _ j _ u x (by omega) hu (by unfold xE; exact hb) h1 (by omega)]
 rw[KL]
 unfold VO
 by_cases c1 : -1000000000000000≤u∧u≤1000000000000000
 ·rw[aM c1.1,aM c1.2]
  simp only[Bool.and_self,Bool.not_true,cond_false]
  rw[KL]
  by_cases c2 : -9≤x+(j:Int)∧x+(j:Int)≤9
  ·rw[aM c2.1,aM c2.2,if_pos ⟨c1.1,c1.2,c2.1,c2.2⟩]
   rfl
  ·rw[if_neg (fun h=>c2 h.2.2)]
   have:(decide (-9≤x+(j:Int))&&decide (x+(j:Int)≤9))=false:=by
    rw[Bool.and_eq_false_iff,decide_eq_false_iff_not,decide_eq_false_iff_not]; omega
   rw[this]
   rfl
 ·rw[if_neg (fun h=>c1 ⟨h.1,h.2.1⟩)]
  have:(decide (-1000000000000000≤u)&&decide (u≤1000000000000000))=false:=by
   rw[Bool.and_eq_false_iff,decide_eq_false_iff_not,decide_eq_false_iff_not]; omega
  rw[this]
  rfl
theorem UX {R:Type} (x:Int) (k:ft→Bool→Option R):bj 0 x k=k ⟨0,0⟩ true:=by
 have e:bj 0 x k=ko ay bB 0 x k:=rfl
 rw[e]
 rfl
theorem right_mk {R:Type} {u x:Int} (hu:Int.tmod u 10≠0) (h : -1000000000000000≤u∧u≤1000000000000000 ∧ -9≤x∧x≤9) (k:Bool→Option R):bK ⟨u,x⟩ k=k true:=by
 have e:bK ⟨u,x⟩ k=jD ay ⟨u,x⟩ k:=rfl
 rw[e]
 unfold jD
 have hu0:u≠0:=by rintro rfl; exact hu rfl
 have e1:(u==0)=false:=by rw[beq_eq_false_iff_ne]; exact hu0
 have e2:(Int.tmod u 10 != 0)=true:=bne_iff_ne.2 hu
 simp only[e1,e2,cond_false,cond_true,KL]
 rw[aM h.1,aM h.2.1,aM h.2.2.1,aM h.2.2.2]
 rfl
end Go.Proofs.YtidfokedcnhahaaGreatDoor
/-
 Functions of the program as pure Lean functions, and the ties; printed by wip/tools/emit.py.
-/
set_option maxRecDepth 100000
namespace Go.Proofs.YtidfokedcnhahaaGreatDoor
open Go Go.aC
variable {R:Type}
end Go.Proofs.YtidfokedcnhahaaGreatDoor
/-
 Functions of the program as pure Lean functions, and the ties; printed by wip/tools/emit.py.
-/
set_option maxRecDepth 100000
namespace Go.Proofs.YtidfokedcnhahaaGreatDoor
open Go Go.aC
variable {R:Type}
end Go.Proofs.YtidfokedcnhahaaGreatDoor
/-
 Functions of the program as pure Lean functions, and the ties; printed by wip/tools/emit.py.
-/
set_option maxRecDepth 100000
namespace Go.Proofs.YtidfokedcnhahaaGreatDoor
open Go Go.aC
variable {R:Type}
end Go.Proofs.YtidfokedcnhahaaGreatDoor
set_option maxRecDepth 100000
namespace Go.Proofs.YtidfokedcnhahaaGreatDoor
open Go Go.aC Go.Lib
def Fm (d:ft):Prop:=(d.ao=0∧d.exp=0)∨(Int.tmod d.ao 10≠0 ∧ -1000000000000000≤d.ao∧d.ao≤1000000000000000 ∧ -9≤d.exp∧d.exp≤9)
theorem Fm.bounds {d:ft} (h:Fm d) : -1000000000000000≤d.ao∧d.ao≤1000000000000000 ∧ -9≤d.exp∧d.exp≤9:=by
 rcases h with h|h <;> omega
theorem Fm.nz {d:ft} (h:Fm d) (h0:d.ao≠0):Int.tmod d.ao 10≠0:=by
 rcases h with h|h
 ·exact (h0 h.1).elim
 ·exact h.1
theorem Fm.zero {d:ft} (h:Fm d) (h0:d.ao=0):d=⟨0,0⟩:=by
 rcases h with h|h
 ·cases d; simp only at h; rw[h.1,h.2]
 ·exact (h.1 (by rw[h0]; rfl)).elim
theorem Fm.mk0:Fm ⟨0,0⟩ := .inl ⟨rfl,rfl⟩
theorem tmod_neg {m:Int} (h:Int.tmod m 10≠0):Int.tmod (-m) 10≠0:=by rw[Int.neg_tmod]; omega
theorem Fm.neg {d:ft} (h:Fm d):Fm ⟨-d.ao,d.exp⟩:=by
 rcases h with h|h
 ·exact .inl ⟨by simp only; omega,h.2⟩
 ·exact .inr ⟨tmod_neg h.1,by simp only; omega,by simp only; omega,h.2.2.2⟩
theorem right_ok {R:Type} {d:ft} (h:Fm d) (k:Bool→Option R):bK d k=k true:=by
 rcases h with h|h
 ·have e:bK d k=jD ay d k:=rfl
  rw[e]
  unfold jD
  rw[h.1,h.2]
  rfl
 ·cases d; exact right_mk h.1 h.2 k
def Made (m x:Int) (r:ft×Bool):Prop:=(m=0∧r=(⟨0,0⟩,true))∨∃(u:Int) (j:Nat),m=u*10 ^ j∧Int.tmod u 10≠0∧r=VO u (x+j)
theorem make_any {R:Type} (m x:Int) (hm:xE m) (h1 : -4000000000000000000≤x) (h2:x≤1000000):∃r:ft×Bool,Made m x r∧∀k:ft→Bool→Option R,bj m x k=k r.1 r.2:=by
 by_cases h0:m=0
 ·subst h0
  exact ⟨_, .inl ⟨rfl,rfl⟩,fun k=>UX x k⟩
 ·obtain ⟨j,u,hu,hd⟩:=strip_ex (m.natAbs+1) m h0 (by omega)
  exact ⟨_, .inr ⟨u,j,hu,hd,rfl⟩,fun k=>by subst hu; exact make_ok u j x hd hm (by omega) h2 k⟩
def val (d:ft):Int:=d.ao*10 ^ (d.exp+9).toNat
theorem nDigits_low (u:Nat) (h:0<u):10 ^ (nDigits u - 1)≤u:=by
 induction u using Nat.strongRecOn with
 | _ u ih =>
  by_cases h1:u<10
  ·rw[nDigits_small h1]; exact h
  ·rw[nDigits_big h1,Nat.add_sub_cancel]
   have h2:=ih (u / 10) (by omega) (by omega)
   have h3:=nDigits_pos (u / 10)
   have e:nDigits (u / 10)=(nDigits (u / 10) - 1)+1:=by omega
   rw[e,Nat.pow_succ]
   omega
theorem TF {u:Nat} (h:u≤1000000000000000):nDigits u≤16:=by
 rcases Nat.eq_zero_or_pos u with rfl|h0
 ·rw[nDigits_small (by omega)]; omega
 ·have h1:=nDigits_low u h0
  rcases Nat.lt_or_ge (nDigits u) 17 with h2|h2
  ·omega
  ·have h3:(10:Nat) ^ 16≤10 ^ (nDigits u - 1):=Nat.pow_le_pow_right (by omega) (by omega)
   have e:(10:Nat) ^ 16=10000000000000000:=rfl
   omega
theorem mkD_fm {u x:Int} (hu:Int.tmod u 10≠0) (h:(VO u x).2=true):VO u x=(⟨u,x⟩,true)∧Fm ⟨u,x⟩:=by
 unfold VO at h ⊢
 split at h
 ·rename_i hc
  rw[if_pos hc]
  exact ⟨rfl, .inr ⟨hu,hc⟩⟩
 ·cases h
theorem made_same {d:ft} (h:Fm d) (h0:d.ao≠0) {j:Nat} {x:Int} (hx:x+j=d.exp) {r:ft×Bool} (hr:Made (d.ao*10 ^ j) x r):r=(d,true):=by
 have hz:=h.nz h0
 have hab:=RN d.ao j
 rcases hr with ⟨h1,_⟩|⟨u,i,e,hu,rfl⟩
 ·omega
 ·obtain ⟨rfl,rfl⟩:=strip_one i j u d.ao hu hz e.symm
  have b:=h.bounds
  unfold VO
  rw[if_pos (by omega),hx]
end Go.Proofs.YtidfokedcnhahaaGreatDoor
set_option maxRecDepth 100000
namespace Go.Proofs.YtidfokedcnhahaaGreatDoor
open Go Go.aC
abbrev zs (s:ah):List Int:=s.map fun b=>(b.toNat:Int)
theorem zs_app (s t:ah):zs (s++t)=zs s++zs t:=List.map_append
theorem KM (s:ah):jH s=zs s:=rfl
theorem Hu (s:ah):(zs s).length=s.length:=List.length_map _
theorem vH (s:ah):vM (zs s)=s:=by
 unfold vM zs
 rw[List.map_map]
 conv=>rhs; rw[←List.map_id s]
 exact List.map_congr_left fun b _=>by simp
theorem DI (n:Nat) (h:n<256):((UInt8.ofNat n).toNat:Int)=n:=by rw[gO n h]
def TG (s:ah):Prop:=s.length≤100000000000
theorem wb {R:Type} (b:UInt8) (s:ah) (hl:TG s) (k:List Int→Option R):ad (b.toNat:Int) (zs s) k=k (zs (s ++ [b])):=by
 show ca (decide (((zs s).length+1)*1≤140737488355328)) (k (zs s ++ [(b.toNat:Int)]))=_
 unfold TG at hl
 rw[aw (aM (by rw[Hu]; omega)),zs_app]
 rfl
theorem ws {R:Type} (x:ah) (s:ah) (hx:x.length≤100000000000) (hl:TG s) (k:Int→List Int→Option R):ae x (zs s) k=k (x.length:Int) (zs (s++x)):=by
 show ca (decide (((zs s).length+(jH x).length)*1≤140737488355328)) (k (x.length:Int) (zs s++jH x))=_
 unfold TG at hl
 rw[KM,aw (aM (by rw[Hu,Hu]; omega)),zs_app]
theorem or128:∀x:Fin 64,IntKind.u8.wrap ((BitVec.ofInt IntKind.u8.bits 128 ||| BitVec.ofInt IntKind.u8.bits (x.val:Int)).toNat:Int)=((128+x.val:Nat):Int):=by decide +kernel
theorem or192:∀x:Fin 32,IntKind.u8.wrap ((BitVec.ofInt IntKind.u8.bits 192 ||| BitVec.ofInt IntKind.u8.bits (IntKind.u8.wrap (x.val:Int))).toNat:Int)=((192+x.val:Nat):Int):=by decide +kernel
theorem or224:∀x:Fin 16,IntKind.u8.wrap ((BitVec.ofInt IntKind.u8.bits 224 ||| BitVec.ofInt IntKind.u8.bits (IntKind.u8.wrap (x.val:Int))).toNat:Int)=((224+x.val:Nat):Int):=by decide +kernel
theorem or240:∀x:Fin 8,IntKind.u8.wrap ((BitVec.ofInt IntKind.u8.bits 240 ||| BitVec.ofInt IntKind.u8.bits (IntKind.u8.wrap (x.val:Int))).toNat:Int)=((240+x.val:Nat):Int):=by decide +kernel
theorem and63:∀x:Fin 256,IntKind.u8.wrap ((BitVec.ofInt IntKind.u8.bits (x.val:Int) &&& BitVec.ofInt IntKind.u8.bits 63).toNat:Int)=((x.val % 64:Nat):Int):=by decide +kernel
theorem wrap8 (n:Nat):IntKind.u8.wrap (n:Int)=((n % 256:Nat):Int):=by
 simp only[IntKind.wrap,IntKind.bits,IntKind.signed]
 simp
theorem wrap32u {n:Nat} (h:n<1114112):IntKind.u32.wrap (n:Int)=(n:Int):=by
 simp only[IntKind.wrap,IntKind.bits,IntKind.signed]
 simp
 omega
theorem shr (c n:Nat) (h:n≤32):Int.fdiv (c:Int) (2 ^ (min n IntKind.i32.bits))=((c / 2 ^ n:Nat):Int):=by
 have e:min n IntKind.i32.bits=n:=Nat.min_eq_left h
 rw[e,Int.fdiv_eq_ediv_of_nonneg _ (by exact Int.le_of_lt (Int.pow_pos (by omega)))]
 rw[Int.natCast_ediv]
 congr 1
theorem cont (c:Nat):IntKind.u8.wrap ((BitVec.ofInt IntKind.u8.bits 128 ||| BitVec.ofInt IntKind.u8.bits (IntKind.u8.wrap ((BitVec.ofInt IntKind.u8.bits (IntKind.u8.wrap (c:Int)) &&& BitVec.ofInt IntKind.u8.bits 63).toNat:Int))).toNat:Int)=((128+c % 64:Nat):Int):=by
 have h1:=and63 ⟨c % 256,Nat.mod_lt _ (by omega)⟩
 simp only at h1
 rw[wrap8 c,h1,show c % 256 % 64=c % 64 by omega]
 exact or128 ⟨c % 64,Nat.mod_lt _ (by omega)⟩
theorem zs_enc1 (n:Nat) (h:n<256):zs [UInt8.ofNat n] = [(n:Int)]:=by simp only[zs,List.map_cons,List.map_nil,DI n h]
theorem ar {R:Type} {c:Nat} (hv:vr c) (s:ah) (hl:TG s) (k:List Int→Option R):cq (zs s) (c:Int) k=k (zs (s++enc c)):=by
 have kh:=vr_lt hv
 unfold TG at hl
 show iQ bR (zs s) (c:Int) k=_
 unfold iQ
 rw[wrap32u kh,zs_app]
 rcases Kq hv with ⟨h1,e⟩|⟨h0,h1,e⟩|⟨h0,h1,e⟩|⟨h0,e⟩
 ·rw[aM (show (c:Int)≤127 by omega),cond_true,aw (aM (by rw[Hu]; omega)),e,zs_enc1 c (by omega),wrap8,Nat.mod_eq_of_lt (by omega)]
 all_goals
  rw[bJ (show ¬(c:Int)≤127 by omega),cond_false]
  show fo (zs s) (c:Int) _=_
  unfold fo
  rw[wrap32u kh,e]
  simp only[cont,shr _ 6 (by omega),shr _ 12 (by omega),shr _ 18 (by omega),Hu]
 ·rw[aM (show (c:Int)≤2047 by omega),cond_true,aw (aM (by omega))]
  have:=or192 ⟨c / 64,by omega⟩
  simp only at this
  rw[show c / 2 ^ 6=c / 64 from rfl,this]
  simp only[zs,List.map_cons,List.map_nil,DI (192+c / 64) (by omega),DI (128+c % 64) (by omega)]
 ·rw[bJ (show ¬(c:Int)≤2047 by omega),cond_false]
  unfold vr at hv
  by_cases h2:c<55296
  ·rw[aM (show (c:Int)<55296 by omega),cond_true,cond_true,aw (aM (by omega))]
   have:=or224 ⟨c / 4096,by omega⟩
   simp only at this
   rw[show c / 2 ^ 12=c / 4096 from rfl,this]
   simp only[zs,List.map_cons,List.map_nil,DI (224+c / 4096) (by omega),DI (128+c % 64) (by omega),DI (128+c / 64 % 64) (by omega)]
  rw[bJ (show ¬(c:Int)<55296 by omega),cond_false,aM (show (57343:Int)<(c:Int) by omega),cond_true,aM (show (c:Int)≤65535 by omega),cond_true,aw (aM (by omega))]
  have:=or224 ⟨c / 4096,by omega⟩
  simp only at this
  rw[show c / 2 ^ 12=c / 4096 from rfl,this]
  simp only[zs,List.map_cons,List.map_nil,DI (224+c / 4096) (by omega),DI (128+c % 64) (by omega),DI (128+c / 64 % 64) (by omega)]
 ·rw[bJ (show ¬(c:Int)≤2047 by omega),cond_false]
  rw[bJ (show ¬(c:Int)<55296 by omega),cond_false,aM (show (57343:Int)<(c:Int) by omega),cond_true,bJ (show ¬(c:Int)≤65535 by omega),cond_false,
   aM (show (c:Int)>65535 by omega),cond_true,aM (show (c:Int)≤1114111 by omega),cond_true,aw (aM (by omega))]
  have:=or240 ⟨c / 262144,by omega⟩
  simp only at this
  rw[show c / 2 ^ 18=c / 262144 from rfl,this]
  simp only[zs,List.map_cons,List.map_nil,DI (240+c / 262144) (by omega),DI (128+c % 64) (by omega),DI (128+c / 64 % 64) (by omega),DI (128+c / 4096 % 64) (by omega)]
theorem wr {R:Type} {c:Nat} (hv:vr c) (s:ah) (hl:TG s) (k:Int→List Int→Option R):∃n:Int,ak (c:Int) (zs s) k=k n (zs (s++enc c)):=by
 refine ⟨IntKind.i64.wrap (((zs (s++enc c)).length:Int) - ((zs s).length:Int)),?_⟩
 show gZ cq (c:Int) (zs s) k=_
 unfold gZ
 rw[ar hv s hl]
end Go.Proofs.YtidfokedcnhahaaGreatDoor
set_option maxRecDepth 100000
namespace Go.Proofs.YtidfokedcnhahaaGreatDoor
open Go Go.aC Go.Lib
def fN (n:Nat):ah:=List.replicate n 48
theorem ox (n:Nat):(fN n).length=n:=List.length_replicate
theorem QZ:∀n:Nat,repeatL [48] n=fN n
 | 0=>rfl
 | n+1=>by
  have:=QZ n
  simp[repeatL,fN,List.replicate_succ]at this ⊢
  try exact this
theorem repS_zeros (z:Int):kZ [48] z=fN z.toNat:=QZ _
def body (L:ah) (e:Int):ah :=
 if 0≤e then L++fN e.toNat
 else
  let t:=fN (max 0 (1 - e - (L.length:Int))).toNat++L
  t.take ((t.length:Int)+e).toNat ++ [46]++t.drop ((t.length:Int)+e).toNat
def WG (d:ft):ah:=(if d.ao<0 then [45]else [])++body (decDigits d.ao.natAbs) d.exp
theorem wsn {R:Type} (x:ah) (hx:x.length≤100000000000) (k:Int→List Int→Option R):ai x k=k (x.length:Int) (zs x):=by
 show ca (decide ((0+(jH x).length)*1≤140737488355328)) (k (x.length:Int) (jH x))=_
 rw[KM,aw (aM (by rw[Hu]; omega))]
theorem print_ok {R:Type} {d:ft} (h:Fm d) (k:ah→Option R):bL d k=k (WG d):=by
 have b:=h.bounds
 have e:bL d k=pG bK aj ae ai d k:=rfl
 rw[e]
 unfold pG
 rw[right_ok h,Bool.not_true,cond_false]
 have hL:cd (max d.ao (IntKind.i64.wrap (0 - d.ao)))=decDigits d.ao.natAbs:=by
  rw[cz (n:=0 - d.ao) (by omega) (by omega)]
  have hm:max d.ao (0 - d.ao)=(d.ao.natAbs:Int):=by omega
  rw[hm]
  exact itoa_nonneg _
 have hlen:(decDigits d.ao.natAbs).length≤16:=by rw[decDigits_length]; exact TF (by omega)
 simp only[hL,repS_zeros]
 unfold WG
 generalize decDigits d.ao.natAbs=L at *
 have w1:IntKind.i64.wrap (1 - d.exp)=1 - d.exp:=cz (by omega) (by omega)
 have w2:IntKind.i64.wrap (1 - d.exp - (L.length:Int))=1 - d.exp - (L.length:Int):=cz (by omega) (by omega)
 rw[w1,w2]
 have one:(([48]:ah).length:Int)=1:=rfl
 rw[one]
 have z0:0≤max 0 (1 - d.exp - (L.length:Int)):=by omega
 have zl:max 0 (1 - d.exp - (L.length:Int))≤10:=by omega
 have zL:1 - d.exp≤max 0 (1 - d.exp - (L.length:Int))+L.length:=by omega
 unfold body
 simp only
 generalize max 0 (1 - d.exp - (L.length:Int))=z at *
 have tl:(fN z.toNat++L).length=z.toNat+L.length:=by rw[List.length_append,ox]
 generalize fN z.toNat++L=t at *
 have lapp:∀a b:ah,(a++b).length=a.length+b.length:=fun a b=>List.length_append
 have lone:([46]:ah).length=1:=rfl
 have e45:([45]:List Int)=zs [45]:=rfl
 have q2:∀(x:Int) (f:List Int→Option R),aj x f=f [x]:=fun _ _=>rfl
 have lim45:TG [45]:=by unfold TG; simp
 by_cases he:0≤d.exp
 ·rw[aM (show d.exp≥0 from he),if_pos he]
  by_cases hm:d.ao<0
  ·rw[aM hm,if_pos hm]
   simp only[cond_true]
   rw[q2,aw (by rw[aM (show 1*d.exp≤140737488355328 by omega)]; rfl),aw (aM (by rw[ox]; omega)),e45,ws _ _ (by rw[lapp,ox]; omega) lim45,vH]
  ·rw[bJ hm,if_neg hm]
   simp only[cond_true,cond_false]
   rw[aw (by rw[aM (show 1*d.exp≤140737488355328 by omega)]; rfl),aw (aM (by rw[ox]; omega)),wsn _ (by rw[lapp,ox]; omega),vH]
   rfl
 ·have wt:IntKind.i64.wrap ((t.length:Int)+d.exp)=(t.length:Int)+d.exp:=cz (by omega) (by omega)
  rw[bJ (show ¬d.exp≥0 from he),if_neg he]
  simp only[wt,List.drop_zero,Nat.sub_zero,Int.toNat_natCast,cond_false]
  have l1:(t.take ((t.length:Int)+d.exp).toNat).length≤t.length:=by rw[List.length_take]; omega
  have l2:(t.drop ((t.length:Int)+d.exp).toNat).length≤t.length:=by rw[List.length_drop]; omega
  have c1:(decide ((0:Int)≤(t.length:Int)+d.exp)&&decide ((t.length:Int)+d.exp≤(t.length:Int)))=true:=by rw[aM (by omega),aM (by omega)]; rfl
  have c2:(decide ((0:Int)≤(t.length:Int))&&decide ((t.length:Int)≤(t.length:Int)))=true:=by rw[aM (by omega),aM (by omega)]; rfl
  have c3:(decide ((0:Int)≤z)&&decide (1*z≤140737488355328))=true:=by rw[aM z0,aM (by omega)]; rfl
  have et:(t.drop ((t.length:Int)+d.exp).toNat).take (t.length - ((t.length:Int)+d.exp).toNat)=t.drop ((t.length:Int)+d.exp).toNat:=List.take_of_length_le (by rw[List.length_drop]; exact Nat.le_refl _)
  rw[et]
  by_cases hm:d.ao<0
  ·rw[aM hm,if_pos hm]
   simp only[cond_true]
   rw[q2,aw c3,aw (aM (by rw[ox]; omega)),aw c1,aw (aM (by omega)),aw (aM (by omega)),aw c2,aw c1,aw (aM (by rw[lapp,lone]; omega)),e45,ws _ _ (by rw[lapp,lapp,lone]; omega) lim45,vH]
  ·rw[bJ hm,if_neg hm]
   simp only[cond_false]
   rw[aw c3,aw (aM (by rw[ox]; omega)),aw c1,aw (aM (by omega)),aw (aM (by omega)),aw c2,aw c1,aw (aM (by rw[lapp,lone]; omega)),wsn _ (by rw[lapp,lapp,lone]; omega),vH]
   rfl
theorem band2 {p q:Prop} [Decidable p] [Decidable q] (hp:p) (hq:q):(decide p&&decide q)=true:=by rw[aM hp,aM hq]; rfl
theorem YX:∀(p s:ah),(s.take p.length==p)=p.isPrefixOf s
 | [],s=>by simp
 | a::p, []=>by simp
 | a::p,b::s=>by
  have:=YX p s
  simp only[List.length_cons,List.take_succ_cons,List.isPrefixOf]
  rw[List.cons_beq_cons,this]
  congr 1
  exact Bool.beq_comm
theorem W3 {R:Type} (p s:ah) (hp:p.length≤1000) (hs:s.length≤9000000000000000000) (k:Bool→ah→Option R) :
  aK p s k=if p.isPrefixOf s then k true (s.drop p.length)else k false s:=by
 have e1:∀f:ah→Bool→Option R,fp s p f=cv s p f:=fun _=>rfl
 show fp s p (fun y3 y4=>k y4 y3)=_
 rw[e1]
 show hM cf s p (fun y3 y4=>k y4 y3)=_
 unfold hM
 have e2:∀f:Bool→Option R,cf s p f=f (p.isPrefixOf s):=by
  intro f
  show hJ s p f=_
  unfold hJ
  by_cases h:p.length≤s.length
  ·rw[aM (show (s.length:Int)≥(p.length:Int) by omega),cond_true,aw (by rw[aM (show (0:Int)≤(p.length:Int) by omega)]; rfl),aw (aM (by omega))]
   rw[List.drop_zero,Int.toNat_natCast,Nat.sub_zero,YX]
  ·rw[bJ (show ¬(s.length:Int)≥(p.length:Int) by omega),cond_false]
   congr 1
   rw[←YX]
   symm
   rw[beq_eq_false_iff_ne]
   intro e
   have:=congrArg List.length e
   rw[List.length_take]at this
   omega
 rw[e2]
 cases hp2:p.isPrefixOf s with
 | false=>simp
 | true =>
  have hle:p.length≤s.length:=(List.IsPrefix.length_le (List.isPrefixOf_iff_prefix.1 hp2))
  rw[Bool.not_true,cond_false,aw (band2 (by omega) (by omega)),aw (band2 (by omega) (by omega))]
  simp only[Int.toNat_natCast,if_true]
  rw[List.take_of_length_le (by rw[List.length_drop]; exact Nat.le_refl _)]
theorem decRune_eq {s:ah} (h:s ≠ []):o8 s=decodeL s:=by
 unfold o8
 have:s.isEmpty=false:=by cases s with|nil=>exact (h rfl).elim|cons _ _=>rfl
 rw[this]
 rfl
def Mx (s:ah):Option (Nat×ah) :=
 if s = []then none else if (decodeL s).1=65533∧(decodeL s).2=1 then none else if (decodeL s).1<32 then none else some ((decodeL s).1,s.drop (decodeL s).2)
theorem plain_ok {R:Type} (s:ah) (hs:s.length≤9000000000000000000) (k:Int→ah→Option R) :
  bO s k=match Mx s with|some (c,r)=>k (c:Int) r|none=>k (-1) s:=by
 show ly s k=_
 unfold ly
 by_cases h0:s = []
 ·subst h0; rfl
 rw[decRune_eq h0]
 have hw:=decodeL_width s
 have hle:=decodeL_le s h0
 have hj:(ca (decide ((0:Int)≤(s.length:Int))&&decide ((s.length:Int)≤s.length)) (ca (decide ((0:Int)≤((decodeL s).2:Int))&&decide (((decodeL s).2:Int)≤(s.length:Int))) (k ((decodeL s).1:Int) ((s.drop ((decodeL s).2:Int).toNat).take ((s.length:Int).toNat - ((decodeL s).2:Int).toNat)))))=k ((decodeL s).1:Int) (s.drop (decodeL s).2):=by
  rw[aw (band2 (by omega) (by omega)),aw (band2 (by omega) (by omega)),Int.toNat_natCast,Int.toNat_natCast,List.take_of_length_le (by rw[List.length_drop]; exact Nat.le_refl _)]
 simp only[hj]
 unfold Mx
 rw[if_neg h0]
 by_cases h1:(decodeL s).1=65533
 ·have e1:(((decodeL s).1:Int)==65533)=true:=by rw[h1]; rfl
  rw[e1,cond_true]
  by_cases h2:(decodeL s).2=1
  ·rw[aM (show ((decodeL s).2:Int)<2 by omega),cond_true,if_pos ⟨h1,h2⟩]
  ·rw[bJ (show ¬((decodeL s).2:Int)<2 by omega),cond_false,bJ (show ¬((decodeL s).1:Int)<32 by omega),cond_false,if_neg (fun h=>h2 h.2),if_neg (by omega)]
 ·have e1:(((decodeL s).1:Int)==65533)=false:=by rw[beq_eq_false_iff_ne]; omega
  rw[e1,cond_false,if_neg (fun h=>h1 h.1)]
  by_cases h3:(decodeL s).1<32
  ·rw[aM (show ((decodeL s).1:Int)<32 by omega),cond_true,if_pos h3]
  ·rw[bJ (show ¬((decodeL s).1:Int)<32 by omega),cond_false,if_neg h3]
def WH (b:UInt8):Option Nat :=
 let n:=b.toNat
 if 48≤n∧n≤57 then some (n - 48)else if 65≤n∧n≤70 then some (n - 55)else if 97≤n∧n≤102 then some (n - 87)else none
def TH:ah→Nat→Option Nat
 | [],v=>some v
 | b::t,v=>match WH b with|some d=>TH t (16*v+d)|none=>none
def ED (b:Int):Int:=IntKind.u8.wrap ((BitVec.ofInt IntKind.u8.bits b ||| BitVec.ofInt IntKind.u8.bits 32).toNat:Int)
def hexB (b:Nat):Bool :=
 (!(decide (48≤b)&&decide (b≤57))||decide (IntKind.u8.wrap ((b:Int) - 48)=((b - 48:Nat):Int))) &&
 (!(decide ((97:Int)≤ED b)&&decide (ED b≤122))||(!(decide (48≤b)&&decide (b≤57))&&decide (b≠95)&&decide (IntKind.u8.wrap ((IntKind.u8.wrap (ED b - 97))+10)=ED b - 87) &&
  (!decide (ED b - 87<16)||((decide (65≤b)&&decide (b≤70)&&decide (ED b - 87=((b - 55:Nat):Int)))||(decide (97≤b)&&decide (b≤102)&&decide (ED b - 87=((b - 87:Nat):Int))))) &&
  (!decide (16≤ED b - 87)||(!(decide (65≤b)&&decide (b≤70)) && !(decide (97≤b)&&decide (b≤102)))))) &&
 ((decide ((97:Int)≤ED b)&&decide (ED b≤122))||(!(decide (65≤b)&&decide (b≤70)) && !(decide (97≤b)&&decide (b≤102))))
theorem hexB_all:∀b:Fin 256,hexB b.val=true:=by decide +kernel
theorem hex_fact (b:Nat) (hb:b<256) :
  ((48≤b∧b≤57)→IntKind.u8.wrap ((b:Int) - 48)=((b - 48:Nat):Int)) ∧
  ((97:Int)≤ED b→ED b≤122→¬(48≤b∧b≤57)∧b≠95∧IntKind.u8.wrap ((IntKind.u8.wrap (ED b - 97))+10)=ED b - 87 ∧
   (ED b - 87<16→((65≤b∧b≤70)∧ED b - 87=((b - 55:Nat):Int))∨((97≤b∧b≤102)∧ED b - 87=((b - 87:Nat):Int))) ∧
   (16≤ED b - 87→¬(65≤b∧b≤70)∧¬(97≤b∧b≤102))) ∧
  (¬((97:Int)≤ED b∧ED b≤122)→¬(65≤b∧b≤70)∧¬(97≤b∧b≤102)):=by
 have h:=hexB_all ⟨b,hb⟩
 unfold hexB at h
 generalize ED (b:Int)=l at *
 simp only[Bool.and_eq_true,Bool.or_eq_true,Bool.not_eq_true',Bool.and_eq_false_iff,decide_eq_true_eq,decide_eq_false_iff_not]at h
 obtain ⟨⟨h1,h2⟩,h3⟩:=h
 refine ⟨fun q => ?_,fun q1 q2 => ?_,fun q => ?_⟩
 ·rcases h1 with h1|h1
  ·omega
  ·exact h1
 ·rcases h2 with h2|⟨⟨⟨⟨g1,g2⟩,g3⟩,g4⟩,g5⟩
  ·omega
  ·refine ⟨by omega,g2,g3,fun q => ?_,fun q => ?_⟩
   ·rcases g4 with g4|g4
    ·omega
    ·rcases g4 with ⟨⟨k1,k2⟩,k3⟩|⟨⟨k1,k2⟩,k3⟩
     ·exact .inl ⟨⟨k1,k2⟩,k3⟩
     ·exact .inr ⟨⟨k1,k2⟩,k3⟩
   ·rcases g5 with g5|⟨k1,k2⟩
    ·omega
    ·exact ⟨by omega,by omega⟩
 ·rcases h3 with h3|⟨k1,k2⟩
  ·omega
  ·exact ⟨by omega,by omega⟩
theorem hexv_lt {b:UInt8} {d:Nat} (h:WH b=some d):d<16:=by
 unfold WH at h
 simp only at h
 split at h
 ·cases h; omega
 ·split at h
  ·cases h; omega
  ·split at h
   ·cases h; omega
   ·cases h
theorem u64w {n:Int} (h0:0≤n) (h:n≤18446744073709551615):IntKind.u64.wrap n=n:=by
 simp only[IntKind.wrap,IntKind.bits,IntKind.signed]
 simp
 omega
theorem uint_round {R:Type} {s x22:ah} {i v:Nat} (hi:i<s.length) (hs:s.length≤1000) (hv:v<4096) (dx:Int→Bool→ah→Int→Int→Bool→Int→Nat→Int→Int→(List Int)→Option R) (e0:ah→Bool→Int→Option R) (e1 e2:Int→ah→Bool→Int→Option R) (e3:Int→ah→Bool→Option R) :
  dm internal_strconv_lower dx 16 false x22 1152921504606846976 65535 false (v:Int) s.length (s.length:Int) (i:Int) (jH s) e0 e1 e2 e3 =
   match WH (s[i])with
   | some d=>dx 16 false x22 1152921504606846976 65535 false ((16*v+d:Nat):Int) s.length (s.length:Int) ((i+1:Nat):Int) (jH s)
   | none=>e1 0 x22 false (v:Int):=by
 unfold dm
 have hlow:∀(n:Int) (f:Int→Option R),internal_strconv_lower n f=f (ED n):=fun _ _=>rfl
 have GA:(jH s).getD (i:Int).toNat (Ty.aZ (.int .u8))=(s[i].toNat:Int):=by
  rw[Int.toNat_natCast]
  show (s.map fun b=>(b.toNat:Int)).getD i _=_
  simp[List.getD,hi]
  rfl
 rw[aM (show (i:Int)<(s.length:Int) by omega),cond_true,aw (by rw[aM (show (0:Int)≤(i:Int) by omega)]; rfl),
  aw (aM (by rw[Int.toNat_natCast,KM,Hu]; exact hi))]
 simp only[GA,hlow]
 obtain ⟨f1,f2,f3⟩:=hex_fact s[i].toNat (UInt8.toNat_lt _)
 have hb:=UInt8.toNat_lt s[i]
 generalize hbn:s[i].toNat=b at *
 have hw16:IntKind.u8.wrap 16=16:=by decide
 have hw64:IntKind.u64.wrap 16=16:=by decide
 have hi1:IntKind.i64.wrap ((i:Int)+1)=((i+1:Nat):Int):=by rw[cz (by omega) (by omega)]; omega
 -- a digit's value, if it is below 16
 have fit:∀d:Nat,d<16→∀z:Int,z=(d:Int)→(bif (decide (z≥(IntKind.u8.wrap 16)))then (e1 0 x22 false (v:Int))else (bif (decide ((v:Int)≥1152921504606846976))then (e2 65535 x22 false (v:Int))else (bif (decide ((IntKind.u64.wrap ((IntKind.u64.wrap ((v:Int)*(IntKind.u64.wrap 16)))+(IntKind.u64.wrap z)))<(IntKind.u64.wrap ((v:Int)*(IntKind.u64.wrap 16)))))then (e2 65535 x22 false (IntKind.u64.wrap ((v:Int)*(IntKind.u64.wrap 16))))else (bif (decide ((IntKind.u64.wrap ((IntKind.u64.wrap ((v:Int)*(IntKind.u64.wrap 16)))+(IntKind.u64.wrap z)))>65535))then (e2 65535 x22 false (IntKind.u64.wrap ((v:Int)*(IntKind.u64.wrap 16))))else (dx 16 false x22 1152921504606846976 65535 false (IntKind.u64.wrap ((IntKind.u64.wrap ((v:Int)*(IntKind.u64.wrap 16)))+(IntKind.u64.wrap z))) s.length (s.length:Int) (IntKind.i64.wrap ((i:Int)+1)) (jH s)))))) =
   dx 16 false x22 1152921504606846976 65535 false ((16*v+d:Nat):Int) s.length (s.length:Int) ((i+1:Nat):Int) (jH s):=by
  intro d hd z hz
  subst hz
  have k1:IntKind.u64.wrap ((v:Int)*16)=(v:Int)*16:=u64w (by omega) (by omega)
  have k2:IntKind.u64.wrap (d:Int)=d:=u64w (by omega) (by omega)
  have k3:IntKind.u64.wrap ((v:Int)*16+(d:Int))=(v:Int)*16+(d:Int):=u64w (by omega) (by omega)
  rw[hw16,hw64,k1,k2,k3,hi1,bJ (show ¬(d:Int)≥16 by omega),cond_false,bJ (show ¬(v:Int)≥1152921504606846976 by omega),cond_false,bJ (show ¬(v:Int)*16+(d:Int)<(v:Int)*16 by omega),cond_false,
   bJ (show ¬(v:Int)*16+(d:Int)>65535 by omega),cond_false]
  have:(v:Int)*16+(d:Int)=((16*v+d:Nat):Int):=by omega
  rw[this]
 rw[cond_false,Bool.cond_self]
 unfold WH
 simp only[hbn]
 by_cases h1:48≤b∧b≤57
 ·rw[aM (show (48:Int)≤(b:Int) by omega),cond_true,aM (show (b:Int)≤57 by omega),cond_true,if_pos h1]
  exact fit (b - 48) (by omega) _ (f1 h1)
 ·rw[if_neg h1]
  have h48:∀x z:Option R,(bif (decide ((48:Int)≤(b:Int)))then (bif (decide ((b:Int)≤(57:Int)))then x else z)else z)=z:=by
   intro x z
   by_cases h:(48:Int)≤(b:Int)
   ·rw[aM h,cond_true,bJ (show ¬(b:Int)≤57 by omega),cond_false]
   ·rw[bJ h,cond_false]
  simp only[cond_false]
  rw[h48]
  by_cases h2:(97:Int)≤ED b
  ·rw[aM h2,cond_true]
   by_cases h3:ED b≤122
   ·rw[aM h3,cond_true]
    obtain ⟨_,_,g1,g2,g3⟩:=f2 h2 h3
    rw[g1]
    by_cases h4:ED b - 87<16
    ·rcases g2 h4 with ⟨q1,q2⟩|⟨q1,q2⟩
     ·rw[if_pos q1]
      exact fit (b - 55) (by omega) _ q2
     ·rw[if_neg (by omega),if_pos q1]
      exact fit (b - 87) (by omega) _ q2
    ·obtain ⟨q1,q2⟩:=g3 (by omega)
     rw[hw16,aM (show ED b - 87≥16 by omega),cond_true,if_neg q1,if_neg q2]
   ·rw[bJ h3,cond_false]
    obtain ⟨q1,q2⟩:=f3 (by omega)
    rw[if_neg q1,if_neg q2]
  ·rw[bJ h2,cond_false]
   obtain ⟨q1,q2⟩:=f3 (by omega)
   rw[if_neg q1,if_neg q2]
theorem hexN_step (s:ah) (i v:Nat) (hi:i<s.length):TH (s.drop i) v=match WH s[i]with|some d=>TH (s.drop (i+1)) (16*v+d)|none=>none:=by
 rw[List.drop_eq_getElem_cons hi]
 rfl
theorem uint_loop {R:Type} {s x22:ah} (hs:s.length≤4) (e0:ah→Bool→Int→Option R) (e1 e2:Int→ah→Bool→Int→Option R) (e3:Int→ah→Bool→Option R):∀(n i v:Nat),s.length - i<n→i≤s.length→v<16 ^ i →
  (match TH (s.drop i) v with
   | some u=>aH n 16 false x22 1152921504606846976 65535 false (v:Int) s.length (s.length:Int) (i:Int) (jH s) e0 e1 e2 e3=e0 x22 false (u:Int)
   | none=>∃w,aH n 16 false x22 1152921504606846976 65535 false (v:Int) s.length (s.length:Int) (i:Int) (jH s) e0 e1 e2 e3=e1 0 x22 false w):=by
 intro n
 induction n with
 | zero=>intro i v h; omega
 | succ n ih =>
  intro i v h hi hv
  by_cases kh:i<s.length
  ·have hv2:v<4096:=by
    have:16 ^ i≤16 ^ 3:=Nat.pow_le_pow_right (by omega) (by omega)
    have e:(16:Nat) ^ 3=4096:=rfl
    omega
   have hr:=uint_round (R:=R) (x22:=x22) kh (by omega) hv2 (fun gh gl gv mB v7 xS Ee Ef HD HE pA=>aH n gh gl gv mB v7 xS Ee Ef HD HE pA e0 e1 e2 e3) e0 e1 e2 e3
   have hL:aH (n+1) 16 false x22 1152921504606846976 65535 false (v:Int) s.length (s.length:Int) (i:Int) (jH s) e0 e1 e2 e3 =
    dm internal_strconv_lower (fun gh gl gv mB v7 xS Ee Ef HD HE pA=>aH n gh gl gv mB v7 xS Ee Ef HD HE pA e0 e1 e2 e3) 16 false x22 1152921504606846976 65535 false (v:Int) s.length (s.length:Int) (i:Int) (jH s) e0 e1 e2 e3:=rfl
   rw[hL,hr,hexN_step s i v kh]
   cases hx:WH s[i]with
   | none=>exact ⟨_,rfl⟩
   | some d =>
    have hd:=hexv_lt hx
    have:(16:Nat) ^ (i+1)=16 ^ i*16:=Nat.pow_succ ..
    exact ih (i+1) (16*v+d) (by omega) (by omega) (by omega)
  ·have e:s.drop i = []:=List.drop_eq_nil_of_le (by omega)
   rw[e]
   simp only[TH]
   show dm internal_strconv_lower _ 16 false x22 1152921504606846976 65535 false (v:Int) s.length (s.length:Int) (i:Int) (jH s) e0 e1 e2 e3=_
   unfold dm
   rw[bJ (show ¬(i:Int)<(s.length:Int) by omega),cond_false]
theorem parse4 {R:Type} {s:ah} (hs:s.length=4) (k0 k1:Int→Option R):fq s 16 16 k0 k1=match TH s 0 with|some u=>k1 (u:Int)|none=>k0 0:=by
 show rR da s 16 16 k0 k1=_
 unfold rR
 show jF internal_strconv_lower bD aH s 16 16 _ _ _ _ _=_
 unfold jF
 have h1:(s==([]:ah))=false:=by rw[beq_eq_false_iff_ne]; rintro rfl; simp at hs
 rw[h1,cond_false]
 have c1:decide ((2:Int)≤16)=true:=by decide
 have c2:decide ((16:Int)≤36)=true:=by decide
 have c3:((16:Int)==0)=false:=by decide
 have c4:decide ((16:Int)<0)=false:=by decide
 have c5:decide ((16:Int)>64)=false:=by decide
 have c6:((16:Int)==10)=false:=by decide
 have c7:((16:Int)==16)=true:=by decide
 have c8:decide ((0:Int)≤IntKind.u64.wrap 16)=true:=by decide
 have c9:(IntKind.u64.wrap ((IntKind.u64.wrap (1*2 ^ (min ((IntKind.u64.wrap 16).toNat) IntKind.u64.bits))) - 1))=65535:=by decide +kernel
 dsimp only
 rw[c1,cond_true,c2,cond_true,c3,cond_false,c4,cond_false,c5,cond_false,c6,cond_false,c7,cond_true]
 rw[c8,aw rfl,c9]
 have hb:decide (s.length≤281474976710656)=true:=aM (by omega)
 have key:=fun (n:Nat) (hn:4<n) (e0:ah→Bool→Int→Option R) (e1 e2:Int→ah→Bool→Int→Option R) (e3:Int→ah→Bool→Option R)=>uint_loop (R:=R) (s:=s) (x22:=s) (by omega) e0 e1 e2 e3 n 0 0 (by omega) (by omega) (by omega)
 have z0:(((0:Nat):Int))=0:=rfl
 simp only[List.drop_zero,z0]at key
 cases hx:TH s 0 with
 | some u =>
  simp only[hx]at key
  rw[key _ (by omega)]
  rfl
 | none =>
  simp only[hx]at key
  generalize hF:(Int.natAbs 16+List.length s+Int.natAbs 1152921504606846976+Int.natAbs 65535+Int.natAbs 0+Int.natAbs (s.length:Int)+Int.natAbs 0+List.length (jH s)+64)=F at *
  obtain ⟨w,hw⟩:=key F (by rw[←hF]; omega) _ _ _ _
  rw[hw,aw (by rfl),hb,aw rfl]
end Go.Proofs.YtidfokedcnhahaaGreatDoor
end
