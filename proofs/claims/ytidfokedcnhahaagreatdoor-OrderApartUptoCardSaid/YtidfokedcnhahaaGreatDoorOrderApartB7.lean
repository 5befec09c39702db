/-
  OrderApart, part 7 of 10.
-/
import Derived.Lib.ValidLaws
import Derived.Lib.MapLaws
import Derived.Lib.TrimUEq
import Derived.Lib.RuneBytes
import Derived.KernelRfl
import Derived.Lib.ItoaMem
import Derived.Test.YtidfokedcnhahaaGreatDoorOrderApartB6
set_option linter.unusedSimpArgs false
set_option linter.unnecessarySimpa false
set_option linter.unusedVariables false
set_option linter.unusedSectionVars false
noncomputable section
/-
 Functions of the program as pure Lean functions, and the ties; printed by wip/tools/emit.py.
-/
set_option maxRecDepth 100000
namespace Go.Proofs.YtidfokedcnhahaaGreatDoor
open Go Go.aC
variable {R:Type}
/-! ### humpyard/json.Parse -/
abbrev D1 (R:Type):Type:=ah→(Json→Int→Int→Option R)→Option R
abbrev LO:List cP := [.leaf (.str)]
abbrev LP:List aW := []
def QP (fn:D1 R):lh R LO LP:=fun x y k=>fn x.1 (fun q0 q1 q2=>k (.tuple [.agg [.int .i64 q0.kind, .int .i64 q0.num.ao, .int .i64 q0.num.exp, .str q0.text, .sl .str q0.names .no, .sl .json q0.items .no], .int .i64 q1, .int .i64 q2]) [])
def S9 (fn:D1 R):=aI LO LP (QP fn)
section
variable (aq:fA R) (de:aD R) (nh:D0 R)
def Ta:List (oq R) := [(81,false,(jU aq ax)),(80,false,(zf de ax)),(79,true,(S7 nh ax))]
def Gb (x1:ah) (k0:Json→Int→Int→Option R):Option R :=
 nh x1 (fun y2 y3 y4=>bif (y3 != 0)then (k0 (⟨0,⟨0,0⟩,([]:ah),([]:List ah),([]:List Json)⟩:Json) y3 y4)else (de 1 y2 0 (fun y5 y6 y7=>let j12:=fun (Rx:List Token) (vP:Int)=>bif (vP != 0)then (cb (decide ((0:Int)<Rx.length)) (k0 (⟨0,⟨0,0⟩,([]:ah),([]:List ah),([]:List Json)⟩:Json) vP ((Rx.getD 0 (Ty.aZ .token)).at_)))else (k0 (⟨y5.kind,⟨y5.num.ao,y5.num.exp⟩,y5.text,y5.names,y5.items⟩:Json) 0 0); cb (decide ((0:Int)<y6.length)) (bif ((y6.getD 0 (Ty.aZ .token)).kind != 5)then (aq 40 y6 y7 (fun y8 y9=>j12 y8 y9))else (j12 y6 y7)))))
theorem json_Parse_ok:dE (R:=R) tt (Ta aq de nh) rS false Tryz.f32 LO LP (QP (Gb aq de nh)):=fun x y k=>by kernel_rfl
end
theorem YF:cu (R:=R) Tryz.prog (Ta (R:=R) aq de nh) := .d (kP R) rfl <| .f (Ga R _ (jm _)) rfl <| .c (Wo R) <| .n
def fB:D1 R:=fun x1 k0=>Gb aq de nh x1 k0
theorem Wp (R:Type):k8 Tryz.prog 32 (S9 (fB (R:=R))):=bt TT mixed (YF (R:=R)) rfl rfl rfl rfl cd (json_Parse_ok aq de nh)
/-! ### humpyard/field.find -/
abbrev qW (R:Type):Type:=Json→ah→(Json→Bool→Option R)→Option R
abbrev LQ:List cP := [.agg [.int .i64, .int .i64, .int .i64, .str, .sl .str, .sl .json], .leaf (.str)]
abbrev LR:List aW := []
def QQ (fn:qW R):lh R LQ LR:=fun x y k=>fn (⟨x.1.1,⟨x.1.2.1,x.1.2.2.1⟩,x.1.2.2.2.1,x.1.2.2.2.2.1,x.1.2.2.2.2.2.1⟩:Json) x.2.1 (fun q0 q1=>k (.tuple [.agg [.int .i64 q0.kind, .int .i64 q0.num.ao, .int .i64 q0.num.exp, .str q0.text, .sl .str q0.names .no, .sl .json q0.items .no], .bool q1]) [])
def BV (fn:qW R):=aI LQ LR (QQ fn)
section
variable (bq:gL R)
def Tb:List (oq R) := [(127,true,(nM bq ax))]
def LS (x1:Json) (x2:ah) (k0:Json→Bool→Option R):Option R :=
 bq x1.names x2 (fun y3=>bif (x1.kind != 7)then (k0 (⟨0,⟨0,0⟩,([]:ah),([]:List ah),([]:List Json)⟩:Json) false)else (bif (decide (y3<(0:Int)))then (k0 (⟨0,⟨0,0⟩,([]:ah),([]:List ah),([]:List Json)⟩:Json) false)else (bif (decide (y3≥(x1.items.length:Int)))then (k0 (⟨0,⟨0,0⟩,([]:ah),([]:List ah),([]:List Json)⟩:Json) false)else (cb (decide ((0:Int)≤y3)&&decide (y3<x1.items.length)) (k0 (⟨(x1.items.getD y3.toNat (Ty.aZ .json)).kind,⟨(x1.items.getD y3.toNat (Ty.aZ .json)).num.ao,(x1.items.getD y3.toNat (Ty.aZ .json)).num.exp⟩,(x1.items.getD y3.toNat (Ty.aZ .json)).text,(x1.items.getD y3.toNat (Ty.aZ .json)).names,(x1.items.getD y3.toNat (Ty.aZ .json)).items⟩:Json) true)))))
theorem field_find_ok:dE (R:=R) tt (Tb bq) rS false Tryz.f144 LQ LR (QQ (LS bq)):=fun x y k=>by kernel_rfl
end
theorem YG:cu (R:=R) Tryz.prog (Tb (R:=R) bq) := .c (rY R) <| .n
def cH:qW R:=fun x1 x2 k0=>LS bq x1 x2 k0
theorem zH (R:Type):k8 Tryz.prog 144 (BV (cH (R:=R))):=bt TT mixed (YG (R:=R)) rfl rfl rfl rfl cd (field_find_ok bq)
/-! ### humpyard/field.Text$1 -/
abbrev zI (R:Type):Type:=Json→(ah→Bool→Option R)→Option R
abbrev He:List cP := [.agg [.int .i64, .int .i64, .int .i64, .str, .sl .str, .sl .json]]
abbrev Hf:List aW := []
def MZ (fn:zI R):lh R He Hf:=fun x y k=>fn (⟨x.1.1,⟨x.1.2.1,x.1.2.2.1⟩,x.1.2.2.2.1,x.1.2.2.2.2.1,x.1.2.2.2.2.2.1⟩:Json) (fun q0 q1=>k (.tuple [.str q0, .bool q1]) [])
def OH (fn:zI R):=aI He Hf (MZ fn)
section
def Hg (x1:Json) (k0:ah→Bool→Option R):Option R :=
 k0 x1.text (x1.kind==5)
theorem Wq:dE (R:=R) tt [] rS false Tryz.f109 He Hf (MZ Hg):=fun x y k=>by kernel_rfl
end
def mf:zI R:=fun x1 k0=>Hg x1 k0
theorem Tc (R:Type):k8 Tryz.prog 109 (OH (mf (R:=R))):=bt TT mixed .n rfl rfl rfl rfl cd (Wq)
/-! ### humpyard/field.of[string] -/
abbrev mM (R:Type):Type:=Json→ah→(ah→Bool→Option R)→Option R
abbrev tM:List cP := [.agg [.int .i64, .int .i64, .int .i64, .str, .sl .str, .sl .json], .leaf (.str), .leaf (.fn 109)]
abbrev tO:List aW := []
def AX (fn:mM R):lh R tM tO:=fun x y k=>fn (⟨x.1.1,⟨x.1.2.1,x.1.2.2.1⟩,x.1.2.2.2.1,x.1.2.2.2.2.1,x.1.2.2.2.2.2.1⟩:Json) x.2.1 (fun q0 q1=>k (.tuple [.str q0, .bool q1]) [])
def BW (fn:mM R):=aI tM tO (AX fn)
section
variable (mf:zI R) (cH:qW R)
def BX:List (oq R) := [(109,true,(OH mf ax)),(144,true,(BV cH ax))]
def tP (x1:Json) (x2:ah) (k0:ah→Bool→Option R):Option R :=
 cH (⟨x1.kind,⟨x1.num.ao,x1.num.exp⟩,x1.text,x1.names,x1.items⟩:Json) x2 (fun y3 y4=>bif (!y4)then (k0 ([]:ah) false)else (mf (⟨y3.kind,⟨y3.num.ao,y3.num.exp⟩,y3.text,y3.names,y3.items⟩:Json) (fun y5 y6=>bif y6 then (k0 y5 true)else (k0 ([]:ah) false))))
theorem Ko:dE (R:=R) tt (BX mf cH) rS false Tryz.f108 tM tO (AX (tP mf cH)):=fun x y k=>by kernel_rfl
end
theorem JB:cu (R:=R) Tryz.prog (BX (R:=R) mf cH) := .c (Tc R) <| .c (zH R) <| .n
def eN:mM R:=fun x1 x2 k0=>tP mf cH x1 x2 k0
theorem HV (R:Type):k8 Tryz.prog 108 (BW (eN (R:=R))):=bt TT mixed (JB (R:=R)) rfl rfl rfl rfl cd (Ko mf cH)
/-! ### humpyard/field.Text -/
abbrev D2 (R:Type):Type:=Json→ah→(ah→Bool→Option R)→Option R
abbrev LU:List cP := [.agg [.int .i64, .int .i64, .int .i64, .str, .sl .str, .sl .json], .leaf (.str)]
abbrev LV:List aW := []
def QR (fn:D2 R):lh R LU LV:=fun x y k=>fn (⟨x.1.1,⟨x.1.2.1,x.1.2.2.1⟩,x.1.2.2.2.1,x.1.2.2.2.2.1,x.1.2.2.2.2.2.1⟩:Json) x.2.1 (fun q0 q1=>k (.tuple [.str q0, .bool q1]) [])
def Td (fn:D2 R):=aI LU LV (QR fn)
section
variable (eN:mM R)
def Te:List (oq R) := [(108,true,(BW eN ax))]
def LW (x1:Json) (x2:ah) (k0:ah→Bool→Option R):Option R :=
 eN (⟨x1.kind,⟨x1.num.ao,x1.num.exp⟩,x1.text,x1.names,x1.items⟩:Json) x2 (fun y3 y4=>k0 y3 y4)
theorem field_Text_ok:dE (R:=R) tt (Te eN) rS false Tryz.f68 LU LV (QR (LW eN)):=fun x y k=>by kernel_rfl
end
theorem YH:cu (R:=R) Tryz.prog (Te (R:=R) eN) := .c (HV R) <| .n
def fC:D2 R:=fun x1 x2 k0=>LW eN x1 x2 k0
theorem Wr (R:Type):k8 Tryz.prog 68 (Td (fC (R:=R))):=bt TT mixed (YH (R:=R)) rfl rfl rfl rfl cd (field_Text_ok eN)
/-! ### humpyard/decimal.shifted -/
abbrev tQ (R:Type):Type:=fv→Int→(Int→Bool→Option R)→Option R
abbrev BY:List cP := [.agg [.int .i64, .int .i64], .leaf (.int .i64)]
abbrev BZ:List aW := []
def Hh (fn:tQ R):lh R BY BZ:=fun x y k=>fn (⟨x.1.1,x.1.2.1⟩:fv) x.2.1 (fun q0 q1=>k (.tuple [.int .i64 q0, .bool q1]) [])
def IE (fn:tQ R):=aI BY BZ (Hh fn)
abbrev tR (R:Type):Type:=Nat→Int→Int→Int→(Int→Option R)→(Int→Bool→Int→Option R)→Option R
def pe:Hint := { live := [6,12,13],own := [],rows := [],cells := [],drop := [],out := [4,5,6] }
abbrev jr:Type:=Int×Int×Int
def sC:jr→St:=fun d=>⟨U 6 (.int .i64 d.1::U 5 (.int .i64 d.2.1 :: .int .i64 d.2.2::U 8 ([]))), []⟩
def tS (K:Ex→St→Option R) (q0:Int):Option R:=K (.exit 0) ⟨U 6 (.int .i64 q0::U 15 ([])), []⟩
def tT (K:Ex→St→Option R) (q0:Int) (q1:Bool) (q2:Int):Option R:=K (.ret) ⟨U 4 (.int .i64 q0 :: .bool q1 :: .int .i64 q2::U 15 ([])), []⟩
abbrev lJ:List cP:=PU 6 (.leaf (.int .i64)::PU 5 (.leaf (.int .i64) :: .leaf (.int .i64)::PU 8 ([])))
abbrev lK:List aW := []
def C3 (x:cP.bQ lJ) (y:aW.bQ lK):Nat:=(Int.natAbs x.2.2.2.2.2.2.1+Int.natAbs ((t8 x).2.2.2.2.1)+Int.natAbs ((t8 x).2.2.2.2.2.1)+64)
def Nx (x:cP.bQ lJ) (y:aW.bQ lK):jr:=(x.2.2.2.2.2.2.1,(t8 x).2.2.2.2.1,(t8 x).2.2.2.2.2.1)
def B0 (L:tR R):wW R lJ lK:=fun x y K=>L (C3 x y) x.2.2.2.2.2.2.1 ((t8 x).2.2.2.2.1) ((t8 x).2.2.2.2.2.1) (tS K) (tT K)
section
variable (ay:jn R) (ca:tR R)
def mN:List (oq R) := [(135,true,(p7 ay ax))]
def pf (dz:Int→Int→Int→Option R) (x3:Int) (x4:Int) (x5:Int) (e0:Int→Option R) (e1:Int→Bool→Int→Option R):Option R :=
 bif (decide (x5<x4))then (ay (-100000000000000000) x3 100000000000000000 (fun y6=>bif (!y6)then (e1 0 false x3)else (dz (IntKind.i64.wrap (x3*10)) x4 (IntKind.i64.wrap (x5+1)))))else (e0 x3)
def C4 (K:Ex→St→Option R) (rc:jr→Option R) (d:jr):Option R:=pf ay (fun z0 z1 z2=>rc (z0,z1,z2)) d.1 d.2.1 d.2.2 (tS K) (tT K)
def qs:Nat→Option (Hint×cL R):=fun i=>match i with
 | 3=>some (pe,(cG lJ lK (B0 ca) iL))
 | _=>none
theorem JC (K:Ex→St→Option R) (rc:St→Option R) (d:jr):roundOf tt (cR (mN ay)) (qs ca) 0 ((aA (bc Tryz.f212)).getD 0 .skip) pe (sC d) rc K=C4 ay K (fun d=>rc (sC d)) d:=by kernel_rfl
def B1 (x1:fv) (x2:Int) (k0:Int→Bool→Option R):Option R :=
 ca (Int.natAbs x1.ao+Int.natAbs (IntKind.i64.wrap (x1.exp - x2))+Int.natAbs 0+64) x1.ao (IntKind.i64.wrap (x1.exp - x2)) 0 (fun y7=>k0 y7 true) (fun y8 y9 um=>k0 y8 y9)
theorem RG:dE (R:=R) tt (mN ay) (qs ca) false Tryz.f212 BY BZ (Hh (B1 ca)):=fun x y k=>by kernel_rfl
end
theorem Qe:cu (R:=R) Tryz.prog (mN (R:=R) ay) := .c (r6 R) <| .n
def ca:tR R
 | 0,_,_,_,_,_=>none
 | n+1,gk,gn,gw,e0,e1=>pf ay (fun gk gn gw=>ca n gk gn gw e0 e1) gk gn gw e0 e1
def C5 (K:Ex→St→Option R) (n:Nat) (d:jr):Option R:=ca n d.1 d.2.1 d.2.2 (tS K) (tT K)
theorem LX (other:cL R) (ho:gW tt (cR (mN (R:=R) ay)) (qs (R:=R) ca) 0 ((aA (bc Tryz.f212)).getD 0 .skip) pe other):gW tt (cR (mN (R:=R) ay)) (qs (R:=R) ca) 0 ((aA (bc Tryz.f212)).getD 0 .skip) pe (cG lJ lK (B0 (ca)) other) :=
 cQ (A:=C5) ho (dV sC (C4 ay) (C5) (fun _ _=>by kernel_rfl) (JC ay ca) (fun _ _ _=>by kernel_rfl)) C3 Nx (fun _ _=>by kernel_rfl) (fun _ _ _=>by kernel_rfl)
def iK:tQ R:=fun x1 x2 k0=>B1 ca x1 x2 k0
theorem Ny (R:Type):∀a∈aA (bc Tryz.f212),gK tt (cR (mN (R:=R) ay)) (qs (R:=R) ca) 0 a:=by
 refine eY 1 (by kernel_rfl) fun i hi => ?_
 match i,hi with
 | 0,_=>exact cz (by kernel_rfl) (LX _ dv)
 | n+1,hi=>omega
theorem OI (R:Type):k8 Tryz.prog 212 (IE (iK (R:=R))):=bt TT mixed (Qe (R:=R)) rfl rfl rfl rfl (Ny R) (RG ay ca)
/-! ### humpyard/decimal.Int -/
abbrev B2 (R:Type):Type:=fv→(Int→Bool→Option R)→Option R
abbrev JD:List cP := [.agg [.int .i64, .int .i64]]
abbrev JE:List aW := []
def OJ (fn:B2 R):lh R JD JE:=fun x y k=>fn (⟨x.1.1,x.1.2.1⟩:fv) (fun q0 q1=>k (.tuple [.int .i64 q0, .bool q1]) [])
def QS (fn:B2 R):=aI JD JE (OJ fn)
section
variable (bL:ov R) (iK:tQ R)
def QT:List (oq R) := [(164,true,(zF bL ax)),(212,true,(IE iK ax))]
def JF (x1:fv) (k0:Int→Bool→Option R):Option R :=
 bL x1 (fun y2=>bif (!y2)then (k0 0 false)else (bif (decide (x1.exp<(0:Int)))then (k0 0 false)else (iK x1 0 (fun y4 y5=>k0 y4 y5))))
theorem YI:dE (R:=R) tt (QT bL iK) rS false Tryz.f186 JD JE (OJ (JF bL iK)):=fun x y k=>by kernel_rfl
end
theorem Ws:cu (R:=R) Tryz.prog (QT (R:=R) bL iK) := .c (Aj R) <| .c (OI R) <| .n
def mw:B2 R:=fun x1 k0=>JF bL iK x1 k0
theorem UM (R:Type):k8 Tryz.prog 186 (QS (mw (R:=R))):=bt TT mixed (Ws (R:=R)) rfl rfl rfl rfl cd (YI bL iK)
/-! ### humpyard/field.num -/
abbrev Gc (R:Type):Type:=Json→(Int→Bool→Option R)→Option R
abbrev OK:List cP := [.agg [.int .i64, .int .i64, .int .i64, .str, .sl .str, .sl .json]]
abbrev OL:List aW := []
def Tf (fn:Gc R):lh R OK OL:=fun x y k=>fn (⟨x.1.1,⟨x.1.2.1,x.1.2.2.1⟩,x.1.2.2.2.1,x.1.2.2.2.2.1,x.1.2.2.2.2.2.1⟩:Json) (fun q0 q1=>k (.tuple [.int .i64 q0, .bool q1]) [])
def VD (fn:Gc R):=aI OK OL (Tf fn)
section
variable (mw:B2 R)
def VE:List (oq R) := [(186,true,(QS mw ax))]
def OM (x1:Json) (k0:Int→Bool→Option R):Option R :=
 mw x1.num (fun y2 y3=>bif y3 then (k0 y2 (x1.kind==4))else (k0 y2 false))
theorem field_num_ok:dE (R:=R) tt (VE mw) rS false Tryz.f146 OK OL (Tf (OM mw)):=fun x y k=>by kernel_rfl
end
theorem field_num_EOk:cu (R:=R) Tryz.prog (VE (R:=R) mw) := .c (UM R) <| .n
def sD:Gc R:=fun x1 k0=>OM mw x1 k0
theorem YJ (R:Type):k8 Tryz.prog 146 (VD (sD (R:=R))):=bt TT mixed (field_num_EOk (R:=R)) rfl rfl rfl rfl cd (field_num_ok mw)
/-! ### humpyard/field.of[int] -/
abbrev qu (R:Type):Type:=Json→ah→(Int→Bool→Option R)→Option R
abbrev yn:List cP := [.agg [.int .i64, .int .i64, .int .i64, .str, .sl .str, .sl .json], .leaf (.str), .leaf (.fn 146)]
abbrev yo:List aW := []
def Es (fn:qu R):lh R yn yo:=fun x y k=>fn (⟨x.1.1,⟨x.1.2.1,x.1.2.2.1⟩,x.1.2.2.2.1,x.1.2.2.2.2.1,x.1.2.2.2.2.2.1⟩:Json) x.2.1 (fun q0 q1=>k (.tuple [.int .i64 q0, .bool q1]) [])
def FD (fn:qu R):=aI yn yo (Es fn)
section
variable (cH:qW R) (sD:Gc R)
def FE:List (oq R) := [(144,true,(BV cH ax)),(146,true,(VD sD ax))]
def yp (x1:Json) (x2:ah) (k0:Int→Bool→Option R):Option R :=
 cH (⟨x1.kind,⟨x1.num.ao,x1.num.exp⟩,x1.text,x1.names,x1.items⟩:Json) x2 (fun y3 y4=>bif (!y4)then (k0 0 false)else (sD (⟨y3.kind,⟨y3.num.ao,y3.num.exp⟩,y3.text,y3.names,y3.items⟩:Json) (fun y5 y6=>bif y6 then (k0 y5 true)else (k0 0 false))))
theorem ON:dE (R:=R) tt (FE cH sD) rS false Tryz.f145 yn yo (Es (yp cH sD)):=fun x y k=>by kernel_rfl
end
theorem Nz:cu (R:=R) Tryz.prog (FE (R:=R) cH sD) := .c (zH R) <| .c (YJ R) <| .n
def gm:qu R:=fun x1 x2 k0=>yp cH sD x1 x2 k0
theorem LY (R:Type):k8 Tryz.prog 145 (FD (gm (R:=R))):=bt TT mixed (Nz (R:=R)) rfl rfl rfl rfl cd (ON cH sD)
/-! ### humpyard/field.Num -/
abbrev Gd (R:Type):Type:=Json→ah→(Int→Bool→Option R)→Option R
abbrev OO:List cP := [.agg [.int .i64, .int .i64, .int .i64, .str, .sl .str, .sl .json], .leaf (.str)]
abbrev OP:List aW := []
def Tg (fn:Gd R):lh R OO OP:=fun x y k=>fn (⟨x.1.1,⟨x.1.2.1,x.1.2.2.1⟩,x.1.2.2.2.1,x.1.2.2.2.2.1,x.1.2.2.2.2.2.1⟩:Json) x.2.1 (fun q0 q1=>k (.tuple [.int .i64 q0, .bool q1]) [])
def VF (fn:Gd R):=aI OO OP (Tg fn)
section
variable (gm:qu R)
def VG:List (oq R) := [(145,true,(FD gm ax))]
def OQ (x1:Json) (x2:ah) (k0:Int→Bool→Option R):Option R :=
 gm (⟨x1.kind,⟨x1.num.ao,x1.num.exp⟩,x1.text,x1.names,x1.items⟩:Json) x2 (fun y3 y4=>k0 y3 y4)
theorem field_Num_ok:dE (R:=R) tt (VG gm) rS false Tryz.f110 OO OP (Tg (OQ gm)):=fun x y k=>by kernel_rfl
end
theorem field_Num_EOk:cu (R:=R) Tryz.prog (VG (R:=R) gm) := .c (LY R) <| .n
def sE:Gd R:=fun x1 x2 k0=>OQ gm x1 x2 k0
theorem YK (R:Type):k8 Tryz.prog 110 (VF (sE (R:=R))):=bt TT mixed (field_Num_EOk (R:=R)) rfl rfl rfl rfl cd (field_Num_ok gm)
/-! ### (*humpyard/order.taker).num -/
abbrev mO (R:Type):Type:=Json→ah→Bool→(Int→Bool→Option R)→Option R
abbrev tU:List cP := [.leaf (.ptr 0 0), .agg [.int .i64, .int .i64, .int .i64, .str, .sl .str, .sl .json], .leaf (.str)]
abbrev tV:List aW := [.cells [.bool]]
def AY (fn:mO R):lh R tU tV:=fun x y k=>fn (⟨x.2.1.1,⟨x.2.1.2.1,x.2.1.2.2.1⟩,x.2.1.2.2.2.1,x.2.1.2.2.2.2.1,x.2.1.2.2.2.2.2.1⟩:Json) x.2.2.1 y.1.1 (fun q0 q1=>k (.int .i64 q0) [.cells [.bool q1]])
def B3 (fn:mO R):=aI tU tV (AY fn)
section
variable (sE:Gd R)
def B4:List (oq R) := [(110,true,(VF sE ax))]
def tW (x1:Json) (x2:ah) (x3:Bool) (k0:Int→Bool→Option R):Option R :=
 sE (⟨x1.kind,⟨x1.num.ao,x1.num.exp⟩,x1.text,x1.names,x1.items⟩:Json) x2 (fun y4 y5=>bif x3 then (k0 y4 true)else (k0 y4 (!y5)))
theorem Kp:dE (R:=R) tt (B4 sE) rS false Tryz.f69 tU tV (AY (tW sE)):=fun x y k=>by kernel_rfl
end
theorem JG:cu (R:=R) Tryz.prog (B4 (R:=R) sE) := .c (YK R) <| .n
def aO:mO R:=fun x1 x2 x3 k0=>tW sE x1 x2 x3 k0
theorem HW (R:Type):k8 Tryz.prog 69 (B3 (aO (R:=R))):=bt TT mixed (JG (R:=R)) rfl rfl rfl rfl cd (Kp sE)
/-! ### humpyard/field.List$1 -/
abbrev zJ (R:Type):Type:=Json→((List Json)→Bool→Option R)→Option R
abbrev Hi:List cP := [.agg [.int .i64, .int .i64, .int .i64, .str, .sl .str, .sl .json]]
abbrev Hj:List aW := []
def M0 (fn:zJ R):lh R Hi Hj:=fun x y k=>fn (⟨x.1.1,⟨x.1.2.1,x.1.2.2.1⟩,x.1.2.2.2.1,x.1.2.2.2.2.1,x.1.2.2.2.2.2.1⟩:Json) (fun q0 q1=>k (.tuple [.sl .json q0 .no, .bool q1]) [])
def OR (fn:zJ R):=aI Hi Hj (M0 fn)
section
variable (cq:dL R)
def OS:List (oq R) := [(86,true,(DT cq ax))]
def Hk (x1:Json) (k0:(List Json)→Bool→Option R):Option R :=
 cq (⟨x1.kind,⟨x1.num.ao,x1.num.exp⟩,x1.text,x1.names,x1.items⟩:Json) (fun y2=>k0 y2.items (x1.kind==6))
theorem Wu:dE (R:=R) tt (OS cq) rS false Tryz.f148 Hi Hj (M0 (Hk cq)):=fun x y k=>by kernel_rfl
end
theorem UN:cu (R:=R) Tryz.prog (OS (R:=R) cq) := .p (Dq R _ (jm _)) <| .n
def mg:zJ R:=fun x1 k0=>Hk cq x1 k0
theorem Th (R:Type):k8 Tryz.prog 148 (OR (mg (R:=R))):=bt TT mixed (UN (R:=R)) rfl rfl rfl rfl cd (Wu cq)
/-! ### humpyard/field.of[[]humpyard/api.Json] -/
abbrev pg (R:Type):Type:=Json→ah→((List Json)→Bool→Option R)→Option R
abbrev wF:List cP := [.agg [.int .i64, .int .i64, .int .i64, .str, .sl .str, .sl .json], .leaf (.str), .leaf (.fn 148)]
abbrev wG:List aW := []
def C6 (fn:pg R):lh R wF wG:=fun x y k=>fn (⟨x.1.1,⟨x.1.2.1,x.1.2.2.1⟩,x.1.2.2.2.1,x.1.2.2.2.2.1,x.1.2.2.2.2.2.1⟩:Json) x.2.1 (fun q0 q1=>k (.tuple [.sl .json q0 .no, .bool q1]) [])
def Et (fn:pg R):=aI wF wG (C6 fn)
section
variable (mg:zJ R) (cH:qW R)
def Eu:List (oq R) := [(148,true,(OR mg ax)),(144,true,(BV cH ax))]
def wH (x1:Json) (x2:ah) (k0:(List Json)→Bool→Option R):Option R :=
 cH (⟨x1.kind,⟨x1.num.ao,x1.num.exp⟩,x1.text,x1.names,x1.items⟩:Json) x2 (fun y3 y4=>bif (!y4)then (k0 ([]:List Json) false)else (mg (⟨y3.kind,⟨y3.num.ao,y3.num.exp⟩,y3.text,y3.names,y3.items⟩:Json) (fun y5 y6=>bif y6 then (k0 y5 true)else (k0 ([]:List Json) false))))
theorem NA:dE (R:=R) tt (Eu mg cH) rS false Tryz.f147 wF wG (C6 (wH mg cH)):=fun x y k=>by kernel_rfl
end
theorem LZ:cu (R:=R) Tryz.prog (Eu (R:=R) mg cH) := .c (Th R) <| .c (zH R) <| .n
def fE:pg R:=fun x1 x2 k0=>wH mg cH x1 x2 k0
theorem Kq (R:Type):k8 Tryz.prog 147 (Et (fE (R:=R))):=bt TT mixed (LZ (R:=R)) rfl rfl rfl rfl cd (NA mg cH)
/-! ### humpyard/field.List -/
abbrev D3 (R:Type):Type:=Json→ah→((List Json)→Bool→Option R)→Option R
abbrev L0:List cP := [.agg [.int .i64, .int .i64, .int .i64, .str, .sl .str, .sl .json], .leaf (.str)]
abbrev L1:List aW := []
def QU (fn:D3 R):lh R L0 L1:=fun x y k=>fn (⟨x.1.1,⟨x.1.2.1,x.1.2.2.1⟩,x.1.2.2.2.1,x.1.2.2.2.2.1,x.1.2.2.2.2.2.1⟩:Json) x.2.1 (fun q0 q1=>k (.tuple [.sl .json q0 .no, .bool q1]) [])
def Ti (fn:D3 R):=aI L0 L1 (QU fn)
section
variable (fE:pg R)
def Tj:List (oq R) := [(147,true,(Et fE ax))]
def L2 (x1:Json) (x2:ah) (k0:(List Json)→Bool→Option R):Option R :=
 fE (⟨x1.kind,⟨x1.num.ao,x1.num.exp⟩,x1.text,x1.names,x1.items⟩:Json) x2 (fun y3 y4=>k0 y3 y4)
theorem field_List_ok:dE (R:=R) tt (Tj fE) rS false Tryz.f111 L0 L1 (QU (L2 fE)):=fun x y k=>by kernel_rfl
end
theorem YL:cu (R:=R) Tryz.prog (Tj (R:=R) fE) := .c (Kq R) <| .n
def o0:D3 R:=fun x1 x2 k0=>L2 fE x1 x2 k0
theorem Wv (R:Type):k8 Tryz.prog 111 (Ti (o0 (R:=R))):=bt TT mixed (YL (R:=R)) rfl rfl rfl rfl cd (field_List_ok fE)
/-! ### (*humpyard/order.taker).list -/
abbrev mh (R:Type):Type:=Json→ah→Bool→((List Json)→Bool→Option R)→Option R
abbrev sF:List cP := [.leaf (.ptr 0 0), .agg [.int .i64, .int .i64, .int .i64, .str, .sl .str, .sl .json], .leaf (.str)]
abbrev sG:List aW := [.cells [.bool]]
def zn (fn:mh R):lh R sF sG:=fun x y k=>fn (⟨x.2.1.1,⟨x.2.1.2.1,x.2.1.2.2.1⟩,x.2.1.2.2.2.1,x.2.1.2.2.2.2.1,x.2.1.2.2.2.2.2.1⟩:Json) x.2.2.1 y.1.1 (fun q0 q1=>k (.sl .json q0 .no) [.cells [.bool q1]])
def AZ (fn:mh R):=aI sF sG (zn fn)
section
variable (o0:D3 R)
def A0:List (oq R) := [(111,true,(Ti o0 ax))]
def sH (x1:Json) (x2:ah) (x3:Bool) (k0:(List Json)→Bool→Option R):Option R :=
 o0 (⟨x1.kind,⟨x1.num.ao,x1.num.exp⟩,x1.text,x1.names,x1.items⟩:Json) x2 (fun y4 y5=>bif x3 then (k0 y4 true)else (k0 y4 (!y5)))
theorem JH:dE (R:=R) tt (A0 o0) rS false Tryz.f70 sF sG (zn (sH o0)):=fun x y k=>by kernel_rfl
end
theorem HX:cu (R:=R) Tryz.prog (A0 (R:=R) o0) := .c (Wv R) <| .n
def bG:mh R:=fun x1 x2 x3 k0=>sH o0 x1 x2 x3 k0
theorem Hl (R:Type):k8 Tryz.prog 70 (AZ (bG (R:=R))):=bt TT mixed (HX (R:=R)) rfl rfl rfl rfl cd (JH o0)
/-! ### humpyard/field.flag -/
abbrev D4 (R:Type):Type:=Json→(Bool→Bool→Option R)→Option R
abbrev L3:List cP := [.agg [.int .i64, .int .i64, .int .i64, .str, .sl .str, .sl .json]]
abbrev L4:List aW := []
def QV (fn:D4 R):lh R L3 L4:=fun x y k=>fn (⟨x.1.1,⟨x.1.2.1,x.1.2.2.1⟩,x.1.2.2.2.1,x.1.2.2.2.2.1,x.1.2.2.2.2.2.1⟩:Json) (fun q0 q1=>k (.tuple [.bool q0, .bool q1]) [])
def Tk (fn:D4 R):=aI L3 L4 (QV fn)
section
def L5 (x1:Json) (k0:Bool→Bool→Option R):Option R :=
 bif (x1.kind==3)then (k0 (x1.kind==3) true)else (k0 (x1.kind==3) (x1.kind==2))
theorem field_flag_ok:dE (R:=R) tt [] rS false Tryz.f150 L3 L4 (QV L5):=fun x y k=>by kernel_rfl
end
def o3:D4 R:=fun x1 k0=>L5 x1 k0
theorem Ww (R:Type):k8 Tryz.prog 150 (Tk (o3 (R:=R))):=bt TT mixed .n rfl rfl rfl rfl cd (field_flag_ok)
/-! ### humpyard/field.of[bool] -/
abbrev ph (R:Type):Type:=Json→ah→(Bool→Bool→Option R)→Option R
abbrev wI:List cP := [.agg [.int .i64, .int .i64, .int .i64, .str, .sl .str, .sl .json], .leaf (.str), .leaf (.fn 150)]
abbrev wJ:List aW := []
def C7 (fn:ph R):lh R wI wJ:=fun x y k=>fn (⟨x.1.1,⟨x.1.2.1,x.1.2.2.1⟩,x.1.2.2.2.1,x.1.2.2.2.2.1,x.1.2.2.2.2.2.1⟩:Json) x.2.1 (fun q0 q1=>k (.tuple [.bool q0, .bool q1]) [])
def Ev (fn:ph R):=aI wI wJ (C7 fn)
section
variable (cH:qW R) (o3:D4 R)
def Ew:List (oq R) := [(144,true,(BV cH ax)),(150,true,(Tk o3 ax))]
def wK (x1:Json) (x2:ah) (k0:Bool→Bool→Option R):Option R :=
 cH (⟨x1.kind,⟨x1.num.ao,x1.num.exp⟩,x1.text,x1.names,x1.items⟩:Json) x2 (fun y3 y4=>bif (!y4)then (k0 false false)else (o3 (⟨y3.kind,⟨y3.num.ao,y3.num.exp⟩,y3.text,y3.names,y3.items⟩:Json) (fun y5 y6=>bif y6 then (k0 y5 true)else (k0 false false))))
theorem NB:dE (R:=R) tt (Ew cH o3) rS false Tryz.f149 wI wJ (C7 (wK cH o3)):=fun x y k=>by kernel_rfl
end
theorem L6:cu (R:=R) Tryz.prog (Ew (R:=R) cH o3) := .c (zH R) <| .c (Ww R) <| .n
def fF:ph R:=fun x1 x2 k0=>wK cH o3 x1 x2 k0
theorem Kr (R:Type):k8 Tryz.prog 149 (Ev (fF (R:=R))):=bt TT mixed (L6 (R:=R)) rfl rfl rfl rfl cd (NB cH o3)
/-! ### humpyard/field.Flag -/
abbrev D5 (R:Type):Type:=Json→ah→(Bool→Bool→Option R)→Option R
abbrev L7:List cP := [.agg [.int .i64, .int .i64, .int .i64, .str, .sl .str, .sl .json], .leaf (.str)]
abbrev L8:List aW := []
def QW (fn:D5 R):lh R L7 L8:=fun x y k=>fn (⟨x.1.1,⟨x.1.2.1,x.1.2.2.1⟩,x.1.2.2.2.1,x.1.2.2.2.2.1,x.1.2.2.2.2.2.1⟩:Json) x.2.1 (fun q0 q1=>k (.tuple [.bool q0, .bool q1]) [])
def Tl (fn:D5 R):=aI L7 L8 (QW fn)
section
variable (fF:ph R)
def Tm:List (oq R) := [(149,true,(Ev fF ax))]
def L9 (x1:Json) (x2:ah) (k0:Bool→Bool→Option R):Option R :=
 fF (⟨x1.kind,⟨x1.num.ao,x1.num.exp⟩,x1.text,x1.names,x1.items⟩:Json) x2 (fun y3 y4=>k0 y3 y4)
theorem field_Flag_ok:dE (R:=R) tt (Tm fF) rS false Tryz.f112 L7 L8 (QW (L9 fF)):=fun x y k=>by kernel_rfl
end
theorem YM:cu (R:=R) Tryz.prog (Tm (R:=R) fF) := .c (Kr R) <| .n
def o4:D5 R:=fun x1 x2 k0=>L9 fF x1 x2 k0
theorem Wx (R:Type):k8 Tryz.prog 112 (Tl (o4 (R:=R))):=bt TT mixed (YM (R:=R)) rfl rfl rfl rfl cd (field_Flag_ok fF)
end Go.Proofs.YtidfokedcnhahaaGreatDoor
namespace Go.Proofs.YtidfokedcnhahaaGreatDoor.Pu
open Go Go.aC
def FF (x:Json):Prop:=∀c∈Ty.cells .json x,Small 1099511627776 c
theorem FF.text {x:Json} (h:FF x):x.text.length≤1099511627776:=(h (.str x.text) (by simp[Ty.cells])).iu
theorem FF.names {x:Json} (h:FF x):x.names.length≤1099511627776:=(h (.sl .str x.names .no) (by simp[Ty.cells])).ES.1
theorem FF.items {x:Json} (h:FF x):x.items.length≤1099511627776:=(h (.sl .json x.items .no) (by simp[Ty.cells])).ES.1
theorem FF.item {x:Json} (h:FF x) {y:Json} (hy:y∈x.items):FF y:=(h (.sl .json x.items .no) (by simp[Ty.cells])).ES.2 y hy
theorem anyT_same {R:Type} {a b:Option R} (h:a=b):anyT a b=b:=by subst h; unfold anyT; rw[if_pos rfl]
theorem clone_str {R:Type} (l:List ah) (hl:l.length≤1099511627776) (k:List ah→Option R):bm l k=k l:=by
 unfold bm nQ
 have h:decide ((0+l.length)*16≤140737488355328)=true:=by simp; omega
 rw[aw h]
 cases l with
 | nil=>exact anyT_same rfl
 | cons a l=>rfl
theorem clone_json {R:Type} (l:List Json) (hl:l.length≤1099511627776) (k0:Option R) (k1:Nat→List Json→Option R) (h0:l = []→k0=k1 0 []):bh l k0 k1=k1 l.length l:=by
 unfold bh mX
 have h:decide ((0+l.length)*88≤140737488355328)=true:=by simp; omega
 rw[aw h,Nat.zero_add]
 cases l with
 | nil=>exact anyT_same (h0 rfl)
 | cons a l=>rfl
theorem depthL_mem {l:List Json} {y:Json} (h:y∈l):y.depth≤Json.GM l:=by
 induction l with
 | nil=>cases h
 | cons a l ih =>
  simp only[Json.GM]
  rcases List.mem_cons.1 h with rfl|h
  ·exact Nat.le_max_left _ _
  ·exact Nat.le_trans (ih h) (Nat.le_max_right _ _)
theorem depth_eq (x:Json):x.depth=Json.GM x.items+1:=by cases x; simp[Json.depth]
theorem depth_item {x y:Json} (h:y∈x.items):y.depth<x.depth:=by rw[depth_eq x]; exact Nat.lt_succ_of_le (depthL_mem h)
theorem XZ {α:Type} {l:List α} {i:Nat} (h:i<l.length):l.set i l[i]=l:=List.set_getElem_self h
theorem fresh_loop {R:Type} (f:dL R) (l:List Json) (hl:l.length≤1099511627776) (hf:∀y∈l,∀k,f y k=k y) (a b c:Int) (t:ah) (ns:List ah) (p q r:Int) (u:ah)
  (e0:Int→Int→Int→ah→List ah→Nat→Int→Int→Int→ah→List Json→Option R):∀(n i:Nat),i≤l.length→l.length - i<n →
  cj f n l.length (l.length:Int) (i:Int) a b c t ns l.length p q r u l e0=e0 a b c t ns l.length p q r u l:=by
 intro n
 induction n with
 | zero=>intro i _ h; omega
 | succ n ih =>
  intro i hi hn
  show vk f (fun x1 x2 x3 x4 x5 x6 x7 x8 x9 Ut Nq CJ HG Ls=>cj f n x1 x2 x3 x4 x5 x6 x7 x8 x9 Ut Nq CJ HG Ls e0) _ _ _ _ _ _ _ _ _ _ _ _ _ _ e0=_
  unfold vk
  by_cases h:i<l.length
  ·have h1:decide ((i:Int)<(l.length:Int))=true:=by simp; omega
   have h2:(decide ((0:Int)≤(i:Int))&&true)=true:=by simp
   have h3:decide ((i:Int).toNat<l.length)=true:=by simp; omega
   have hw:IntKind.i64.wrap ((i:Int)+1)=((i+1:Nat):Int):=by rw[cA (by omega) (by omega)]; omega
   have hg:l.getD (i:Int).toNat (Ty.aZ .json)=l[i]:=getD_at h _
   rw[h1,cond_true,aw h2,aw h3,hg,Json.eta,hf _ (List.getElem_mem h),aw h2,aw h3,hw,Json.eta]
   have hs:l.set (i:Int).toNat l[i]=l:=XZ h
   rw[hs]
   exact ih (i+1) (by omega) (by omega)
  ·have h1:decide ((i:Int)<(l.length:Int))=false:=by simp; omega
   rw[h1,cond_false]
theorem fresh_N {R:Type}:∀(n:Nat) (x:Json),FF x→x.depth<n→∀k:Json→Option R,iJ n x k=k x:=by
 intro n
 induction n with
 | zero=>intro x _ h; omega
 | succ n ih =>
  intro x hx hd k
  show yG (iJ n) x k=_
  unfold yG Ja
  rw[clone_str _ hx.names,clone_json _ hx.items]
  ·have:=fresh_loop (iJ (R:=R) n) x.items hx.items (fun y hy k=>ih y (hx.item hy) (by have:=depth_item hy; omega) k) x.kind x.num.ao x.num.exp x.text x.names 0 0 0 []
    (fun ZN Z5 Z6 W9 y44 y45 y46 y47 y48 y49 y50=>k (⟨ZN,⟨Z5,Z6⟩,W9,y44,y50⟩:Json))
   refine (this _ 0 (by omega) (by omega)).trans ?_
   rw[Json.eta]
  ·intro h0
   have:x=⟨x.kind,⟨x.num.ao,x.num.exp⟩,x.text,x.names, []⟩:=by rw[←h0,Json.eta]
   rfl
theorem YN {R:Type} (x:Json) (hx:FF x) (k:Json→Option R):cq x k=k x:=fresh_N _ x hx (by omega) k
theorem RH {R:Type} (l:List ah) (hl:l.length≤1099511627776) (s:ah) (e0:Int→Option R) (e1:Option R):∀(n i:Nat),i≤l.length→l.length - i<n →
  aS n l s (l.length:Int) (i:Int) e1 e0=match (l.drop i).findIdx? (s == ·)with|some j=>e0 ((i+j:Nat):Int)|none=>e1:=by
 intro n
 induction n with
 | zero=>intro i _ h; omega
 | succ n ih =>
  intro i hi hn
  show eI (fun a b c d=>aS n a b c d e1 e0) _ _ _ _ e1 e0=_
  unfold eI
  by_cases h:i<l.length
  ·have h1:decide ((i:Int)<(l.length:Int))=true:=by simp; omega
   have h2:(decide ((0:Int)≤(i:Int))&&true)=true:=by simp
   have hw:IntKind.i64.wrap ((i:Int)+1)=((i+1:Nat):Int):=by rw[cA (by omega) (by omega)]; omega
   have hg:l.getD (i:Int).toNat (Ty.aZ .str)=l[i]:=getD_at h _
   have e1':=ih (i+1) (by omega) (by omega)
   rw[h1,cond_true,aw h2,hg,hw,List.drop_eq_getElem_cons h,List.findIdx?_cons]
   simp only[e1']
   cases hq:(s==l[i])with
   | true=>simp
   | false =>
    simp only[cond_false,Bool.false_eq_true,if_false]
    cases (l.drop (i+1)).findIdx? (s == ·)with
    | none=>rfl
    | some j =>
     show e0 ((i+1+j:Nat):Int)=e0 ((i+(j+1):Nat):Int)
     rw[show i+1+j=i+(j+1) by omega]
  ·have h1:decide ((i:Int)<(l.length:Int))=false:=by simp; omega
   rw[h1,cond_false,List.drop_eq_nil_of_le (by omega)]
   rfl
theorem index_eq {R:Type} (l:List ah) (hl:l.length≤1099511627776) (s:ah) (k:Int→Option R):bq l s k=k (match l.findIdx? (s == ·)with|some j=>(j:Int)|none => -1):=by
 unfold bq nN
 refine (RH l hl s _ _ _ 0 (by omega) (by omega)).trans ?_
 simp only[List.drop_zero,Nat.zero_add]
 cases l.findIdx? (s == ·) <;> rfl
theorem contains_eq {R:Type} (l:List ah) (hl:l.length≤1099511627776) (s:ah) (k:Bool→Option R):aB l s k=k (l.contains s):=by
 unfold aB lP
 rw[index_eq l hl]
 congr 1
 cases hq:l.findIdx? (s == ·)with
 | none =>
  have:l.contains s=false:=by
   rw[List.findIdx?_eq_none_iff]at hq
   rw[List.contains_eq_any_beq]
   simpa [List.any_eq_false]using hq
  rw[this]; rfl
 | some j =>
  have:l.contains s=true:=by
   obtain ⟨hj,hp,_⟩:=List.findIdx?_eq_some_iff_getElem.1 hq
   rw[List.contains_eq_any_beq,List.any_eq_true]
   exact ⟨l[j],List.getElem_mem hj,hp⟩
  rw[this]
  simp
def look (s:ah):List ah→List Json→Option Json
 | n::ns,x::xs=>if s==n then some x else look s ns xs
 | _,_=>none
theorem RI (s:ah):∀(ns:List ah) (xs:List Json),look s ns xs=(ns.findIdx? (s == ·)).bind fun j=>xs[j]?
 | [],xs=>by simp[look]
 | n::ns, []=>by
  simp only[look]
  cases (n::ns).findIdx? (s == ·) <;> simp
 | n::ns,x::xs=>by
  simp only[look,List.findIdx?_cons]
  cases hq:(s==n)with
  | true=>simp
  | false =>
   simp only[Bool.false_eq_true,if_false,RI s ns xs]
   cases ns.findIdx? (s == ·) <;> simp
def zeroJ:Json:=⟨0,⟨0,0⟩, [], [], []⟩
theorem find_eq {R:Type} (v:Json) (hv:FF v) (s:ah) (k:Json→Bool→Option R) :
  cH v s k=match (if v.kind=7 then look s v.names v.items else none)with|some x=>k x true|none=>k zeroJ false:=by
 unfold cH LS
 rw[index_eq _ hv.names]
 by_cases h7:v.kind=7
 ·have c1:(v.kind != 7)=false:=by simp[h7]
  rw[c1,cond_false,if_pos h7,RI]
  cases hq:v.names.findIdx? (s == ·)with
  | none=>rfl
  | some j =>
   have hj:decide ((j:Int)<0)=false:=by simp
   simp only[Option.bind_some]
   by_cases hi:j<v.items.length
   ·have h1:decide ((j:Int)<(0:Int))=false:=by simp
    have h2:decide ((j:Int)≥(v.items.length:Int))=false:=by simp; omega
    have h3:(decide ((0:Int)≤(j:Int))&&decide ((j:Int)<v.items.length))=true:=by simp; omega
    have hg:v.items.getD (j:Int).toNat (Ty.aZ .json)=v.items[j]:=getD_at hi _
    simp only[h1,h2,cond_false,hg,Json.eta]
    rw[aw h3]
    simp[hi]
   ·have h1:decide ((j:Int)<(0:Int))=false:=by simp
    have h2:decide ((j:Int)≥(v.items.length:Int))=true:=by simp; omega
    simp only[h1,h2,cond_false,cond_true]
    simp[show v.items.length≤j by omega]
    rfl
 ·have c1:(v.kind != 7)=true:=by simp[h7]
  rw[c1,cond_true,if_neg h7]
  rfl
end Go.Proofs.YtidfokedcnhahaaGreatDoor.Pu
set_option maxRecDepth 100000
namespace Go.aC
open Go.Lib
def vr (c:Nat):Prop:=c<55296∨(57344≤c∧c≤1114111)
instance (c:Nat):Decidable (vr c):=inferInstanceAs (Decidable (_∨_))
def enc (c:Nat):ah:=encodeRune (c:Int)
theorem enc1 {c:Nat} (h:c<128):enc c = [UInt8.ofNat c]:=by
 unfold enc encodeRune encodeRuneZ
 rw[if_pos (by omega)]
 rfl
theorem enc2 {c:Nat} (h0:128≤c) (h:c<2048):enc c = [UInt8.ofNat (192+c / 64),UInt8.ofNat (128+c % 64)]:=by
 unfold enc encodeRune encodeRuneZ
 rw[if_neg (by omega),if_pos (by omega)]
 have e1:(192+(c:Int) / 64).toNat=192+c / 64:=by omega
 have e2:(128+(c:Int) % 64).toNat=128+c % 64:=by omega
 simp only[List.map_cons,List.map_nil,e1,e2]
theorem enc3 {c:Nat} (h0:2048≤c) (h:c<65536) (hv:vr c):enc c = [UInt8.ofNat (224+c / 4096),UInt8.ofNat (128+c / 64 % 64),UInt8.ofNat (128+c % 64)]:=by
 unfold vr at hv
 unfold enc encodeRune encodeRuneZ
 rw[if_neg (by omega),if_neg (by omega),if_pos (by omega)]
 have e1:(224+(c:Int) / 4096).toNat=224+c / 4096:=by omega
 have e2:(128+(c:Int) / 64 % 64).toNat=128+c / 64 % 64:=by omega
 have e3:(128+(c:Int) % 64).toNat=128+c % 64:=by omega
 simp only[List.map_cons,List.map_nil,e1,e2,e3]
theorem enc4 {c:Nat} (h0:65536≤c) (h:c<1114112):enc c = [UInt8.ofNat (240+c / 262144),UInt8.ofNat (128+c / 4096 % 64),UInt8.ofNat (128+c / 64 % 64),UInt8.ofNat (128+c % 64)]:=by
 unfold enc encodeRune encodeRuneZ
 rw[if_neg (by omega),if_neg (by omega),if_neg (by omega),if_pos (by omega)]
 have e1:(240+(c:Int) / 262144).toNat=240+c / 262144:=by omega
 have e2:(128+(c:Int) / 4096 % 64).toNat=128+c / 4096 % 64:=by omega
 have e3:(128+(c:Int) / 64 % 64).toNat=128+c / 64 % 64:=by omega
 have e4:(128+(c:Int) % 64).toNat=128+c % 64:=by omega
 simp only[List.map_cons,List.map_nil,e1,e2,e3,e4]
theorem gP (n:Nat) (h:n<256):(UInt8.ofNat n).toNat=n:=by
 simp only[UInt8.toNat_ofNat']
 omega
theorem vr_lt {c:Nat} (h:vr c):c<1114112:=by unfold vr at h; omega
theorem Ks {c:Nat} (hv:vr c):(c<128∧enc c = [UInt8.ofNat c])∨(128≤c∧c<2048∧enc c = [UInt8.ofNat (192+c / 64),UInt8.ofNat (128+c % 64)]) ∨
  (2048≤c∧c<65536∧enc c = [UInt8.ofNat (224+c / 4096),UInt8.ofNat (128+c / 64 % 64),UInt8.ofNat (128+c % 64)]) ∨
  (65536≤c∧enc c = [UInt8.ofNat (240+c / 262144),UInt8.ofNat (128+c / 4096 % 64),UInt8.ofNat (128+c / 64 % 64),UInt8.ofNat (128+c % 64)]):=by
 have:=vr_lt hv
 by_cases h1:c<128
 ·exact .inl ⟨h1,enc1 h1⟩
 by_cases h2:c<2048
 ·exact .inr (.inl ⟨by omega,h2,enc2 (by omega) h2⟩)
 by_cases h3:c<65536
 ·exact .inr (.inr (.inl ⟨by omega,h3,enc3 (by omega) h3 hv⟩))
 ·exact .inr (.inr (.inr ⟨by omega,enc4 (by omega) this⟩))
theorem IF {c:Nat} (hv:vr c):1≤(enc c).length∧(enc c).length≤4:=by
 rcases Ks hv with ⟨_,e⟩|⟨_,_,e⟩|⟨_,_,e⟩|⟨_,e⟩ <;> rw[e] <;> simp
theorem Tn {c:Nat} (hv:vr c) (t:ah):decodeL (enc c++t)=(c,(enc c).length):=by
 have kj:=vr_lt hv
 unfold vr at hv
 rw[decodeL_N]
 rcases Ks hv with ⟨h1,e⟩|⟨h0,h1,e⟩|⟨h0,h1,e⟩|⟨h0,e⟩ <;> rw[e]
 ·simp only[List.cons_append,List.getD_cons_zero,gP c (by omega)]
  exact decodeN_ascii _ _ _ _ _ h1
 ·simp only[List.cons_append,List.nil_append,List.getD_cons_zero,List.getD_cons_succ,gP (192+c / 64) (by omega),gP (128+c % 64) (by omega),List.length_cons]
  unfold decodeN
  rw[if_neg (by omega),if_pos ⟨by omega,by omega,by omega⟩,if_pos (by omega)]
  refine Prod.ext ?_ rfl
  show (192+c / 64) % 32*64+(128+c % 64) % 64=c
  omega
 ·simp only[List.cons_append,List.nil_append,List.getD_cons_zero,List.getD_cons_succ,gP (224+c / 4096) (by omega),gP (128+c / 64 % 64) (by omega),gP (128+c % 64) (by omega),List.length_cons]
  unfold decodeN
  have k:(224+c / 4096) % 16*4096+(128+c / 64 % 64) % 64*64+(128+c % 64) % 64=c:=by omega
  rw[if_neg (by omega),if_neg (by omega),if_pos ⟨by omega,⟨by omega,by omega⟩,by omega,by omega⟩,k,if_pos (by omega)]
  simp only[List.length_nil]
 ·simp only[List.cons_append,List.nil_append,List.getD_cons_zero,List.getD_cons_succ,gP (240+c / 262144) (by omega),gP (128+c / 4096 % 64) (by omega),gP (128+c / 64 % 64) (by omega),gP (128+c % 64) (by omega),List.length_cons]
  unfold decodeN
  have k:(240+c / 262144) % 8*262144+(128+c / 4096 % 64) % 64*4096+(128+c / 64 % 64) % 64*64+(128+c % 64) % 64=c:=by omega
  rw[if_neg (by omega),if_neg (by omega),if_neg (by omega),if_pos ⟨by omega,⟨by omega,by omega⟩,⟨by omega,by omega⟩,by omega,by omega⟩,k,if_pos (by omega)]
  simp only[List.length_nil]
def good (l:ah):Prop:=¬((decodeL l).1=65533∧(decodeL l).2=1)
instance (l:ah):Decidable (good l):=inferInstanceAs (Decidable (¬_))
theorem good_enc {c:Nat} (hv:vr c) (t:ah):good (enc c++t):=by
 unfold good
 rw[Tn hv t]
 rintro ⟨h1,h2⟩
 simp only at h1 h2
 rw[h1]at h2
 rw[enc3 (by omega) (by omega) (by unfold vr; omega)]at h2
 cases h2
theorem decodeN_vr (n b0 b1 b2 b3:Nat) (h0:b0<256):vr (decodeN n b0 b1 b2 b3).1:=by
 unfold vr decodeN
 repeat' split
 all_goals simp only
 all_goals omega
theorem dec_vr (l:ah):vr (decodeL l).1:=by
 rw[decodeL_N]
 exact decodeN_vr _ _ _ _ _ (UInt8.toNat_lt _)
theorem dec_good {l:ah} (jT:l ≠ []) (h:good l):l=enc (decodeL l).1++l.drop (decodeL l).2∧(enc (decodeL l).1).length=(decodeL l).2:=by
 have h1:=encode_decode l jT h
 have h2:=decodeL_le l jT
 refine ⟨?_,?_⟩
 ·unfold enc
  rw[h1,List.take_append_drop]
 ·unfold enc
  rw[h1,List.length_take]
  omega
theorem VH {l:ah} (jT:l ≠ []):fW l=if good l then fW (l.drop (decodeL l).2)else false:=by
 unfold fW
 rw[validD_step l jT]
 by_cases h:good l
 ·rw[if_pos h,if_neg (show ¬((decodeL l).1=65533∧(decodeL l).2=1)from h)]
 ·rw[if_neg h,if_pos (Decidable.not_not.1 h)]
theorem enc_ne {c:Nat} (hv:vr c) (t:ah):enc c++t ≠ []:=by
 have:=IF hv
 intro e
 have:=congrArg List.length e
 rw[List.length_append,List.length_nil]at this
 omega
theorem validS_enc {c:Nat} (hv:vr c) (t:ah):fW (enc c++t)=fW t:=by
 rw[VH (enc_ne hv t),if_pos (good_enc hv t),Tn hv t]
 simp
def fg (rs:List Nat):ah:=rs.flatMap enc
theorem VI:∀(rs:List Nat),(∀c∈rs,vr c)→∀t,fW (fg rs++t)=fW t
 | [],_,t=>rfl
 | c::rs,h,t=>by
  have:fg (c::rs)++t=enc c++(fg rs++t):=by simp[fg]
  rw[this,validS_enc (h c (by simp)),VI rs (fun x hx=>h x (by simp[hx]))]
theorem VJ:∀(n:Nat) (l:ah),l.length≤n→fW l=true→∃rs:List Nat,(∀c∈rs,vr c)∧l=fg rs
 | 0,l,hl,_=>⟨[],by simp,List.eq_nil_of_length_eq_zero (by omega)⟩
 | n+1,l,hl,h=>by
  by_cases jT:l = []
  ·exact ⟨[],by simp,jT⟩
  rw[VH jT]at h
  split at h
  ·rename_i hg
   obtain ⟨h1,h2⟩:=dec_good jT hg
   have h3:=IF (dec_vr l)
   obtain ⟨rs,hr,e⟩:=VJ n (l.drop (decodeL l).2) (by rw[List.length_drop]; omega) h
   refine ⟨(decodeL l).1::rs,?_,?_⟩
   ·intro c hc
    rcases List.mem_cons.1 hc with rfl|hc
    ·exact dec_vr l
    ·exact hr c hc
   ·exact h1.trans ((congrArg (enc (decodeL l).1 ++ ·) e).trans (by simp[fg]))
  ·cases h
theorem Kt {l:ah}:fW l=true↔∃rs:List Nat,(∀c∈rs,vr c)∧l=fg rs:=by
 refine ⟨VJ l.length l (Nat.le_refl _),?_⟩
 rintro ⟨rs,hr,rfl⟩
 have:=VI rs hr []
 rw[List.append_nil]at this
 rw[this]; rfl
theorem OT {s t:ah} {i:Nat} (h:i<s.length):(s++t).getD i 0=s.getD i 0:=by
 simp[List.getD,List.getElem?_append_left h]
theorem VK {s t:ah} {x:UInt8}:(s++x::t).getD s.length 0=x:=by
 simp[List.getD]
end Go.aC
set_option maxRecDepth 100000
namespace Go.Proofs.YtidfokedcnhahaaGreatDoor
open Go Go.aC
def xF (n:Int):Prop := -9223372036854775808≤n∧n≤9223372036854775807
theorem qv {n:Int}:IntKind.i64.has n↔xF n:=by
 unfold IntKind.has xF
 simp only[IntKind.min,IntKind.max,IntKind.bits,IntKind.signed]
 simp
theorem wrap32_id {n:Int} (h1:0≤n) (h2:n<1114112):IntKind.i32.wrap n=n:=by
 simp only[IntKind.wrap,IntKind.bits,IntKind.signed,IntKind.min,IntKind.max]
 simp
 omega
theorem encL_snoc (rs:List Nat) (c:Nat):fg (rs ++ [c])=fg rs++enc c:=by simp[fg]
theorem aM {p:Prop} [Decidable p] (h:p):decide p=true:=decide_eq_true h
theorem bJ {p:Prop} [Decidable p] (h:¬p):decide p=false:=decide_eq_false h
end Go.Proofs.YtidfokedcnhahaaGreatDoor
namespace Go.Proofs.YtidfokedcnhahaaGreatDoor.Pu
open Go Go.aC
theorem jok_mk {k m e:Int} {t:ah} {ns:List ah} {xs:List Json} (hk:xF k) (hm:xF m) (he:xF e) (ht:t.length≤1099511627776) (hn:ns.length≤1099511627776) (Rp:∀s∈ns,s.length≤1099511627776) (hx:xs.length≤1099511627776) (hxs:∀y∈xs,FF y) :
  FF ⟨k,⟨m,e⟩,t,ns,xs⟩:=by
 intro c hc
 simp only[Ty.cells,List.mem_cons,List.not_mem_nil,or_false]at hc
 rcases hc with rfl|rfl|rfl|rfl|rfl|rfl
 ·exact .int (qv.2 hk)
 ·exact .int (qv.2 hm)
 ·exact .int (qv.2 he)
 ·exact .str ht
 ·exact .sl hn fun s hs v hv=>by
   simp only[Ty.cells,List.mem_singleton]at hv
   subst hv
   exact .str (Rp s hs)
 ·exact .sl hx fun y hy v hv=>hxs y hy v hv
def mk:List ah→List Json→List ah→List Json→List ah×List Json
 | n::ns,x::xs,a,b=>if a.contains n then mk ns xs a b else mk ns xs (a ++ [n]) (b ++ [x])
 | [],_,a,b=>(a,b)
 | _::_, [],a,b=>(a,b)
theorem UO {R:Type} (ns:List ah) (xs:List Json) (hx:xs.length≤ns.length) (hn:ns.length≤1099511627776) (hj:∀y∈xs,FF y) (p q r:Int) (t:ah) (a b c:Int) (u:ah)
  (e0:Int→Int→Int→ah→Int→Int→Int→ah→List ah→List Json→Option R):∀(n i:Nat) (l:List ah) (m:List Json),i≤xs.length→xs.length - i<n→l.length=m.length→l.length≤i →
  dk n ns xs (xs.length:Int) (i:Int) p q r t a b c u l m e0=e0 p q r t a b c u (mk (ns.drop i) (xs.drop i) l m).1 (mk (ns.drop i) (xs.drop i) l m).2:=by
 intro n
 induction n with
 | zero=>intro i l m _ h; omega
 | succ n ih =>
  intro i l m hi hni hlm hli
  show w7 _ _ (fun x1 x2 x3 x4 x5 x6 x7 x8 x9 Ut Nq CJ HG Ls=>dk n x1 x2 x3 x4 x5 x6 x7 x8 x9 Ut Nq CJ HG Ls e0) _ _ _ _ _ _ _ _ _ _ _ _ _ _ e0=_
  unfold w7
  by_cases h:i<xs.length
  ·have h1:decide ((i:Int)<(xs.length:Int))=true:=by simp; omega
   have h2:(decide ((0:Int)≤(i:Int))&&true)=true:=by simp
   have h2':(decide ((0:Int)≤(i:Int))&&decide ((i:Int)<ns.length))=true:=by simp; omega
   have hw:IntKind.i64.wrap ((i:Int)+1)=((i+1:Nat):Int):=by rw[cA (by omega) (by omega)]; omega
   have hg:xs.getD (i:Int).toNat (Ty.aZ .json)=xs[i]:=getD_at h _
   have hg':ns.getD (i:Int).toNat (Ty.aZ .str)=ns[i]:=getD_at (by omega) _
   have hr1:decide ((l.length+1)*16≤140737488355328)=true:=by simp; omega
   have hr2:decide ((m.length+1)*88≤140737488355328)=true:=by simp; omega
   rw[h1,cond_true,aw h2,aw h2',hg,hg',contains_eq l (by omega),Json.eta,hw]
   rw[List.drop_eq_getElem_cons h,List.drop_eq_getElem_cons (show i<ns.length by omega)]
   simp only[mk]
   cases hc:l.contains ns[i]with
   | true =>
    simp only[Bool.not_true,cond_false,if_true]
    exact ih (i+1) l m (by omega) (by omega) hlm (by omega)
   | false =>
    simp only[Bool.not_false,cond_true,Bool.false_eq_true,if_false]
    rw[aw h2',aw hr1,YN _ (hj _ (List.getElem_mem h)),aw hr2,Json.eta]
    exact ih (i+1) (l ++ [ns[i]]) (m ++ [xs[i]]) (by omega) (by omega) (by simp[hlm]) (by first|omega|(simp; done)|(simp; omega))
  ·have h1:decide ((i:Int)<(xs.length:Int))=false:=by simp; omega
   rw[h1,cond_false,List.drop_eq_nil_of_le (show xs.length≤i by omega)]
   have:∀ns:List ah,mk ns [] l m=(l,m):=fun ns=>by cases ns <;> rfl
   rw[this]
theorem make_eq {R:Type} (ns:List ah) (xs:List Json) (hn:ns.length≤1099511627776) (hj:∀y∈xs,FF y) (k:Json→Option R) :
  gF ns xs k=k ⟨7,⟨0,0⟩, [],(mk ns xs [] []).1,(mk ns xs [] []).2⟩:=by
 unfold gF Lw
 have hm:(min (xs.length:Int) (ns.length:Int)).toNat - 0=min xs.length ns.length:=by omega
 rw[aw (by first|omega|(simp; done)|(simp; omega)),aw (by first|omega|(simp; done)|(simp; omega)),hm,List.drop_zero]
 have hl:(xs.take (min xs.length ns.length)).length=min xs.length ns.length:=by simp
 refine (UO ns (xs.take (min xs.length ns.length)) (by rw[hl]; omega) hn (fun y hy=>hj y (List.mem_of_mem_take hy)) 0 0 0 [] 7 0 0 [] _ _ 0 [] [] (by omega) (by first|omega|(simp; done)|(simp; omega)) rfl (by simp)).trans ?_
 have key:∀(ns:List ah) (xs:List Json) (a:List ah) (b:List Json),mk ns (xs.take (min xs.length ns.length)) a b=mk ns xs a b:=by
  intro ns
  induction ns with
  | nil=>intro xs a b; cases xs <;> simp[mk]
  | cons n ns ih =>
   intro xs a b
   cases xs with
   | nil=>simp
   | cons x xs =>
    have:min (x::xs).length (n::ns).length=min xs.length ns.length+1:=by simp only[List.length_cons]; omega
    rw[this,List.take_succ_cons]
    simp only[mk,ih]
 simp only[List.drop_zero,key]
theorem FF.ao {x:Json} (h:FF x):xF x.num.ao:=qv.1 (h (.int .i64 x.num.ao) (by simp[Ty.cells])).fk
theorem FF.exp {x:Json} (h:FF x):xF x.num.exp:=qv.1 (h (.int .i64 x.num.exp) (by simp[Ty.cells])).fk
def Ma:Nat→Int→Option Int
 | 0,n=>some n
 | k+1,n=>if -100000000000000000≤n∧n≤100000000000000000 then Ma k (n*10)else none
def RJ (d:fv):Bool:=if d.ao=0 then decide (d.exp=0)else (decide (Int.tmod d.ao 10≠0)&&(decide (-1000000000000000≤d.ao)&&decide (d.ao≤1000000000000000)))&&(decide (-9≤d.exp)&&decide (d.exp≤9))
def tA (d:fv):Option Int:=if RJ d=true∧0≤d.exp then Ma d.exp.toNat d.ao else none
theorem Gw {R:Type} (a b c:Int) (k:Bool→Option R):ay a b c k=k (decide (a≤b)&&decide (b≤c)):=by
 unfold ay mr
 cases decide (a≤b) <;> rfl
theorem right_eq {R:Type} (d:fv) (k:Bool→Option R):bL d k=k (RJ d):=by
 unfold bL jE RJ
 simp only[Gw]
 by_cases h:d.ao=0
 ·have h1:(d.ao==0)=true:=by simpa using h
  rw[h1,cond_true,if_pos h]
  rfl
 ·have h1:(d.ao==0)=false:=by simpa using h
  rw[h1,cond_false,if_neg h]
  by_cases hq:Int.tmod d.ao 10=0
  ·have h2:(Int.tmod d.ao 10 != 0)=false:=by simp[hq]
   rw[h2,cond_false]
   simp[hq]
  ·have h2:(Int.tmod d.ao 10 != 0)=true:=by simp[hq]
   rw[h2,cond_true]
   cases hw:(decide (-1000000000000000≤d.ao)&&decide (d.ao≤1000000000000000))with
   | true=>simp[hq]
   | false=>simp[hq]
theorem shift_loop {R:Type} (e0:Int→Option R) (e1:Int→Bool→Int→Option R) (f:Int→Bool→Option R) (h1:∀x,e1 0 false x=f 0 false) (h0:∀x,e0 x=f x true) (m:Nat) (hm:m≤9223372036854775806) :
  ∀(n i:Nat) (x:Int),i≤m→m - i<n → -1000000000000000000≤x→x≤1000000000000000000 →
  ca n x (m:Int) (i:Int) e0 e1=match Ma (m - i) x with|some y=>f y true|none=>f 0 false:=by
 intro n
 induction n with
 | zero=>intro i x _ h; omega
 | succ n ih =>
  intro i x hi hn hx1 hx2
  show pf ay (fun a b c=>ca n a b c e0 e1) _ _ _ e0 e1=_
  unfold pf
  by_cases h:i<m
  ·have c1:decide ((i:Int)<(m:Int))=true:=by simp; omega
   have hw:IntKind.i64.wrap ((i:Int)+1)=((i+1:Nat):Int):=by rw[cA (by omega) (by omega)]; omega
   have e:m - i=(m - (i+1))+1:=by omega
   rw[c1,cond_true,Gw,e]
   simp only[Ma]
   by_cases hb : -100000000000000000≤x∧x≤100000000000000000
   ·have hd:(decide (-100000000000000000≤x)&&decide (x≤100000000000000000))=true:=by simp; exact hb
    rw[hd,if_pos hb]
    simp only[Bool.not_true,cond_false,hw]
    rw[cA (by omega) (by omega)]
    exact ih (i+1) (x*10) (by omega) (by omega) (by omega) (by omega)
   ·have hd:(decide (-100000000000000000≤x)&&decide (x≤100000000000000000))=false:=by
     simp only[Bool.and_eq_false_imp,decide_eq_true_eq,decide_eq_false_iff_not]
     exact fun q1 q2=>hb ⟨q1,q2⟩
    rw[hd,if_neg hb]
    simp only[Bool.not_false,cond_true]
    exact h1 x
  ·have c1:decide ((i:Int)<(m:Int))=false:=by simp; omega
   have e:m - i=0:=by omega
   rw[c1,cond_false,e]
   exact h0 x
theorem Ub {R:Type} (d:fv) (k:Int→Bool→Option R):mw d k=match tA d with|some n=>k n true|none=>k 0 false:=by
 unfold mw JF
 rw[right_eq]
 cases hr:RJ d with
 | false =>
  have:tA d=none:=by unfold tA; rw[if_neg (by simp[hr])]
  rw[this]; rfl
 | true =>
  by_cases he:d.exp<0
  ·have:tA d=none:=by unfold tA; rw[if_neg (by omega)]
   have c:decide (d.exp<(0:Int))=true:=by simpa using he
   rw[this]
   simp only[Bool.not_true,cond_false,c,cond_true]
  ·have c:decide (d.exp<(0:Int))=false:=by simpa using he
   have hb : -1000000000000000≤d.ao∧d.ao≤1000000000000000∧d.exp≤9:=by
    unfold RJ at hr
    split at hr
    ·simp at hr; omega
    ·simp at hr; omega
   have e:tA d=Ma d.exp.toNat d.ao:=by unfold tA; rw[if_pos ⟨hr,by omega⟩]
   rw[e]
   simp only[Bool.not_true,cond_false,c]
   unfold iK B1
   rw[cA (by omega) (by omega)]
   have ec:d.exp - 0=((d.exp.toNat:Nat):Int):=by omega
   rw[ec]
   exact shift_loop _ _ (fun a b=>k a b) (fun x=>rfl) (fun x=>rfl) d.exp.toNat (by omega) _ 0 d.ao (by omega) (by omega) (by omega) (by omega)
def YO (x:Json):Option Int:=if x.kind=4 then tA x.num else none
theorem num_eq {R:Type} (x:Json) (k:Int→Bool→Option R):∃z:Int,sD x k=match YO x with|some n=>k n true|none=>k z false:=by
 unfold sD OM YO
 have eta:(⟨x.num.ao,x.num.exp⟩:fv)=x.num:=rfl
 simp only[Ub]
 by_cases h:x.kind=4
 ·have h1:(x.kind==4)=true:=by simpa using h
  refine ⟨0,?_⟩
  rw[if_pos h]
  cases hd:tA x.num with
  | some n=>simp only[hd,cond_true,h1]
  | none=>simp only[hd,cond_false]
 ·have h1:(x.kind==4)=false:=by simpa using h
  refine ⟨(tA x.num).getD 0,?_⟩
  rw[if_neg h]
  cases hd:tA x.num with
  | some n=>simp only[hd,cond_true,h1,Option.getD_some]
  | none=>simp only[hd,cond_false,Option.getD_none]
def Wy (v:Json) (s:ah):Option Json:=if v.kind=7 then look s v.names v.items else none
theorem at7_ok {v:Json} (hv:FF v) {s:ah} {x:Json} (h:Wy v s=some x):FF x:=by
 unfold Wy at h
 split at h
 ·rw[RI]at h
  cases hp:v.names.findIdx? (s == ·)with
  | none=>rw[hp]at h; cases h
  | some j=>rw[hp]at h; exact hv.item (List.mem_of_getElem? h)
 ·cases h
theorem Num_eq {R:Type} (v:Json) (hv:FF v) (s:ah) (k:Int→Bool→Option R):sE v s k=match (Wy v s).bind YO with|some n=>k n true|none=>k 0 false:=by
 unfold sE OQ gm yp
 simp only[Json.eta]
 rw[find_eq v hv]
 show (match Wy v s with|some x=>_|none=>_)=_
 cases Wy v s with
 | none=>rfl
 | some x =>
  simp only[Bool.not_true,cond_false,Option.bind_some]
  obtain ⟨z,hz⟩:=num_eq x (fun y5 y6=>bif y6 then (k y5 true)else (k 0 false))
  refine hz.trans ?_
  cases YO x <;> rfl
def textF (x:Json):Option ah:=if x.kind=5 then some x.text else none
theorem Text_eq {R:Type} (v:Json) (hv:FF v) (s:ah) (k:ah→Bool→Option R):fC v s k=match (Wy v s).bind textF with|some n=>k n true|none=>k [] false:=by
 unfold fC LW eN tP mf Hg
 simp only[Json.eta]
 rw[find_eq v hv]
 show (match Wy v s with|some x=>_|none=>_)=_
 cases Wy v s with
 | none=>rfl
 | some x =>
  simp only[Bool.not_true,cond_false,Option.bind_some,textF]
  by_cases h:x.kind=5
  ·have h1:(x.kind==5)=true:=by simpa using h
   simp only[h1,cond_true,if_pos h]
  ·have h1:(x.kind==5)=false:=by simpa using h
   simp only[h1,cond_false,if_neg h]
def YP (x:Json):Option Bool:=if x.kind=3 then some true else if x.kind=2 then some false else none
theorem flag_eq {R:Type} (x:Json) (k:Bool→Bool→Option R):o3 x k=match YP x with|some b=>k b true|none=>k false false:=by
 unfold o3 L5 YP
 by_cases h:x.kind=3
 ·have h1:(x.kind==3)=true:=by simpa using h
  simp only[h1,cond_true,if_pos h]
 ·have h1:(x.kind==3)=false:=by simpa using h
  by_cases h':x.kind=2
  ·have h2:(x.kind==2)=true:=by simpa using h'
   simp only[h1,h2,cond_false,if_neg h,if_pos h']
  ·have h2:(x.kind==2)=false:=by simpa using h'
   simp only[h1,h2,cond_false,if_neg h,if_neg h']
theorem Flag_eq {R:Type} (v:Json) (hv:FF v) (s:ah) (k:Bool→Bool→Option R):o4 v s k=match (Wy v s).bind YP with|some n=>k n true|none=>k false false:=by
 unfold o4 L9 fF wK
 simp only[Json.eta]
 rw[find_eq v hv]
 show (match Wy v s with|some x=>_|none=>_)=_
 cases Wy v s with
 | none=>rfl
 | some x =>
  simp only[Bool.not_true,cond_false,Option.bind_some,flag_eq]
  cases YP x <;> rfl
def listF (x:Json):Option (List Json):=if x.kind=6 then some x.items else none
theorem List_eq {R:Type} (v:Json) (hv:FF v) (s:ah) (k:List Json→Bool→Option R):o0 v s k=match (Wy v s).bind listF with|some n=>k n true|none=>k [] false:=by
 unfold o0 L2 fE wH mg Hk
 simp only[Json.eta]
 rw[find_eq v hv]
 show (match Wy v s with|some x=>_|none=>_)=_
 cases hq:Wy v s with
 | none=>rfl
 | some x =>
  simp only[Bool.not_true,cond_false,Option.bind_some,listF]
  rw[YN x (at7_ok hv hq)]
  by_cases h:x.kind=6
  ·have h1:(x.kind==6)=true:=by simpa using h
   simp only[h1,cond_true,if_pos h]
  ·have h1:(x.kind==6)=false:=by simpa using h
   simp only[h1,cond_false,if_neg h]
end Go.Proofs.YtidfokedcnhahaaGreatDoor.Pu
/-
 Functions of the program as pure Lean functions, and the ties; printed by wip/tools/emit.py.
-/
set_option maxRecDepth 100000
namespace Go.Proofs.YtidfokedcnhahaaGreatDoor
open Go Go.aC
variable {R:Type}
/-! ### humpyard/humpyardref01.Make -/
abbrev JI (R:Type):Type:=Int→Int→(fv→Bool→Option R)→Option R
abbrev Mb:List cP := [.leaf (.int .i64), .leaf (.int .i64)]
abbrev Mc:List aW := []
def QX (fn:JI R):lh R Mb Mc:=fun x y k=>fn x.1 x.2.1 (fun q0 q1=>k (.tuple [.agg [.int .i64 q0.ao, .int .i64 q0.exp], .bool q1]) [])
def ref01_Make_s (fn:JI R):=aI Mb Mc (QX fn)
abbrev B5 (R:Type):Type:=Nat→Int→Int→fv→(Int→Int→fv→Option R)→(Int→Int→Bool→fv→Option R)→Option R
def xf:Hint := { live := [0,1,4],own := [],rows := [],cells := [],drop := [],out := [0,1,4,5] }
abbrev ox:Type:=Int×Int×fv
def Aw:ox→St:=fun d=>⟨.int .i64 d.1 :: .int .i64 d.2.1::U 2 (.ptr 0 0::U 32 ([])), [.cells [.int .i64 d.2.2.ao, .int .i64 d.2.2.exp]]⟩
def B6 (K:Ex→St→Option R) (q0:Int) (q1:Int) (q2:fv):Option R:=K (.exit 0) ⟨.int .i64 q0 :: .int .i64 q1::U 2 (.ptr 0 0::U 32 ([])), [.cells [.int .i64 q2.ao, .int .i64 q2.exp]]⟩
def B7 (K:Ex→St→Option R) (q0:Int) (q1:Int) (q2:Bool) (q3:fv):Option R:=K (.ret) ⟨.int .i64 q0 :: .int .i64 q1::U 2 (.ptr 0 0 :: .bool q2::U 31 ([])), [.cells [.int .i64 q3.ao, .int .i64 q3.exp]]⟩
abbrev sI:List cP := .leaf (.int .i64) :: .leaf (.int .i64)::PU 2 (.leaf (.ptr 0 0)::PU 32 ([]))
abbrev sJ:List aW := [.cells [.int .i64, .int .i64]]
def Ku (x:cP.bQ sI) (y:aW.bQ sJ):Nat:=(Int.natAbs x.1+Int.natAbs x.2.1+fv.fu (⟨y.1.1,y.1.2.1⟩:fv)+64)
def UP (x:cP.bQ sI) (y:aW.bQ sJ):ox:=(x.1,x.2.1,(⟨y.1.1,y.1.2.1⟩:fv))
def IG (L:B5 R):wW R sI sJ:=fun x y K=>L (Ku x y) x.1 x.2.1 (⟨y.1.1,y.1.2.1⟩:fv) (B6 K) (B7 K)
section
variable (cn:B5 R)
def jW (dz:Int→Int→fv→Option R) (x3:Int) (x4:Int) (x5:fv) (e0:Int→Int→fv→Option R) (e1:Int→Int→Bool→fv→Option R):Option R :=
 bif ((Int.tmod x3 10)==0)then (bif (decide (x4>(1099511627776:Int)))then (e1 (IntKind.i64.wrap (Int.tdiv x3 10)) x4 false (⟨0,0⟩:fv))else (dz (IntKind.i64.wrap (Int.tdiv x3 10)) (IntKind.i64.wrap (x4+1)) x5))else (e0 x3 x4 x5)
def Kv (K:Ex→St→Option R) (rc:ox→Option R) (d:ox):Option R:=jW (fun z0 z1 z2=>rc (z0,z1,z2)) d.1 d.2.1 d.2.2 (B6 K) (B7 K)
def B8:Nat→Option (Hint×cL R):=fun i=>match i with
 | 3=>some (xf,(cG sI sJ (IG cn) iL))
 | _=>none
theorem Qf (K:Ex→St→Option R) (rc:St→Option R) (d:ox):roundOf tt (cR []) (B8 cn) 0 ((aA (bc Tryz.f101)).getD 0 .skip) xf (Aw d) rc K=Kv K (fun d=>rc (Aw d)) d:=by kernel_rfl
def tX (x1:Int) (x2:Int) (k0:fv→Bool→Option R):Option R :=
 bif (x1==0)then (k0 (⟨0,0⟩:fv) true)else (cn (Int.natAbs x1+Int.natAbs x2+fv.fu (⟨0,0⟩:fv)+64) x1 x2 (⟨0,0⟩:fv) (fun y6 y7 y8=>bif (decide (y6>(1000000000000000:Int)))then (k0 (⟨0,0⟩:fv) false)else (bif (decide (y6<(-1000000000000000:Int)))then (k0 (⟨0,0⟩:fv) false)else (bif (decide (y7>(9:Int)))then (k0 (⟨0,0⟩:fv) false)else (bif (decide (y7<(-9:Int)))then (k0 (⟨0,0⟩:fv) false)else (k0 (⟨y6,y7⟩:fv) true))))) (fun y9 um vQ yK=>k0 yK vQ))
theorem ref01_Make_ok:dE (R:=R) tt [] (B8 cn) false Tryz.f101 Mb Mc (QX (tX cn)):=fun x y k=>by kernel_rfl
end
def cn:B5 R
 | 0,_,_,_,_,_=>none
 | n+1,gk,gn,gw,e0,e1=>jW (fun gk gn gw=>cn n gk gn gw e0 e1) gk gn gw e0 e1
def Kw (K:Ex→St→Option R) (n:Nat) (d:ox):Option R:=cn n d.1 d.2.1 d.2.2 (B6 K) (B7 K)
theorem To (other:cL R) (ho:gW tt (cR []) (B8 (R:=R) cn) 0 ((aA (bc Tryz.f101)).getD 0 .skip) xf other):gW tt (cR []) (B8 (R:=R) cn) 0 ((aA (bc Tryz.f101)).getD 0 .skip) xf (cG sI sJ (IG (cn)) other) :=
 cQ (A:=Kw) ho (dV Aw (Kv) (Kw) (fun _ _=>by kernel_rfl) (Qf cn) (fun _ _ _=>by kernel_rfl)) Ku UP (fun _ _=>by kernel_rfl) (fun _ _ _=>by kernel_rfl)
def tY:JI R:=fun x1 x2 k0=>tX cn x1 x2 k0
theorem UQ (R:Type):∀a∈aA (bc Tryz.f101),gK tt (cR []) (B8 (R:=R) cn) 0 a:=by
 refine eY 1 (by kernel_rfl) fun i hi => ?_
 match i,hi with
 | 0,_=>exact cz (by kernel_rfl) (To _ dv)
 | n+1,hi=>omega
theorem ref01_Make_S_ok (R:Type):k8 Tryz.prog 101 (ref01_Make_s (tY (R:=R))):=bt TT mixed .n rfl rfl rfl rfl (UQ R) (ref01_Make_ok cn)
end Go.Proofs.YtidfokedcnhahaaGreatDoor
/-
 Functions of the program as pure Lean functions, and the ties; printed by wip/tools/emit.py.
-/
set_option maxRecDepth 100000
namespace Go.Proofs.YtidfokedcnhahaaGreatDoor
open Go Go.aC
variable {R:Type}
/-! ### humpyard/humpyardref04.has -/
abbrev Ge (R:Type):Type:=(List ah)→ah→(Bool→Option R)→Option R
abbrev OU:List cP := [.leaf (.sl .str), .leaf (.str)]
abbrev OV:List aW := []
def Tp (fn:Ge R):lh R OU OV:=fun x y k=>fn x.1 x.2.1 (fun q0=>k (.bool q0) [])
def VL (fn:Ge R):=aI OU OV (Tp fn)
abbrev Dy (R:Type):Type:=Nat→(List ah)→ah→Int→(Option R)→(Bool→Option R)→Option R
def zK:Hint := { live := [0,1,5],own := [],rows := [],cells := [],drop := [],out := [4] }
abbrev pN:Type:=(List ah)×ah×Int
def B9:pN→St:=fun d=>⟨.sl .str d.1 .no :: .str d.2.1::U 3 (.int .i64 d.2.2::U 12 ([])), []⟩
def Dz (K:Ex→St→Option R):Option R:=K (.exit 0) ⟨U 18 ([]), []⟩
def DA (K:Ex→St→Option R) (q0:Bool):Option R:=K (.ret) ⟨U 4 (.bool q0::U 13 ([])), []⟩
abbrev uG:List cP := .leaf (.sl .str) :: .leaf (.str)::PU 3 (.leaf (.int .i64)::PU 12 ([]))
abbrev uH:List aW := []
def M1 (x:cP.bQ uG) (y:aW.bQ uH):Nat:=(List.length x.1+List.length x.2.1+Int.natAbs x.2.2.2.2.2.1+64)
def Wz (x:cP.bQ uG) (y:aW.bQ uH):pN:=(x.1,x.2.1,x.2.2.2.2.2.1)
def Kx (L:Dy R):wW R uG uH:=fun x y K=>L (M1 x y) x.1 x.2.1 x.2.2.2.2.2.1 (Dz K) (DA K)
section
variable (er:Dy R)
def M3 (dz:(List ah)→ah→Int→Option R) (x3:List ah) (x4:ah) (x5:Int) (e0:Option R) (e1:Bool→Option R):Option R :=
 bif (decide (x5<(x3.length:Int)))then (cb (decide ((0:Int)≤x5)&&decide (x5<x3.length)) (bif ((x3.getD x5.toNat (Ty.aZ .str))==x4)then (e1 true)else (dz x3 x4 (IntKind.i64.wrap (x5+1)))))else (e0)
def M4 (K:Ex→St→Option R) (rc:pN→Option R) (d:pN):Option R:=M3 (fun z0 z1 z2=>rc (z0,z1,z2)) d.1 d.2.1 d.2.2 (Dz K) (DA K)
def Ey:Nat→Option (Hint×cL R):=fun i=>match i with
 | 2=>some (zK,(cG uG uH (Kx er) iL))
 | _=>none
theorem RL (K:Ex→St→Option R) (rc:St→Option R) (d:pN):roundOf tt (cR []) (Ey er) 0 ((aA (bc Tryz.f154)).getD 0 .skip) zK (B9 d) rc K=M4 K (fun d=>rc (B9 d)) d:=by kernel_rfl
def VM (x1:List ah) (x2:ah) (k0:Bool→Option R):Option R :=
 er (List.length x1+List.length x2+Int.natAbs 0+64) x1 x2 0 (k0 false) (fun y6=>k0 y6)
theorem ref04_has_ok:dE (R:=R) tt [] (Ey er) false Tryz.f154 OU OV (Tp (VM er)):=fun x y k=>by kernel_rfl
end
def er:Dy R
 | 0,_,_,_,_,_=>none
 | n+1,gk,gn,gw,e0,e1=>M3 (fun gk gn gw=>er n gk gn gw e0 e1) gk gn gw e0 e1
def M5 (K:Ex→St→Option R) (n:Nat) (d:pN):Option R:=er n d.1 d.2.1 d.2.2 (Dz K) (DA K)
theorem UR (other:cL R) (ho:gW tt (cR []) (Ey (R:=R) er) 0 ((aA (bc Tryz.f154)).getD 0 .skip) zK other):gW tt (cR []) (Ey (R:=R) er) 0 ((aA (bc Tryz.f154)).getD 0 .skip) zK (cG uG uH (Kx (er)) other) :=
 cQ (A:=M5) ho (dV B9 (M4) (M5) (fun _ _=>by kernel_rfl) (RL er) (fun _ _ _=>by kernel_rfl)) M1 Wz (fun _ _=>by kernel_rfl) (fun _ _ _=>by kernel_rfl)
def iq:Ge R:=fun x1 x2 k0=>VM er x1 x2 k0
theorem WA (R:Type):∀a∈aA (bc Tryz.f154),gK tt (cR []) (Ey (R:=R) er) 0 a:=by
 refine eY 1 (by kernel_rfl) fun i hi => ?_
 match i,hi with
 | 0,_=>exact cz (by kernel_rfl) (UR _ dv)
 | n+1,hi=>omega
theorem YQ (R:Type):k8 Tryz.prog 154 (VL (iq (R:=R))):=bt TT mixed .n rfl rfl rfl rfl (WA R) (ref04_has_ok er)
end Go.Proofs.YtidfokedcnhahaaGreatDoor
/-
 Functions of the program as pure Lean functions, and the ties; printed by wip/tools/emit.py.
-/
set_option maxRecDepth 100000
namespace Go.Proofs.YtidfokedcnhahaaGreatDoor
open Go Go.aC
variable {R:Type}
/-! ### humpyard/quote.Quote -/
abbrev wL (R:Type):Type:=ah→(ah→Bool→Option R)→Option R
abbrev JJ:List cP := [.leaf (.str)]
abbrev JK:List aW := []
def OW (fn:wL R):lh R JJ JK:=fun x y k=>fn x.1 (fun q0 q1=>k (.tuple [.str q0, .bool q1]) [])
def JL (fn:wL R):=aI JJ JK (OW fn)
abbrev Ax (R:Type):Type:=Nat→(List Int)→ah→Nat→((List Int)→Option R)→Option R
def vD:Hint := { live := [4,13],own := [],rows := [],cells := [],drop := [],out := [2,3,4] }
abbrev mP:Type:=(List Int)×ah×Nat
def yq:mP→St:=fun d=>⟨U 4 (.ptr 0 0::U 8 (.ptr 1 0::U 27 ([]))), [.mB (.sl (.int .u8) d.1 (.own 2)), .iter d.2.1 d.2.2, .tok]⟩
def Ay (K:Ex→St→Option R) (q0:List Int):Option R:=K (.exit 0) ⟨U 4 (.ptr 0 0::U 36 ([])), [.mB (.sl (.int .u8) q0 (.own 1)), .tok]⟩
abbrev qw:List cP:=PU 4 (.leaf (.ptr 0 0)::PU 8 (.leaf (.ptr 1 0)::PU 27 ([])))
abbrev qx:List aW := [.mB (.T4 (.int .u8) 2), .iter, .tok]
def IH (x:cP.bQ qw) (y:aW.bQ qx):Nat:=(List.length y.1+List.length y.2.1.1+64)
def Tq (x:cP.bQ qw) (y:aW.bQ qx):mP:=(y.1,y.2.1.1,y.2.1.2)
def Hm (L:Ax R):wW R qw qx:=fun x y K=>L (IH x y) y.1 y.2.1.1 y.2.1.2 (Ay K)
section
variable (bN:sb R) (aj:dS R) (ad:dT R) (eX:BM R) (ae:db R) (ak:eZ R) (cD:Ax R)
def uX:List (oq R) := [(165,true,(DV bN ax)),(126,false,(gZ ad (gY aj ax))),(169,true,(QL eX ax)),(124,false,(eV ae ax)),(170,false,(kI ak ax)),(84,false,(Lr R))]
def kQ (dz:(List Int)→ah→Nat→Option R) (x4:List Int) (x5:ah) (x6:Nat) (e0:(List Int)→Option R):Option R :=
 bif decide (x6<x5.length)then (eX ((mm x5 x6).1:Int) (fun y7=>bif (y7 != 0)then (ad 92 x4 (fun y8=>ad y7 y8 (fun y9=>dz y9 x5 (x6+(mm x5 x6).2))))else (bif (decide (((mm x5 x6).1:Int)<(32:Int)))then (ae ([92,117,48,48]:ah) x4 (fun um vQ=>cb (decide ((0:Int)≤(Int.fdiv ((mm x5 x6).1:Int) (2 ^ (min 4 IntKind.i32.bits))))&&decide ((Int.fdiv ((mm x5 x6).1:Int) (2 ^ (min 4 IntKind.i32.bits)))<(16:Int))) (ad ((([48,49,50,51,52,53,54,55,56,57,97,98,99,100,101,102]:ah).getD ((Int.fdiv ((mm x5 x6).1:Int) (2 ^ (min 4 IntKind.i32.bits))).toNat) 0).toNat:Int) vQ (fun yK=>cb (decide ((0:Int)≤(IntKind.i32.wrap ((BitVec.ofInt IntKind.i32.bits ((mm x5 x6).1:Int) &&& BitVec.ofInt IntKind.i32.bits 15).toNat:Int)))&&decide ((IntKind.i32.wrap ((BitVec.ofInt IntKind.i32.bits ((mm x5 x6).1:Int) &&& BitVec.ofInt IntKind.i32.bits 15).toNat:Int))<(16:Int))) (ad ((([48,49,50,51,52,53,54,55,56,57,97,98,99,100,101,102]:ah).getD ((IntKind.i32.wrap ((BitVec.ofInt IntKind.i32.bits ((mm x5 x6).1:Int) &&& BitVec.ofInt IntKind.i32.bits 15).toNat:Int)).toNat) 0).toNat:Int) yK (fun HJ=>dz HJ x5 (x6+(mm x5 x6).2)))))))else (ak ((mm x5 x6).1:Int) x4 (fun G1 Iy=>dz Iy x5 (x6+(mm x5 x6).2))))))else (e0 x4)
def II (K:Ex→St→Option R) (rc:mP→Option R) (d:mP):Option R:=kQ ad eX ae ak (fun z0 z1 z2=>rc (z0,z1,z2)) d.1 d.2.1 d.2.2 (Ay K)
def zo:Nat→Option (Hint×cL R):=fun i=>match i with
 | 6=>some (vD,(cG qw qx (Hm cD) iL))
 | _=>none
theorem OX (K:Ex→St→Option R) (rc:St→Option R) (d:mP):roundOf tt (cR (uX bN aj ad eX ae ak)) (zo cD) 0 ((aA (bc Tryz.f123)).getD 0 .skip) vD (yq d) rc K=II ad eX ae ak K (fun d=>rc (yq d)) d:=by kernel_rfl
def uY (x1:ah) (k0:ah→Bool→Option R):Option R :=
 bN x1 (fun y2=>bif (!y2)then (k0 ([]:ah) false)else (aj 34 (fun y3=>cD (List.length y3+List.length x1+64) y3 x1 0 (fun EN=>ad 34 EN (fun Sb=>k0 (vO Sb) true)))))
theorem YR:dE (R:=R) tt (uX bN aj ad eX ae ak) (zo cD) false Tryz.f123 JJ JK (OW (uY bN aj ad cD)):=fun x y k=>by kernel_rfl
end
theorem WB:cu (R:=R) Tryz.prog (uX (R:=R) bN aj ad eX ae ak) := .c (Ds R) <| .f (jz R _ (jy R _ (jm _))) rfl <| .c (UG R) <| .d (fI R) rfl <| .d (oj R) rfl <| .s (W7) PO <| .n
def cD:Ax R
 | 0,_,_,_,_=>none
 | n+1,gk,gn,gw,e0=>kQ ad eX ae ak (fun gk gn gw=>cD n gk gn gw e0) gk gn gw e0
def IJ (K:Ex→St→Option R) (n:Nat) (d:mP):Option R:=cD n d.1 d.2.1 d.2.2 (Ay K)
theorem RM (other:cL R) (ho:gW tt (cR (uX (R:=R) bN aj ad eX ae ak)) (zo (R:=R) cD) 0 ((aA (bc Tryz.f123)).getD 0 .skip) vD other):gW tt (cR (uX (R:=R) bN aj ad eX ae ak)) (zo (R:=R) cD) 0 ((aA (bc Tryz.f123)).getD 0 .skip) vD (cG qw qx (Hm (cD)) other) :=
 cQ (A:=IJ) ho (dV yq (II ad eX ae ak) (IJ) (fun _ _=>by kernel_rfl) (OX bN aj ad eX ae ak cD) (fun _ _ _=>by kernel_rfl)) IH Tq (fun _ _=>by kernel_rfl) (fun _ _ _=>by kernel_rfl)
def dZ:wL R:=fun x1 k0=>uY bN aj ad cD x1 k0
theorem Tr (R:Type):∀a∈aA (bc Tryz.f123),gK tt (cR (uX (R:=R) bN aj ad eX ae ak)) (zo (R:=R) cD) 0 a:=by
 refine eY 1 (by kernel_rfl) fun i hi => ?_
 match i,hi with
 | 0,_=>exact cz (by kernel_rfl) (RM _ dv)
 | n+1,hi=>omega
theorem Ky (R:Type):k8 Tryz.prog 123 (JL (dZ (R:=R))):=bt TT mixed (WB (R:=R)) rfl rfl rfl rfl (Tr R) (YR bN aj ad eX ae ak cD)
/-! ### humpyard/json.write$1 -/
abbrev qy (R:Type):Type:=ah→((List Int)→Option R)→Option R
abbrev yr:List cP := [.leaf (.str), .leaf (.ptr 0 0)]
abbrev yt:List aW := [.cells [.ptr 1 0], .mB (.bx)]
def Ez (fn:qy R):lh R yr yt:=fun x y k=>fn x.1 (fun q0=>k (.tuple []) [.cells [.ptr 1 0], .mB (.sl (.int .u8) q0 (.own 2)), .tok])
def FG (fn:qy R):=aI yr yt (Ez fn)
section
variable (dZ:wL R) (ai:dD R)
def FH:List (oq R) := [(123,true,(JL dZ ax)),(124,false,(gJ ai ax))]
def FI (x1:ah) (k0:(List Int)→Option R):Option R :=
 dZ x1 (fun y2 y3=>ai y2 (fun y4 y5=>k0 y5))
theorem OY:dE (R:=R) tt (FH dZ ai) rS false Tryz.f122 yr yt (Ez (FI dZ ai)):=fun x y k=>by kernel_rfl
end
theorem NC:cu (R:=R) Tryz.prog (FH (R:=R) dZ ai) := .c (Ky R) <| .d (iQ R) rfl <| .n
def du:qy R:=fun x1 k0=>FI dZ ai x1 k0
theorem Md (R:Type):k8 Tryz.prog 122 (FG (du (R:=R))):=bt TT mixed (NC (R:=R)) rfl rfl rfl rfl cd (OY dZ ai)
/-! ### humpyard/json.write$1 -/
abbrev my (R:Type):Type:=ah→(List Int)→((List Int)→Option R)→Option R
abbrev yu:List cP := [.leaf (.str), .leaf (.ptr 0 0)]
abbrev yv:List aW := [.cells [.ptr 1 0], .mB (.T4 (.int .u8) 2), .tok]
def EA (fn:my R):lh R yu yv:=fun x y k=>fn x.1 y.2.1 (fun q0=>k (.tuple []) [.cells [.ptr 1 0], .mB (.sl (.int .u8) q0 (.own 3)), .dead, .tok])
def yw (fn:my R):=aI yu yv (EA fn)
section
variable (dZ:wL R) (ae:db R)
def FJ:List (oq R) := [(123,true,(JL dZ ax)),(124,false,(eV ae ax))]
def FK (x1:ah) (x2:List Int) (k0:(List Int)→Option R):Option R :=
 dZ x1 (fun y3 y4=>ae y3 x2 (fun y5 y6=>k0 y6))
theorem OZ:dE (R:=R) tt (FJ dZ ae) rS false Tryz.f122 yu yv (EA (FK dZ ae)):=fun x y k=>by kernel_rfl
end
theorem ND:cu (R:=R) Tryz.prog (FJ (R:=R) dZ ae) := .c (Ky R) <| .d (fI R) rfl <| .n
def aL:my R:=fun x1 x2 k0=>FK dZ ae x1 x2 k0
theorem Ca (R:Type):k8 Tryz.prog 122 (yw (aL (R:=R))):=bt TT mixed (ND (R:=R)) rfl rfl rfl rfl cd (OZ dZ ae)
/-! ### humpyard/json.write -/
abbrev dh (R:Type):Type:=Json→(List Int)→((List Int)→Option R)→Option R
abbrev hZ:List cP := [.leaf (.ptr 0 0), .agg [.int .i64, .int .i64, .int .i64, .str, .sl .str, .sl .json]]
abbrev ia:List aW := [.mB (.T4 (.int .u8) 1), .tok]
def ew (fn:dh R):lh R hZ ia:=fun x y k=>fn (⟨x.2.1.1,⟨x.2.1.2.1,x.2.1.2.2.1⟩,x.2.1.2.2.2.1,x.2.1.2.2.2.2.1,x.2.1.2.2.2.2.2.1⟩:Json) y.1 (fun q0=>k (.tuple []) [.mB (.sl (.int .u8) q0 (.own 2)), .dead, .tok])
def IK (fn:dh R):=aI hZ ia (ew fn)
abbrev sK (R:Type):Type:=Nat→ah→(List Json)→Int→Int→(List Int)→Json→(ah→(List Int)→Option R)→Option R
def nY:Hint := { live := [2,3,4,5,43,44,45],own := [],rows := [],cells := [],drop := [],out := [2,5] }
abbrev iW:Type:=ah×(List Json)×Int×Int×(List Int)×Json
def qX:iW→St:=fun d=>⟨U 2 (.ptr 2 0 :: .ptr 3 0 :: .func 122 [] [.ptr 2 0] :: .str d.1::U 37 (.sl .json d.2.1 .no :: .int .i64 d.2.2.1 :: .int .i64 d.2.2.2.1::U 28 ([]))), [.mB (.sl (.int .u8) d.2.2.2.2.1 (.own 4)), .dead, .cells [.ptr 0 0], .cells [.int .i64 d.2.2.2.2.2.kind, .int .i64 d.2.2.2.2.2.num.ao, .int .i64 d.2.2.2.2.2.num.exp, .str d.2.2.2.2.2.text, .sl .str d.2.2.2.2.2.names .no, .sl .json d.2.2.2.2.2.items .no], .tok]⟩
def sL (K:Ex→St→Option R) (q0:ah) (q1:List Int):Option R:=K (.exit 1) ⟨U 2 (.ptr 2 0::U 2 (.str q0::U 68 ([]))), [.mB (.sl (.int .u8) q1 (.own 3)), .dead, .cells [.ptr 0 0], .tok]⟩
abbrev kR:List cP:=PU 2 (.leaf (.ptr 2 0) :: .leaf (.ptr 3 0) :: .func 122 [] [.ptr 2 0] :: .leaf (.str)::PU 37 (.leaf (.sl .json) :: .leaf (.int .i64) :: .leaf (.int .i64)::PU 28 ([])))
abbrev kS:List aW := [.mB (.T4 (.int .u8) 4), .dead, .cells [.ptr 0 0], .cells [.int .i64, .int .i64, .int .i64, .str, .sl .str, .sl .json], .tok]
def Cb (x:cP.bQ kR) (y:aW.bQ kS):Nat:=(List.length x.2.2.2.2.2.1+List.length ((t8 (t8 (t8 (t8 (t8 x))))).2.2.2.1)+Int.natAbs ((t8 (t8 (t8 (t8 (t8 x))))).2.2.2.2.1)+Int.natAbs ((t8 (t8 (t8 (t8 (t8 x))))).2.2.2.2.2.1)+List.length y.1+Json.fu (⟨y.2.2.2.1.1,⟨y.2.2.2.1.2.1,y.2.2.2.1.2.2.1⟩,y.2.2.2.1.2.2.2.1,y.2.2.2.1.2.2.2.2.1,y.2.2.2.1.2.2.2.2.2.1⟩:Json)+64)
def Me (x:cP.bQ kR) (y:aW.bQ kS):iW:=(x.2.2.2.2.2.1,(t8 (t8 (t8 (t8 (t8 x))))).2.2.2.1,(t8 (t8 (t8 (t8 (t8 x))))).2.2.2.2.1,(t8 (t8 (t8 (t8 (t8 x))))).2.2.2.2.2.1,y.1,(⟨y.2.2.2.1.1,⟨y.2.2.2.1.2.1,y.2.2.2.1.2.2.1⟩,y.2.2.2.1.2.2.2.1,y.2.2.2.1.2.2.2.2.1,y.2.2.2.1.2.2.2.2.2.1⟩:Json))
def A1 (L:sK R):wW R kR kS:=fun x y K=>L (Cb x y) x.2.2.2.2.2.1 ((t8 (t8 (t8 (t8 (t8 x))))).2.2.2.1) ((t8 (t8 (t8 (t8 (t8 x))))).2.2.2.2.1) ((t8 (t8 (t8 (t8 (t8 x))))).2.2.2.2.2.1) y.1 (⟨y.2.2.2.1.1,⟨y.2.2.2.1.2.1,y.2.2.2.1.2.2.1⟩,y.2.2.2.1.2.2.2.1,y.2.2.2.1.2.2.2.2.1,y.2.2.2.1.2.2.2.2.2.1⟩:Json) (sL K)
section
variable (bM:sc R) (ad:dT R) (ae:db R) (az:dh R) (aL:my R) (aT:sK R)
def mQ:List (oq R) := [(125,true,(E2 bM ax)),(126,false,(gZ ad ax)),(124,false,(eV ae ax)),(83,false,(aI hZ ia (ew az) ax)),(122,false,(yw aL ax))]
def iX (dz:ah→(List Json)→Int→Int→(List Int)→Json→Option R) (ot:ah) (tH:List Json) (lI:Int) (oW:Int) (Fb:List Int) (uW:Json) (e0:ah→(List Int)→Option R):Option R :=
 bif (decide (oW<lI))then (cb (decide ((0:Int)≤oW)&&decide (oW<tH.length)) (bif (decide (oW>(0:Int)))then (ad 44 Fb (fun GQ=>bif (uW.kind==7)then (cb (decide ((0:Int)≤oW)&&decide (oW<uW.names.length)) (aL (uW.names.getD oW.toNat (Ty.aZ .str)) GQ (fun y22=>ad 58 y22 (fun y23=>az (⟨(tH.getD oW.toNat (Ty.aZ .json)).kind,⟨(tH.getD oW.toNat (Ty.aZ .json)).num.ao,(tH.getD oW.toNat (Ty.aZ .json)).num.exp⟩,(tH.getD oW.toNat (Ty.aZ .json)).text,(tH.getD oW.toNat (Ty.aZ .json)).names,(tH.getD oW.toNat (Ty.aZ .json)).items⟩:Json) y23 (fun y24=>dz ot tH lI (IntKind.i64.wrap (oW+1)) y24 (⟨uW.kind,⟨uW.num.ao,uW.num.exp⟩,uW.text,uW.names,uW.items⟩:Json))))))else (az (⟨(tH.getD oW.toNat (Ty.aZ .json)).kind,⟨(tH.getD oW.toNat (Ty.aZ .json)).num.ao,(tH.getD oW.toNat (Ty.aZ .json)).num.exp⟩,(tH.getD oW.toNat (Ty.aZ .json)).text,(tH.getD oW.toNat (Ty.aZ .json)).names,(tH.getD oW.toNat (Ty.aZ .json)).items⟩:Json) GQ (fun Qx=>dz ot tH lI (IntKind.i64.wrap (oW+1)) Qx (⟨uW.kind,⟨uW.num.ao,uW.num.exp⟩,uW.text,uW.names,uW.items⟩:Json)))))else (bif (uW.kind==7)then (cb (decide ((0:Int)≤oW)&&decide (oW<uW.names.length)) (aL (uW.names.getD oW.toNat (Ty.aZ .str)) Fb (fun SP=>ad 58 SP (fun Jh=>az (⟨(tH.getD oW.toNat (Ty.aZ .json)).kind,⟨(tH.getD oW.toNat (Ty.aZ .json)).num.ao,(tH.getD oW.toNat (Ty.aZ .json)).num.exp⟩,(tH.getD oW.toNat (Ty.aZ .json)).text,(tH.getD oW.toNat (Ty.aZ .json)).names,(tH.getD oW.toNat (Ty.aZ .json)).items⟩:Json) Jh (fun Qy=>dz ot tH lI (IntKind.i64.wrap (oW+1)) Qy (⟨uW.kind,⟨uW.num.ao,uW.num.exp⟩,uW.text,uW.names,uW.items⟩:Json))))))else (az (⟨(tH.getD oW.toNat (Ty.aZ .json)).kind,⟨(tH.getD oW.toNat (Ty.aZ .json)).num.ao,(tH.getD oW.toNat (Ty.aZ .json)).num.exp⟩,(tH.getD oW.toNat (Ty.aZ .json)).text,(tH.getD oW.toNat (Ty.aZ .json)).names,(tH.getD oW.toNat (Ty.aZ .json)).items⟩:Json) Fb (fun YC=>dz ot tH lI (IntKind.i64.wrap (oW+1)) YC (⟨uW.kind,⟨uW.num.ao,uW.num.exp⟩,uW.text,uW.names,uW.items⟩:Json))))))else (e0 ot Fb)
def Cc (K:Ex→St→Option R) (rc:iW→Option R) (d:iW):Option R:=iX ad az aL (fun z0 z1 z2 z3 z4 z5=>rc (z0,z1,z2,z3,z4,z5)) d.1 d.2.1 d.2.2.1 d.2.2.2.1 d.2.2.2.2.1 d.2.2.2.2.2 (sL K)
def qz:Nat→Option (Hint×cL R):=fun i=>match i with
 | 18=>some (nY,(cG kR kS (A1 aT) iL))
 | _=>none
theorem HY (K:Ex→St→Option R) (rc:St→Option R) (d:iW):roundOf tt (cR (mQ bM ad ae az aL)) (qz aT) 2 ((aA (bc Tryz.f83)).getD 0 .skip) nY (qX d) rc K=Cc ad az aL K (fun d=>rc (qX d)) d:=by kernel_rfl
def Cd (x1:Json) (x2:List Int) (k0:(List Int)→Option R):Option R :=
 let j33:=fun (z13:ah)=>cb (decide ((0:Int)<z13.length)) (ad ((z13.getD 0 0).toNat:Int) x2 (fun G1=>aT (List.length z13+List.length x1.items+Int.natAbs (x1.items.length:Int)+Int.natAbs 0+List.length G1+Json.fu (⟨x1.kind,⟨x1.num.ao,x1.num.exp⟩,x1.text,x1.names,x1.items⟩:Json)+64) z13 x1.items (x1.items.length:Int) 0 G1 (⟨x1.kind,⟨x1.num.ao,x1.num.exp⟩,x1.text,x1.names,x1.items⟩:Json) (fun Xa y31=>cb (decide ((1:Int)<Xa.length)) (ad ((Xa.getD 1 0).toNat:Int) y31 (fun UI=>k0 UI))))); bif (x1.kind==1)then (ae ([110,117,108,108]:ah) x2 (fun y3 y4=>k0 y4))else (bif (x1.kind==2)then (ae ([102,97,108,115,101]:ah) x2 (fun y5 y6=>k0 y6))else (bif (x1.kind==3)then (ae ([116,114,117,101]:ah) x2 (fun y7 y8=>k0 y8))else (bif (x1.kind==4)then (bM x1.num (fun y9=>ae y9 x2 (fun um vQ=>k0 vQ)))else (bif (x1.kind==5)then (aL x1.text x2 (fun yK=>k0 yK))else (bif (x1.kind==7)then (j33 ([123,125]:ah))else (j33 ([91,93]:ah)))))))
theorem RN:dE (R:=R) tt (mQ bM ad ae az aL) (qz aT) false Tryz.f83 hZ ia (ew (Cd bM ad ae aL aT)):=fun x y k=>by kernel_rfl
end
theorem Qg (az:dh R) (nH:aC.Spec.Ok Tryz.prog 83 (aI hZ ia (ew az) ax)):cu (R:=R) Tryz.prog (mQ (R:=R) bM ad ae az aL) := .c (G5 R) <| .d (jz R) rfl <| .d (fI R) rfl <| .f nH rfl <| .d (Ca R) rfl <| .n
def aT (az:dh R):sK R
 | 0,_,_,_,_,_,_,_=>none
 | n+1,gk,gn,gw,mC,wa,xT,e0=>iX ad az aL (fun gk gn gw mC wa xT=>aT az n gk gn gw mC wa xT e0) gk gn gw mC wa xT e0
def Ce (az:dh R) (K:Ex→St→Option R) (n:Nat) (d:iW):Option R:=aT az n d.1 d.2.1 d.2.2.1 d.2.2.2.1 d.2.2.2.2.1 d.2.2.2.2.2 (sL K)
theorem Kz (az:dh R) (other:cL R) (ho:gW tt (cR (mQ (R:=R) bM ad ae az aL)) (qz (R:=R) (aT az)) 2 ((aA (bc Tryz.f83)).getD 0 .skip) nY other):gW tt (cR (mQ (R:=R) bM ad ae az aL)) (qz (R:=R) (aT az)) 2 ((aA (bc Tryz.f83)).getD 0 .skip) nY (cG kR kS (A1 (aT az)) other) :=
 cQ (A:=Ce az) ho (dV qX (Cc ad az aL) (Ce az) (fun _ _=>by kernel_rfl) (HY bM ad ae az aL (aT az)) (fun _ _ _=>by kernel_rfl)) Cb Me (fun _ _=>by kernel_rfl) (fun _ _ _=>by kernel_rfl)
def Cf (az:dh R):dh R:=fun x1 x2 k0=>Cd bM ad ae aL (aT az) x1 x2 k0
theorem NF (R:Type) (az:dh R) (nH:aC.Spec.Ok Tryz.prog 83 (aI hZ ia (ew az) ax)):∀a∈aA (bc Tryz.f83),gK tt (cR (mQ (R:=R) bM ad ae az aL)) (qz (R:=R) (aT az)) 2 a:=by
 refine eY 1 (by kernel_rfl) fun i hi => ?_
 match i,hi with
 | 0,_=>exact cz (by kernel_rfl) (Kz az _ dv)
 | n+1,hi=>omega
theorem NG (R:Type) (az:dh R) (nH:aC.Spec.Ok Tryz.prog 83 (aI hZ ia (ew az) ax)):k8 Tryz.prog 83 (IK (Cf az)):=bt TT mixed (Qg az nH) rfl rfl rfl rfl (NF R az nH) (RN bM ad ae az aL (aT az))
def di:Nat→dh R
 | 0,_,_,_=>none
 | n+1,gk,gn,k0'=>Cf (di n) gk gn k0'
theorem json_write_9953_N_succ (n:Nat):di (R:=R) (n+1)=Cf (di n):=by kernel_rfl
theorem O0 (R:Type):∀n,aC.Spec.Ok Tryz.prog 83 (aI hZ ia (ew (di (R:=R) n)) ax) :=
 AO (run:=fun n=>ew (di (R:=R) n)) (fun x y k=>by kernel_rfl) fun n hyp=>NG R (di n) hyp ax (jm _)
def bT:dh R:=fun x1 x2 k0=>di (Json.depth x1+2) x1 x2 k0
theorem O1 (R:Type):ew (R:=R) bT=fun x y k=>ew (di (Json.depth (⟨x.2.1.1,⟨x.2.1.2.1,x.2.1.2.2.1⟩,x.2.1.2.2.2.1,x.2.1.2.2.2.2.1,x.2.1.2.2.2.2.2.1⟩:Json)+2)) x y k:=by kernel_rfl
theorem O2 (R:Type) (other:aC.Spec R) (ho:aC.Spec.Ok Tryz.prog 83 other):aC.Spec.Ok Tryz.prog 83 (aI hZ ia (ew bT) other) :=
 GN (Ka (run:=fun n=>ew (di (R:=R) n)) (fun x y=>(Json.depth (⟨x.2.1.1,⟨x.2.1.2.1,x.2.1.2.2.1⟩,x.2.1.2.2.2.1,x.2.1.2.2.2.2.1,x.2.1.2.2.2.2.2.1⟩:Json)+2)) ho (O0 R)) (O1 R)
end Go.Proofs.YtidfokedcnhahaaGreatDoor
/-
 Functions of the program as pure Lean functions, and the ties; printed by wip/tools/emit.py.
-/
set_option maxRecDepth 100000
namespace Go.Proofs.YtidfokedcnhahaaGreatDoor
open Go Go.aC
variable {R:Type}
/-! ### humpyard/json.write -/
abbrev tZ (R:Type):Type:=Json→((List Int)→Option R)→Option R
abbrev Cg:List cP := [.leaf (.ptr 0 0), .agg [.int .i64, .int .i64, .int .i64, .str, .sl .str, .sl .json]]
abbrev Ch:List aW := [.mB (.bx)]
def Hn (fn:tZ R):lh R Cg Ch:=fun x y k=>fn (⟨x.2.1.1,⟨x.2.1.2.1,x.2.1.2.2.1⟩,x.2.1.2.2.2.1,x.2.1.2.2.2.2.1,x.2.1.2.2.2.2.2.1⟩:Json) (fun q0=>k (.tuple []) [.mB (.sl (.int .u8) q0 (.own 1)), .tok])
def IL (fn:tZ R):=aI Cg Ch (Hn fn)
abbrev sM (R:Type):Type:=Nat→ah→(List Json)→Int→Int→(List Int)→Json→(ah→(List Int)→Option R)→Option R
def nZ:Hint := { live := [2,3,4,5,43,44,45],own := [],rows := [],cells := [],drop := [],out := [2,5] }
abbrev iY:Type:=ah×(List Json)×Int×Int×(List Int)×Json
def qY:iY→St:=fun d=>⟨U 2 (.ptr 1 0 :: .ptr 2 0 :: .func 122 [] [.ptr 1 0] :: .str d.1::U 37 (.sl .json d.2.1 .no :: .int .i64 d.2.2.1 :: .int .i64 d.2.2.2.1::U 28 ([]))), [.mB (.sl (.int .u8) d.2.2.2.2.1 (.own 3)), .cells [.ptr 0 0], .cells [.int .i64 d.2.2.2.2.2.kind, .int .i64 d.2.2.2.2.2.num.ao, .int .i64 d.2.2.2.2.2.num.exp, .str d.2.2.2.2.2.text, .sl .str d.2.2.2.2.2.names .no, .sl .json d.2.2.2.2.2.items .no], .tok]⟩
def sN (K:Ex→St→Option R) (q0:ah) (q1:List Int):Option R:=K (.exit 1) ⟨U 2 (.ptr 1 0::U 2 (.str q0::U 68 ([]))), [.mB (.sl (.int .u8) q1 (.own 2)), .cells [.ptr 0 0], .tok]⟩
abbrev kT:List cP:=PU 2 (.leaf (.ptr 1 0) :: .leaf (.ptr 2 0) :: .func 122 [] [.ptr 1 0] :: .leaf (.str)::PU 37 (.leaf (.sl .json) :: .leaf (.int .i64) :: .leaf (.int .i64)::PU 28 ([])))
abbrev kU:List aW := [.mB (.T4 (.int .u8) 3), .cells [.ptr 0 0], .cells [.int .i64, .int .i64, .int .i64, .str, .sl .str, .sl .json], .tok]
def Ci (x:cP.bQ kT) (y:aW.bQ kU):Nat:=(List.length x.2.2.2.2.2.1+List.length ((t8 (t8 (t8 (t8 (t8 x))))).2.2.2.1)+Int.natAbs ((t8 (t8 (t8 (t8 (t8 x))))).2.2.2.2.1)+Int.natAbs ((t8 (t8 (t8 (t8 (t8 x))))).2.2.2.2.2.1)+List.length y.1+Json.fu (⟨y.2.2.1.1,⟨y.2.2.1.2.1,y.2.2.1.2.2.1⟩,y.2.2.1.2.2.2.1,y.2.2.1.2.2.2.2.1,y.2.2.1.2.2.2.2.2.1⟩:Json)+64)
def Mf (x:cP.bQ kT) (y:aW.bQ kU):iY:=(x.2.2.2.2.2.1,(t8 (t8 (t8 (t8 (t8 x))))).2.2.2.1,(t8 (t8 (t8 (t8 (t8 x))))).2.2.2.2.1,(t8 (t8 (t8 (t8 (t8 x))))).2.2.2.2.2.1,y.1,(⟨y.2.2.1.1,⟨y.2.2.1.2.1,y.2.2.1.2.2.1⟩,y.2.2.1.2.2.2.1,y.2.2.1.2.2.2.2.1,y.2.2.1.2.2.2.2.2.1⟩:Json))
def A2 (L:sM R):wW R kT kU:=fun x y K=>L (Ci x y) x.2.2.2.2.2.1 ((t8 (t8 (t8 (t8 (t8 x))))).2.2.2.1) ((t8 (t8 (t8 (t8 (t8 x))))).2.2.2.2.1) ((t8 (t8 (t8 (t8 (t8 x))))).2.2.2.2.2.1) y.1 (⟨y.2.2.1.1,⟨y.2.2.1.2.1,y.2.2.1.2.2.1⟩,y.2.2.1.2.2.2.1,y.2.2.1.2.2.2.2.1,y.2.2.1.2.2.2.2.2.1⟩:Json) (sN K)
section
variable (bM:sc R) (aj:dS R) (ad:dT R) (ai:dD R) (bT:dh R) (du:qy R) (aL:my R) (bA:sM R)
def mR:List (oq R) := [(125,true,(E2 bM ax)),(126,false,(gZ ad (gY aj ax))),(124,false,(gJ ai ax)),(83,false,(IK bT ax)),(122,false,(yw aL (FG du ax)))]
def Cj (dz:ah→(List Json)→Int→Int→(List Int)→Json→Option R) (Ls:ah) (ot:List Json) (tH:Int) (lI:Int) (oW:List Int) (Fb:Json) (e0:ah→(List Int)→Option R):Option R :=
 bif (decide (lI<tH))then (cb (decide ((0:Int)≤lI)&&decide (lI<ot.length)) (bif (decide (lI>(0:Int)))then (ad 44 oW (fun V9=>bif (Fb.kind==7)then (cb (decide ((0:Int)≤lI)&&decide (lI<Fb.names.length)) (aL (Fb.names.getD lI.toNat (Ty.aZ .str)) V9 (fun GQ=>ad 58 GQ (fun y22=>bT (⟨(ot.getD lI.toNat (Ty.aZ .json)).kind,⟨(ot.getD lI.toNat (Ty.aZ .json)).num.ao,(ot.getD lI.toNat (Ty.aZ .json)).num.exp⟩,(ot.getD lI.toNat (Ty.aZ .json)).text,(ot.getD lI.toNat (Ty.aZ .json)).names,(ot.getD lI.toNat (Ty.aZ .json)).items⟩:Json) y22 (fun y23=>dz Ls ot tH (IntKind.i64.wrap (lI+1)) y23 (⟨Fb.kind,⟨Fb.num.ao,Fb.num.exp⟩,Fb.text,Fb.names,Fb.items⟩:Json))))))else (bT (⟨(ot.getD lI.toNat (Ty.aZ .json)).kind,⟨(ot.getD lI.toNat (Ty.aZ .json)).num.ao,(ot.getD lI.toNat (Ty.aZ .json)).num.exp⟩,(ot.getD lI.toNat (Ty.aZ .json)).text,(ot.getD lI.toNat (Ty.aZ .json)).names,(ot.getD lI.toNat (Ty.aZ .json)).items⟩:Json) V9 (fun y24=>dz Ls ot tH (IntKind.i64.wrap (lI+1)) y24 (⟨Fb.kind,⟨Fb.num.ao,Fb.num.exp⟩,Fb.text,Fb.names,Fb.items⟩:Json)))))else (bif (Fb.kind==7)then (cb (decide ((0:Int)≤lI)&&decide (lI<Fb.names.length)) (aL (Fb.names.getD lI.toNat (Ty.aZ .str)) oW (fun Qx=>ad 58 Qx (fun SP=>bT (⟨(ot.getD lI.toNat (Ty.aZ .json)).kind,⟨(ot.getD lI.toNat (Ty.aZ .json)).num.ao,(ot.getD lI.toNat (Ty.aZ .json)).num.exp⟩,(ot.getD lI.toNat (Ty.aZ .json)).text,(ot.getD lI.toNat (Ty.aZ .json)).names,(ot.getD lI.toNat (Ty.aZ .json)).items⟩:Json) SP (fun Jh=>dz Ls ot tH (IntKind.i64.wrap (lI+1)) Jh (⟨Fb.kind,⟨Fb.num.ao,Fb.num.exp⟩,Fb.text,Fb.names,Fb.items⟩:Json))))))else (bT (⟨(ot.getD lI.toNat (Ty.aZ .json)).kind,⟨(ot.getD lI.toNat (Ty.aZ .json)).num.ao,(ot.getD lI.toNat (Ty.aZ .json)).num.exp⟩,(ot.getD lI.toNat (Ty.aZ .json)).text,(ot.getD lI.toNat (Ty.aZ .json)).names,(ot.getD lI.toNat (Ty.aZ .json)).items⟩:Json) oW (fun Qy=>dz Ls ot tH (IntKind.i64.wrap (lI+1)) Qy (⟨Fb.kind,⟨Fb.num.ao,Fb.num.exp⟩,Fb.text,Fb.names,Fb.items⟩:Json))))))else (e0 Ls oW)
def Ck (K:Ex→St→Option R) (rc:iY→Option R) (d:iY):Option R:=Cj ad bT aL (fun z0 z1 z2 z3 z4 z5=>rc (z0,z1,z2,z3,z4,z5)) d.1 d.2.1 d.2.2.1 d.2.2.2.1 d.2.2.2.2.1 d.2.2.2.2.2 (sN K)
def qA:Nat→Option (Hint×cL R):=fun i=>match i with
 | 18=>some (nZ,(cG kT kU (A2 bA) iL))
 | _=>none
theorem HZ (K:Ex→St→Option R) (rc:St→Option R) (d:iY):roundOf tt (cR (mR bM aj ad ai bT du aL)) (qA bA) 1 ((aA (bc Tryz.f83)).getD 0 .skip) nZ (qY d) rc K=Ck ad bT aL K (fun d=>rc (qY d)) d:=by kernel_rfl
def Cl (x1:Json) (k0:(List Int)→Option R):Option R :=
 let j32:=fun (z12:ah)=>cb (decide ((0:Int)<z12.length)) (aj ((z12.getD 0 0).toNat:Int) (fun HJ=>bA (List.length z12+List.length x1.items+Int.natAbs (x1.items.length:Int)+Int.natAbs 0+List.length HJ+Json.fu (⟨x1.kind,⟨x1.num.ao,x1.num.exp⟩,x1.text,x1.names,x1.items⟩:Json)+64) z12 x1.items (x1.items.length:Int) 0 HJ (⟨x1.kind,⟨x1.num.ao,x1.num.exp⟩,x1.text,x1.names,x1.items⟩:Json) (fun YC Xa=>cb (decide ((1:Int)<YC.length)) (ad ((YC.getD 1 0).toNat:Int) Xa (fun y31=>k0 y31))))); bif (x1.kind==1)then (ai ([110,117,108,108]:ah) (fun y2 y3=>k0 y3))else (bif (x1.kind==2)then (ai ([102,97,108,115,101]:ah) (fun y4 y5=>k0 y5))else (bif (x1.kind==3)then (ai ([116,114,117,101]:ah) (fun y6 y7=>k0 y7))else (bif (x1.kind==4)then (bM x1.num (fun y8=>ai y8 (fun y9 um=>k0 um)))else (bif (x1.kind==5)then (du x1.text (fun vQ=>k0 vQ))else (bif (x1.kind==7)then (j32 ([123,125]:ah))else (j32 ([91,93]:ah)))))))
theorem RO:dE (R:=R) tt (mR bM aj ad ai bT du aL) (qA bA) false Tryz.f83 Cg Ch (Hn (Cl bM aj ad ai du bA)):=fun x y k=>by kernel_rfl
end
theorem Qh:cu (R:=R) Tryz.prog (mR (R:=R) bM aj ad ai bT du aL) := .c (G5 R) <| .f (jz R _ (jy R _ (jm _))) rfl <| .d (iQ R) rfl <| .f (O2 R _ (jm _)) rfl <| .f (Ca R _ (Md R _ (jm _))) rfl <| .n
def bA:sM R
 | 0,_,_,_,_,_,_,_=>none
 | n+1,gk,gn,gw,mC,wa,xT,e0=>Cj ad bT aL (fun gk gn gw mC wa xT=>bA n gk gn gw mC wa xT e0) gk gn gw mC wa xT e0
def Cm (K:Ex→St→Option R) (n:Nat) (d:iY):Option R:=bA n d.1 d.2.1 d.2.2.1 d.2.2.2.1 d.2.2.2.2.1 d.2.2.2.2.2 (sN K)
theorem KA (other:cL R) (ho:gW tt (cR (mR (R:=R) bM aj ad ai bT du aL)) (qA (R:=R) bA) 1 ((aA (bc Tryz.f83)).getD 0 .skip) nZ other):gW tt (cR (mR (R:=R) bM aj ad ai bT du aL)) (qA (R:=R) bA) 1 ((aA (bc Tryz.f83)).getD 0 .skip) nZ (cG kT kU (A2 (bA)) other) :=
 cQ (A:=Cm) ho (dV qY (Ck ad bT aL) (Cm) (fun _ _=>by kernel_rfl) (HZ bM aj ad ai bT du aL bA) (fun _ _ _=>by kernel_rfl)) Ci Mf (fun _ _=>by kernel_rfl) (fun _ _ _=>by kernel_rfl)
def gQ:tZ R:=fun x1 k0=>Cl bM aj ad ai du bA x1 k0
theorem NH (R:Type):∀a∈aA (bc Tryz.f83),gK tt (cR (mR (R:=R) bM aj ad ai bT du aL)) (qA (R:=R) bA) 1 a:=by
 refine eY 1 (by kernel_rfl) fun i hi => ?_
 match i,hi with
 | 0,_=>exact cz (by kernel_rfl) (KA _ dv)
 | n+1,hi=>omega
theorem O3 (R:Type):k8 Tryz.prog 83 (IL (gQ (R:=R))):=bt TT mixed (Qh (R:=R)) rfl rfl rfl rfl (NH R) (RO bM aj ad ai bT du aL bA)
/-! ### humpyard/json.Print -/
abbrev D6 (R:Type):Type:=Json→(ah→Option R)→Option R
abbrev Mg:List cP := [.agg [.int .i64, .int .i64, .int .i64, .str, .sl .str, .sl .json]]
abbrev Mh:List aW := []
def QY (fn:D6 R):lh R Mg Mh:=fun x y k=>fn (⟨x.1.1,⟨x.1.2.1,x.1.2.2.1⟩,x.1.2.2.2.1,x.1.2.2.2.2.1,x.1.2.2.2.2.2.1⟩:Json) (fun q0=>k (.str q0) [])
def Ts (fn:D6 R):=aI Mg Mh (QY fn)
section
variable (mZ:DW R) (gQ:tZ R)
def Tt:List (oq R) := [(84,false,(Lr R)),(82,true,(S0 mZ ax)),(83,false,(IL gQ ax))]
def Gf (x1:Json) (k0:ah→Option R):Option R :=
 mZ (⟨x1.kind,⟨x1.num.ao,x1.num.exp⟩,x1.text,x1.names,x1.items⟩:Json) (fun y2=>bif (!y2)then (k0 ([]:ah))else (gQ (⟨x1.kind,⟨x1.num.ao,x1.num.exp⟩,x1.text,x1.names,x1.items⟩:Json) (fun y3=>k0 (vO y3))))
theorem json_Print_ok:dE (R:=R) tt (Tt mZ gQ) rS false Tryz.f35 Mg Mh (QY (Gf mZ gQ)):=fun x y k=>by kernel_rfl
end
theorem YS:cu (R:=R) Tryz.prog (Tt (R:=R) mZ gQ) := .s (W7) PO <| .c (Wl R) <| .d (O3 R) rfl <| .n
def o5:D6 R:=fun x1 k0=>Gf mZ gQ x1 k0
theorem WC (R:Type):k8 Tryz.prog 35 (Ts (o5 (R:=R))):=bt TT mixed (YS (R:=R)) rfl rfl rfl rfl cd (json_Print_ok mZ gQ)
/-! ### humpyard/seal.Sum -/
abbrev IM (R:Type):Type:=ah→(Int→Option R)→Option R
abbrev RP:List cP := [.leaf (.str)]
abbrev RQ:List aW := []
def VN (fn:IM R):lh R RP RQ:=fun x y k=>fn x.1 (fun q0=>k (.int .u32 q0) [])
def YT (fn:IM R):=aI RP RQ (VN fn)
abbrev Ff (R:Type):Type:=Nat→Int→Nat→Int→Int→(List Int)→(Int→Option R)→Option R
def Cn:Hint := { live := [3,7,8,9],own := [],rows := [],cells := [],drop := [],out := [2,3] }
abbrev sO:Type:=Int×Nat×Int×Int×(List Int)
def DB:sO→St:=fun d=>⟨U 3 (.int .u32 d.1::U 3 (.row 0 d.2.1 :: .int .i64 d.2.2.1 :: .int .i64 d.2.2.2.1::U 10 ([]))), [.row (.int .u8) d.2.2.2.2]⟩
def Fg (K:Ex→St→Option R) (q0:Int):Option R:=K (.exit 0) ⟨U 3 (.int .u32 q0::U 16 ([])), []⟩
abbrev wM:List cP:=PU 3 (.leaf (.int .u32)::PU 3 (.leaf (.row 0) :: .leaf (.int .i64) :: .leaf (.int .i64)::PU 10 ([])))
abbrev wN:List aW := [.row (.int .u8)]
def O4 (x:cP.bQ wM) (y:aW.bQ wN):Nat:=(Int.natAbs x.2.2.2.1+Int.natAbs ((t8 x).1)+Int.natAbs ((t8 x).2.1)+List.length y.1+64)
def YU (x:cP.bQ wM) (y:aW.bQ wN):sO:=(x.2.2.2.1,x.2.2.2.2.2.2.2.1,(t8 x).1,(t8 x).2.1,y.1)
def M6 (L:Ff R):wW R wM wN:=fun x y K=>L (O4 x y) x.2.2.2.1 x.2.2.2.2.2.2.2.1 ((t8 x).1) ((t8 x).2.1) y.1 (Fg K)
section
variable (dM:Ff R)
def Co (dz:Int→Nat→Int→Int→(List Int)→Option R) (x2:Int) (x3:Nat) (x4:Int) (x5:Int) (x6:List Int) (e0:Int→Option R):Option R :=
 bif (decide (x5<x4))then (cb (decide ((0:Int)≤x5)&&decide (x5<x3)) (cb (decide (x5.toNat<x6.length)) (dz (IntKind.u32.wrap ((IntKind.u32.wrap ((BitVec.ofInt IntKind.u32.bits x2 ^^^ BitVec.ofInt IntKind.u32.bits (IntKind.u32.wrap (x6.getD x5.toNat (Ty.aZ (.int .u8))))).toNat:Int))*16777619)) x3 x4 (IntKind.i64.wrap (x5+1)) x6)))else (e0 x2)
def O5 (K:Ex→St→Option R) (rc:sO→Option R) (d:sO):Option R:=Co (fun z0 z1 z2 z3 z4=>rc (z0,z1,z2,z3,z4)) d.1 d.2.1 d.2.2.1 d.2.2.2.1 d.2.2.2.2 (Fg K)
def Ho:Nat→Option (Hint×cL R):=fun i=>match i with
 | 3=>some (Cn,(cG wM wN (M6 dM) iL))
 | _=>none
theorem Tu (K:Ex→St→Option R) (rc:St→Option R) (d:sO):roundOf tt (cR []) (Ho dM) 0 ((aA (bc Tryz.f67)).getD 0 .skip) Cn (DB d) rc K=O5 K (fun d=>rc (DB d)) d:=by kernel_rfl
def YV (x1:ah) (k0:Int→Option R):Option R :=
 dM (Int.natAbs 2166136261+Int.natAbs (x1.length:Int)+Int.natAbs 0+List.length (jI x1)+64) 2166136261 x1.length (x1.length:Int) 0 (jI x1) (fun y7=>k0 y7)
theorem seal_Sum_ok:dE (R:=R) tt [] (Ho dM) false Tryz.f67 RP RQ (VN (YV dM)):=fun x y k=>by kernel_rfl
end
def dM:Ff R
 | 0,_,_,_,_,_,_=>none
 | n+1,gk,gn,gw,mC,wa,e0=>Co (fun gk gn gw mC wa=>dM n gk gn gw mC wa e0) gk gn gw mC wa e0
def O6 (K:Ex→St→Option R) (n:Nat) (d:sO):Option R:=dM n d.1 d.2.1 d.2.2.1 d.2.2.2.1 d.2.2.2.2 (Fg K)
theorem WD (other:cL R) (ho:gW tt (cR []) (Ho (R:=R) dM) 0 ((aA (bc Tryz.f67)).getD 0 .skip) Cn other):gW tt (cR []) (Ho (R:=R) dM) 0 ((aA (bc Tryz.f67)).getD 0 .skip) Cn (cG wM wN (M6 (dM)) other) :=
 cQ (A:=O6) ho (dV DB (O5) (O6) (fun _ _=>by kernel_rfl) (Tu dM) (fun _ _ _=>by kernel_rfl)) O4 YU (fun _ _=>by kernel_rfl) (fun _ _ _=>by kernel_rfl)
def uI:IM R:=fun x1 k0=>YV dM x1 k0
theorem YW (R:Type):∀a∈aA (bc Tryz.f67),gK tt (cR []) (Ho (R:=R) dM) 0 a:=by
 refine eY 1 (by kernel_rfl) fun i hi => ?_
 match i,hi with
 | 0,_=>exact cz (by kernel_rfl) (WD _ dv)
 | n+1,hi=>omega
theorem seal_Sum_S_ok (R:Type):k8 Tryz.prog 67 (YT (uI (R:=R))):=bt TT mixed .n rfl rfl rfl rfl (YW R) (seal_Sum_ok dM)
/-! ### humpyard/seal.Seal -/
abbrev xg (R:Type):Type:=ah→(ah→Option R)→Option R
abbrev O7:List cP := [.leaf (.str)]
abbrev O8:List aW := []
def Tv (fn:xg R):lh R O7 O8:=fun x y k=>fn x.1 (fun q0=>k (.str q0) [])
def IN (fn:xg R):=aI O7 O8 (Tv fn)
section
variable (uI:IM R)
def VO:List (oq R) := [(67,true,(YT uI ax))]
def IP (x1:ah) (k0:ah→Option R):Option R :=
 uI x1 (fun y2=>cb (decide ((0:Int)≤(IntKind.u32.wrap ((BitVec.ofInt IntKind.u32.bits y2 &&& BitVec.ofInt IntKind.u32.bits 15).toNat:Int)))&&decide ((IntKind.u32.wrap ((BitVec.ofInt IntKind.u32.bits y2 &&& BitVec.ofInt IntKind.u32.bits 15).toNat:Int))<(16:Int))) (cb (decide ((0:Int)≤(IntKind.u32.wrap ((BitVec.ofInt IntKind.u32.bits (Int.fdiv y2 (2 ^ (min 4 IntKind.u32.bits))) &&& BitVec.ofInt IntKind.u32.bits 15).toNat:Int)))&&decide ((IntKind.u32.wrap ((BitVec.ofInt IntKind.u32.bits (Int.fdiv y2 (2 ^ (min 4 IntKind.u32.bits))) &&& BitVec.ofInt IntKind.u32.bits 15).toNat:Int))<(16:Int))) (cb (decide ((0:Int)≤(IntKind.u32.wrap ((BitVec.ofInt IntKind.u32.bits (Int.fdiv (Int.fdiv y2 (2 ^ (min 4 IntKind.u32.bits))) (2 ^ (min 4 IntKind.u32.bits))) &&& BitVec.ofInt IntKind.u32.bits 15).toNat:Int)))&&decide ((IntKind.u32.wrap ((BitVec.ofInt IntKind.u32.bits (Int.fdiv (Int.fdiv y2 (2 ^ (min 4 IntKind.u32.bits))) (2 ^ (min 4 IntKind.u32.bits))) &&& BitVec.ofInt IntKind.u32.bits 15).toNat:Int))<(16:Int))) (cb (decide ((0:Int)≤(IntKind.u32.wrap ((BitVec.ofInt IntKind.u32.bits (Int.fdiv (Int.fdiv (Int.fdiv y2 (2 ^ (min 4 IntKind.u32.bits))) (2 ^ (min 4 IntKind.u32.bits))) (2 ^ (min 4 IntKind.u32.bits))) &&& BitVec.ofInt IntKind.u32.bits 15).toNat:Int)))&&decide ((IntKind.u32.wrap ((BitVec.ofInt IntKind.u32.bits (Int.fdiv (Int.fdiv (Int.fdiv y2 (2 ^ (min 4 IntKind.u32.bits))) (2 ^ (min 4 IntKind.u32.bits))) (2 ^ (min 4 IntKind.u32.bits))) &&& BitVec.ofInt IntKind.u32.bits 15).toNat:Int))<(16:Int))) (cb (decide ((0:Int)≤(IntKind.u32.wrap ((BitVec.ofInt IntKind.u32.bits (Int.fdiv (Int.fdiv (Int.fdiv (Int.fdiv y2 (2 ^ (min 4 IntKind.u32.bits))) (2 ^ (min 4 IntKind.u32.bits))) (2 ^ (min 4 IntKind.u32.bits))) (2 ^ (min 4 IntKind.u32.bits))) &&& BitVec.ofInt IntKind.u32.bits 15).toNat:Int)))&&decide ((IntKind.u32.wrap ((BitVec.ofInt IntKind.u32.bits (Int.fdiv (Int.fdiv (Int.fdiv (Int.fdiv y2 (2 ^ (min 4 IntKind.u32.bits))) (2 ^ (min 4 IntKind.u32.bits))) (2 ^ (min 4 IntKind.u32.bits))) (2 ^ (min 4 IntKind.u32.bits))) &&& BitVec.ofInt IntKind.u32.bits 15).toNat:Int))<(16:Int))) (cb (decide ((0:Int)≤(IntKind.u32.wrap ((BitVec.ofInt IntKind.u32.bits (Int.fdiv (Int.fdiv (Int.fdiv (Int.fdiv (Int.fdiv y2 (2 ^ (min 4 IntKind.u32.bits))) (2 ^ (min 4 IntKind.u32.bits))) (2 ^ (min 4 IntKind.u32.bits))) (2 ^ (min 4 IntKind.u32.bits))) (2 ^ (min 4 IntKind.u32.bits))) &&& BitVec.ofInt IntKind.u32.bits 15).toNat:Int)))&&decide ((IntKind.u32.wrap ((BitVec.ofInt IntKind.u32.bits (Int.fdiv (Int.fdiv (Int.fdiv (Int.fdiv (Int.fdiv y2 (2 ^ (min 4 IntKind.u32.bits))) (2 ^ (min 4 IntKind.u32.bits))) (2 ^ (min 4 IntKind.u32.bits))) (2 ^ (min 4 IntKind.u32.bits))) (2 ^ (min 4 IntKind.u32.bits))) &&& BitVec.ofInt IntKind.u32.bits 15).toNat:Int))<(16:Int))) (cb (decide ((0:Int)≤(IntKind.u32.wrap ((BitVec.ofInt IntKind.u32.bits (Int.fdiv (Int.fdiv (Int.fdiv (Int.fdiv (Int.fdiv (Int.fdiv y2 (2 ^ (min 4 IntKind.u32.bits))) (2 ^ (min 4 IntKind.u32.bits))) (2 ^ (min 4 IntKind.u32.bits))) (2 ^ (min 4 IntKind.u32.bits))) (2 ^ (min 4 IntKind.u32.bits))) (2 ^ (min 4 IntKind.u32.bits))) &&& BitVec.ofInt IntKind.u32.bits 15).toNat:Int)))&&decide ((IntKind.u32.wrap ((BitVec.ofInt IntKind.u32.bits (Int.fdiv (Int.fdiv (Int.fdiv (Int.fdiv (Int.fdiv (Int.fdiv y2 (2 ^ (min 4 IntKind.u32.bits))) (2 ^ (min 4 IntKind.u32.bits))) (2 ^ (min 4 IntKind.u32.bits))) (2 ^ (min 4 IntKind.u32.bits))) (2 ^ (min 4 IntKind.u32.bits))) (2 ^ (min 4 IntKind.u32.bits))) &&& BitVec.ofInt IntKind.u32.bits 15).toNat:Int))<(16:Int))) (cb (decide ((0:Int)≤(IntKind.u32.wrap ((BitVec.ofInt IntKind.u32.bits (Int.fdiv (Int.fdiv (Int.fdiv (Int.fdiv (Int.fdiv (Int.fdiv (Int.fdiv y2 (2 ^ (min 4 IntKind.u32.bits))) (2 ^ (min 4 IntKind.u32.bits))) (2 ^ (min 4 IntKind.u32.bits))) (2 ^ (min 4 IntKind.u32.bits))) (2 ^ (min 4 IntKind.u32.bits))) (2 ^ (min 4 IntKind.u32.bits))) (2 ^ (min 4 IntKind.u32.bits))) &&& BitVec.ofInt IntKind.u32.bits 15).toNat:Int)))&&decide ((IntKind.u32.wrap ((BitVec.ofInt IntKind.u32.bits (Int.fdiv (Int.fdiv (Int.fdiv (Int.fdiv (Int.fdiv (Int.fdiv (Int.fdiv y2 (2 ^ (min 4 IntKind.u32.bits))) (2 ^ (min 4 IntKind.u32.bits))) (2 ^ (min 4 IntKind.u32.bits))) (2 ^ (min 4 IntKind.u32.bits))) (2 ^ (min 4 IntKind.u32.bits))) (2 ^ (min 4 IntKind.u32.bits))) (2 ^ (min 4 IntKind.u32.bits))) &&& BitVec.ofInt IntKind.u32.bits 15).toNat:Int))<(16:Int))) (cb (decide (x1.length+1≤9223372036854775807)) (cb (decide ((x1++([35]:ah)).length+(List.map (fun n:Int=>UInt8.ofNat n.toNat) ([((([48,49,50,51,52,53,54,55,56,57,97,98,99,100,101,102]:ah).getD ((IntKind.u32.wrap ((BitVec.ofInt IntKind.u32.bits (Int.fdiv (Int.fdiv (Int.fdiv (Int.fdiv (Int.fdiv (Int.fdiv (Int.fdiv y2 (2 ^ (min 4 IntKind.u32.bits))) (2 ^ (min 4 IntKind.u32.bits))) (2 ^ (min 4 IntKind.u32.bits))) (2 ^ (min 4 IntKind.u32.bits))) (2 ^ (min 4 IntKind.u32.bits))) (2 ^ (min 4 IntKind.u32.bits))) (2 ^ (min 4 IntKind.u32.bits))) &&& BitVec.ofInt IntKind.u32.bits 15).toNat:Int)).toNat) 0).toNat:Int),((([48,49,50,51,52,53,54,55,56,57,97,98,99,100,101,102]:ah).getD ((IntKind.u32.wrap ((BitVec.ofInt IntKind.u32.bits (Int.fdiv (Int.fdiv (Int.fdiv (Int.fdiv (Int.fdiv (Int.fdiv y2 (2 ^ (min 4 IntKind.u32.bits))) (2 ^ (min 4 IntKind.u32.bits))) (2 ^ (min 4 IntKind.u32.bits))) (2 ^ (min 4 IntKind.u32.bits))) (2 ^ (min 4 IntKind.u32.bits))) (2 ^ (min 4 IntKind.u32.bits))) &&& BitVec.ofInt IntKind.u32.bits 15).toNat:Int)).toNat) 0).toNat:Int),((([48,49,50,51,52,53,54,55,56,57,97,98,99,100,101,102]:ah).getD ((IntKind.u32.wrap ((BitVec.ofInt IntKind.u32.bits (Int.fdiv (Int.fdiv (Int.fdiv (Int.fdiv (Int.fdiv y2 (2 ^ (min 4 IntKind.u32.bits))) (2 ^ (min 4 IntKind.u32.bits))) (2 ^ (min 4 IntKind.u32.bits))) (2 ^ (min 4 IntKind.u32.bits))) (2 ^ (min 4 IntKind.u32.bits))) &&& BitVec.ofInt IntKind.u32.bits 15).toNat:Int)).toNat) 0).toNat:Int),((([48,49,50,51,52,53,54,55,56,57,97,98,99,100,101,102]:ah).getD ((IntKind.u32.wrap ((BitVec.ofInt IntKind.u32.bits (Int.fdiv (Int.fdiv (Int.fdiv (Int.fdiv y2 (2 ^ (min 4 IntKind.u32.bits))) (2 ^ (min 4 IntKind.u32.bits))) (2 ^ (min 4 IntKind.u32.bits))) (2 ^ (min 4 IntKind.u32.bits))) &&& BitVec.ofInt IntKind.u32.bits 15).toNat:Int)).toNat) 0).toNat:Int),((([48,49,50,51,52,53,54,55,56,57,97,98,99,100,101,102]:ah).getD ((IntKind.u32.wrap ((BitVec.ofInt IntKind.u32.bits (Int.fdiv (Int.fdiv (Int.fdiv y2 (2 ^ (min 4 IntKind.u32.bits))) (2 ^ (min 4 IntKind.u32.bits))) (2 ^ (min 4 IntKind.u32.bits))) &&& BitVec.ofInt IntKind.u32.bits 15).toNat:Int)).toNat) 0).toNat:Int),((([48,49,50,51,52,53,54,55,56,57,97,98,99,100,101,102]:ah).getD ((IntKind.u32.wrap ((BitVec.ofInt IntKind.u32.bits (Int.fdiv (Int.fdiv y2 (2 ^ (min 4 IntKind.u32.bits))) (2 ^ (min 4 IntKind.u32.bits))) &&& BitVec.ofInt IntKind.u32.bits 15).toNat:Int)).toNat) 0).toNat:Int),((([48,49,50,51,52,53,54,55,56,57,97,98,99,100,101,102]:ah).getD ((IntKind.u32.wrap ((BitVec.ofInt IntKind.u32.bits (Int.fdiv y2 (2 ^ (min 4 IntKind.u32.bits))) &&& BitVec.ofInt IntKind.u32.bits 15).toNat:Int)).toNat) 0).toNat:Int),((([48,49,50,51,52,53,54,55,56,57,97,98,99,100,101,102]:ah).getD ((IntKind.u32.wrap ((BitVec.ofInt IntKind.u32.bits y2 &&& BitVec.ofInt IntKind.u32.bits 15).toNat:Int)).toNat) 0).toNat:Int)]:List Int):ah).length≤9223372036854775807)) (k0 ((x1++([35]:ah))++(List.map (fun n:Int=>UInt8.ofNat n.toNat) ([((([48,49,50,51,52,53,54,55,56,57,97,98,99,100,101,102]:ah).getD ((IntKind.u32.wrap ((BitVec.ofInt IntKind.u32.bits (Int.fdiv (Int.fdiv (Int.fdiv (Int.fdiv (Int.fdiv (Int.fdiv (Int.fdiv y2 (2 ^ (min 4 IntKind.u32.bits))) (2 ^ (min 4 IntKind.u32.bits))) (2 ^ (min 4 IntKind.u32.bits))) (2 ^ (min 4 IntKind.u32.bits))) (2 ^ (min 4 IntKind.u32.bits))) (2 ^ (min 4 IntKind.u32.bits))) (2 ^ (min 4 IntKind.u32.bits))) &&& BitVec.ofInt IntKind.u32.bits 15).toNat:Int)).toNat) 0).toNat:Int),((([48,49,50,51,52,53,54,55,56,57,97,98,99,100,101,102]:ah).getD ((IntKind.u32.wrap ((BitVec.ofInt IntKind.u32.bits (Int.fdiv (Int.fdiv (Int.fdiv (Int.fdiv (Int.fdiv (Int.fdiv y2 (2 ^ (min 4 IntKind.u32.bits))) (2 ^ (min 4 IntKind.u32.bits))) (2 ^ (min 4 IntKind.u32.bits))) (2 ^ (min 4 IntKind.u32.bits))) (2 ^ (min 4 IntKind.u32.bits))) (2 ^ (min 4 IntKind.u32.bits))) &&& BitVec.ofInt IntKind.u32.bits 15).toNat:Int)).toNat) 0).toNat:Int),((([48,49,50,51,52,53,54,55,56,57,97,98,99,100,101,102]:ah).getD ((IntKind.u32.wrap ((BitVec.ofInt IntKind.u32.bits (Int.fdiv (Int.fdiv (Int.fdiv (Int.fdiv (Int.fdiv y2 (2 ^ (min 4 IntKind.u32.bits))) (2 ^ (min 4 IntKind.u32.bits))) (2 ^ (min 4 IntKind.u32.bits))) (2 ^ (min 4 IntKind.u32.bits))) (2 ^ (min 4 IntKind.u32.bits))) &&& BitVec.ofInt IntKind.u32.bits 15).toNat:Int)).toNat) 0).toNat:Int),((([48,49,50,51,52,53,54,55,56,57,97,98,99,100,101,102]:ah).getD ((IntKind.u32.wrap ((BitVec.ofInt IntKind.u32.bits (Int.fdiv (Int.fdiv (Int.fdiv (Int.fdiv y2 (2 ^ (min 4 IntKind.u32.bits))) (2 ^ (min 4 IntKind.u32.bits))) (2 ^ (min 4 IntKind.u32.bits))) (2 ^ (min 4 IntKind.u32.bits))) &&& BitVec.ofInt IntKind.u32.bits 15).toNat:Int)).toNat) 0).toNat:Int),((([48,49,50,51,52,53,54,55,56,57,97,98,99,100,101,102]:ah).getD ((IntKind.u32.wrap ((BitVec.ofInt IntKind.u32.bits (Int.fdiv (Int.fdiv (Int.fdiv y2 (2 ^ (min 4 IntKind.u32.bits))) (2 ^ (min 4 IntKind.u32.bits))) (2 ^ (min 4 IntKind.u32.bits))) &&& BitVec.ofInt IntKind.u32.bits 15).toNat:Int)).toNat) 0).toNat:Int),((([48,49,50,51,52,53,54,55,56,57,97,98,99,100,101,102]:ah).getD ((IntKind.u32.wrap ((BitVec.ofInt IntKind.u32.bits (Int.fdiv (Int.fdiv y2 (2 ^ (min 4 IntKind.u32.bits))) (2 ^ (min 4 IntKind.u32.bits))) &&& BitVec.ofInt IntKind.u32.bits 15).toNat:Int)).toNat) 0).toNat:Int),((([48,49,50,51,52,53,54,55,56,57,97,98,99,100,101,102]:ah).getD ((IntKind.u32.wrap ((BitVec.ofInt IntKind.u32.bits (Int.fdiv y2 (2 ^ (min 4 IntKind.u32.bits))) &&& BitVec.ofInt IntKind.u32.bits 15).toNat:Int)).toNat) 0).toNat:Int),((([48,49,50,51,52,53,54,55,56,57,97,98,99,100,101,102]:ah).getD ((IntKind.u32.wrap ((BitVec.ofInt IntKind.u32.bits y2 &&& BitVec.ofInt IntKind.u32.bits 15).toNat:Int)).toNat) 0).toNat:Int)]:List Int):ah)))))))))))))
theorem seal_Seal_ok:dE (R:=R) tt (VO uI) rS false Tryz.f28 O7 O8 (Tv (IP uI)):=fun x y k=>by kernel_rfl
end
theorem seal_Seal_EOk:cu (R:=R) Tryz.prog (VO (R:=R) uI) := .c (seal_Sum_S_ok R) <| .n
def eK:xg R:=fun x1 k0=>IP uI x1 k0
theorem Hp (R:Type):k8 Tryz.prog 28 (IN (eK (R:=R))):=bt TT mixed (seal_Seal_EOk (R:=R)) rfl rfl rfl rfl cd (seal_Seal_ok uI)
/-! ### humpyard/order.Lay -/
abbrev Cp (R:Type):Type:=Order→(ah→Int→Option R)→Option R
abbrev O9:List cP := [.agg [.int .i64, .str, .int .i64, .int .i64, .sl .stop, .sl .pD]]
abbrev Pa:List aW := []
def Tw (fn:Cp R):lh R O9 Pa:=fun x y k=>fn (⟨x.1.1,x.1.2.1,x.1.2.2.1,x.1.2.2.2.1,x.1.2.2.2.2.1,x.1.2.2.2.2.2.1⟩:Order) (fun q0 q1=>k (.tuple [.str q0, .int .i64 q1]) [])
def Pb (fn:Cp R):=aI O9 Pa (Tw fn)
section
variable (gq:BC R) (gF:yL R) (uT:FR R) (o5:D6 R) (bZ:r5 R) (dW:mI R) (eB:nT R) (eK:xg R)
def VP:List (oq R) := [(48,true,(Oe gq ax)),(36,true,(Lv gF ax)),(34,true,(Vw uT ax)),(35,true,(Ts o5 ax)),(21,true,(DU bZ ax)),(49,true,(BI dW ax)),(52,true,(C2 eB ax)),(28,true,(IN eK ax))]
def Pc (x1:Order) (k0:ah→Int→Option R):Option R :=
 bZ x1 (fun y2=>bif (!y2)then (k0 ([]:ah) 1)else (gq x1.header (fun y3=>uT x1.cO (fun y4=>gq x1.order (fun y5=>gq x1.update (fun y6=>dW x1.nodes (fun y7=>eB x1.bK (fun y8=>gF ([([104,101,97,100,101,114,73,100]:ah),([115,101,114,105,97,108,78,117,109,98,101,114]:ah),([111,114,100,101,114,73,100]:ah),([111,114,100,101,114,85,112,100,97,116,101,73,100]:ah),([110,111,100,101,115]:ah),([101,100,103,101,115]:ah)]:List ah) ([(⟨y3.kind,⟨y3.num.ao,y3.num.exp⟩,y3.text,y3.names,y3.items⟩:Json),(⟨y4.kind,⟨y4.num.ao,y4.num.exp⟩,y4.text,y4.names,y4.items⟩:Json),(⟨y5.kind,⟨y5.num.ao,y5.num.exp⟩,y5.text,y5.names,y5.items⟩:Json),(⟨y6.kind,⟨y6.num.ao,y6.num.exp⟩,y6.text,y6.names,y6.items⟩:Json),(⟨y7.kind,⟨y7.num.ao,y7.num.exp⟩,y7.text,y7.names,y7.items⟩:Json),(⟨y8.kind,⟨y8.num.ao,y8.num.exp⟩,y8.text,y8.names,y8.items⟩:Json)]:List Json) (fun y9=>o5 (⟨y9.kind,⟨y9.num.ao,y9.num.exp⟩,y9.text,y9.names,y9.items⟩:Json) (fun um=>eK um (fun vQ=>k0 vQ 0)))))))))))
theorem order_Lay_ok:dE (R:=R) tt (VP gq gF uT o5 bZ dW eB eK) rS false Tryz.f19 O9 Pa (Tw (Pc gq gF uT o5 bZ dW eB eK)):=fun x y k=>by kernel_rfl
end
theorem order_Lay_EOk:cu (R:=R) Tryz.prog (VP (R:=R) gq gF uT o5 bZ dW eB eK) := .c (Og R) <| .c (MS R) <| .c (Yp R) <| .c (WC R) <| .c (Dr R) <| .c (HK R) <| .c (Jn R) <| .c (Hp R) <| .n
def gd:Cp R:=fun x1 k0=>Pc gq gF uT o5 bZ dW eB eK x1 k0
theorem Pd (R:Type):k8 Tryz.prog 19 (Pb (gd (R:=R))):=bt TT mixed (order_Lay_EOk (R:=R)) rfl rfl rfl rfl cd (order_Lay_ok gq gF uT o5 bZ dW eB eK)
/-! ### humpyard/seal.Open -/
abbrev Gg (R:Type):Type:=ah→(ah→Int→Option R)→Option R
abbrev Pe:List cP := [.leaf (.str)]
abbrev Pf:List aW := []
def Tx (fn:Gg R):lh R Pe Pf:=fun x y k=>fn x.1 (fun q0 q1=>k (.tuple [.str q0, .int .i64 q1]) [])
def VQ (fn:Gg R):=aI Pe Pf (Tx fn)
section
variable (eK:xg R)
def VR:List (oq R) := [(28,true,(IN eK ax)),(78,true,(lastI_S R))]
def IQ (x1:ah) (k0:ah→Int→Option R):Option R :=
 cb (decide (x1.length≤281474976710656)) (bif (decide ((Ee x1 35)<(0:Int)))then (k0 ([]:ah) 60)else (cb (decide ((0:Int)≤(Ee x1 35))&&decide ((Ee x1 35)≤x1.length)) (cb (decide ((0:Int)≤(Ee x1 35))) (eK ((x1.drop 0).take ((Ee x1 35).toNat - 0)) (fun y2=>bif (!(y2==x1))then (k0 ([]:ah) 60)else (cb (decide ((0:Int)≤(Ee x1 35))&&decide ((Ee x1 35)≤x1.length)) (cb (decide ((0:Int)≤(Ee x1 35))) (k0 ((x1.drop 0).take ((Ee x1 35).toNat - 0)) 0))))))))
theorem seal_Open_ok:dE (R:=R) tt (VR eK) rS false Tryz.f31 Pe Pf (Tx (IQ eK)):=fun x y k=>by kernel_rfl
end
theorem seal_Open_EOk:cu (R:=R) Tryz.prog (VR (R:=R) eK) := .c (Hp R) <| .p (lastI_ok) <| .n
def ir:Gg R:=fun x1 k0=>IQ eK x1 k0
theorem YX (R:Type):k8 Tryz.prog 31 (VQ (ir (R:=R))):=bt TT mixed (seal_Open_EOk (R:=R)) rfl rfl rfl rfl cd (seal_Open_ok eK)
end Go.Proofs.YtidfokedcnhahaaGreatDoor
/-
 Functions of the program as pure Lean functions, and the ties; printed by wip/tools/emit.py.
-/
set_option maxRecDepth 100000
namespace Go.Proofs.YtidfokedcnhahaaGreatDoor
open Go Go.aC
variable {R:Type}
/-! ### (*humpyard/order.taker).flag -/
abbrev mi (R:Type):Type:=Json→ah→Bool→(Bool→Bool→Option R)→Option R
abbrev sP:List cP := [.leaf (.ptr 0 0), .agg [.int .i64, .int .i64, .int .i64, .str, .sl .str, .sl .json], .leaf (.str)]
abbrev sQ:List aW := [.cells [.bool]]
def zp (fn:mi R):lh R sP sQ:=fun x y k=>fn (⟨x.2.1.1,⟨x.2.1.2.1,x.2.1.2.2.1⟩,x.2.1.2.2.2.1,x.2.1.2.2.2.2.1,x.2.1.2.2.2.2.2.1⟩:Json) x.2.2.1 y.1.1 (fun q0 q1=>k (.bool q0) [.cells [.bool q1]])
def A3 (fn:mi R):=aI sP sQ (zp fn)
section
variable (o4:D5 R)
def A4:List (oq R) := [(112,true,(Tl o4 ax))]
def sR (x1:Json) (x2:ah) (x3:Bool) (k0:Bool→Bool→Option R):Option R :=
 o4 (⟨x1.kind,⟨x1.num.ao,x1.num.exp⟩,x1.text,x1.names,x1.items⟩:Json) x2 (fun y4 y5=>bif x3 then (k0 y4 true)else (k0 y4 (!y5)))
theorem JM:dE (R:=R) tt (A4 o4) rS false Tryz.f71 sP sQ (zp (sR o4)):=fun x y k=>by kernel_rfl
end
theorem H0:cu (R:=R) Tryz.prog (A4 (R:=R) o4) := .c (Wx R) <| .n
def bg:mi R:=fun x1 x2 x3 k0=>sR o4 x1 x2 x3 k0
theorem Hq (R:Type):k8 Tryz.prog 71 (A3 (bg (R:=R))):=bt TT mixed (H0 (R:=R)) rfl rfl rfl rfl cd (JM o4)
end Go.Proofs.YtidfokedcnhahaaGreatDoor
/-
 Functions of the program as pure Lean functions, and the ties; printed by wip/tools/emit.py.
-/
set_option maxRecDepth 100000
namespace Go.Proofs.YtidfokedcnhahaaGreatDoor
open Go Go.aC
variable {R:Type}
/-! ### humpyard/order.Take -/
abbrev D7 (R:Type):Type:=ah→(Order→Int→Option R)→Option R
abbrev Mi:List cP := [.leaf (.str)]
abbrev Mj:List aW := []
def QZ (fn:D7 R):lh R Mi Mj:=fun x y k=>fn x.1 (fun q0 q1=>k (.tuple [.agg [.int .i64 q0.header, .str q0.cO, .int .i64 q0.order, .int .i64 q0.update, .sl .stop q0.nodes .no, .sl .pD q0.bK .no], .int .i64 q1]) [])
def Tz (fn:D7 R):=aI Mi Mj (QZ fn)
abbrev Az (R:Type):Type:=Nat→Bool→(List Json)→Int→Int→Int→ah→Int→Int→Json→Bool→Int→ah→Int→Int→(List Stop)→(Bool→Int→ah→Int→Int→Json→Bool→Int→ah→Int→Int→(List Stop)→Option R)→Option R
abbrev AA (R:Type):Type:=Nat→Bool→(List Json)→Int→Int→Int→ah→Int→Int→Bool→Int→ah→Int→Int→(List Stop)→(List aC.Way)→(Bool→Int→ah→Int→Int→Bool→Int→ah→Int→Int→(List Stop)→(List aC.Way)→Option R)→Option R
def vE:Hint := { live := [2,6,8,10,11,55,56,57],own := [],rows := [],cells := [(3,4, .stop,false)],drop := [],out := [2,3,6,8,10,11] }
abbrev mS:Type:=Bool×(List Json)×Int×Int×Int×ah×Int×Int×Json×Bool×Int×ah×Int×Int×(List Stop)
def yx:mS→St:=fun d=>⟨U 2 (.ptr 0 0::U 3 (.ptr 1 0 :: .undef :: .ptr 2 0 :: .undef :: .bool d.1 :: .ptr 3 0::U 43 (.sl .json d.2.1 .no :: .int .i64 d.2.2.1 :: .int .i64 d.2.2.2.1::U 58 ([])))), [.cells [.int .i64 d.2.2.2.2.1, .str d.2.2.2.2.2.1, .int .i64 d.2.2.2.2.2.2.1, .int .i64 d.2.2.2.2.2.2.2.1, .bx, .bx], .cells [.int .i64 d.2.2.2.2.2.2.2.2.1.kind, .int .i64 d.2.2.2.2.2.2.2.2.1.num.ao, .int .i64 d.2.2.2.2.2.2.2.2.1.num.exp, .str d.2.2.2.2.2.2.2.2.1.text, .sl .str d.2.2.2.2.2.2.2.2.1.names .no, .sl .json d.2.2.2.2.2.2.2.2.1.items .no], .cells [.bool d.2.2.2.2.2.2.2.2.2.1], .cells [.int .i64 d.2.2.2.2.2.2.2.2.2.2.1, .str d.2.2.2.2.2.2.2.2.2.2.2.1, .int .i64 d.2.2.2.2.2.2.2.2.2.2.2.2.1, .int .i64 d.2.2.2.2.2.2.2.2.2.2.2.2.2.1, .sl .stop d.2.2.2.2.2.2.2.2.2.2.2.2.2.2 (.own 4), .bx], .tok]⟩
def AB (K:Ex→St→Option R) (q0:Bool) (q1:Int) (q2:ah) (q3:Int) (q4:Int) (q5:Json) (q6:Bool) (q7:Int) (q8:ah) (q9:Int) (Z4:Int) (q11:List Stop):Option R:=K (.exit 0) ⟨U 2 (.ptr 0 0::U 3 (.ptr 1 0 :: .undef :: .ptr 2 0 :: .undef :: .bool q0 :: .ptr 3 0::U 104 ([]))), [.cells [.int .i64 q1, .str q2, .int .i64 q3, .int .i64 q4, .bx, .bx], .cells [.int .i64 q5.kind, .int .i64 q5.num.ao, .int .i64 q5.num.exp, .str q5.text, .sl .str q5.names .no, .sl .json q5.items .no], .cells [.bool q6], .cells [.int .i64 q7, .str q8, .int .i64 q9, .int .i64 Z4, .sl .stop q11 (.own 4), .bx], .tok]⟩
abbrev qB:List cP:=PU 2 (.leaf (.ptr 0 0)::PU 3 (.leaf (.ptr 1 0) :: .leaf (.undef) :: .leaf (.ptr 2 0) :: .leaf (.undef) :: .leaf (.bool) :: .leaf (.ptr 3 0)::PU 43 (.leaf (.sl .json) :: .leaf (.int .i64) :: .leaf (.int .i64)::PU 58 ([]))))
abbrev qC:List aW := [.cells [.int .i64, .str, .int .i64, .int .i64, .bx, .bx], .cells [.int .i64, .int .i64, .int .i64, .str, .sl .str, .sl .json], .cells [.bool], .cells [.int .i64, .str, .int .i64, .int .i64, .T4 .stop 4, .bx], .tok]
def IS (x:cP.bQ qB) (y:aW.bQ qC):Nat:=(List.length ((t8 (t8 (t8 (t8 (t8 (t8 x)))))).2.2.2.2.2.2.2.1)+Int.natAbs ((t8 (t8 (t8 (t8 (t8 (t8 (t8 x))))))).1)+Int.natAbs ((t8 (t8 (t8 (t8 (t8 (t8 (t8 x))))))).2.1)+Int.natAbs y.1.1+List.length y.1.2.1+Int.natAbs y.1.2.2.1+Int.natAbs y.1.2.2.2.1+Json.fu (⟨y.2.1.1,⟨y.2.1.2.1,y.2.1.2.2.1⟩,y.2.1.2.2.2.1,y.2.1.2.2.2.2.1,y.2.1.2.2.2.2.2.1⟩:Json)+Int.natAbs y.2.2.2.1.1+List.length y.2.2.2.1.2.1+Int.natAbs y.2.2.2.1.2.2.1+Int.natAbs y.2.2.2.1.2.2.2.1+List.length y.2.2.2.1.2.2.2.2.1+64)
def TA (x:cP.bQ qB) (y:aW.bQ qC):mS:=((t8 x).2.2.1,(t8 (t8 (t8 (t8 (t8 (t8 x)))))).2.2.2.2.2.2.2.1,(t8 (t8 (t8 (t8 (t8 (t8 (t8 x))))))).1,(t8 (t8 (t8 (t8 (t8 (t8 (t8 x))))))).2.1,y.1.1,y.1.2.1,y.1.2.2.1,y.1.2.2.2.1,(⟨y.2.1.1,⟨y.2.1.2.1,y.2.1.2.2.1⟩,y.2.1.2.2.2.1,y.2.1.2.2.2.2.1,y.2.1.2.2.2.2.2.1⟩:Json),y.2.2.1.1,y.2.2.2.1.1,y.2.2.2.1.2.1,y.2.2.2.1.2.2.1,y.2.2.2.1.2.2.2.1,y.2.2.2.1.2.2.2.2.1)
def Hr (L:Az R):wW R qB qC:=fun x y K=>L (IS x y) ((t8 x).2.2.1) ((t8 (t8 (t8 (t8 (t8 (t8 x)))))).2.2.2.2.2.2.2.1) ((t8 (t8 (t8 (t8 (t8 (t8 (t8 x))))))).1) ((t8 (t8 (t8 (t8 (t8 (t8 (t8 x))))))).2.1) y.1.1 y.1.2.1 y.1.2.2.1 y.1.2.2.2.1 (⟨y.2.1.1,⟨y.2.1.2.1,y.2.1.2.2.1⟩,y.2.1.2.2.2.1,y.2.1.2.2.2.2.1,y.2.1.2.2.2.2.2.1⟩:Json) y.2.2.1.1 y.2.2.2.1.1 y.2.2.2.1.2.1 y.2.2.2.1.2.2.1 y.2.2.2.1.2.2.2.1 y.2.2.2.1.2.2.2.2.1 (AB K)
def vF:Hint := { live := [2,8,10,11,79,80,81],own := [],rows := [],cells := [(2,5, .pD,false)],drop := [],out := [2,3,8,10,11] }
abbrev mT:Type:=Bool×(List Json)×Int×Int×Int×ah×Int×Int×Bool×Int×ah×Int×Int×(List Stop)×(List aC.Way)
def yy:mT→St:=fun d=>⟨U 2 (.ptr 0 0::U 5 (.ptr 1 0 :: .undef :: .bool d.1 :: .ptr 2 0::U 67 (.sl .json d.2.1 .no :: .int .i64 d.2.2.1 :: .int .i64 d.2.2.2.1::U 34 ([])))), [.cells [.int .i64 d.2.2.2.2.1, .str d.2.2.2.2.2.1, .int .i64 d.2.2.2.2.2.2.1, .int .i64 d.2.2.2.2.2.2.2.1, .bx, .bx], .cells [.bool d.2.2.2.2.2.2.2.2.1], .cells [.int .i64 d.2.2.2.2.2.2.2.2.2.1, .str d.2.2.2.2.2.2.2.2.2.2.1, .int .i64 d.2.2.2.2.2.2.2.2.2.2.2.1, .int .i64 d.2.2.2.2.2.2.2.2.2.2.2.2.1, .sl .stop d.2.2.2.2.2.2.2.2.2.2.2.2.2.1 (.own 3), .sl .pD d.2.2.2.2.2.2.2.2.2.2.2.2.2.2 (.own 4)], .tok, .tok]⟩
def AD (K:Ex→St→Option R) (q0:Bool) (q1:Int) (q2:ah) (q3:Int) (q4:Int) (q5:Bool) (q6:Int) (q7:ah) (q8:Int) (q9:Int) (Z4:List Stop) (q11:List aC.Way):Option R:=K (.exit 2) ⟨U 2 (.ptr 0 0::U 5 (.ptr 1 0 :: .undef :: .bool q0 :: .ptr 2 0::U 104 ([]))), [.cells [.int .i64 q1, .str q2, .int .i64 q3, .int .i64 q4, .bx, .bx], .cells [.bool q5], .cells [.int .i64 q6, .str q7, .int .i64 q8, .int .i64 q9, .sl .stop Z4 (.own 3), .sl .pD q11 (.own 4)], .tok, .tok]⟩
abbrev qD:List cP:=PU 2 (.leaf (.ptr 0 0)::PU 5 (.leaf (.ptr 1 0) :: .leaf (.undef) :: .leaf (.bool) :: .leaf (.ptr 2 0)::PU 67 (.leaf (.sl .json) :: .leaf (.int .i64) :: .leaf (.int .i64)::PU 34 ([]))))
abbrev qE:List aW := [.cells [.int .i64, .str, .int .i64, .int .i64, .bx, .bx], .cells [.bool], .cells [.int .i64, .str, .int .i64, .int .i64, .T4 .stop 3, .T4 .pD 4], .tok, .tok]
def IT (x:cP.bQ qD) (y:aW.bQ qE):Nat:=(List.length ((t8 (t8 (t8 (t8 (t8 (t8 (t8 (t8 (t8 x))))))))).2.2.2.2.2.2.2.1)+Int.natAbs ((t8 (t8 (t8 (t8 (t8 (t8 (t8 (t8 (t8 (t8 x)))))))))).1)+Int.natAbs ((t8 (t8 (t8 (t8 (t8 (t8 (t8 (t8 (t8 (t8 x)))))))))).2.1)+Int.natAbs y.1.1+List.length y.1.2.1+Int.natAbs y.1.2.2.1+Int.natAbs y.1.2.2.2.1+Int.natAbs y.2.2.1.1+List.length y.2.2.1.2.1+Int.natAbs y.2.2.1.2.2.1+Int.natAbs y.2.2.1.2.2.2.1+List.length y.2.2.1.2.2.2.2.1+List.length y.2.2.1.2.2.2.2.2.1+64)
def TB (x:cP.bQ qD) (y:aW.bQ qE):mT:=((t8 x).2.2.1,(t8 (t8 (t8 (t8 (t8 (t8 (t8 (t8 (t8 x))))))))).2.2.2.2.2.2.2.1,(t8 (t8 (t8 (t8 (t8 (t8 (t8 (t8 (t8 (t8 x)))))))))).1,(t8 (t8 (t8 (t8 (t8 (t8 (t8 (t8 (t8 (t8 x)))))))))).2.1,y.1.1,y.1.2.1,y.1.2.2.1,y.1.2.2.2.1,y.2.1.1,y.2.2.1.1,y.2.2.1.2.1,y.2.2.1.2.2.1,y.2.2.1.2.2.2.1,y.2.2.1.2.2.2.2.1,y.2.2.1.2.2.2.2.2.1)
def Hs (L:AA R):wW R qD qE:=fun x y K=>L (IT x y) ((t8 x).2.2.1) ((t8 (t8 (t8 (t8 (t8 (t8 (t8 (t8 (t8 x))))))))).2.2.2.2.2.2.2.1) ((t8 (t8 (t8 (t8 (t8 (t8 (t8 (t8 (t8 (t8 x)))))))))).1) ((t8 (t8 (t8 (t8 (t8 (t8 (t8 (t8 (t8 (t8 x)))))))))).2.1) y.1.1 y.1.2.1 y.1.2.2.1 y.1.2.2.2.1 y.2.1.1 y.2.2.1.1 y.2.2.1.2.1 y.2.2.1.2.2.1 y.2.2.1.2.2.2.1 y.2.2.1.2.2.2.2.1 y.2.2.1.2.2.2.2.2.1 (AD K)
section
variable (bg:mi R) (bG:mh R) (aO:mO R) (fC:D2 R) (fB:D1 R) (bZ:r5 R) (ir:Gg R) (ck:Az R) (cm:AA R)
def n0:List (oq R) := [(71,false,(A3 bg ax)),(70,false,(AZ bG ax)),(69,false,(B3 aO ax)),(68,true,(Td fC ax)),(32,true,(S9 fB ax)),(21,true,(DU bZ ax)),(31,true,(VQ ir ax))]
def vG (dz:Bool→(List Json)→Int→Int→Int→ah→Int→Int→Json→Bool→Int→ah→Int→Int→(List Stop)→Option R) (lI:Bool) (oW:List Json) (Fb:Int) (uW:Int) (x21:Int) (x22:ah) (x23:Int) (x24:Int) (Qu:Json) (x26:Bool) (ZL:Int) (x28:ah) (x29:Int) (x30:Int) (x31:List Stop) (e0:Bool→Int→ah→Int→Int→Json→Bool→Int→ah→Int→Int→(List Stop)→Option R):Option R :=
 bif (decide (uW<Fb))then (cb (decide ((0:Int)≤uW)&&decide (uW<oW.length)) (aO (⟨(oW.getD uW.toNat (Ty.aZ .json)).kind,⟨(oW.getD uW.toNat (Ty.aZ .json)).num.ao,(oW.getD uW.toNat (Ty.aZ .json)).num.exp⟩,(oW.getD uW.toNat (Ty.aZ .json)).text,(oW.getD uW.toNat (Ty.aZ .json)).names,(oW.getD uW.toNat (Ty.aZ .json)).items⟩:Json) ([110,111,100,101,73,100]:ah) x26 (fun UI y33=>aO (⟨(oW.getD uW.toNat (Ty.aZ .json)).kind,⟨(oW.getD uW.toNat (Ty.aZ .json)).num.ao,(oW.getD uW.toNat (Ty.aZ .json)).num.exp⟩,(oW.getD uW.toNat (Ty.aZ .json)).text,(oW.getD uW.toNat (Ty.aZ .json)).names,(oW.getD uW.toNat (Ty.aZ .json)).items⟩:Json) ([115,101,113,117,101,110,99,101,73,100]:ah) y33 (fun y34 y35=>bg (⟨(oW.getD uW.toNat (Ty.aZ .json)).kind,⟨(oW.getD uW.toNat (Ty.aZ .json)).num.ao,(oW.getD uW.toNat (Ty.aZ .json)).num.exp⟩,(oW.getD uW.toNat (Ty.aZ .json)).text,(oW.getD uW.toNat (Ty.aZ .json)).names,(oW.getD uW.toNat (Ty.aZ .json)).items⟩:Json) ([114,101,108,101,97,115,101,100]:ah) y35 (fun y36 y37=>cb (decide ((x31.length+1)*24≤140737488355328)) (dz lI oW Fb (IntKind.i64.wrap (uW+1)) x21 x22 x23 x24 (⟨Qu.kind,⟨Qu.num.ao,Qu.num.exp⟩,Qu.text,Qu.names,Qu.items⟩:Json) y37 ZL x28 x29 x30 (x31++([(⟨UI,y34,y36⟩:Stop)]:List Stop))))))))else (e0 lI x21 x22 x23 x24 (⟨Qu.kind,⟨Qu.num.ao,Qu.num.exp⟩,Qu.text,Qu.names,Qu.items⟩:Json) x26 ZL x28 x29 x30 x31)
def IU (K:Ex→St→Option R) (rc:mS→Option R) (d:mS):Option R:=vG bg aO (fun z0 z1 z2 z3 z4 z5 z6 z7 z8 z9 Rx vP z12 z13 z14=>rc (z0,z1,z2,z3,z4,z5,z6,z7,z8,z9,Rx,vP,z12,z13,z14)) d.1 d.2.1 d.2.2.1 d.2.2.2.1 d.2.2.2.2.1 d.2.2.2.2.2.1 d.2.2.2.2.2.2.1 d.2.2.2.2.2.2.2.1 d.2.2.2.2.2.2.2.2.1 d.2.2.2.2.2.2.2.2.2.1 d.2.2.2.2.2.2.2.2.2.2.1 d.2.2.2.2.2.2.2.2.2.2.2.1 d.2.2.2.2.2.2.2.2.2.2.2.2.1 d.2.2.2.2.2.2.2.2.2.2.2.2.2.1 d.2.2.2.2.2.2.2.2.2.2.2.2.2.2 (AB K)
def vH (dz:Bool→(List Json)→Int→Int→Int→ah→Int→Int→Bool→Int→ah→Int→Int→(List Stop)→(List aC.Way)→Option R) (x52:Bool) (x53:List Json) (x54:Int) (VS:Int) (x56:Int) (x57:ah) (x58:Int) (x59:Int) (x60:Bool) (x61:Int) (x62:ah) (x63:Int) (x64:Int) (x65:List Stop) (x66:List aC.Way) (e0:Bool→Int→ah→Int→Int→Bool→Int→ah→Int→Int→(List Stop)→(List aC.Way)→Option R):Option R :=
 bif (decide (VS<x54))then (cb (decide ((0:Int)≤VS)&&decide (VS<x53.length)) (aO (⟨(x53.getD VS.toNat (Ty.aZ .json)).kind,⟨(x53.getD VS.toNat (Ty.aZ .json)).num.ao,(x53.getD VS.toNat (Ty.aZ .json)).num.exp⟩,(x53.getD VS.toNat (Ty.aZ .json)).text,(x53.getD VS.toNat (Ty.aZ .json)).names,(x53.getD VS.toNat (Ty.aZ .json)).items⟩:Json) ([101,100,103,101,73,100]:ah) x60 (fun y67 y68=>aO (⟨(x53.getD VS.toNat (Ty.aZ .json)).kind,⟨(x53.getD VS.toNat (Ty.aZ .json)).num.ao,(x53.getD VS.toNat (Ty.aZ .json)).num.exp⟩,(x53.getD VS.toNat (Ty.aZ .json)).text,(x53.getD VS.toNat (Ty.aZ .json)).names,(x53.getD VS.toNat (Ty.aZ .json)).items⟩:Json) ([115,101,113,117,101,110,99,101,73,100]:ah) y68 (fun y69 y70=>bg (⟨(x53.getD VS.toNat (Ty.aZ .json)).kind,⟨(x53.getD VS.toNat (Ty.aZ .json)).num.ao,(x53.getD VS.toNat (Ty.aZ .json)).num.exp⟩,(x53.getD VS.toNat (Ty.aZ .json)).text,(x53.getD VS.toNat (Ty.aZ .json)).names,(x53.getD VS.toNat (Ty.aZ .json)).items⟩:Json) ([114,101,108,101,97,115,101,100]:ah) y70 (fun y71 y72=>cb (decide ((x66.length+1)*24≤140737488355328)) (dz x52 x53 x54 (IntKind.i64.wrap (VS+1)) x56 x57 x58 x59 y72 x61 x62 x63 x64 x65 (x66++([(⟨y67,y69,y71⟩:aC.Way)]:List aC.Way))))))))else (e0 x52 x56 x57 x58 x59 x60 x61 x62 x63 x64 x65 x66)
def IV (K:Ex→St→Option R) (rc:mT→Option R) (d:mT):Option R:=vH bg aO (fun z0 z1 z2 z3 z4 z5 z6 z7 z8 z9 Rx vP z12 z13 z14=>rc (z0,z1,z2,z3,z4,z5,z6,z7,z8,z9,Rx,vP,z12,z13,z14)) d.1 d.2.1 d.2.2.1 d.2.2.2.1 d.2.2.2.2.1 d.2.2.2.2.2.1 d.2.2.2.2.2.2.1 d.2.2.2.2.2.2.2.1 d.2.2.2.2.2.2.2.2.1 d.2.2.2.2.2.2.2.2.2.1 d.2.2.2.2.2.2.2.2.2.2.1 d.2.2.2.2.2.2.2.2.2.2.2.1 d.2.2.2.2.2.2.2.2.2.2.2.2.1 d.2.2.2.2.2.2.2.2.2.2.2.2.2.1 d.2.2.2.2.2.2.2.2.2.2.2.2.2.2 (AD K)
def qF:Nat→Option (Hint×cL R):=fun i=>match i with
 | 11=>some (vE,(cG qB qC (Hr ck) iL))
 | 16=>some (vF,(cG qD qE (Hs cm) iL))
 | _=>none
theorem Pg (K:Ex→St→Option R) (rc:St→Option R) (d:mS):roundOf tt (cR (n0 bg bG aO fC fB bZ ir)) (qF ck cm) 0 ((aA (bc Tryz.f29)).getD 0 .skip) vE (yx d) rc K=IU bg aO K (fun d=>rc (yx d)) d:=by kernel_rfl
theorem Ph (K:Ex→St→Option R) (rc:St→Option R) (d:mT):roundOf tt (cR (n0 bg bG aO fC fB bZ ir)) (qF ck cm) 0 ((aA (bc Tryz.f29)).getD 1 .skip) vF (yy d) rc K=IV bg aO K (fun d=>rc (yy d)) d:=by kernel_rfl
def Mk (x1:ah) (k0:Order→Int→Option R):Option R :=
 ir x1 (fun y2 y3=>bif (y3 != 0)then (k0 (⟨0,([]:ah),0,0,([]:List Stop),([]:List aC.Way)⟩:Order) y3)else (fB y2 (fun y4 y5 y6=>bif (y5 != 0)then (k0 (⟨0,([]:ah),0,0,([]:List Stop),([]:List aC.Way)⟩:Order) y5)else (fC (⟨y4.kind,⟨y4.num.ao,y4.num.exp⟩,y4.text,y4.names,y4.items⟩:Json) ([115,101,114,105,97,108,78,117,109,98,101,114]:ah) (fun y7 y8=>aO (⟨y4.kind,⟨y4.num.ao,y4.num.exp⟩,y4.text,y4.names,y4.items⟩:Json) ([104,101,97,100,101,114,73,100]:ah) false (fun y9 um=>aO (⟨y4.kind,⟨y4.num.ao,y4.num.exp⟩,y4.text,y4.names,y4.items⟩:Json) ([111,114,100,101,114,73,100]:ah) um (fun vQ yK=>aO (⟨y4.kind,⟨y4.num.ao,y4.num.exp⟩,y4.text,y4.names,y4.items⟩:Json) ([111,114,100,101,114,85,112,100,97,116,101,73,100]:ah) yK (fun HJ G1=>bG (⟨y4.kind,⟨y4.num.ao,y4.num.exp⟩,y4.text,y4.names,y4.items⟩:Json) ([110,111,100,101,115]:ah) G1 (fun Iy EN=>ck (List.length Iy+Int.natAbs (Iy.length:Int)+Int.natAbs 0+Int.natAbs 0+List.length ([]:ah)+Int.natAbs 0+Int.natAbs 0+Json.fu (⟨y4.kind,⟨y4.num.ao,y4.num.exp⟩,y4.text,y4.names,y4.items⟩:Json)+Int.natAbs y9+List.length y7+Int.natAbs vQ+Int.natAbs HJ+List.length ([]:List Stop)+64) y8 Iy (Iy.length:Int) 0 0 ([]:ah) 0 0 (⟨y4.kind,⟨y4.num.ao,y4.num.exp⟩,y4.text,y4.names,y4.items⟩:Json) EN y9 y7 vQ HJ ([]:List Stop) (fun y38 W8 ZN Z5 Z6 W9 y44 y45 y46 y47 y48 y49=>bG (⟨W9.kind,⟨W9.num.ao,W9.num.exp⟩,W9.text,W9.names,W9.items⟩:Json) ([101,100,103,101,115]:ah) y44 (fun y50 y51=>cm (List.length y50+Int.natAbs (y50.length:Int)+Int.natAbs 0+Int.natAbs W8+List.length ZN+Int.natAbs Z5+Int.natAbs Z6+Int.natAbs y45+List.length y46+Int.natAbs y47+Int.natAbs y48+List.length y49+List.length ([]:List aC.Way)+64) y38 y50 (y50.length:Int) 0 W8 ZN Z5 Z6 y51 y45 y46 y47 y48 y49 ([]:List aC.Way) (fun y73 y74 y75 y76 y77 y78 y79 y80 y81 y82 y83 y84=>bif y78 then (k0 (⟨0,([]:ah),0,0,([]:List Stop),([]:List aC.Way)⟩:Order) 80)else (bif (!y73)then (k0 (⟨0,([]:ah),0,0,([]:List Stop),([]:List aC.Way)⟩:Order) 80)else (bZ (⟨y79,y80,y81,y82,y83,y84⟩:Order) (fun y85=>bif (!y85)then (k0 (⟨0,([]:ah),0,0,([]:List Stop),([]:List aC.Way)⟩:Order) 80)else (k0 (⟨y79,y80,y81,y82,y83,y84⟩:Order) 0))))))))))))))))
theorem order_Take_ok:dE (R:=R) tt (n0 bg bG aO fC fB bZ ir) (qF ck cm) false Tryz.f29 Mi Mj (QZ (Mk bG aO fC fB bZ ir ck cm)):=fun x y k=>by kernel_rfl
end
theorem YY:cu (R:=R) Tryz.prog (n0 (R:=R) bg bG aO fC fB bZ ir) := .d (Hq R) rfl <| .d (Hl R) rfl <| .d (HW R) rfl <| .c (Wr R) <| .c (Wp R) <| .c (Dr R) <| .c (YX R) <| .n
def ck:Az R
 | 0,_,_,_,_,_,_,_,_,_,_,_,_,_,_,_,_=>none
 | n+1,gk,gn,gw,mC,wa,xT,Eg,Eh,HH,HI,pF,xU,Dn,Dp,Ml,e0=>vG bg aO (fun gk gn gw mC wa xT Eg Eh HH HI pF xU Dn Dp Ml=>ck n gk gn gw mC wa xT Eg Eh HH HI pF xU Dn Dp Ml e0) gk gn gw mC wa xT Eg Eh HH HI pF xU Dn Dp Ml e0
def IW (K:Ex→St→Option R) (n:Nat) (d:mS):Option R:=ck n d.1 d.2.1 d.2.2.1 d.2.2.2.1 d.2.2.2.2.1 d.2.2.2.2.2.1 d.2.2.2.2.2.2.1 d.2.2.2.2.2.2.2.1 d.2.2.2.2.2.2.2.2.1 d.2.2.2.2.2.2.2.2.2.1 d.2.2.2.2.2.2.2.2.2.2.1 d.2.2.2.2.2.2.2.2.2.2.2.1 d.2.2.2.2.2.2.2.2.2.2.2.2.1 d.2.2.2.2.2.2.2.2.2.2.2.2.2.1 d.2.2.2.2.2.2.2.2.2.2.2.2.2.2 (AB K)
def cm:AA R
 | 0,_,_,_,_,_,_,_,_,_,_,_,_,_,_,_,_=>none
 | n+1,gk,gn,gw,mC,wa,xT,Eg,Eh,HH,HI,pF,xU,Dn,Dp,Ml,e0=>vH bg aO (fun gk gn gw mC wa xT Eg Eh HH HI pF xU Dn Dp Ml=>cm n gk gn gw mC wa xT Eg Eh HH HI pF xU Dn Dp Ml e0) gk gn gw mC wa xT Eg Eh HH HI pF xU Dn Dp Ml e0
def IX (K:Ex→St→Option R) (n:Nat) (d:mT):Option R:=cm n d.1 d.2.1 d.2.2.1 d.2.2.2.1 d.2.2.2.2.1 d.2.2.2.2.2.1 d.2.2.2.2.2.2.1 d.2.2.2.2.2.2.2.1 d.2.2.2.2.2.2.2.2.1 d.2.2.2.2.2.2.2.2.2.1 d.2.2.2.2.2.2.2.2.2.2.1 d.2.2.2.2.2.2.2.2.2.2.2.1 d.2.2.2.2.2.2.2.2.2.2.2.2.1 d.2.2.2.2.2.2.2.2.2.2.2.2.2.1 d.2.2.2.2.2.2.2.2.2.2.2.2.2.2 (AD K)
theorem RR (other:cL R) (ho:gW tt (cR (n0 (R:=R) bg bG aO fC fB bZ ir)) (qF (R:=R) ck cm) 0 ((aA (bc Tryz.f29)).getD 0 .skip) vE other):gW tt (cR (n0 (R:=R) bg bG aO fC fB bZ ir)) (qF (R:=R) ck cm) 0 ((aA (bc Tryz.f29)).getD 0 .skip) vE (cG qB qC (Hr (ck)) other) :=
 cQ (A:=IW) ho (dV yx (IU bg aO) (IW) (fun _ _=>by kernel_rfl) (Pg bg bG aO fC fB bZ ir ck cm) (fun _ _ _=>by kernel_rfl)) IS TA (fun _ _=>by kernel_rfl) (fun _ _ _=>by kernel_rfl)
theorem RS (other:cL R) (ho:gW tt (cR (n0 (R:=R) bg bG aO fC fB bZ ir)) (qF (R:=R) ck cm) 0 ((aA (bc Tryz.f29)).getD 1 .skip) vF other):gW tt (cR (n0 (R:=R) bg bG aO fC fB bZ ir)) (qF (R:=R) ck cm) 0 ((aA (bc Tryz.f29)).getD 1 .skip) vF (cG qD qE (Hs (cm)) other) :=
 cQ (A:=IX) ho (dV yy (IV bg aO) (IX) (fun _ _=>by kernel_rfl) (Ph bg bG aO fC fB bZ ir ck cm) (fun _ _ _=>by kernel_rfl)) IT TB (fun _ _=>by kernel_rfl) (fun _ _ _=>by kernel_rfl)
def nk:D7 R:=fun x1 k0=>Mk bG aO fC fB bZ ir ck cm x1 k0
theorem US (R:Type):∀a∈aA (bc Tryz.f29),gK tt (cR (n0 (R:=R) bg bG aO fC fB bZ ir)) (qF (R:=R) ck cm) 0 a:=by
 refine eY 2 (by kernel_rfl) fun i hi => ?_
 match i,hi with
 | 0,_=>exact cz (by kernel_rfl) (RR _ dv)
 | 1,_=>exact cz (by kernel_rfl) (RS _ dv)
 | n+2,hi=>omega
theorem WE (R:Type):k8 Tryz.prog 29 (Tz (nk (R:=R))):=bt TT mixed (YY (R:=R)) rfl rfl rfl rfl (US R) (order_Take_ok bg bG aO fC fB bZ ir ck cm)
end Go.Proofs.YtidfokedcnhahaaGreatDoor
/-
 Functions of the program as pure Lean functions, and the ties; printed by wip/tools/emit.py.
-/
set_option maxRecDepth 100000
namespace Go.Proofs.YtidfokedcnhahaaGreatDoor
open Go Go.aC
variable {R:Type}
/-! ### slices.Equal[[]humpyard/api.Stop,humpyard/api.Stop] -/
abbrev mj (R:Type):Type:=(List Stop)→(List Stop)→(Bool→Option R)→Option R
abbrev sS:List cP := [.leaf (.sl .stop), .leaf (.sl .stop)]
abbrev sT:List aW := []
def zq (fn:mj R):lh R sS sT:=fun x y k=>fn x.1 x.2.1 (fun q0=>k (.bool q0) [])
def A5 (fn:mj R):=aI sS sT (zq fn)
abbrev nn (R:Type):Type:=Nat→(List Stop)→(List Stop)→Int→Int→(Option R)→(Bool→Option R)→Option R
def j8:Hint := { live := [0,1,12,13],own := [],rows := [],cells := [],drop := [],out := [4] }
abbrev fK:Type:=(List Stop)×(List Stop)×Int×Int
def mz:fK→St:=fun d=>⟨.sl .stop d.1 .no :: .sl .stop d.2.1 .no::U 10 (.int .i64 d.2.2.1 :: .int .i64 d.2.2.2::U 12 ([])), []⟩
def np (K:Ex→St→Option R):Option R:=K (.exit 0) ⟨U 26 ([]), []⟩
def nq (K:Ex→St→Option R) (q0:Bool):Option R:=K (.ret) ⟨U 4 (.bool q0::U 21 ([])), []⟩
abbrev ib:List cP := .leaf (.sl .stop) :: .leaf (.sl .stop)::PU 10 (.leaf (.int .i64) :: .leaf (.int .i64)::PU 12 ([]))
abbrev ic:List aW := []
def vI (x:cP.bQ ib) (y:aW.bQ ic):Nat:=(List.length x.1+List.length x.2.1+Int.natAbs ((t8 x).2.2.2.2.1)+Int.natAbs ((t8 x).2.2.2.2.2.1)+64)
def Gh (x:cP.bQ ib) (y:aW.bQ ic):fK:=(x.1,x.2.1,(t8 x).2.2.2.2.1,(t8 x).2.2.2.2.2.1)
def uJ (L:nn R):wW R ib ic:=fun x y K=>L (vI x y) x.1 x.2.1 ((t8 x).2.2.2.2.1) ((t8 x).2.2.2.2.2.1) (np K) (nq K)
section
variable (bw:nn R)
def j9 (dz:(List Stop)→(List Stop)→Int→Int→Option R) (x3:List Stop) (x4:List Stop) (x5:Int) (x6:Int) (e0:Option R) (e1:Bool→Option R):Option R :=
 bif (decide (x6<x5))then (cb (decide ((0:Int)≤x6)&&decide (x6<x3.length)) (cb (decide ((0:Int)≤x6)&&decide (x6<x4.length)) (bif (!((x3.getD x6.toNat (Ty.aZ .stop)).node==(x4.getD x6.toNat (Ty.aZ .stop)).node&&((x3.getD x6.toNat (Ty.aZ .stop)).seq==(x4.getD x6.toNat (Ty.aZ .stop)).seq&&((x3.getD x6.toNat (Ty.aZ .stop)).bO==(x4.getD x6.toNat (Ty.aZ .stop)).bO&&true))))then (e1 false)else (dz x3 x4 x5 (IntKind.i64.wrap (x6+1))))))else (e0)
def vJ (K:Ex→St→Option R) (rc:fK→Option R) (d:fK):Option R:=j9 (fun z0 z1 z2 z3=>rc (z0,z1,z2,z3)) d.1 d.2.1 d.2.2.1 d.2.2.2 (np K) (nq K)
def jX:Nat→Option (Hint×cL R):=fun i=>match i with
 | 4=>some (j8,(cG ib ic (uJ bw) iL))
 | _=>none
theorem DC (K:Ex→St→Option R) (rc:St→Option R) (d:fK):roundOf tt (cR []) (jX bw) 0 ((aA (bc Tryz.f65)).getD 0 .skip) j8 (mz d) rc K=vJ K (fun d=>rc (mz d)) d:=by kernel_rfl
def sU (x1:List Stop) (x2:List Stop) (k0:Bool→Option R):Option R :=
 bif ((x1.length:Int) != (x2.length:Int))then (k0 false)else (bw (List.length x1+List.length x2+Int.natAbs (x1.length:Int)+Int.natAbs 0+64) x1 x2 (x1.length:Int) 0 (k0 true) (fun y7=>k0 y7))
theorem JN:dE (R:=R) tt [] (jX bw) false Tryz.f65 sS sT (zq (sU bw)):=fun x y k=>by kernel_rfl
end
def bw:nn R
 | 0,_,_,_,_,_,_=>none
 | n+1,gk,gn,gw,mC,e0,e1=>j9 (fun gk gn gw mC=>bw n gk gn gw mC e0 e1) gk gn gw mC e0 e1
def vK (K:Ex→St→Option R) (n:Nat) (d:fK):Option R:=bw n d.1 d.2.1 d.2.2.1 d.2.2.2 (np K) (nq K)
theorem Fh (other:cL R) (ho:gW tt (cR []) (jX (R:=R) bw) 0 ((aA (bc Tryz.f65)).getD 0 .skip) j8 other):gW tt (cR []) (jX (R:=R) bw) 0 ((aA (bc Tryz.f65)).getD 0 .skip) j8 (cG ib ic (uJ (bw)) other) :=
 cQ (A:=vK) ho (dV mz (vJ) (vK) (fun _ _=>by kernel_rfl) (DC bw) (fun _ _ _=>by kernel_rfl)) vI Gh (fun _ _=>by kernel_rfl) (fun _ _ _=>by kernel_rfl)
def dN:mj R:=fun x1 x2 k0=>sU bw x1 x2 k0
theorem Gi (R:Type):∀a∈aA (bc Tryz.f65),gK tt (cR []) (jX (R:=R) bw) 0 a:=by
 refine eY 1 (by kernel_rfl) fun i hi => ?_
 match i,hi with
 | 0,_=>exact cz (by kernel_rfl) (Fh _ dv)
 | n+1,hi=>omega
theorem Ht (R:Type):k8 Tryz.prog 65 (A5 (dN (R:=R))):=bt TT mixed .n rfl rfl rfl rfl (Gi R) (JN bw)
/-! ### slices.Equal[[]humpyard/api.Way,humpyard/api.Way] -/
abbrev n5 (R:Type):Type:=(List aC.Way)→(List aC.Way)→(Bool→Option R)→Option R
abbrev u7:List cP := [.leaf (.sl .pD), .leaf (.sl .pD)]
abbrev va:List aW := []
def Cq (fn:n5 R):lh R u7 va:=fun x y k=>fn x.1 x.2.1 (fun q0=>k (.bool q0) [])
def C8 (fn:n5 R):=aI u7 va (Cq fn)
abbrev o6 (R:Type):Type:=Nat→(List aC.Way)→(List aC.Way)→Int→Int→(Option R)→(Bool→Option R)→Option R
def lD:Hint := { live := [0,1,12,13],own := [],rows := [],cells := [],drop := [],out := [4] }
abbrev gv:Type:=(List aC.Way)×(List aC.Way)×Int×Int
def n7:gv→St:=fun d=>⟨.sl .pD d.1 .no :: .sl .pD d.2.1 .no::U 10 (.int .i64 d.2.2.1 :: .int .i64 d.2.2.2::U 12 ([])), []⟩
def o7 (K:Ex→St→Option R):Option R:=K (.exit 0) ⟨U 26 ([]), []⟩
def o8 (K:Ex→St→Option R) (q0:Bool):Option R:=K (.ret) ⟨U 4 (.bool q0::U 21 ([])), []⟩
abbrev jh:List cP := .leaf (.sl .pD) :: .leaf (.sl .pD)::PU 10 (.leaf (.int .i64) :: .leaf (.int .i64)::PU 12 ([]))
abbrev ji:List aW := []
def xG (x:cP.bQ jh) (y:aW.bQ ji):Nat:=(List.length x.1+List.length x.2.1+Int.natAbs ((t8 x).2.2.2.2.1)+Int.natAbs ((t8 x).2.2.2.2.2.1)+64)
def H2 (x:cP.bQ jh) (y:aW.bQ ji):gv:=(x.1,x.2.1,(t8 x).2.2.2.2.1,(t8 x).2.2.2.2.2.1)
def wO (L:o6 R):wW R jh ji:=fun x y K=>L (xG x y) x.1 x.2.1 ((t8 x).2.2.2.2.1) ((t8 x).2.2.2.2.2.1) (o7 K) (o8 K)
section
variable (bI:o6 R)
def lE (dz:(List aC.Way)→(List aC.Way)→Int→Int→Option R) (x3:List aC.Way) (x4:List aC.Way) (x5:Int) (x6:Int) (e0:Option R) (e1:Bool→Option R):Option R :=
 bif (decide (x6<x5))then (cb (decide ((0:Int)≤x6)&&decide (x6<x3.length)) (cb (decide ((0:Int)≤x6)&&decide (x6<x4.length)) (bif (!((x3.getD x6.toNat (Ty.aZ .pD)).yC==(x4.getD x6.toNat (Ty.aZ .pD)).yC&&((x3.getD x6.toNat (Ty.aZ .pD)).seq==(x4.getD x6.toNat (Ty.aZ .pD)).seq&&((x3.getD x6.toNat (Ty.aZ .pD)).bO==(x4.getD x6.toNat (Ty.aZ .pD)).bO&&true))))then (e1 false)else (dz x3 x4 x5 (IntKind.i64.wrap (x6+1))))))else (e0)
def xH (K:Ex→St→Option R) (rc:gv→Option R) (d:gv):Option R:=lE (fun z0 z1 z2 z3=>rc (z0,z1,z2,z3)) d.1 d.2.1 d.2.2.1 d.2.2.2 (o7 K) (o8 K)
def lL:Nat→Option (Hint×cL R):=fun i=>match i with
 | 4=>some (lD,(cG jh ji (wO bI) iL))
 | _=>none
theorem Fi (K:Ex→St→Option R) (rc:St→Option R) (d:gv):roundOf tt (cR []) (lL bI) 0 ((aA (bc Tryz.f66)).getD 0 .skip) lD (n7 d) rc K=xH K (fun d=>rc (n7 d)) d:=by kernel_rfl
def vb (x1:List aC.Way) (x2:List aC.Way) (k0:Bool→Option R):Option R :=
 bif ((x1.length:Int) != (x2.length:Int))then (k0 false)else (bI (List.length x1+List.length x2+Int.natAbs (x1.length:Int)+Int.natAbs 0+64) x1 x2 (x1.length:Int) 0 (k0 true) (fun y7=>k0 y7))
theorem Mm:dE (R:=R) tt [] (lL bI) false Tryz.f66 u7 va (Cq (vb bI)):=fun x y k=>by kernel_rfl
end
def bI:o6 R
 | 0,_,_,_,_,_,_=>none
 | n+1,gk,gn,gw,mC,e0,e1=>lE (fun gk gn gw mC=>bI n gk gn gw mC e0 e1) gk gn gw mC e0 e1
def xI (K:Ex→St→Option R) (n:Nat) (d:gv):Option R:=bI n d.1 d.2.1 d.2.2.1 d.2.2.2 (o7 K) (o8 K)
theorem Hu (other:cL R) (ho:gW tt (cR []) (lL (R:=R) bI) 0 ((aA (bc Tryz.f66)).getD 0 .skip) lD other):gW tt (cR []) (lL (R:=R) bI) 0 ((aA (bc Tryz.f66)).getD 0 .skip) lD (cG jh ji (wO (bI)) other) :=
 cQ (A:=xI) ho (dV n7 (xH) (xI) (fun _ _=>by kernel_rfl) (Fi bI) (fun _ _ _=>by kernel_rfl)) xG H2 (fun _ _=>by kernel_rfl) (fun _ _ _=>by kernel_rfl)
def eG:n5 R:=fun x1 x2 k0=>vb bI x1 x2 k0
theorem H3 (R:Type):∀a∈aA (bc Tryz.f66),gK tt (cR []) (lL (R:=R) bI) 0 a:=by
 refine eY 1 (by kernel_rfl) fun i hi => ?_
 match i,hi with
 | 0,_=>exact cz (by kernel_rfl) (Hu _ dv)
 | n+1,hi=>omega
theorem JO (R:Type):k8 Tryz.prog 66 (C8 (eG (R:=R))):=bt TT mixed .n rfl rfl rfl rfl (H3 R) (Mm bI)
/-! ### humpyard/order.Same -/
abbrev zt (R:Type):Type:=Order→Order→(Bool→Option R)→Option R
abbrev Mn:List cP := [.agg [.int .i64, .str, .int .i64, .int .i64, .sl .stop, .sl .pD], .agg [.int .i64, .str, .int .i64, .int .i64, .sl .stop, .sl .pD]]
abbrev Mo:List aW := []
def Q0 (fn:zt R):lh R Mn Mo:=fun x y k=>fn (⟨x.1.1,x.1.2.1,x.1.2.2.1,x.1.2.2.2.1,x.1.2.2.2.2.1,x.1.2.2.2.2.2.1⟩:Order) (⟨x.2.1.1,x.2.1.2.1,x.2.1.2.2.1,x.2.1.2.2.2.1,x.2.1.2.2.2.2.1,x.2.1.2.2.2.2.2.1⟩:Order) (fun q0=>k (.bool q0) [])
def Mp (fn:zt R):=aI Mn Mo (Q0 fn)
section
variable (dN:mj R) (eG:n5 R)
def TC:List (oq R) := [(65,true,(A5 dN ax)),(66,true,(C8 eG ax))]
def Mq (x1:Order) (x2:Order) (k0:Bool→Option R):Option R :=
 bif (x1.header==x2.header)then (bif (x1.cO==x2.cO)then (bif (x1.order==x2.order)then (bif (x1.update==x2.update)then (dN x1.nodes x2.nodes (fun y3=>bif y3 then (eG x1.bK x2.bK (fun y4=>k0 y4))else (k0 false)))else (k0 false))else (k0 false))else (k0 false))else (k0 false)
theorem order_Same_ok:dE (R:=R) tt (TC dN eG) rS false Tryz.f23 Mn Mo (Q0 (Mq dN eG)):=fun x y k=>by kernel_rfl
end
theorem YZ:cu (R:=R) Tryz.prog (TC (R:=R) dN eG) := .c (Ht R) <| .c (JO R) <| .n
def fG:zt R:=fun x1 x2 k0=>Mq dN eG x1 x2 k0
theorem M7 (R:Type):k8 Tryz.prog 23 (Mp (fG (R:=R))):=bt TT mixed (YZ (R:=R)) rfl rfl rfl rfl cd (order_Same_ok dN eG)
/-! ### humpyard/order.Base -/
abbrev zu (R:Type):Type:=Order→(Int→Option R)→Option R
abbrev Mr:List cP := [.agg [.int .i64, .str, .int .i64, .int .i64, .sl .stop, .sl .pD]]
abbrev Ms:List aW := []
def Q1 (fn:zu R):lh R Mr Ms:=fun x y k=>fn (⟨x.1.1,x.1.2.1,x.1.2.2.1,x.1.2.2.2.1,x.1.2.2.2.2.1,x.1.2.2.2.2.2.1⟩:Order) (fun q0=>k (.int .i64 q0) [])
def Mt (fn:zu R):=aI Mr Ms (Q1 fn)
abbrev Cr (R:Type):Type:=Nat→Int→(List Stop)→Int→Int→(Int→Option R)→Option R
def xh:Hint := { live := [2,6,7,8],own := [],rows := [],cells := [],drop := [],out := [2] }
abbrev oy:Type:=Int×(List Stop)×Int×Int
def AE:oy→St:=fun d=>⟨U 2 (.int .i64 d.1::U 3 (.sl .stop d.2.1 .no :: .int .i64 d.2.2.1 :: .int .i64 d.2.2.2::U 8 ([]))), []⟩
def Cs (K:Ex→St→Option R) (q0:Int):Option R:=K (.exit 0) ⟨U 2 (.int .i64 q0::U 14 ([])), []⟩
abbrev sV:List cP:=PU 2 (.leaf (.int .i64)::PU 3 (.leaf (.sl .stop) :: .leaf (.int .i64) :: .leaf (.int .i64)::PU 8 ([])))
abbrev sW:List aW := []
def KB (x:cP.bQ sV) (y:aW.bQ sW):Nat:=(Int.natAbs x.2.2.1+List.length x.2.2.2.2.2.2.1+Int.natAbs x.2.2.2.2.2.2.2.1+Int.natAbs ((t8 x).1)+64)
def UT (x:cP.bQ sV) (y:aW.bQ sW):oy:=(x.2.2.1,x.2.2.2.2.2.2.1,x.2.2.2.2.2.2.2.1,(t8 x).1)
def IY (L:Cr R):wW R sV sW:=fun x y K=>L (KB x y) x.2.2.1 x.2.2.2.2.2.2.1 x.2.2.2.2.2.2.2.1 ((t8 x).1) (Cs K)
section
variable (dm:Cr R)
def xi (dz:Int→(List Stop)→Int→Int→Option R) (x2:Int) (x3:List Stop) (x4:Int) (x5:Int) (e0:Int→Option R):Option R :=
 bif (decide (x5<x4))then (cb (decide ((0:Int)≤x5)&&decide (x5<x3.length)) (bif (x3.getD x5.toNat (Ty.aZ .stop)).bO then (dz (IntKind.i64.wrap (x2+1)) x3 x4 (IntKind.i64.wrap (x5+1)))else (dz x2 x3 x4 (IntKind.i64.wrap (x5+1)))))else (e0 x2)
def KC (K:Ex→St→Option R) (rc:oy→Option R) (d:oy):Option R:=xi (fun z0 z1 z2 z3=>rc (z0,z1,z2,z3)) d.1 d.2.1 d.2.2.1 d.2.2.2 (Cs K)
def Ct:Nat→Option (Hint×cL R):=fun i=>match i with
 | 2=>some (xh,(cG sV sW (IY dm) iL))
 | _=>none
theorem Qi (K:Ex→St→Option R) (rc:St→Option R) (d:oy):roundOf tt (cR []) (Ct dm) 0 ((aA (bc Tryz.f25)).getD 0 .skip) xh (AE d) rc K=KC K (fun d=>rc (AE d)) d:=by kernel_rfl
def Mu (x1:Order) (k0:Int→Option R):Option R :=
 dm (Int.natAbs 0+List.length x1.nodes+Int.natAbs (x1.nodes.length:Int)+Int.natAbs 0+64) 0 x1.nodes (x1.nodes.length:Int) 0 (fun y7=>k0 y7)
theorem order_Base_ok:dE (R:=R) tt [] (Ct dm) false Tryz.f25 Mr Ms (Q1 (Mu dm)):=fun x y k=>by kernel_rfl
end
def dm:Cr R
 | 0,_,_,_,_,_=>none
 | n+1,gk,gn,gw,mC,e0=>xi (fun gk gn gw mC=>dm n gk gn gw mC e0) gk gn gw mC e0
def KD (K:Ex→St→Option R) (n:Nat) (d:oy):Option R:=dm n d.1 d.2.1 d.2.2.1 d.2.2.2 (Cs K)
theorem TE (other:cL R) (ho:gW tt (cR []) (Ct (R:=R) dm) 0 ((aA (bc Tryz.f25)).getD 0 .skip) xh other):gW tt (cR []) (Ct (R:=R) dm) 0 ((aA (bc Tryz.f25)).getD 0 .skip) xh (cG sV sW (IY (dm)) other) :=
 cQ (A:=KD) ho (dV AE (KC) (KD) (fun _ _=>by kernel_rfl) (Qi dm) (fun _ _ _=>by kernel_rfl)) KB UT (fun _ _=>by kernel_rfl) (fun _ _ _=>by kernel_rfl)
def fH:zu R:=fun x1 k0=>Mu dm x1 k0
theorem UU (R:Type):∀a∈aA (bc Tryz.f25),gK tt (cR []) (Ct (R:=R) dm) 0 a:=by
 refine eY 1 (by kernel_rfl) fun i hi => ?_
 match i,hi with
 | 0,_=>exact cz (by kernel_rfl) (TE _ dv)
 | n+1,hi=>omega
theorem M8 (R:Type):k8 Tryz.prog 25 (Mt (fH (R:=R))):=bt TT mixed .n rfl rfl rfl rfl (UU R) (order_Base_ok dm)
/-! ### humpyard/humpyardlaw08.awake -/
abbrev Cu (R:Type):Type:=(Bool→Option R)→Option R
abbrev JP:List cP := []
abbrev JQ:List aW := []
def Pj (fn:Cu R):lh R JP JQ:=fun x y k=>fn (fun q0=>k (.bool q0) [])
def Q2 (fn:Cu R):=aI JP JQ (Pj fn)
section
variable (fH:zu R) (gd:Cp R) (bZ:r5 R) (fG:zt R) (nk:D7 R) (eK:xg R)
def Q3:List (oq R) := [(25,true,(Mt fH ax)),(19,true,(Pb gd ax)),(21,true,(DU bZ ax)),(23,true,(Mp fG ax)),(29,true,(Tz nk ax)),(28,true,(IN eK ax))]
def JR (k0:Bool→Option R):Option R :=
 gd (⟨1,([118,49]:ah),2,0,([(⟨3,0,true⟩:Stop)]:List Stop),([]:List aC.Way)⟩:Order) (fun y1 y2=>nk y1 (fun y3 y4=>gd (⟨0,([]:ah),0,0,([]:List Stop),([]:List aC.Way)⟩:Order) (fun y5 y6=>bif (y2==0)then (eK ([123,34,104,101,97,100,101,114,73,100,34,58,49,44,34,115,101,114,105,97,108,78,117,109,98,101,114,34,58,34,118,49,34,44,34,111,114,100,101,114,73,100,34,58,50,44,34,111,114,100,101,114,85,112,100,97,116,101,73,100,34,58,48,44,34,110,111,100,101,115,34,58,91,123,34,110,111,100,101,73,100,34,58,51,44,34,115,101,113,117,101,110,99,101,73,100,34,58,48,44,34,114,101,108,101,97,115,101,100,34,58,116,114,117,101,125,93,44,34,101,100,103,101,115,34,58,91,93,125]:ah) (fun y7=>bif (y1==y7)then (bif (decide ((y1.length:Int)>(100:Int)))then (bif (y4==0)then (fG (⟨1,([118,49]:ah),2,0,([(⟨3,0,true⟩:Stop)]:List Stop),([]:List aC.Way)⟩:Order) y3 (fun y8=>bif y8 then (fH (⟨1,([118,49]:ah),2,0,([(⟨3,0,true⟩:Stop)]:List Stop),([]:List aC.Way)⟩:Order) (fun y9=>bif (y9==1)then (bif (y6==1)then (bZ (⟨1,([118,49]:ah),2,0,([(⟨3,0,true⟩:Stop)]:List Stop),([]:List aC.Way)⟩:Order) (fun um=>k0 um))else (k0 false))else (k0 false)))else (k0 false)))else (k0 false))else (k0 false))else (k0 false)))else (k0 false))))
theorem Y0:dE (R:=R) tt (Q3 fH gd bZ fG nk eK) rS false Tryz.f17 JP JQ (Pj (JR fH gd bZ fG nk eK)):=fun x y k=>by kernel_rfl
end
theorem WG:cu (R:=R) Tryz.prog (Q3 (R:=R) fH gd bZ fG nk eK) := .c (M8 R) <| .c (Pd R) <| .c (Dr R) <| .c (M7 R) <| .c (WE R) <| .c (Hp R) <| .n
def mA:Cu R:=fun  k0=>JR fH gd bZ fG nk eK  k0
theorem UW (R:Type):k8 Tryz.prog 17 (Q2 (mA (R:=R))):=bt TT mixed (WG (R:=R)) rfl rfl rfl rfl cd (Y0 fH gd bZ fG nk eK)
/-! ### humpyard/humpyardlaw08.pick -/
abbrev zw (R:Type):Type:=Int→Int→(Int→Option R)→Option R
abbrev Mv:List cP := [.leaf (.int .i64), .leaf (.int .i64)]
abbrev Mw:List aW := []
def Q4 (fn:zw R):lh R Mv Mw:=fun x y k=>fn x.1 x.2.1 (fun q0=>k (.int .i64 q0) [])
def Mx (fn:zw R):=aI Mv Mw (Q4 fn)
section
def TF (x1:Int) (x2:Int) (k0:Int→Option R):Option R :=
 bif (decide (x1<(0:Int)))then (cb (!decide (x2=0)) (k0 (Int.tmod (IntKind.i64.wrap (0 - (IntKind.i64.wrap (x1+1)))) x2)))else (cb (!decide (x2=0)) (k0 (Int.tmod x1 x2)))
theorem law08_pick_ok:dE (R:=R) tt [] rS false Tryz.f27 Mv Mw (Q4 TF):=fun x y k=>by kernel_rfl
end
def cW:zw R:=fun x1 x2 k0=>TF x1 x2 k0
theorem M9 (R:Type):k8 Tryz.prog 27 (Mx (cW (R:=R))):=bt TT mixed .n rfl rfl rfl rfl cd (law08_pick_ok)
/-! ### humpyard/humpyardlaw07.Fit -/
abbrev Gj (R:Type):Type:=ah→(ah→Option R)→Option R
abbrev Pk:List cP := [.leaf (.str)]
abbrev Pl:List aW := []
def TG (fn:Gj R):lh R Pk Pl:=fun x y k=>fn x.1 (fun q0=>k (.str q0) [])
def VT (fn:Gj R):=aI Pk Pl (TG fn)
abbrev DE (R:Type):Type:=Nat→Nat→Int→(List Int)→(Nat→(List Int)→Option R)→Option R
def zM:Hint := { live := [3,4],own := [],rows := [],cells := [],drop := [],out := [2,3] }
abbrev pO:Type:=Nat×Int×(List Int)
def Cv:pO→St:=fun d=>⟨U 3 (.row 0 d.1 :: .int .i64 d.2.1::U 25 ([])), [.row (.int .u8) d.2.2]⟩
def DF (K:Ex→St→Option R) (q0:Nat) (q1:List Int):Option R:=K (.exit 0) ⟨U 3 (.row 0 q0::U 26 ([])), [.row (.int .u8) q1]⟩
abbrev uK:List cP:=PU 3 (.leaf (.row 0) :: .leaf (.int .i64)::PU 25 ([]))
abbrev uL:List aW := [.row (.int .u8)]
def Na (x:cP.bQ uK) (y:aW.bQ uL):Nat:=(Int.natAbs x.2.2.2.2.1+List.length y.1+64)
def WH (x:cP.bQ uK) (y:aW.bQ uL):pO:=(x.2.2.2.1,x.2.2.2.2.1,y.1)
def KE (L:DE R):wW R uK uL:=fun x y K=>L (Na x y) x.2.2.2.1 x.2.2.2.2.1 y.1 (DF K)
section
variable (dy:DE R)
def zN (dz:Nat→Int→(List Int)→Option R) (x2:Nat) (x3:Int) (x4:List Int) (e0:Nat→(List Int)→Option R):Option R :=
 bif (decide (x3<(x2:Int)))then (cb (decide ((0:Int)≤x3)&&decide (x3<x2)) (cb (decide (x3.toNat<x4.length)) (cb (decide ((0:Int)≤(Int.tmod (IntKind.i64.wrap (x4.getD x3.toNat (Ty.aZ (.int .u8)))) 20))&&decide ((Int.tmod (IntKind.i64.wrap (x4.getD x3.toNat (Ty.aZ (.int .u8)))) 20)<(20:Int))) (cb (decide ((0:Int)≤x3)&&decide (x3<x2)) (cb (decide (x3.toNat<x4.length)) (dz x2 (IntKind.i64.wrap (x3+1)) (x4.set x3.toNat ((([97,98,99,120,121,122,65,66,67,88,89,90,48,49,56,57,95,46,58,45]:ah).getD ((Int.tmod (IntKind.i64.wrap (x4.getD x3.toNat (Ty.aZ (.int .u8)))) 20).toNat) 0).toNat:Int))))))))else (e0 x2 x4)
def Nb (K:Ex→St→Option R) (rc:pO→Option R) (d:pO):Option R:=zN (fun z0 z1 z2=>rc (z0,z1,z2)) d.1 d.2.1 d.2.2 (DF K)
def EB:Nat→Option (Hint×cL R):=fun i=>match i with
 | 3=>some (zM,(cG uK uL (KE dy) iL))
 | _=>none
theorem RT (K:Ex→St→Option R) (rc:St→Option R) (d:pO):roundOf tt (cR []) (EB dy) 0 ((aA (bc Tryz.f33)).getD 0 .skip) zM (Cv d) rc K=Nb K (fun d=>rc (Cv d)) d:=by kernel_rfl
def Pm (x1:ah) (k0:ah→Option R):Option R :=
 cb (decide ((0:Int)≤(min (x1.length:Int) 15))&&decide ((min (x1.length:Int) 15)≤x1.length)) (cb (decide ((0:Int)≤(min (x1.length:Int) 15))) (cb (decide (1+((x1.drop 0).take ((min (x1.length:Int) 15).toNat - 0)).length≤9223372036854775807)) (dy (Int.natAbs 1+List.length (jI (([110]:ah)++((x1.drop 0).take ((min (x1.length:Int) 15).toNat - 0))))+64) ((([110]:ah)++((x1.drop 0).take ((min (x1.length:Int) 15).toNat - 0))).length) 1 (jI (([110]:ah)++((x1.drop 0).take ((min (x1.length:Int) 15).toNat - 0)))) (fun y5 y6=>k0 (List.map (fun n:Int=>UInt8.ofNat n.toNat) y6:ah)))))
theorem law07_Fit_ok:dE (R:=R) tt [] (EB dy) false Tryz.f33 Pk Pl (TG (Pm dy)):=fun x y k=>by kernel_rfl
end
def dy:DE R
 | 0,_,_,_,_=>none
 | n+1,gk,gn,gw,e0=>zN (fun gk gn gw=>dy n gk gn gw e0) gk gn gw e0
def Nc (K:Ex→St→Option R) (n:Nat) (d:pO):Option R:=dy n d.1 d.2.1 d.2.2 (DF K)
theorem UX (other:cL R) (ho:gW tt (cR []) (EB (R:=R) dy) 0 ((aA (bc Tryz.f33)).getD 0 .skip) zM other):gW tt (cR []) (EB (R:=R) dy) 0 ((aA (bc Tryz.f33)).getD 0 .skip) zM (cG uK uL (KE (dy)) other) :=
 cQ (A:=Nc) ho (dV Cv (Nb) (Nc) (fun _ _=>by kernel_rfl) (RT dy) (fun _ _ _=>by kernel_rfl)) Na WH (fun _ _=>by kernel_rfl) (fun _ _ _=>by kernel_rfl)
def k6:Gj R:=fun x1 k0=>Pm dy x1 k0
theorem WI (R:Type):∀a∈aA (bc Tryz.f33),gK tt (cR []) (EB (R:=R) dy) 0 a:=by
 refine eY 1 (by kernel_rfl) fun i hi => ?_
 match i,hi with
 | 0,_=>exact cz (by kernel_rfl) (UX _ dv)
 | n+1,hi=>omega
theorem Y1 (R:Type):k8 Tryz.prog 33 (VT (k6 (R:=R))):=bt TT mixed .n rfl rfl rfl rfl (WI R) (law07_Fit_ok dy)
end Go.Proofs.YtidfokedcnhahaaGreatDoor
/-
 Functions of the program as pure Lean functions, and the ties; printed by wip/tools/emit.py.
-/
set_option maxRecDepth 100000
namespace Go.Proofs.YtidfokedcnhahaaGreatDoor
open Go Go.aC
variable {R:Type}
/-! ### humpyard/humpyardlaw08.Fit -/
abbrev Gk (R:Type):Type:=Order→Int→(Order→Option R)→Option R
abbrev Pn:List cP := [.agg [.int .i64, .str, .int .i64, .int .i64, .sl .stop, .sl .pD], .leaf (.int .i64)]
abbrev Po:List aW := []
def TH (fn:Gk R):lh R Pn Po:=fun x y k=>fn (⟨x.1.1,x.1.2.1,x.1.2.2.1,x.1.2.2.2.1,x.1.2.2.2.2.1,x.1.2.2.2.2.2.1⟩:Order) x.2.1 (fun q0=>k (.agg [.int .i64 q0.header, .str q0.cO, .int .i64 q0.order, .int .i64 q0.update, .sl .stop q0.nodes .no, .sl .pD q0.bK .no]) [])
def VU (fn:Gk R):=aI Pn Po (TH fn)
abbrev DG (R:Type):Type:=Nat→Int→Int→Int→Int→Order→Int→ah→Int→Int→Int→ah→Int→Int→(List Stop)→(List aC.Way)→(Int→ah→Int→Int→Int→ah→Int→Int→(List Stop)→(List aC.Way)→Option R)→Option R
def zO:Hint := { live := [2,4,5,6,7,8,9],own := [],rows := [],cells := [(2,4, .stop,false),(2,5, .pD,false)],drop := [],out := [4,5] }
abbrev pP:Type:=Int×Int×Int×Int×Order×Int×ah×Int×Int×Int×ah×Int×Int×(List Stop)×(List aC.Way)
def Cw:pP→St:=fun d=>⟨U 2 (.ptr 0 0 :: .undef :: .ptr 1 0 :: .ptr 2 0 :: .int .i64 d.1 :: .int .i64 d.2.1 :: .int .i64 d.2.2.1 :: .int .i64 d.2.2.2.1::U 85 ([])), [.cells [.int .i64 d.2.2.2.2.1.header, .str d.2.2.2.2.1.cO, .int .i64 d.2.2.2.2.1.order, .int .i64 d.2.2.2.2.1.update, .sl .stop d.2.2.2.2.1.nodes .no, .sl .pD d.2.2.2.2.1.bK .no], .cells [.int .i64 d.2.2.2.2.2.1, .str d.2.2.2.2.2.2.1, .int .i64 d.2.2.2.2.2.2.2.1, .int .i64 d.2.2.2.2.2.2.2.2.1, .bx, .bx], .cells [.int .i64 d.2.2.2.2.2.2.2.2.2.1, .str d.2.2.2.2.2.2.2.2.2.2.1, .int .i64 d.2.2.2.2.2.2.2.2.2.2.2.1, .int .i64 d.2.2.2.2.2.2.2.2.2.2.2.2.1, .sl .stop d.2.2.2.2.2.2.2.2.2.2.2.2.2.1 (.own 3), .sl .pD d.2.2.2.2.2.2.2.2.2.2.2.2.2.2 (.own 4)], .tok, .tok]⟩
def DH (K:Ex→St→Option R) (q0:Int) (q1:ah) (q2:Int) (q3:Int) (q4:Int) (q5:ah) (q6:Int) (q7:Int) (q8:List Stop) (q9:List aC.Way):Option R:=K (.exit 0) ⟨U 4 (.ptr 0 0 :: .ptr 1 0::U 89 ([])), [.cells [.int .i64 q0, .str q1, .int .i64 q2, .int .i64 q3, .bx, .bx], .cells [.int .i64 q4, .str q5, .int .i64 q6, .int .i64 q7, .sl .stop q8 (.own 2), .sl .pD q9 (.own 3)], .tok, .tok]⟩
abbrev uM:List cP:=PU 2 (.leaf (.ptr 0 0) :: .leaf (.undef) :: .leaf (.ptr 1 0) :: .leaf (.ptr 2 0) :: .leaf (.int .i64) :: .leaf (.int .i64) :: .leaf (.int .i64) :: .leaf (.int .i64)::PU 85 ([]))
abbrev uN:List aW := [.cells [.int .i64, .str, .int .i64, .int .i64, .sl .stop, .sl .pD], .cells [.int .i64, .str, .int .i64, .int .i64, .bx, .bx], .cells [.int .i64, .str, .int .i64, .int .i64, .T4 .stop 3, .T4 .pD 4], .tok, .tok]
def Nd (x:cP.bQ uM) (y:aW.bQ uN):Nat:=(Int.natAbs x.2.2.2.2.2.2.1+Int.natAbs x.2.2.2.2.2.2.2.1+Int.natAbs ((t8 x).1)+Int.natAbs ((t8 x).2.1)+Order.fu (⟨y.1.1,y.1.2.1,y.1.2.2.1,y.1.2.2.2.1,y.1.2.2.2.2.1,y.1.2.2.2.2.2.1⟩:Order)+Int.natAbs y.2.1.1+List.length y.2.1.2.1+Int.natAbs y.2.1.2.2.1+Int.natAbs y.2.1.2.2.2.1+Int.natAbs y.2.2.1.1+List.length y.2.2.1.2.1+Int.natAbs y.2.2.1.2.2.1+Int.natAbs y.2.2.1.2.2.2.1+List.length y.2.2.1.2.2.2.2.1+List.length y.2.2.1.2.2.2.2.2.1+64)
def WJ (x:cP.bQ uM) (y:aW.bQ uN):pP:=(x.2.2.2.2.2.2.1,x.2.2.2.2.2.2.2.1,(t8 x).1,(t8 x).2.1,(⟨y.1.1,y.1.2.1,y.1.2.2.1,y.1.2.2.2.1,y.1.2.2.2.2.1,y.1.2.2.2.2.2.1⟩:Order),y.2.1.1,y.2.1.2.1,y.2.1.2.2.1,y.2.1.2.2.2.1,y.2.2.1.1,y.2.2.1.2.1,y.2.2.1.2.2.1,y.2.2.1.2.2.2.1,y.2.2.1.2.2.2.2.1,y.2.2.1.2.2.2.2.2.1)
def KF (L:DG R):wW R uM uN:=fun x y K=>L (Nd x y) x.2.2.2.2.2.2.1 x.2.2.2.2.2.2.2.1 ((t8 x).1) ((t8 x).2.1) (⟨y.1.1,y.1.2.1,y.1.2.2.1,y.1.2.2.2.1,y.1.2.2.2.2.1,y.1.2.2.2.2.2.1⟩:Order) y.2.1.1 y.2.1.2.1 y.2.1.2.2.1 y.2.1.2.2.2.1 y.2.2.1.1 y.2.2.1.2.1 y.2.2.1.2.2.1 y.2.2.1.2.2.2.1 y.2.2.1.2.2.2.2.1 y.2.2.1.2.2.2.2.2.1 (DH K)
section
variable (k6:Gj R) (cW:zw R) (dq:DG R)
def A6:List (oq R) := [(33,true,(VT k6 ax)),(27,true,(Mx cW ax))]
def zP (dz:Int→Int→Int→Int→Order→Int→ah→Int→Int→Int→ah→Int→Int→(List Stop)→(List aC.Way)→Option R) (x9:Int) (Ut:Int) (Nq:Int) (CJ:Int) (HG:Order) (Ls:Int) (ot:ah) (tH:Int) (lI:Int) (oW:Int) (Fb:ah) (uW:Int) (x21:Int) (x22:List Stop) (x23:List aC.Way) (e0:Int→ah→Int→Int→Int→ah→Int→Int→(List Stop)→(List aC.Way)→Option R):Option R :=
 bif (decide (CJ<Ut))then (bif (decide (CJ<(HG.nodes.length:Int)))then (cb (decide ((0:Int)≤CJ)&&decide (CJ<HG.nodes.length)) (cW ((HG.nodes.getD CJ.toNat (Ty.aZ .stop)).node) 1000000001 (fun y24=>cb (decide ((0:Int)≤CJ)&&decide (CJ<HG.nodes.length)) (cW ((HG.nodes.getD CJ.toNat (Ty.aZ .stop)).seq) 1000000001 (fun Qx=>bif (decide (CJ>(0:Int)))then (cb (decide ((x23.length+1)*24≤140737488355328)) (cb (decide ((x22.length+1)*24≤140737488355328)) (dz x9 Ut Nq (IntKind.i64.wrap (CJ+1)) HG Ls ot tH lI oW Fb uW x21 (x22++([(⟨y24,(IntKind.i64.wrap (x9+(IntKind.i64.wrap (2*CJ)))),(decide (CJ<Nq))⟩:Stop)]:List Stop)) (x23++([(⟨Qx,(IntKind.i64.wrap ((IntKind.i64.wrap (x9+(IntKind.i64.wrap (2*CJ)))) - 1)),(decide (CJ<Nq))⟩:aC.Way)]:List aC.Way)))))else (cb (decide ((x22.length+1)*24≤140737488355328)) (dz x9 Ut Nq (IntKind.i64.wrap (CJ+1)) HG Ls ot tH lI oW Fb uW x21 (x22++([(⟨y24,(IntKind.i64.wrap (x9+(IntKind.i64.wrap (2*CJ)))),(decide (CJ<Nq))⟩:Stop)]:List Stop)) x23)))))))else (bif (decide (CJ>(0:Int)))then (cb (decide ((x23.length+1)*24≤140737488355328)) (cb (decide ((x22.length+1)*24≤140737488355328)) (dz x9 Ut Nq (IntKind.i64.wrap (CJ+1)) HG Ls ot tH lI oW Fb uW x21 (x22++([(⟨0,(IntKind.i64.wrap (x9+(IntKind.i64.wrap (2*CJ)))),(decide (CJ<Nq))⟩:Stop)]:List Stop)) (x23++([(⟨0,(IntKind.i64.wrap ((IntKind.i64.wrap (x9+(IntKind.i64.wrap (2*CJ)))) - 1)),(decide (CJ<Nq))⟩:aC.Way)]:List aC.Way)))))else (cb (decide ((x22.length+1)*24≤140737488355328)) (dz x9 Ut Nq (IntKind.i64.wrap (CJ+1)) HG Ls ot tH lI oW Fb uW x21 (x22++([(⟨0,(IntKind.i64.wrap (x9+(IntKind.i64.wrap (2*CJ)))),(decide (CJ<Nq))⟩:Stop)]:List Stop)) x23))))else (e0 Ls ot tH lI oW Fb uW x21 x22 x23)
def Nf (K:Ex→St→Option R) (rc:pP→Option R) (d:pP):Option R:=zP cW (fun z0 z1 z2 z3 z4 z5 z6 z7 z8 z9 Rx vP z12 z13 z14=>rc (z0,z1,z2,z3,z4,z5,z6,z7,z8,z9,Rx,vP,z12,z13,z14)) d.1 d.2.1 d.2.2.1 d.2.2.2.1 d.2.2.2.2.1 d.2.2.2.2.2.1 d.2.2.2.2.2.2.1 d.2.2.2.2.2.2.2.1 d.2.2.2.2.2.2.2.2.1 d.2.2.2.2.2.2.2.2.2.1 d.2.2.2.2.2.2.2.2.2.2.1 d.2.2.2.2.2.2.2.2.2.2.2.1 d.2.2.2.2.2.2.2.2.2.2.2.2.1 d.2.2.2.2.2.2.2.2.2.2.2.2.2.1 d.2.2.2.2.2.2.2.2.2.2.2.2.2.2 (DH K)
def EC:Nat→Option (Hint×cL R):=fun i=>match i with
 | 6=>some (zO,(cG uM uN (KF dq) iL))
 | _=>none
theorem RU (K:Ex→St→Option R) (rc:St→Option R) (d:pP):roundOf tt (cR (A6 k6 cW)) (EC dq) 0 ((aA (bc Tryz.f18)).getD 0 .skip) zO (Cw d) rc K=Nf cW K (fun d=>rc (Cw d)) d:=by kernel_rfl
def Pp (x1:Order) (x2:Int) (k0:Order→Option R):Option R :=
 cW x1.header 1000000001 (fun y3=>k6 x1.cO (fun y4=>cW x1.order 1000000001 (fun y5=>cW x1.update 1000000001 (fun y6=>cW (x1.bK.length:Int) 500 (fun y7=>cW x2 (min (max (x1.nodes.length:Int) 1) 64) (fun y8=>dq (Int.natAbs (IntKind.i64.wrap (2*y7))+Int.natAbs (min (max (x1.nodes.length:Int) 1) 64)+Int.natAbs (IntKind.i64.wrap (1+y8))+Int.natAbs 0+Order.fu x1+Int.natAbs 0+List.length ([]:ah)+Int.natAbs 0+Int.natAbs 0+Int.natAbs y3+List.length y4+Int.natAbs y5+Int.natAbs y6+List.length ([]:List Stop)+List.length ([]:List aC.Way)+64) (IntKind.i64.wrap (2*y7)) (min (max (x1.nodes.length:Int) 1) 64) (IntKind.i64.wrap (1+y8)) 0 x1 0 ([]:ah) 0 0 y3 y4 y5 y6 ([]:List Stop) ([]:List aC.Way) (fun ZN Z5 Z6 W9 y44 y45 y46 y47 y48 y49=>k0 (⟨y44,y45,y46,y47,y48,y49⟩:Order))))))))
theorem law08_Fit_ok:dE (R:=R) tt (A6 k6 cW) (EC dq) false Tryz.f18 Pn Po (TH (Pp k6 cW dq)):=fun x y k=>by kernel_rfl
end
theorem law08_Fit_EOk:cu (R:=R) Tryz.prog (A6 (R:=R) k6 cW) := .c (Y1 R) <| .c (M9 R) <| .n
def dq:DG R
 | 0,_,_,_,_,_,_,_,_,_,_,_,_,_,_,_,_=>none
 | n+1,gk,gn,gw,mC,wa,xT,Eg,Eh,HH,HI,pF,xU,Dn,Dp,Ml,e0=>zP cW (fun gk gn gw mC wa xT Eg Eh HH HI pF xU Dn Dp Ml=>dq n gk gn gw mC wa xT Eg Eh HH HI pF xU Dn Dp Ml e0) gk gn gw mC wa xT Eg Eh HH HI pF xU Dn Dp Ml e0
def Ng (K:Ex→St→Option R) (n:Nat) (d:pP):Option R:=dq n d.1 d.2.1 d.2.2.1 d.2.2.2.1 d.2.2.2.2.1 d.2.2.2.2.2.1 d.2.2.2.2.2.2.1 d.2.2.2.2.2.2.2.1 d.2.2.2.2.2.2.2.2.1 d.2.2.2.2.2.2.2.2.2.1 d.2.2.2.2.2.2.2.2.2.2.1 d.2.2.2.2.2.2.2.2.2.2.2.1 d.2.2.2.2.2.2.2.2.2.2.2.2.1 d.2.2.2.2.2.2.2.2.2.2.2.2.2.1 d.2.2.2.2.2.2.2.2.2.2.2.2.2.2 (DH K)
theorem UY (other:cL R) (ho:gW tt (cR (A6 (R:=R) k6 cW)) (EC (R:=R) dq) 0 ((aA (bc Tryz.f18)).getD 0 .skip) zO other):gW tt (cR (A6 (R:=R) k6 cW)) (EC (R:=R) dq) 0 ((aA (bc Tryz.f18)).getD 0 .skip) zO (cG uM uN (KF (dq)) other) :=
 cQ (A:=Ng) ho (dV Cw (Nf cW) (Ng) (fun _ _=>by kernel_rfl) (RU k6 cW dq) (fun _ _ _=>by kernel_rfl)) Nd WJ (fun _ _=>by kernel_rfl) (fun _ _ _=>by kernel_rfl)
def pQ:Gk R:=fun x1 x2 k0=>Pp k6 cW dq x1 x2 k0
theorem WK (R:Type):∀a∈aA (bc Tryz.f18),gK tt (cR (A6 (R:=R) k6 cW)) (EC (R:=R) dq) 0 a:=by
 refine eY 1 (by kernel_rfl) fun i hi => ?_
 match i,hi with
 | 0,_=>exact cz (by kernel_rfl) (UY _ dv)
 | n+1,hi=>omega
theorem Y2 (R:Type):k8 Tryz.prog 18 (VU (pQ (R:=R))):=bt TT mixed (law08_Fit_EOk (R:=R)) rfl rfl rfl rfl (WK R) (law08_Fit_ok k6 cW dq)
end Go.Proofs.YtidfokedcnhahaaGreatDoor
/-
 Functions of the program as pure Lean functions, and the ties; printed by wip/tools/emit.py.
-/
set_option maxRecDepth 100000
namespace Go.Proofs.YtidfokedcnhahaaGreatDoor
open Go Go.aC
variable {R:Type}
end Go.Proofs.YtidfokedcnhahaaGreatDoor
/-
 Functions of the program as pure Lean functions, and the ties; printed by wip/tools/emit.py.
-/
set_option maxRecDepth 100000
namespace Go.Proofs.YtidfokedcnhahaaGreatDoor
open Go Go.aC
variable {R:Type}
end Go.Proofs.YtidfokedcnhahaaGreatDoor
/-
 Functions of the program as pure Lean functions, and the ties; printed by wip/tools/emit.py.
-/
set_option maxRecDepth 100000
namespace Go.Proofs.YtidfokedcnhahaaGreatDoor
open Go Go.aC
variable {R:Type}
/-! ### humpyard/humpyardref08.Same -/
abbrev D8 (R:Type):Type:=Order→Order→(Bool→Option R)→Option R
abbrev My:List cP := [.agg [.int .i64, .str, .int .i64, .int .i64, .sl .stop, .sl .pD], .agg [.int .i64, .str, .int .i64, .int .i64, .sl .stop, .sl .pD]]
abbrev Mz:List aW := []
def Q5 (fn:D8 R):lh R My Mz:=fun x y k=>fn (⟨x.1.1,x.1.2.1,x.1.2.2.1,x.1.2.2.2.1,x.1.2.2.2.2.1,x.1.2.2.2.2.2.1⟩:Order) (⟨x.2.1.1,x.2.1.2.1,x.2.1.2.2.1,x.2.1.2.2.2.1,x.2.1.2.2.2.2.1,x.2.1.2.2.2.2.2.1⟩:Order) (fun q0=>k (.bool q0) [])
def TJ (fn:D8 R):=aI My Mz (Q5 fn)
abbrev Cx (R:Type):Type:=Nat→Int→Order→Order→(Order→Order→Option R)→(Bool→Order→Order→Option R)→Option R
abbrev Cy (R:Type):Type:=Nat→Int→Order→Order→(Option R)→(Bool→Option R)→Option R
def xj:Hint := { live := [2,3,5],own := [],rows := [],cells := [],drop := [],out := [2,3,4] }
abbrev oz:Type:=Int×Order×Order
def AF:oz→St:=fun d=>⟨U 2 (.ptr 0 0 :: .ptr 1 0 :: .undef :: .int .i64 d.1::U 81 ([])), [.cells [.int .i64 d.2.1.header, .str d.2.1.cO, .int .i64 d.2.1.order, .int .i64 d.2.1.update, .sl .stop d.2.1.nodes .no, .sl .pD d.2.1.bK .no], .cells [.int .i64 d.2.2.header, .str d.2.2.cO, .int .i64 d.2.2.order, .int .i64 d.2.2.update, .sl .stop d.2.2.nodes .no, .sl .pD d.2.2.bK .no]]⟩
def Cz (K:Ex→St→Option R) (q0:Order) (q1:Order):Option R:=K (.exit 0) ⟨U 2 (.ptr 0 0 :: .ptr 1 0::U 83 ([])), [.cells [.int .i64 q0.header, .str q0.cO, .int .i64 q0.order, .int .i64 q0.update, .sl .stop q0.nodes .no, .sl .pD q0.bK .no], .cells [.int .i64 q1.header, .str q1.cO, .int .i64 q1.order, .int .i64 q1.update, .sl .stop q1.nodes .no, .sl .pD q1.bK .no]]⟩
def CA (K:Ex→St→Option R) (q0:Bool) (q1:Order) (q2:Order):Option R:=K (.ret) ⟨U 2 (.ptr 0 0 :: .ptr 1 0 :: .bool q0::U 82 ([])), [.cells [.int .i64 q1.header, .str q1.cO, .int .i64 q1.order, .int .i64 q1.update, .sl .stop q1.nodes .no, .sl .pD q1.bK .no], .cells [.int .i64 q2.header, .str q2.cO, .int .i64 q2.order, .int .i64 q2.update, .sl .stop q2.nodes .no, .sl .pD q2.bK .no]]⟩
abbrev sY:List cP:=PU 2 (.leaf (.ptr 0 0) :: .leaf (.ptr 1 0) :: .leaf (.undef) :: .leaf (.int .i64)::PU 81 ([]))
abbrev sZ:List aW := [.cells [.int .i64, .str, .int .i64, .int .i64, .sl .stop, .sl .pD], .cells [.int .i64, .str, .int .i64, .int .i64, .sl .stop, .sl .pD]]
def KG (x:cP.bQ sY) (y:aW.bQ sZ):Nat:=(Int.natAbs x.2.2.2.2.2.1+Order.fu (⟨y.1.1,y.1.2.1,y.1.2.2.1,y.1.2.2.2.1,y.1.2.2.2.2.1,y.1.2.2.2.2.2.1⟩:Order)+Order.fu (⟨y.2.1.1,y.2.1.2.1,y.2.1.2.2.1,y.2.1.2.2.2.1,y.2.1.2.2.2.2.1,y.2.1.2.2.2.2.2.1⟩:Order)+64)
def UZ (x:cP.bQ sY) (y:aW.bQ sZ):oz:=(x.2.2.2.2.2.1,(⟨y.1.1,y.1.2.1,y.1.2.2.1,y.1.2.2.2.1,y.1.2.2.2.2.1,y.1.2.2.2.2.2.1⟩:Order),(⟨y.2.1.1,y.2.1.2.1,y.2.1.2.2.1,y.2.1.2.2.2.1,y.2.1.2.2.2.2.1,y.2.1.2.2.2.2.2.1⟩:Order))
def IZ (L:Cx R):wW R sY sZ:=fun x y K=>L (KG x y) x.2.2.2.2.2.1 (⟨y.1.1,y.1.2.1,y.1.2.2.1,y.1.2.2.2.1,y.1.2.2.2.2.1,y.1.2.2.2.2.2.1⟩:Order) (⟨y.2.1.1,y.2.1.2.1,y.2.1.2.2.1,y.2.1.2.2.2.1,y.2.1.2.2.2.2.1,y.2.1.2.2.2.2.2.1⟩:Order) (Cz K) (CA K)
def xk:Hint := { live := [2,3,6],own := [],rows := [],cells := [],drop := [],out := [4] }
abbrev oA:Type:=Int×Order×Order
def AG:oA→St:=fun d=>⟨U 2 (.ptr 0 0 :: .ptr 1 0::U 2 (.int .i64 d.1::U 80 ([]))), [.cells [.int .i64 d.2.1.header, .str d.2.1.cO, .int .i64 d.2.1.order, .int .i64 d.2.1.update, .sl .stop d.2.1.nodes .no, .sl .pD d.2.1.bK .no], .cells [.int .i64 d.2.2.header, .str d.2.2.cO, .int .i64 d.2.2.order, .int .i64 d.2.2.update, .sl .stop d.2.2.nodes .no, .sl .pD d.2.2.bK .no]]⟩
def CB (K:Ex→St→Option R):Option R:=K (.exit 2) ⟨U 87 ([]), []⟩
def CC (K:Ex→St→Option R) (q0:Bool):Option R:=K (.ret) ⟨U 4 (.bool q0::U 82 ([])), []⟩
abbrev s4:List cP:=PU 2 (.leaf (.ptr 0 0) :: .leaf (.ptr 1 0)::PU 2 (.leaf (.int .i64)::PU 80 ([])))
abbrev s5:List aW := [.cells [.int .i64, .str, .int .i64, .int .i64, .sl .stop, .sl .pD], .cells [.int .i64, .str, .int .i64, .int .i64, .sl .stop, .sl .pD]]
def KH (x:cP.bQ s4) (y:aW.bQ s5):Nat:=(Int.natAbs x.2.2.2.2.2.2.1+Order.fu (⟨y.1.1,y.1.2.1,y.1.2.2.1,y.1.2.2.2.1,y.1.2.2.2.2.1,y.1.2.2.2.2.2.1⟩:Order)+Order.fu (⟨y.2.1.1,y.2.1.2.1,y.2.1.2.2.1,y.2.1.2.2.2.1,y.2.1.2.2.2.2.1,y.2.1.2.2.2.2.2.1⟩:Order)+64)
def U0 (x:cP.bQ s4) (y:aW.bQ s5):oA:=(x.2.2.2.2.2.2.1,(⟨y.1.1,y.1.2.1,y.1.2.2.1,y.1.2.2.2.1,y.1.2.2.2.2.1,y.1.2.2.2.2.2.1⟩:Order),(⟨y.2.1.1,y.2.1.2.1,y.2.1.2.2.1,y.2.1.2.2.2.1,y.2.1.2.2.2.2.1,y.2.1.2.2.2.2.2.1⟩:Order))
def I0 (L:Cy R):wW R s4 s5:=fun x y K=>L (KH x y) x.2.2.2.2.2.2.1 (⟨y.1.1,y.1.2.1,y.1.2.2.1,y.1.2.2.2.1,y.1.2.2.2.2.1,y.1.2.2.2.2.2.1⟩:Order) (⟨y.2.1.1,y.2.1.2.1,y.2.1.2.2.1,y.2.1.2.2.2.1,y.2.1.2.2.2.2.1,y.2.1.2.2.2.2.2.1⟩:Order) (CB K) (CC K)
section
variable (cx:Cx R) (cy:Cy R)
def xl (dz:Int→Order→Order→Option R) (x4:Int) (x5:Order) (x6:Order) (e0:Order→Order→Option R) (e1:Bool→Order→Order→Option R):Option R :=
 bif (decide (x4<(x5.nodes.length:Int)))then (cb (decide ((0:Int)≤x4)&&decide (x4<x5.nodes.length)) (cb (decide ((0:Int)≤x4)&&decide (x4<x6.nodes.length)) (bif (!((x5.nodes.getD x4.toNat (Ty.aZ .stop)).node==(x6.nodes.getD x4.toNat (Ty.aZ .stop)).node&&((x5.nodes.getD x4.toNat (Ty.aZ .stop)).seq==(x6.nodes.getD x4.toNat (Ty.aZ .stop)).seq&&((x5.nodes.getD x4.toNat (Ty.aZ .stop)).bO==(x6.nodes.getD x4.toNat (Ty.aZ .stop)).bO&&true))))then (e1 false x5 x6)else (dz (IntKind.i64.wrap (x4+1)) x5 x6))))else (e0 x5 x6)
def KI (K:Ex→St→Option R) (rc:oz→Option R) (d:oz):Option R:=xl (fun z0 z1 z2=>rc (z0,z1,z2)) d.1 d.2.1 d.2.2 (Cz K) (CA K)
def xm (dz:Int→Order→Order→Option R) (CJ:Int) (HG:Order) (Ls:Order) (e0:Option R) (e1:Bool→Option R):Option R :=
 bif (decide (CJ<(HG.bK.length:Int)))then (cb (decide ((0:Int)≤CJ)&&decide (CJ<HG.bK.length)) (cb (decide ((0:Int)≤CJ)&&decide (CJ<Ls.bK.length)) (bif (!((HG.bK.getD CJ.toNat (Ty.aZ .pD)).yC==(Ls.bK.getD CJ.toNat (Ty.aZ .pD)).yC&&((HG.bK.getD CJ.toNat (Ty.aZ .pD)).seq==(Ls.bK.getD CJ.toNat (Ty.aZ .pD)).seq&&((HG.bK.getD CJ.toNat (Ty.aZ .pD)).bO==(Ls.bK.getD CJ.toNat (Ty.aZ .pD)).bO&&true))))then (e1 false)else (dz (IntKind.i64.wrap (CJ+1)) HG Ls))))else (e0)
def KJ (K:Ex→St→Option R) (rc:oA→Option R) (d:oA):Option R:=xm (fun z0 z1 z2=>rc (z0,z1,z2)) d.1 d.2.1 d.2.2 (CB K) (CC K)
def qG:Nat→Option (Hint×cL R):=fun i=>match i with
 | 4=>some (xj,(cG sY sZ (IZ cx) iL))
 | 9=>some (xk,(cG s4 s5 (I0 cy) iL))
 | _=>none
theorem Qj (K:Ex→St→Option R) (rc:St→Option R) (d:oz):roundOf tt (cR []) (qG cx cy) 0 ((aA (bc Tryz.f24)).getD 0 .skip) xj (AF d) rc K=KI K (fun d=>rc (AF d)) d:=by kernel_rfl
theorem Qk (K:Ex→St→Option R) (rc:St→Option R) (d:oA):roundOf tt (cR []) (qG cx cy) 0 ((aA (bc Tryz.f24)).getD 1 .skip) xk (AG d) rc K=KJ K (fun d=>rc (AG d)) d:=by kernel_rfl
def MA (x1:Order) (x2:Order) (k0:Bool→Option R):Option R :=
 bif (x1.header != x2.header)then (k0 false)else (bif (!(x1.cO==x2.cO))then (k0 false)else (bif (x1.order != x2.order)then (k0 false)else (bif (x1.update != x2.update)then (k0 false)else (bif ((x1.nodes.length:Int) != (x2.nodes.length:Int))then (k0 false)else (bif ((x1.bK.length:Int) != (x2.bK.length:Int))then (k0 false)else (cx (Int.natAbs 0+Order.fu x1+Order.fu x2+64) 0 x1 x2 (fun y7 y8=>cy (Int.natAbs 0+Order.fu y7+Order.fu y8+64) 0 y7 y8 (k0 true) (fun Iy=>k0 Iy)) (fun y9 um vQ=>k0 y9)))))))
theorem ref08_Same_ok:dE (R:=R) tt [] (qG cx cy) false Tryz.f24 My Mz (Q5 (MA cx cy)):=fun x y k=>by kernel_rfl
end
def cx:Cx R
 | 0,_,_,_,_,_=>none
 | n+1,gk,gn,gw,e0,e1=>xl (fun gk gn gw=>cx n gk gn gw e0 e1) gk gn gw e0 e1
def KK (K:Ex→St→Option R) (n:Nat) (d:oz):Option R:=cx n d.1 d.2.1 d.2.2 (Cz K) (CA K)
def cy:Cy R
 | 0,_,_,_,_,_=>none
 | n+1,gk,gn,gw,e0,e1=>xm (fun gk gn gw=>cy n gk gn gw e0 e1) gk gn gw e0 e1
def KL (K:Ex→St→Option R) (n:Nat) (d:oA):Option R:=cy n d.1 d.2.1 d.2.2 (CB K) (CC K)
theorem TK (other:cL R) (ho:gW tt (cR []) (qG (R:=R) cx cy) 0 ((aA (bc Tryz.f24)).getD 0 .skip) xj other):gW tt (cR []) (qG (R:=R) cx cy) 0 ((aA (bc Tryz.f24)).getD 0 .skip) xj (cG sY sZ (IZ (cx)) other) :=
 cQ (A:=KK) ho (dV AF (KI) (KK) (fun _ _=>by kernel_rfl) (Qj cx cy) (fun _ _ _=>by kernel_rfl)) KG UZ (fun _ _=>by kernel_rfl) (fun _ _ _=>by kernel_rfl)
theorem TL (other:cL R) (ho:gW tt (cR []) (qG (R:=R) cx cy) 0 ((aA (bc Tryz.f24)).getD 1 .skip) xk other):gW tt (cR []) (qG (R:=R) cx cy) 0 ((aA (bc Tryz.f24)).getD 1 .skip) xk (cG s4 s5 (I0 (cy)) other) :=
 cQ (A:=KL) ho (dV AG (KJ) (KL) (fun _ _=>by kernel_rfl) (Qk cx cy) (fun _ _ _=>by kernel_rfl)) KH U0 (fun _ _=>by kernel_rfl) (fun _ _ _=>by kernel_rfl)
def lY:D8 R:=fun x1 x2 k0=>MA cx cy x1 x2 k0
theorem U1 (R:Type):∀a∈aA (bc Tryz.f24),gK tt (cR []) (qG (R:=R) cx cy) 0 a:=by
 refine eY 2 (by kernel_rfl) fun i hi => ?_
 match i,hi with
 | 0,_=>exact cz (by kernel_rfl) (TK _ dv)
 | 1,_=>exact cz (by kernel_rfl) (TL _ dv)
 | n+2,hi=>omega
theorem WL (R:Type):k8 Tryz.prog 24 (TJ (lY (R:=R))):=bt TT mixed .n rfl rfl rfl rfl (U1 R) (ref08_Same_ok cx cy)
end Go.Proofs.YtidfokedcnhahaaGreatDoor
/-
 Functions of the program as pure Lean functions, and the ties; printed by wip/tools/emit.py.
-/
set_option maxRecDepth 100000
namespace Go.Proofs.YtidfokedcnhahaaGreatDoor
open Go Go.aC
variable {R:Type}
end Go.Proofs.YtidfokedcnhahaaGreatDoor
/-
 Functions of the program as pure Lean functions, and the ties; printed by wip/tools/emit.py.
-/
set_option maxRecDepth 100000
namespace Go.Proofs.YtidfokedcnhahaaGreatDoor
open Go Go.aC
variable {R:Type}
end Go.Proofs.YtidfokedcnhahaaGreatDoor
/-
 Functions of the program as pure Lean functions, and the ties; printed by wip/tools/emit.py.
-/
set_option maxRecDepth 100000
namespace Go.Proofs.YtidfokedcnhahaaGreatDoor
open Go Go.aC
variable {R:Type}
/-! ### (*humpyard/humpyardref04.Parser).is -/
abbrev jY (R:Type):Type:=ah→(List Token)→Int→Int→(Bool→(List Token)→Int→Int→Option R)→Option R
abbrev ua:List cP := [.leaf (.ptr 0 0), .leaf (.str)]
abbrev ub:List aW := [.cells [.sl .token, .int .i64, .int .i64]]
def A7 (fn:jY R):lh R ua ub:=fun x y k=>fn x.2.1 y.1.1 y.1.2.1 y.1.2.2.1 (fun q0 q1 q2 q3=>k (.bool q0) [.cells [.sl .token q1 .no, .int .i64 q2, .int .i64 q3]])
def uc (fn:jY R):=aI ua ub (A7 fn)
section
def CD (x1:ah) (x2:List Token) (x3:Int) (x4:Int) (k0:Bool→(List Token)→Int→Int→Option R):Option R :=
 bif (x4==0)then (cb (decide ((0:Int)≤x3)&&decide (x3<x2.length)) (bif ((x2.getD x3.toNat (Ty.aZ .token)).kind==1)then (cb (decide ((0:Int)≤x3)&&decide (x3<x2.length)) (bif ((x2.getD x3.toNat (Ty.aZ .token)).text==x1)then (k0 ((x2.getD x3.toNat (Ty.aZ .token)).text==x1) x2 (IntKind.i64.wrap (x3+1)) x4)else (k0 ((x2.getD x3.toNat (Ty.aZ .token)).text==x1) x2 x3 x4)))else (k0 false x2 x3 x4)))else (k0 false x2 x3 x4)
theorem KM:dE (R:=R) (tt.mode [.json]) [] rS false Tryz.f152 ua ub (A7 CD):=fun x y k=>by kernel_rfl
end
def aG:jY R:=fun x1 x2 x3 x4 k0=>CD x1 x2 x3 x4 k0
theorem xJ (R:Type):k8 Tryz.prog 152 (uc (aG (R:=R))):=bt (TT.mode [.json]) mixed .n rfl rfl rfl rfl cd (KM)
/-! ### (*humpyard/humpyardref04.Parser).must -/
abbrev lF (R:Type):Type:=ah→(List Token)→Int→Int→((List Token)→Int→Int→Option R)→Option R
abbrev qZ:List cP := [.leaf (.ptr 0 0), .leaf (.str)]
abbrev rh:List aW := [.cells [.sl .token, .int .i64, .int .i64]]
def xK (fn:lF R):lh R qZ rh:=fun x y k=>fn x.2.1 y.1.1 y.1.2.1 y.1.2.2.1 (fun q0 q1 q2=>k (.tuple []) [.cells [.sl .token q0 .no, .int .i64 q1, .int .i64 q2]])
def zx (fn:lF R):=aI qZ rh (xK fn)
section
variable (aG:jY R)
def zy:List (oq R) := [(152,false,(uc aG ax))]
def zz (x1:ah) (x2:List Token) (x3:Int) (x4:Int) (k0:(List Token)→Int→Int→Option R):Option R :=
 aG x1 x2 x3 x4 (fun y5 y6 y7 y8=>bif (!y5)then (bif (y8==0)then (k0 y6 y7 40)else (k0 y6 y7 y8))else (k0 y6 y7 y8))
theorem H4:dE (R:=R) (tt.mode [.json]) (zy aG) rS false Tryz.f153 qZ rh (xK (zz aG)):=fun x y k=>by kernel_rfl
end
theorem Hv:cu (R:=R) Tryz.prog (zy (R:=R) aG) := .d (xJ R) rfl <| .n
def bf:lF R:=fun x1 x2 x3 x4 k0=>zz aG x1 x2 x3 x4 k0
theorem Gl (R:Type):k8 Tryz.prog 153 (zx (bf (R:=R))):=bt (TT.mode [.json]) mixed (Hv (R:=R)) rfl rfl rfl rfl cd (H4 aG)
end Go.Proofs.YtidfokedcnhahaaGreatDoor
/-
 Functions of the program as pure Lean functions, and the ties; printed by wip/tools/emit.py.
-/
set_option maxRecDepth 100000
namespace Go.Proofs.YtidfokedcnhahaaGreatDoor
open Go Go.aC
variable {R:Type}
/-! ### (*humpyard/humpyardref04.Parser).value -/
abbrev bj (R:Type):Type:=Int→(List Token)→Int→Int→(Json→(List Token)→Int→Int→Option R)→Option R
abbrev dG:List cP := [.leaf (.ptr 0 0), .leaf (.int .i64)]
abbrev dH:List aW := [.cells [.sl .token, .int .i64, .int .i64]]
def ct (fn:bj R):lh R dG dH:=fun x y k=>fn x.2.1 y.1.1 y.1.2.1 y.1.2.2.1 (fun q0 q1 q2 q3=>k (.agg [.int .i64 q0.kind, .int .i64 q0.num.ao, .int .i64 q0.num.exp, .str q0.text, .sl .str q0.names .no, .sl .json q0.items .no]) [.cells [.sl .token q1 .no, .int .i64 q2, .int .i64 q3]])
def H5 (fn:bj R):=aI dG dH (ct fn)
abbrev ll (R:Type):Type:=Nat→Int→Bool→(List Token)→Int→Int→Int→Int→Int→ah→Int→Int→Int→ah→Nat→(List Json)→((List Token)→Int→Int→Int→Int→Int→ah→Int→Int→Int→ah→Nat→(List Json)→Option R)→Option R
abbrev ln (R:Type):Type:=Nat→Int→Bool→(List Token)→Int→Int→Int→Int→Int→ah→Int→Int→Int→ah→(List ah)→Nat→(List Json)→((List Token)→Int→Int→Int→Int→Int→ah→Int→Int→Int→ah→(List ah)→Nat→(List Json)→Option R)→Option R
def iZ:Hint := { live := [0,1,4,7,8],own := [],rows := [],cells := [(2,5, .json,true)],drop := [],out := [4,7] }
abbrev eQ:Type:=Int×Bool×(List Token)×Int×Int×Int×Int×Int×ah×Int×Int×Int×ah×Nat×(List Json)
def kV:eQ→St:=fun d=>⟨.ptr 0 0 :: .int .i64 d.1::U 2 (.ptr 1 0::U 2 (.ptr 2 0 :: .bool d.2.1::U 184 ([]))), [.cells [.sl .token d.2.2.1 .no, .int .i64 d.2.2.2.1, .int .i64 d.2.2.2.2.1], .cells [.int .i64 d.2.2.2.2.2.1, .int .i64 d.2.2.2.2.2.2.1, .int .i64 d.2.2.2.2.2.2.2.1, .str d.2.2.2.2.2.2.2.2.1, .bx, .bx], .cells [.int .i64 d.2.2.2.2.2.2.2.2.2.1, .int .i64 d.2.2.2.2.2.2.2.2.2.2.1, .int .i64 d.2.2.2.2.2.2.2.2.2.2.2.1, .str d.2.2.2.2.2.2.2.2.2.2.2.2.1, .bx, .row 3 d.2.2.2.2.2.2.2.2.2.2.2.2.2.1], .row .json d.2.2.2.2.2.2.2.2.2.2.2.2.2.2]⟩
def lp (K:Ex→St→Option R) (q0:List Token) (q1:Int) (q2:Int) (q3:Int) (q4:Int) (q5:Int) (q6:ah) (q7:Int) (q8:Int) (q9:Int) (Z4:ah) (q11:Nat) (q12:List Json):Option R:=K (.exit 1) ⟨U 4 (.ptr 1 0::U 2 (.ptr 2 0::U 185 ([]))), [.cells [.sl .token q0 .no, .int .i64 q1, .int .i64 q2], .cells [.int .i64 q3, .int .i64 q4, .int .i64 q5, .str q6, .bx, .bx], .cells [.int .i64 q7, .int .i64 q8, .int .i64 q9, .str Z4, .bx, .row 3 q11], .row .json q12]⟩
abbrev gf:List cP := .leaf (.ptr 0 0) :: .leaf (.int .i64)::PU 2 (.leaf (.ptr 1 0)::PU 2 (.leaf (.ptr 2 0) :: .leaf (.bool)::PU 184 ([])))
abbrev gg:List aW := [.cells [.sl .token, .int .i64, .int .i64], .cells [.int .i64, .int .i64, .int .i64, .str, .bx, .bx], .cells [.int .i64, .int .i64, .int .i64, .str, .bx, .row 3], .row .json]
def s6 (x:cP.bQ gf) (y:aW.bQ gg):Nat:=(Int.natAbs x.2.1+List.length y.1.1+Int.natAbs y.1.2.1+Int.natAbs y.1.2.2.1+Int.natAbs y.2.1.1+Int.natAbs y.2.1.2.1+Int.natAbs y.2.1.2.2.1+List.length y.2.1.2.2.2.1+Int.natAbs y.2.2.1.1+Int.natAbs y.2.2.1.2.1+Int.natAbs y.2.2.1.2.2.1+List.length y.2.2.1.2.2.2.1+List.length y.2.2.2.1+64)
def DI (x:cP.bQ gf) (y:aW.bQ gg):eQ:=(x.2.1,(t8 x).1,y.1.1,y.1.2.1,y.1.2.2.1,y.2.1.1,y.2.1.2.1,y.2.1.2.2.1,y.2.1.2.2.2.1,y.2.2.1.1,y.2.2.1.2.1,y.2.2.1.2.2.1,y.2.2.1.2.2.2.1,y.2.2.1.2.2.2.2.2.1,y.2.2.2.1)
def rN (L:ll R):wW R gf gg:=fun x y K=>L (s6 x y) x.2.1 ((t8 x).1) y.1.1 y.1.2.1 y.1.2.2.1 y.2.1.1 y.2.1.2.1 y.2.1.2.2.1 y.2.1.2.2.2.1 y.2.2.1.1 y.2.2.1.2.1 y.2.2.1.2.2.1 y.2.2.1.2.2.2.1 y.2.2.1.2.2.2.2.2.1 y.2.2.2.1 (lp K)
def ja:Hint := { live := [0,1,4,10,11],own := [],rows := [],cells := [(2,4, .str,false),(2,5, .json,true)],drop := [],out := [4,10] }
abbrev eR:Type:=Int×Bool×(List Token)×Int×Int×Int×Int×Int×ah×Int×Int×Int×ah×(List ah)×Nat×(List Json)
def kW:eR→St:=fun d=>⟨.ptr 0 0 :: .int .i64 d.1::U 2 (.ptr 1 0::U 5 (.ptr 2 0 :: .bool d.2.1::U 181 ([]))), [.cells [.sl .token d.2.2.1 .no, .int .i64 d.2.2.2.1, .int .i64 d.2.2.2.2.1], .cells [.int .i64 d.2.2.2.2.2.1, .int .i64 d.2.2.2.2.2.2.1, .int .i64 d.2.2.2.2.2.2.2.1, .str d.2.2.2.2.2.2.2.2.1, .bx, .bx], .cells [.int .i64 d.2.2.2.2.2.2.2.2.2.1, .int .i64 d.2.2.2.2.2.2.2.2.2.2.1, .int .i64 d.2.2.2.2.2.2.2.2.2.2.2.1, .str d.2.2.2.2.2.2.2.2.2.2.2.2.1, .sl .str d.2.2.2.2.2.2.2.2.2.2.2.2.2.1 (.own 3), .row 4 d.2.2.2.2.2.2.2.2.2.2.2.2.2.2.1], .tok, .row .json d.2.2.2.2.2.2.2.2.2.2.2.2.2.2.2]⟩
def lq (K:Ex→St→Option R) (q0:List Token) (q1:Int) (q2:Int) (q3:Int) (q4:Int) (q5:Int) (q6:ah) (q7:Int) (q8:Int) (q9:Int) (Z4:ah) (q11:List ah) (q12:Nat) (q13:List Json):Option R:=K (.exit 3) ⟨U 4 (.ptr 1 0::U 5 (.ptr 2 0::U 182 ([]))), [.cells [.sl .token q0 .no, .int .i64 q1, .int .i64 q2], .cells [.int .i64 q3, .int .i64 q4, .int .i64 q5, .str q6, .bx, .bx], .cells [.int .i64 q7, .int .i64 q8, .int .i64 q9, .str Z4, .sl .str q11 (.own 3), .row 4 q12], .tok, .row .json q13]⟩
abbrev gh:List cP := .leaf (.ptr 0 0) :: .leaf (.int .i64)::PU 2 (.leaf (.ptr 1 0)::PU 5 (.leaf (.ptr 2 0) :: .leaf (.bool)::PU 181 ([])))
abbrev gi:List aW := [.cells [.sl .token, .int .i64, .int .i64], .cells [.int .i64, .int .i64, .int .i64, .str, .bx, .bx], .cells [.int .i64, .int .i64, .int .i64, .str, .T4 .str 3, .row 4], .tok, .row .json]
def s7 (x:cP.bQ gh) (y:aW.bQ gi):Nat:=(Int.natAbs x.2.1+List.length y.1.1+Int.natAbs y.1.2.1+Int.natAbs y.1.2.2.1+Int.natAbs y.2.1.1+Int.natAbs y.2.1.2.1+Int.natAbs y.2.1.2.2.1+List.length y.2.1.2.2.2.1+Int.natAbs y.2.2.1.1+Int.natAbs y.2.2.1.2.1+Int.natAbs y.2.2.1.2.2.1+List.length y.2.2.1.2.2.2.1+List.length y.2.2.1.2.2.2.2.1+List.length y.2.2.2.2.1+64)
def DJ (x:cP.bQ gh) (y:aW.bQ gi):eR:=(x.2.1,(t8 x).2.2.2.1,y.1.1,y.1.2.1,y.1.2.2.1,y.2.1.1,y.2.1.2.1,y.2.1.2.2.1,y.2.1.2.2.2.1,y.2.2.1.1,y.2.2.1.2.1,y.2.2.1.2.2.1,y.2.2.1.2.2.2.1,y.2.2.1.2.2.2.2.1,y.2.2.1.2.2.2.2.2.1,y.2.2.2.2.1)
def rO (L:ln R):wW R gh gi:=fun x y K=>L (s7 x y) x.2.1 ((t8 x).2.2.2.1) y.1.1 y.1.2.1 y.1.2.2.1 y.2.1.1 y.2.1.2.1 y.2.1.2.2.1 y.2.1.2.2.2.1 y.2.2.1.1 y.2.2.1.2.1 y.2.2.1.2.2.1 y.2.2.1.2.2.2.1 y.2.2.1.2.2.2.2.1 y.2.2.1.2.2.2.2.2.1 y.2.2.2.2.1 (lq K)
section
variable (aG:jY R) (bf:lF R) (af:bj R) (iq:Ge R) (aX:ll R) (aY:ln R)
def dJ:List (oq R) := [(152,false,(uc aG ax)),(153,false,(zx bf ax)),(114,false,(aI dG dH (ct af) ax)),(154,true,(VL iq ax))]
def s8 (dz:Int→Bool→(List Token)→Int→Int→Int→Int→Int→ah→Int→Int→Int→ah→Nat→(List Json)→Option R) (Nq:Int) (CJ:Bool) (HG:List Token) (Ls:Int) (ot:Int) (tH:Int) (lI:Int) (oW:Int) (Fb:ah) (uW:Int) (x21:Int) (x22:Int) (x23:ah) (x24:Nat) (Qu:List Json) (e0:(List Token)→Int→Int→Int→Int→Int→ah→Int→Int→Int→ah→Nat→(List Json)→Option R):Option R :=
 bif (!CJ)then (bif (ot==0)then (af (IntKind.i64.wrap (Nq+1)) HG Ls ot (fun Jh Qy YC Xa=>cb (decide ((Qu.length+1)*88≤140737488355328)) (aG ([44]:ah) Qy YC Xa (fun y31 UI y33 y34=>bif (!y31)then (bf ([93]:ah) UI y33 y34 (fun y35 y36 y37=>dz Nq true y35 y36 y37 tH lI oW Fb uW x21 x22 x23 (Qu.length+1) (Qu++([(⟨Jh.kind,⟨Jh.num.ao,Jh.num.exp⟩,Jh.text,Jh.names,Jh.items⟩:Json)]:List Json))))else (dz Nq CJ UI y33 y34 tH lI oW Fb uW x21 x22 x23 (Qu.length+1) (Qu++([(⟨Jh.kind,⟨Jh.num.ao,Jh.num.exp⟩,Jh.text,Jh.names,Jh.items⟩:Json)]:List Json)))))))else (e0 HG Ls ot tH lI oW Fb uW x21 x22 x23 x24 Qu))else (e0 HG Ls ot tH lI oW Fb uW x21 x22 x23 x24 Qu)
def s9 (K:Ex→St→Option R) (rc:eQ→Option R) (d:eQ):Option R:=s8 aG bf af (fun z0 z1 z2 z3 z4 z5 z6 z7 z8 z9 Rx vP z12 z13 z14=>rc (z0,z1,z2,z3,z4,z5,z6,z7,z8,z9,Rx,vP,z12,z13,z14)) d.1 d.2.1 d.2.2.1 d.2.2.2.1 d.2.2.2.2.1 d.2.2.2.2.2.1 d.2.2.2.2.2.2.1 d.2.2.2.2.2.2.2.1 d.2.2.2.2.2.2.2.2.1 d.2.2.2.2.2.2.2.2.2.1 d.2.2.2.2.2.2.2.2.2.2.1 d.2.2.2.2.2.2.2.2.2.2.2.1 d.2.2.2.2.2.2.2.2.2.2.2.2.1 d.2.2.2.2.2.2.2.2.2.2.2.2.2.1 d.2.2.2.2.2.2.2.2.2.2.2.2.2.2 (lp K)
def ta (dz:Int→Bool→(List Token)→Int→Int→Int→Int→Int→ah→Int→Int→Int→ah→(List ah)→Nat→(List Json)→Option R) (VS:Int) (x56:Bool) (x57:List Token) (x58:Int) (x59:Int) (x60:Int) (x61:Int) (x62:Int) (x63:ah) (x64:Int) (x65:Int) (x66:Int) (x67:ah) (x68:List ah) (x69:Nat) (x70:List Json) (e0:(List Token)→Int→Int→Int→Int→Int→ah→Int→Int→Int→ah→(List ah)→Nat→(List Json)→Option R):Option R :=
 bif (!x56)then (bif (x59==0)then (cb (decide ((0:Int)≤x58)&&decide (x58<x57.length)) (bif ((x57.getD x58.toNat (Ty.aZ .token)).kind != 2)then (e0 x57 x58 40 x60 x61 x62 x63 x64 x65 x66 x67 x68 x69 x70)else (iq x68 ((x57.getD x58.toNat (Ty.aZ .token)).text) (fun y72=>bif y72 then (e0 x57 x58 42 x60 x61 x62 x63 x64 x65 x66 x67 x68 x69 x70)else (bf ([58]:ah) x57 (IntKind.i64.wrap (x58+1)) x59 (fun y73 y74 y75=>cb (decide ((x68.length+1)*16≤140737488355328)) (af (IntKind.i64.wrap (VS+1)) y73 y74 y75 (fun y76 y77 y78 y79=>cb (decide ((x70.length+1)*88≤140737488355328)) (aG ([44]:ah) y77 y78 y79 (fun y80 y81 y82 y83=>bif (!y80)then (bf ([125]:ah) y81 y82 y83 (fun y84 y85 y86=>dz VS true y84 y85 y86 x60 x61 x62 x63 x64 x65 x66 x67 (x68++([(x57.getD x58.toNat (Ty.aZ .token)).text]:List ah)) (x70.length+1) (x70++([(⟨y76.kind,⟨y76.num.ao,y76.num.exp⟩,y76.text,y76.names,y76.items⟩:Json)]:List Json))))else (dz VS x56 y81 y82 y83 x60 x61 x62 x63 x64 x65 x66 x67 (x68++([(x57.getD x58.toNat (Ty.aZ .token)).text]:List ah)) (x70.length+1) (x70++([(⟨y76.kind,⟨y76.num.ao,y76.num.exp⟩,y76.text,y76.names,y76.items⟩:Json)]:List Json)))))))))))))else (e0 x57 x58 x59 x60 x61 x62 x63 x64 x65 x66 x67 x68 x69 x70))else (e0 x57 x58 x59 x60 x61 x62 x63 x64 x65 x66 x67 x68 x69 x70)
def td (K:Ex→St→Option R) (rc:eR→Option R) (d:eR):Option R:=ta aG bf af iq (fun z0 z1 z2 z3 z4 z5 z6 z7 z8 z9 Rx vP z12 z13 z14 z15=>rc (z0,z1,z2,z3,z4,z5,z6,z7,z8,z9,Rx,vP,z12,z13,z14,z15)) d.1 d.2.1 d.2.2.1 d.2.2.2.1 d.2.2.2.2.1 d.2.2.2.2.2.1 d.2.2.2.2.2.2.1 d.2.2.2.2.2.2.2.1 d.2.2.2.2.2.2.2.2.1 d.2.2.2.2.2.2.2.2.2.1 d.2.2.2.2.2.2.2.2.2.2.1 d.2.2.2.2.2.2.2.2.2.2.2.1 d.2.2.2.2.2.2.2.2.2.2.2.2.1 d.2.2.2.2.2.2.2.2.2.2.2.2.2.1 d.2.2.2.2.2.2.2.2.2.2.2.2.2.2.1 d.2.2.2.2.2.2.2.2.2.2.2.2.2.2.2 (lq K)
def ez:Nat→Option (Hint×cL R):=fun i=>match i with
 | 22=>some (iZ,(cG gf gg (rN aX) iL))
 | 31=>some (ja,(cG gh gi (rO aY) iL))
 | _=>none
theorem Bl (K:Ex→St→Option R) (rc:St→Option R) (d:eQ):roundOf (tt.mode [.json]) (cR (dJ aG bf af iq)) (ez aX aY) 1 ((aA (bc Tryz.f114)).getD 0 .skip) iZ (kV d) rc K=s9 aG bf af K (fun d=>rc (kV d)) d:=by kernel_rfl
theorem Bm (K:Ex→St→Option R) (rc:St→Option R) (d:eR):roundOf (tt.mode [.json]) (cR (dJ aG bf af iq)) (ez aX aY) 1 ((aA (bc Tryz.f114)).getD 1 .skip) ja (kW d) rc K=td aG bf af iq K (fun d=>rc (kW d)) d:=by kernel_rfl
def xL (x1:Int) (x2:List Token) (x3:Int) (x4:Int) (k0:Json→(List Token)→Int→Int→Option R):Option R :=
 bif (x4 != 0)then (k0 (⟨0,⟨0,0⟩,([]:ah),([]:List ah),([]:List Json)⟩:Json) x2 x3 x4)else (cb (decide ((0:Int)≤x3)&&decide (x3<x2.length)) (let j102:=fun (z5:Bool)=>let j101:=bif (decide (x1>(16:Int)))then (k0 (⟨0,⟨0,0⟩,([]:ah),([]:List ah),([]:List Json)⟩:Json) x2 x3 41)else (bif ((x2.getD x3.toNat (Ty.aZ .token)).kind==2)then (k0 (⟨5,⟨0,0⟩,(x2.getD x3.toNat (Ty.aZ .token)).text,([]:List ah),([]:List Json)⟩:Json) x2 (IntKind.i64.wrap (x3+1)) x4)else (bif ((x2.getD x3.toNat (Ty.aZ .token)).kind==3)then (k0 (⟨4,⟨(x2.getD x3.toNat (Ty.aZ .token)).num.ao,(x2.getD x3.toNat (Ty.aZ .token)).num.exp⟩,([]:ah),([]:List ah),([]:List Json)⟩:Json) x2 (IntKind.i64.wrap (x3+1)) x4)else (bif ((x2.getD x3.toNat (Ty.aZ .token)).kind==4)then (k0 (⟨((ml .str (.int .i64) ((x2.getD x3.toNat (Ty.aZ .token)).text) ([(([110,117,108,108]:ah),1),(([102,97,108,115,101]:ah),2),(([116,114,117,101]:ah),3)]:List (ah×Int))):Int),⟨0,0⟩,([]:ah),([]:List ah),([]:List Json)⟩:Json) x2 (IntKind.i64.wrap (x3+1)) x4)else (bif ((x2.getD x3.toNat (Ty.aZ .token)).text==([91]:ah))then (aG ([93]:ah) x2 (IntKind.i64.wrap (x3+1)) x4 (fun y7 y8 y9 um=>aX (Int.natAbs x1+List.length y8+Int.natAbs y9+Int.natAbs um+Int.natAbs 0+Int.natAbs 0+Int.natAbs 0+List.length ([]:ah)+Int.natAbs 6+Int.natAbs 0+Int.natAbs 0+List.length ([]:ah)+List.length ([]:List Json)+64) x1 y7 y8 y9 um 0 0 0 ([]:ah) 6 0 0 ([]:ah) 0 ([]:List Json) (fun y38 W8 ZN Z5 Z6 W9 y44 y45 y46 y47 y48 y49 y50=>k0 (⟨y45,⟨y46,y47⟩,y48,([]:List ah),y50⟩:Json) y38 W8 ZN)))else (aG ([125]:ah) x2 (IntKind.i64.wrap (x3+1)) x4 (fun y51 y52 y53 y54=>aY (Int.natAbs x1+List.length y52+Int.natAbs y53+Int.natAbs y54+Int.natAbs 0+Int.natAbs 0+Int.natAbs 0+List.length ([]:ah)+Int.natAbs 7+Int.natAbs 0+Int.natAbs 0+List.length ([]:ah)+List.length ([]:List ah)+List.length ([]:List Json)+64) x1 y51 y52 y53 y54 0 0 0 ([]:ah) 7 0 0 ([]:ah) ([]:List ah) 0 ([]:List Json) (fun y87 y88 y89 y90 y91 y92 y93 y94 y95 y96 y97 y98 y99 y100=>k0 (⟨y94,⟨y95,y96⟩,y97,y98,y100⟩:Json) y87 y88 y89))))))); bif ((x2.getD x3.toNat (Ty.aZ .token)).kind==5)then (k0 (⟨0,⟨0,0⟩,([]:ah),([]:List ah),([]:List Json)⟩:Json) x2 x3 40)else (bif ((x2.getD x3.toNat (Ty.aZ .token)).kind==1)then (bif (!z5)then (k0 (⟨0,⟨0,0⟩,([]:ah),([]:List ah),([]:List Json)⟩:Json) x2 x3 40)else (j101))else (j101)); bif ((x2.getD x3.toNat (Ty.aZ .token)).kind==1)then (bif ((x2.getD x3.toNat (Ty.aZ .token)).text==([91]:ah))then (j102 true)else (j102 ((x2.getD x3.toNat (Ty.aZ .token)).text==([123]:ah))))else (j102 false)))
theorem Hw:dE (R:=R) (tt.mode [.json]) (dJ aG bf af iq) (ez aX aY) false Tryz.f114 dG dH (ct (xL aG aX aY)):=fun x y k=>by kernel_rfl
end
theorem Gm (af:bj R) (ie:aC.Spec.Ok Tryz.prog 114 (aI dG dH (ct af) ax)):cu (R:=R) Tryz.prog (dJ (R:=R) aG bf af iq) := .d (xJ R) rfl <| .d (Gl R) rfl <| .f ie rfl <| .c (YQ R) <| .n
def aX (af:bj R):ll R
 | 0,_,_,_,_,_,_,_,_,_,_,_,_,_,_,_,_=>none
 | n+1,gk,gn,gw,mC,wa,xT,Eg,Eh,HH,HI,pF,xU,Dn,Dp,Ml,e0=>s8 aG bf af (fun gk gn gw mC wa xT Eg Eh HH HI pF xU Dn Dp Ml=>aX af n gk gn gw mC wa xT Eg Eh HH HI pF xU Dn Dp Ml e0) gk gn gw mC wa xT Eg Eh HH HI pF xU Dn Dp Ml e0
def tf (af:bj R) (K:Ex→St→Option R) (n:Nat) (d:eQ):Option R:=aX af n d.1 d.2.1 d.2.2.1 d.2.2.2.1 d.2.2.2.2.1 d.2.2.2.2.2.1 d.2.2.2.2.2.2.1 d.2.2.2.2.2.2.2.1 d.2.2.2.2.2.2.2.2.1 d.2.2.2.2.2.2.2.2.2.1 d.2.2.2.2.2.2.2.2.2.2.1 d.2.2.2.2.2.2.2.2.2.2.2.1 d.2.2.2.2.2.2.2.2.2.2.2.2.1 d.2.2.2.2.2.2.2.2.2.2.2.2.2.1 d.2.2.2.2.2.2.2.2.2.2.2.2.2.2 (lp K)
def aY (af:bj R):ln R
 | 0,_,_,_,_,_,_,_,_,_,_,_,_,_,_,_,_,_=>none
 | n+1,gk,gn,gw,mC,wa,xT,Eg,Eh,HH,HI,pF,xU,Dn,Dp,Ml,x15',e0=>ta aG bf af iq (fun gk gn gw mC wa xT Eg Eh HH HI pF xU Dn Dp Ml x15'=>aY af n gk gn gw mC wa xT Eg Eh HH HI pF xU Dn Dp Ml x15' e0) gk gn gw mC wa xT Eg Eh HH HI pF xU Dn Dp Ml x15' e0
def tg (af:bj R) (K:Ex→St→Option R) (n:Nat) (d:eR):Option R:=aY af n d.1 d.2.1 d.2.2.1 d.2.2.2.1 d.2.2.2.2.1 d.2.2.2.2.2.1 d.2.2.2.2.2.2.1 d.2.2.2.2.2.2.2.1 d.2.2.2.2.2.2.2.2.1 d.2.2.2.2.2.2.2.2.2.1 d.2.2.2.2.2.2.2.2.2.2.1 d.2.2.2.2.2.2.2.2.2.2.2.1 d.2.2.2.2.2.2.2.2.2.2.2.2.1 d.2.2.2.2.2.2.2.2.2.2.2.2.2.1 d.2.2.2.2.2.2.2.2.2.2.2.2.2.2.1 d.2.2.2.2.2.2.2.2.2.2.2.2.2.2.2 (lq K)
theorem CU (af:bj R) (other:cL R) (ho:gW (tt.mode [.json]) (cR (dJ (R:=R) aG bf af iq)) (ez (R:=R) (aX af) (aY af)) 1 ((aA (bc Tryz.f114)).getD 0 .skip) iZ other):gW (tt.mode [.json]) (cR (dJ (R:=R) aG bf af iq)) (ez (R:=R) (aX af) (aY af)) 1 ((aA (bc Tryz.f114)).getD 0 .skip) iZ (cG gf gg (rN (aX af)) other) :=
 cQ (A:=tf af) ho (dV kV (s9 aG bf af) (tf af) (fun _ _=>by kernel_rfl) (Bl aG bf af iq (aX af) (aY af)) (fun _ _ _=>by kernel_rfl)) s6 DI (fun _ _=>by kernel_rfl) (fun _ _ _=>by kernel_rfl)
theorem CV (af:bj R) (other:cL R) (ho:gW (tt.mode [.json]) (cR (dJ (R:=R) aG bf af iq)) (ez (R:=R) (aX af) (aY af)) 1 ((aA (bc Tryz.f114)).getD 1 .skip) ja other):gW (tt.mode [.json]) (cR (dJ (R:=R) aG bf af iq)) (ez (R:=R) (aX af) (aY af)) 1 ((aA (bc Tryz.f114)).getD 1 .skip) ja (cG gh gi (rO (aY af)) other) :=
 cQ (A:=tg af) ho (dV kW (td aG bf af iq) (tg af) (fun _ _=>by kernel_rfl) (Bm aG bf af iq (aX af) (aY af)) (fun _ _ _=>by kernel_rfl)) s7 DJ (fun _ _=>by kernel_rfl) (fun _ _ _=>by kernel_rfl)
def pI (af:bj R):bj R:=fun x1 x2 x3 x4 k0=>xL aG (aX af) (aY af) x1 x2 x3 x4 k0
theorem ED (R:Type) (af:bj R) (ie:aC.Spec.Ok Tryz.prog 114 (aI dG dH (ct af) ax)):∀a∈aA (bc Tryz.f114),gK (tt.mode [.json]) (cR (dJ (R:=R) aG bf af iq)) (ez (R:=R) (aX af) (aY af)) 1 a:=by
 refine eY 2 (by kernel_rfl) fun i hi => ?_
 match i,hi with
 | 0,_=>exact cz (by kernel_rfl) (CU af _ dv)
 | 1,_=>exact cz (by kernel_rfl) (CV af _ dv)
 | n+2,hi=>omega
theorem EE (R:Type) (af:bj R) (ie:aC.Spec.Ok Tryz.prog 114 (aI dG dH (ct af) ax)):k8 Tryz.prog 114 (H5 (pI af)):=bt (TT.mode [.json]) mixed (Gm af ie) rfl rfl rfl rfl (ED R af ie) (Hw aG bf af iq (aX af) (aY af))
def dK:Nat→bj R
 | 0,_,_,_,_,_=>none
 | n+1,gk,gn,gw,mC,k0'=>pI (dK n) gk gn gw mC k0'
theorem U2 (n:Nat):dK (R:=R) (n+1)=pI (dK n):=by kernel_rfl
theorem Fj (R:Type):∀n,aC.Spec.Ok Tryz.prog 114 (aI dG dH (ct (dK (R:=R) n)) ax) :=
 AO (run:=fun n=>ct (dK (R:=R) n)) (fun x y k=>by kernel_rfl) fun n hyp=>EE R (dK n) hyp ax (jm _)
def A8:bj R:=fun x1 x2 x3 x4 k0=>dK 40 x1 x2 x3 x4 k0
theorem Fk (R:Type):ct (R:=R) A8=fun x y k=>ct (dK 40) x y k:=by kernel_rfl
theorem WM (R:Type) (other:aC.Spec R) (ho:aC.Spec.Ok Tryz.prog 114 other):aC.Spec.Ok Tryz.prog 114 (aI dG dH (ct A8) other) :=
 GN (Ka (run:=fun n=>ct (dK (R:=R) n)) (fun x y=>40) ho (Fj R)) (Fk R)
end Go.Proofs.YtidfokedcnhahaaGreatDoor
/-
 Functions of the program as pure Lean functions, and the ties; printed by wip/tools/emit.py.
-/
set_option maxRecDepth 100000
namespace Go.Proofs.YtidfokedcnhahaaGreatDoor
open Go Go.aC
variable {R:Type}
end Go.Proofs.YtidfokedcnhahaaGreatDoor
namespace Go.Proofs.YtidfokedcnhahaaGreatDoor.Pu
open Go Go.aC
theorem tmod_zero {m:Int} (h0:m≠0) (h:Int.tmod m 10=0):∃c:Int,m=10*c∧c≠0∧Int.tdiv m 10=c:=by
 obtain ⟨c,rfl⟩:=Int.dvd_of_tmod_eq_zero h
 exact ⟨c,rfl,by rintro rfl; exact h0 rfl,Int.mul_tdiv_cancel_left c (by decide)⟩
theorem made_loops {R:Type} (d:fv):∀(j:Nat) (m e:Int) (n:Nat),m≠0→m.natAbs<10 ^ j→m.natAbs<n→0≤e→e+j≤19→xF m →
  ∃m' e':Int,xF m'∧xF e'∧(∀e0,bC (R:=R) n m e d e0=e0 m' e' d)∧(∀e0 e1,cn (R:=R) n m e d e0 e1=e0 m' e' d):=by
 intro j
 induction j with
 | zero=>intro m e n h0 h; omega
 | succ j ih =>
  intro m e n h0 h hn he hej hm
  obtain ⟨hm1,hm2⟩:=hm
  cases n with
  | zero=>omega
  | succ n =>
   by_cases hq:Int.tmod m 10=0
   ·have c1:(Int.tmod m 10==0)=true:=by simpa using hq
    have c2:decide (e>(1099511627776:Int))=false:=decide_eq_false (by omega)
    obtain ⟨c,hc,Qr,hcd⟩:=tmod_zero h0 hq
    have hp:10 ^ (j+1)=10*10 ^ j:=by rw[Nat.pow_succ,Nat.mul_comm]
    obtain ⟨m',e',g1,g2,g3,g4⟩:=ih c (e+1) n Qr (by rw[hp]at h; omega) (by omega) (by omega) (by omega) ⟨by omega,by omega⟩
    refine ⟨m',e',g1,g2,fun e0 => ?_,fun e0 e1 => ?_⟩
    ·show fx (fun a b c=>bC n a b c e0) m e d e0=_
     unfold fx
     rw[c1,cond_true,hcd,cA (by omega) (by omega),cA (by omega) (by omega)]
     exact g3 e0
    ·show jW (fun a b c=>cn n a b c e0 e1) m e d e0 e1=_
     unfold jW
     rw[c1,cond_true,c2,cond_false,hcd,cA (by omega) (by omega),cA (by omega) (by omega)]
     exact g4 e0 e1
   ·have c1:(Int.tmod m 10==0)=false:=by simpa using hq
    refine ⟨m,e,⟨hm1,hm2⟩,⟨by omega,by omega⟩,fun e0 => ?_,fun e0 e1 => ?_⟩
    ·show fx _ m e d e0=_
     unfold fx
     rw[c1,cond_false]
    ·show jW _ m e d e0 e1=_
     unfold jW
     rw[c1,cond_false]
theorem made_same {R:Type} (n:Int) (hn:xF n):∃(d:fv) (b:Bool),xF d.ao∧xF d.exp∧(∀k:fv→Bool→Option R,bk n 0 k=k d b)∧∀k:fv→Bool→Option R,tY n 0 k=k d b:=by
 obtain ⟨hn1,hn2⟩:=hn
 by_cases h0:n=0
 ·subst h0
  exact ⟨⟨0,0⟩,true,⟨by decide,by decide⟩,⟨by decide,by decide⟩,fun k=>rfl,fun k=>rfl⟩
 ·have c0:(n==0)=false:=by simpa using h0
  have c5:min (0:Int) 1000000=0:=by decide
  obtain ⟨m',e',g1,g2,g3,g4⟩:=made_loops (R:=R) ⟨0,0⟩ 19 n 0 (Int.natAbs n+Int.natAbs 0+fv.fu (⟨0,0⟩:fv)+64) h0 (by omega) (by omega) (by omega) (by omega) ⟨hn1,hn2⟩
  by_cases hb:(-1000000000000000≤m'∧m'≤1000000000000000)∧(-9≤e'∧e'≤9)
  ·refine ⟨⟨m',e'⟩,true,g1,g2,fun k => ?_,fun k => ?_⟩
   ·unfold bk kr
    rw[c0,cond_false,c5,g3,Gw]
    have d1:(decide (-1000000000000000≤m')&&decide (m'≤1000000000000000))=true:=by simp; omega
    have d2:(decide (-9≤e')&&decide (e'≤9))=true:=by simp; omega
    rw[d1,Bool.not_true,cond_false,Gw,d2,Bool.not_true,cond_false]
   ·unfold tY tX
    rw[c0,cond_false,g4]
    have d1:decide (m'>(1000000000000000:Int))=false:=decide_eq_false (by omega)
    have d2:decide (m'<(-1000000000000000:Int))=false:=decide_eq_false (by omega)
    have d3:decide (e'>(9:Int))=false:=decide_eq_false (by omega)
    have d4:decide (e'<(-9:Int))=false:=decide_eq_false (by omega)
    simp only[d1,d2,d3,d4,cond_false]
  ·refine ⟨⟨0,0⟩,false,⟨by decide,by decide⟩,⟨by decide,by decide⟩,fun k => ?_,fun k => ?_⟩
   ·unfold bk kr
    rw[c0,cond_false,c5,g3,Gw]
    by_cases hm : -1000000000000000≤m'∧m'≤1000000000000000
    ·have d1:(decide (-1000000000000000≤m')&&decide (m'≤1000000000000000))=true:=by simp; omega
     have d2:(decide (-9≤e')&&decide (e'≤9))=false:=by simp only[Bool.and_eq_false_imp,decide_eq_true_eq,decide_eq_false_iff_not]; omega
     rw[d1,Bool.not_true,cond_false,Gw,d2,Bool.not_false,cond_true]
    ·have d1:(decide (-1000000000000000≤m')&&decide (m'≤1000000000000000))=false:=by simp only[Bool.and_eq_false_imp,decide_eq_true_eq,decide_eq_false_iff_not]; omega
     rw[d1,Bool.not_false,cond_true]
   ·unfold tY tX
    rw[c0,cond_false,g4]
    by_cases d1:m'>(1000000000000000:Int)
    ·simp only[decide_eq_true d1,cond_true]
    ·by_cases d2:m'<(-1000000000000000:Int)
     ·simp only[decide_eq_false d1,decide_eq_true d2,cond_true,cond_false]
     ·by_cases d3:e'>(9:Int)
      ·simp only[decide_eq_false d1,decide_eq_false d2,decide_eq_true d3,cond_true,cond_false]
      ·have d4:e'<(-9:Int):=by omega
       simp only[decide_eq_false d1,decide_eq_false d2,decide_eq_false d3,decide_eq_true d4,cond_true,cond_false]
end Go.Proofs.YtidfokedcnhahaaGreatDoor.Pu
set_option maxRecDepth 100000
namespace Go.Proofs.YtidfokedcnhahaaGreatDoor
open Go Go.aC
end Go.Proofs.YtidfokedcnhahaaGreatDoor
namespace Go.Proofs.YtidfokedcnhahaaGreatDoor
open Go Go.aC
end Go.Proofs.YtidfokedcnhahaaGreatDoor
set_option maxRecDepth 100000
namespace Go.Proofs.YtidfokedcnhahaaGreatDoor
open Go Go.aC
theorem strip_ex:∀(b:Nat) (m:Int),m≠0→m.natAbs<b→∃(j:Nat) (u:Int),m=u*10 ^ j∧Int.tmod u 10≠0
 | 0,m,_,h=>by omega
 | b+1,m,h0,hb=>by
  by_cases h:Int.tmod m 10=0
  ·have hd:m=Int.tdiv m 10*10:=by have:=Int.tmod_add_mul_tdiv m 10; omega
   have hn:(Int.tdiv m 10).natAbs<m.natAbs:=by rw[Int.natAbs_tdiv]; show m.natAbs / 10<m.natAbs; omega
   obtain ⟨j,u,e,hu⟩:=strip_ex b (Int.tdiv m 10) (by omega) (by omega)
   refine ⟨j+1,u,?_,hu⟩
   rw[Int.pow_succ,←Int.mul_assoc,←e]
   exact hd
  ·exact ⟨0,m,by simp,h⟩
theorem strip_one:∀(i j:Nat) (u v:Int),Int.tmod u 10≠0→Int.tmod v 10≠0→u*10 ^ i=v*10 ^ j→i=j∧u=v
 | 0,0,u,v,_,_,h=>⟨rfl,by simpa using h⟩
 | 0,j+1,u,v,hu,_,h=>by
  exfalso
  apply hu
  have:u=(v*10 ^ j)*10:=by rw[Int.pow_succ,←Int.mul_assoc]at h; simpa using h
  rw[this]
  exact Int.mul_tmod_left _ _
 | i+1,0,u,v,_,hv,h=>by
  exfalso
  apply hv
  have:v=(u*10 ^ i)*10:=by rw[Int.pow_succ,←Int.mul_assoc]at h; simpa using h.symm
  rw[this]
  exact Int.mul_tmod_left _ _
 | i+1,j+1,u,v,hu,hv,h=>by
  have h2:u*10 ^ i=v*10 ^ j:=by
   rw[Int.pow_succ,Int.pow_succ,←Int.mul_assoc,←Int.mul_assoc]at h
   omega
  obtain ⟨h3,h4⟩:=strip_one i j u v hu hv h2
  exact ⟨by omega,h4⟩
theorem PR (j:Nat):(1:Int)≤10 ^ j:=by
 induction j with
 | zero=>simp
 | succ j ih=>rw[Int.pow_succ]; omega
theorem RV (u:Int) (j:Nat):u.natAbs≤(u*10 ^ j).natAbs:=by
 rw[Int.natAbs_mul]
 have h:=PR j
 have:1≤((10:Int) ^ j).natAbs:=by omega
 exact Nat.le_mul_of_pos_right _ this
theorem noughts_le (u:Int) (hu:u≠0):∀j:Nat,j≤(u*10 ^ j).natAbs:=by
 intro j
 rw[Int.natAbs_mul]
 have h1:1≤u.natAbs:=by omega
 have h2:j≤((10:Int) ^ j).natAbs:=by
  induction j with
  | zero=>simp
  | succ j ih =>
   have:=PR j
   rw[Int.pow_succ,Int.natAbs_mul]
   show j+1≤((10:Int) ^ j).natAbs*10
   omega
 calc j≤((10:Int) ^ j).natAbs:=h2
  _≤u.natAbs*((10:Int) ^ j).natAbs:=Nat.le_mul_of_pos_left _ h1
theorem noughts_pow (u:Int) (hu:u≠0) (j:Nat):2 ^ j≤(u*10 ^ j).natAbs:=by
 rw[Int.natAbs_mul]
 have h2:∀j:Nat,2 ^ j≤((10:Int) ^ j).natAbs:=by
  intro j
  induction j with
  | zero=>simp
  | succ j ih =>
   rw[Int.pow_succ,Int.natAbs_mul,Nat.pow_succ]
   show 2 ^ j*2≤((10:Int) ^ j).natAbs*10
   omega
 exact Nat.le_trans (h2 j) (Nat.le_mul_of_pos_left _ (by omega))
theorem Y3 {u:Int} (hu:u≠0) {j:Nat} (hb:xF (u*10 ^ j)):j<64:=by
 have h:=noughts_pow u hu j
 unfold xF at hb
 rcases Nat.lt_or_ge j 64 with h1|h1
 ·exact h1
 ·have h2:(2:Nat) ^ 64≤2 ^ j:=Nat.pow_le_pow_right (by omega) h1
  have h3:(2:Nat) ^ 64=18446744073709551616:=rfl
  omega
theorem UO {R:Type} (d:fv) (e0:Int→Int→fv→Option R):∀(j n:Nat) (u x:Int),j<n→Int.tmod u 10≠0→xF (u*10 ^ j) → -9223372036854775808≤x→x+j≤4000000000000000000 →
  bC n (u*10 ^ j) x d e0=e0 u (x+j) d:=by
 intro j
 induction j with
 | zero =>
  intro n u x hn hu hb h1 h2
  obtain ⟨m,rfl⟩:∃m,n=m+1:=⟨n - 1,by omega⟩
  have e:bC (m+1) (u*10 ^ 0) x d e0=fx (fun gk gn gw=>bC m gk gn gw e0) (u*10 ^ 0) x d e0:=rfl
  rw[e]
  unfold fx
  have e1:u*10 ^ 0=u:=by simp
  have e2:(Int.tmod u 10==0)=false:=by rw[beq_eq_false_iff_ne]; exact hu
  rw[e1,e2,cond_false]
  simp
 | succ j ih =>
  intro n u x hn hu hb h1 h2
  obtain ⟨m,rfl⟩:∃m,n=m+1:=⟨n - 1,by omega⟩
  have e:bC (m+1) (u*10 ^ (j+1)) x d e0=fx (fun gk gn gw=>bC m gk gn gw e0) (u*10 ^ (j+1)) x d e0:=rfl
  rw[e]
  unfold fx
  have ep:u*10 ^ (j+1)=u*10 ^ j*10:=by rw[Int.pow_succ,Int.mul_assoc]
  unfold xF at hb
  rw[ep]at hb ⊢
  have e1:(Int.tmod (u*10 ^ j*10) 10==0)=true:=by rw[Int.mul_tmod_left]; rfl
  have e2:Int.tdiv (u*10 ^ j*10) 10=u*10 ^ j:=Int.mul_tdiv_cancel _ (by omega)
  rw[e1,cond_true,e2,cA (n:=u*10 ^ j) (by omega) (by omega),cA (n:=x+1) (by omega) (by omega)]
  show bC m (u*10 ^ j) (x+1) d e0=_
  rw[ih m u (x+1) (by omega) hu (by unfold xF; omega) (by omega) (by omega)]
  have:x+1+(j:Int)=x+((j+1:Nat):Int):=by omega
  rw[this]
theorem KN {R:Type} (a b c:Int) (k:Bool→Option R):ay a b c k=k (decide (a≤b)&&decide (b≤c)):=by
 have e:ay a b c k=mr a b c k:=rfl
 rw[e]
 unfold mr
 by_cases h1:a≤b
 ·rw[aM h1]; first|rfl|simp
 ·rw[bJ h1]; first|rfl|simp
def VV (u x:Int):fv×Bool:=if -1000000000000000≤u∧u≤1000000000000000 ∧ -9≤x∧x≤9 then (⟨u,x⟩,true)else (⟨0,0⟩,false)
theorem make_ok {R:Type} (u:Int) (j:Nat) (x:Int) (hu:Int.tmod u 10≠0) (hb:xF (u*10 ^ j)) (h1 : -9223372036854775808≤x) (h2:x≤1000000) (k:fv→Bool→Option R) :
  bk (u*10 ^ j) x k=k (VV u (x+j)).1 (VV u (x+j)).2:=by
 have e:bk (u*10 ^ j) x k=kr ay bC (u*10 ^ j) x k:=rfl
 rw[e]
 unfold kr
 have hu0:u≠0:=by rintro rfl; exact hu rfl
 have ha:=RV u j
 have hn:=noughts_le u hu0 j
 have h64:=Y3 hu0 hb
 have h0:(u*10 ^ j==0)=false:=by rw[beq_eq_false_iff_ne]; omega
 have hm:min x 1000000=x:=Int.min_eq_left h2
 unfold xF at hb
 rw[h0,cond_false,hm,UO _ _ j _ u x (by omega) hu (by unfold xF; exact hb) h1 (by omega)]
 rw[KN]
 unfold VV
 by_cases c1 : -1000000000000000≤u∧u≤1000000000000000
 ·rw[aM c1.1,aM c1.2]
  simp only[Bool.and_self,Bool.not_true,cond_false]
  rw[KN]
  by_cases c2 : -9≤x+(j:Int)∧x+(j:Int)≤9
  ·rw[aM c2.1,aM c2.2,if_pos ⟨c1.1,c1.2,c2.1,c2.2⟩]
   rfl
  ·rw[if_neg (fun h=>c2 h.2.2)]
   have:(decide (-9≤x+(j:Int))&&decide (x+(j:Int)≤9))=false:=by
    rw[Bool.and_eq_false_iff,decide_eq_false_iff_not,decide_eq_false_iff_not]; omega
   rw[this]
   rfl
 ·rw[if_neg (fun h=>c1 ⟨h.1,h.2.1⟩)]
  have:(decide (-1000000000000000≤u)&&decide (u≤1000000000000000))=false:=by
   rw[Bool.and_eq_false_iff,decide_eq_false_iff_not,decide_eq_false_iff_not]; omega
  rw[this]
  rfl
theorem U3 {R:Type} (x:Int) (k:fv→Bool→Option R):bk 0 x k=k ⟨0,0⟩ true:=by
 have e:bk 0 x k=kr ay bC 0 x k:=rfl
 rw[e]
 rfl
theorem right_mk {R:Type} {u x:Int} (hu:Int.tmod u 10≠0) (h : -1000000000000000≤u∧u≤1000000000000000 ∧ -9≤x∧x≤9) (k:Bool→Option R):bL ⟨u,x⟩ k=k true:=by
 have e:bL ⟨u,x⟩ k=jE ay ⟨u,x⟩ k:=rfl
 rw[e]
 unfold jE
 have hu0:u≠0:=by rintro rfl; exact hu rfl
 have e1:(u==0)=false:=by rw[beq_eq_false_iff_ne]; exact hu0
 have e2:(Int.tmod u 10 != 0)=true:=bne_iff_ne.2 hu
 simp only[e1,e2,cond_false,cond_true,KN]
 rw[aM h.1,aM h.2.1,aM h.2.2.1,aM h.2.2.2]
 rfl
end Go.Proofs.YtidfokedcnhahaaGreatDoor
/-
 Functions of the program as pure Lean functions, and the ties; printed by wip/tools/emit.py.
-/
set_option maxRecDepth 100000
namespace Go.Proofs.YtidfokedcnhahaaGreatDoor
open Go Go.aC
variable {R:Type}
/-! ### humpyard/humpyardlaw08.OrderApart -/
abbrev yz (R:Type):Type:=Order→Order→Int→Int→(Bool→Option R)→Option R
abbrev uf:List cP := [.agg [.int .i64, .str, .int .i64, .int .i64, .sl .stop, .sl .pD], .agg [.int .i64, .str, .int .i64, .int .i64, .sl .stop, .sl .pD], .leaf (.int .i64), .leaf (.int .i64)]
abbrev ug:List aW := []
def yA (fn:yz R):lh R uf ug:=fun x y k=>fn (⟨x.1.1,x.1.2.1,x.1.2.2.1,x.1.2.2.2.1,x.1.2.2.2.2.1,x.1.2.2.2.2.2.1⟩:Order) (⟨x.2.1.1,x.2.1.2.1,x.2.1.2.2.1,x.2.1.2.2.2.1,x.2.1.2.2.2.2.1,x.2.1.2.2.2.2.2.1⟩:Order) x.2.2.1 x.2.2.2.1 (fun q0=>k (.bool q0) [])
def RW (fn:yz R):=aI uf ug (yA fn)
section
variable (pQ:Gk R) (mA:Cu R) (cW:zw R) (lY:D8 R) (fH:zu R) (gd:Cp R) (fG:zt R)
def Hx:List (oq R) := [(18,true,(VU pQ ax)),(17,true,(Q2 mA ax)),(27,true,(Mx cW ax)),(24,true,(TJ lY ax)),(25,true,(Mt fH ax)),(19,true,(Pb gd ax)),(23,true,(Mp fG ax))]
def AH (x1:Order) (x2:Order) (x3:Int) (x4:Int) (k0:Bool→Option R):Option R :=
 mA (fun y5=>pQ x1 x3 (fun y6=>pQ x2 x4 (fun y7=>gd y6 (fun y8 y9=>gd y7 (fun um vQ=>bif y5 then (bif (y9==0)then (bif (vQ==0)then (lY y6 y7 (fun yK=>bif ((y8==um)==yK)then (fG y6 y7 (fun HJ=>lY y6 y7 (fun G1=>bif (HJ==G1)then (fH y6 (fun Iy=>cW x3 (y6.nodes.length:Int) (fun EN=>k0 (Iy==(IntKind.i64.wrap (1+EN))))))else (k0 false))))else (k0 false)))else (k0 false))else (k0 false))else (k0 false))))))
theorem Ql:dE (R:=R) tt (Hx pQ mA cW lY fH gd fG) rS false Tryz.f9 uf ug (yA (AH pQ mA cW lY fH gd fG)):=fun x y k=>by kernel_rfl
end
theorem Pq:cu (R:=R) Tryz.prog (Hx (R:=R) pQ mA cW lY fH gd fG) := .c (Y2 R) <| .c (UW R) <| .c (M9 R) <| .c (WL R) <| .c (M8 R) <| .c (Pd R) <| .c (M7 R) <| .n
def th:yz R:=fun x1 x2 x3 x4 k0=>AH pQ mA cW lY fH gd fG x1 x2 x3 x4 k0
theorem NI (R:Type):k8 Tryz.prog 9 (RW (th (R:=R))):=bt TT mixed (Pq (R:=R)) rfl rfl rfl rfl cd (Ql pQ mA cW lY fH gd fG)
end Go.Proofs.YtidfokedcnhahaaGreatDoor
/-
 Functions of the program as pure Lean functions, and the ties; printed by wip/tools/emit.py.
-/
set_option maxRecDepth 100000
namespace Go.Proofs.YtidfokedcnhahaaGreatDoor
open Go Go.aC
variable {R:Type}
end Go.Proofs.YtidfokedcnhahaaGreatDoor
/-
 Functions of the program as pure Lean functions, and the ties; printed by wip/tools/emit.py.
-/
set_option maxRecDepth 100000
namespace Go.Proofs.YtidfokedcnhahaaGreatDoor
open Go Go.aC
variable {R:Type}
end Go.Proofs.YtidfokedcnhahaaGreatDoor
set_option maxRecDepth 100000
namespace Go.Proofs.YtidfokedcnhahaaGreatDoor
open Go Go.aC Go.Lib
def Fm (d:fv):Prop:=(d.ao=0∧d.exp=0)∨(Int.tmod d.ao 10≠0 ∧ -1000000000000000≤d.ao∧d.ao≤1000000000000000 ∧ -9≤d.exp∧d.exp≤9)
theorem Fm.bounds {d:fv} (h:Fm d) : -1000000000000000≤d.ao∧d.ao≤1000000000000000 ∧ -9≤d.exp∧d.exp≤9:=by
 rcases h with h|h <;> omega
theorem Fm.nz {d:fv} (h:Fm d) (h0:d.ao≠0):Int.tmod d.ao 10≠0:=by
 rcases h with h|h
 ·exact (h0 h.1).elim
 ·exact h.1
theorem Fm.zero {d:fv} (h:Fm d) (h0:d.ao=0):d=⟨0,0⟩:=by
 rcases h with h|h
 ·cases d; simp only at h; rw[h.1,h.2]
 ·exact (h.1 (by rw[h0]; rfl)).elim
theorem Fm.mk0:Fm ⟨0,0⟩ := .inl ⟨rfl,rfl⟩
theorem tmod_neg {m:Int} (h:Int.tmod m 10≠0):Int.tmod (-m) 10≠0:=by rw[Int.neg_tmod]; omega
theorem Fm.neg {d:fv} (h:Fm d):Fm ⟨-d.ao,d.exp⟩:=by
 rcases h with h|h
 ·exact .inl ⟨by simp only; omega,h.2⟩
 ·exact .inr ⟨tmod_neg h.1,by simp only; omega,by simp only; omega,h.2.2.2⟩
theorem right_ok {R:Type} {d:fv} (h:Fm d) (k:Bool→Option R):bL d k=k true:=by
 rcases h with h|h
 ·have e:bL d k=jE ay d k:=rfl
  rw[e]
  unfold jE
  rw[h.1,h.2]
  rfl
 ·cases d; exact right_mk h.1 h.2 k
def Made (m x:Int) (r:fv×Bool):Prop:=(m=0∧r=(⟨0,0⟩,true))∨∃(u:Int) (j:Nat),m=u*10 ^ j∧Int.tmod u 10≠0∧r=VV u (x+j)
theorem make_any {R:Type} (m x:Int) (hm:xF m) (h1 : -4000000000000000000≤x) (h2:x≤1000000):∃r:fv×Bool,Made m x r∧∀k:fv→Bool→Option R,bk m x k=k r.1 r.2:=by
 by_cases h0:m=0
 ·subst h0
  exact ⟨_, .inl ⟨rfl,rfl⟩,fun k=>U3 x k⟩
 ·obtain ⟨j,u,hu,hd⟩:=strip_ex (m.natAbs+1) m h0 (by omega)
  exact ⟨_, .inr ⟨u,j,hu,hd,rfl⟩,fun k=>by subst hu; exact make_ok u j x hd hm (by omega) h2 k⟩
def val (d:fv):Int:=d.ao*10 ^ (d.exp+9).toNat
theorem nDigits_low (u:Nat) (h:0<u):10 ^ (nDigits u - 1)≤u:=by
 induction u using Nat.strongRecOn with
 | _ u ih =>
  by_cases h1:u<10
  ·rw[nDigits_small h1]; exact h
  ·rw[nDigits_big h1,Nat.add_sub_cancel]
   have h2:=ih (u / 10) (by omega) (by omega)
   have h3:=nDigits_pos (u / 10)
   have e:nDigits (u / 10)=(nDigits (u / 10) - 1)+1:=by omega
   rw[e,Nat.pow_succ]
   omega
theorem TM {u:Nat} (h:u≤1000000000000000):nDigits u≤16:=by
 rcases Nat.eq_zero_or_pos u with rfl|h0
 ·rw[nDigits_small (by omega)]; omega
 ·have h1:=nDigits_low u h0
  rcases Nat.lt_or_ge (nDigits u) 17 with h2|h2
  ·omega
  ·have h3:(10:Nat) ^ 16≤10 ^ (nDigits u - 1):=Nat.pow_le_pow_right (by omega) (by omega)
   have e:(10:Nat) ^ 16=10000000000000000:=rfl
   omega
theorem mkD_fm {u x:Int} (hu:Int.tmod u 10≠0) (h:(VV u x).2=true):VV u x=(⟨u,x⟩,true)∧Fm ⟨u,x⟩:=by
 unfold VV at h ⊢
 split at h
 ·rename_i hc
  rw[if_pos hc]
  exact ⟨rfl, .inr ⟨hu,hc⟩⟩
 ·cases h
theorem made_same {d:fv} (h:Fm d) (h0:d.ao≠0) {j:Nat} {x:Int} (hx:x+j=d.exp) {r:fv×Bool} (hr:Made (d.ao*10 ^ j) x r):r=(d,true):=by
 have hz:=h.nz h0
 have hab:=RV d.ao j
 rcases hr with ⟨h1,_⟩|⟨u,i,e,hu,rfl⟩
 ·omega
 ·obtain ⟨rfl,rfl⟩:=strip_one i j u d.ao hu hz e.symm
  have b:=h.bounds
  unfold VV
  rw[if_pos (by omega),hx]
end Go.Proofs.YtidfokedcnhahaaGreatDoor
set_option maxRecDepth 100000
namespace Go.Proofs.YtidfokedcnhahaaGreatDoor
open Go Go.aC
abbrev zs (s:ah):List Int:=s.map fun b=>(b.toNat:Int)
theorem zs_app (s t:ah):zs (s++t)=zs s++zs t:=List.map_append
theorem KO (s:ah):jI s=zs s:=rfl
theorem Hy (s:ah):(zs s).length=s.length:=List.length_map _
theorem vL (s:ah):vO (zs s)=s:=by
 unfold vO zs
 rw[List.map_map]
 conv=>rhs; rw[←List.map_id s]
 exact List.map_congr_left fun b _=>by simp
theorem DK (n:Nat) (h:n<256):((UInt8.ofNat n).toNat:Int)=n:=by rw[gP n h]
def TN (s:ah):Prop:=s.length≤100000000000
theorem wb {R:Type} (b:UInt8) (s:ah) (hl:TN s) (k:List Int→Option R):ad (b.toNat:Int) (zs s) k=k (zs (s ++ [b])):=by
 show cb (decide (((zs s).length+1)*1≤140737488355328)) (k (zs s ++ [(b.toNat:Int)]))=_
 unfold TN at hl
 rw[aw (aM (by rw[Hy]; omega)),zs_app]
 rfl
theorem ws {R:Type} (x:ah) (s:ah) (hx:x.length≤100000000000) (hl:TN s) (k:Int→List Int→Option R):ae x (zs s) k=k (x.length:Int) (zs (s++x)):=by
 show cb (decide (((zs s).length+(jI x).length)*1≤140737488355328)) (k (x.length:Int) (zs s++jI x))=_
 unfold TN at hl
 rw[KO,aw (aM (by rw[Hy,Hy]; omega)),zs_app]
theorem or128:∀x:Fin 64,IntKind.u8.wrap ((BitVec.ofInt IntKind.u8.bits 128 ||| BitVec.ofInt IntKind.u8.bits (x.val:Int)).toNat:Int)=((128+x.val:Nat):Int):=by decide +kernel
theorem or192:∀x:Fin 32,IntKind.u8.wrap ((BitVec.ofInt IntKind.u8.bits 192 ||| BitVec.ofInt IntKind.u8.bits (IntKind.u8.wrap (x.val:Int))).toNat:Int)=((192+x.val:Nat):Int):=by decide +kernel
theorem or224:∀x:Fin 16,IntKind.u8.wrap ((BitVec.ofInt IntKind.u8.bits 224 ||| BitVec.ofInt IntKind.u8.bits (IntKind.u8.wrap (x.val:Int))).toNat:Int)=((224+x.val:Nat):Int):=by decide +kernel
theorem or240:∀x:Fin 8,IntKind.u8.wrap ((BitVec.ofInt IntKind.u8.bits 240 ||| BitVec.ofInt IntKind.u8.bits (IntKind.u8.wrap (x.val:Int))).toNat:Int)=((240+x.val:Nat):Int):=by decide +kernel
theorem and63:∀x:Fin 256,IntKind.u8.wrap ((BitVec.ofInt IntKind.u8.bits (x.val:Int) &&& BitVec.ofInt IntKind.u8.bits 63).toNat:Int)=((x.val % 64:Nat):Int):=by decide +kernel
theorem wrap8 (n:Nat):IntKind.u8.wrap (n:Int)=((n % 256:Nat):Int):=by
 simp only[IntKind.wrap,IntKind.bits,IntKind.signed]
 simp
theorem wrap32u {n:Nat} (h:n<1114112):IntKind.u32.wrap (n:Int)=(n:Int):=by
 simp only[IntKind.wrap,IntKind.bits,IntKind.signed]
 simp
 omega
theorem shr (c n:Nat) (h:n≤32):Int.fdiv (c:Int) (2 ^ (min n IntKind.i32.bits))=((c / 2 ^ n:Nat):Int):=by
 have e:min n IntKind.i32.bits=n:=Nat.min_eq_left h
 rw[e,Int.fdiv_eq_ediv_of_nonneg _ (by exact Int.le_of_lt (Int.pow_pos (by omega)))]
 rw[Int.natCast_ediv]
 congr 1
theorem cont (c:Nat):IntKind.u8.wrap ((BitVec.ofInt IntKind.u8.bits 128 ||| BitVec.ofInt IntKind.u8.bits (IntKind.u8.wrap ((BitVec.ofInt IntKind.u8.bits (IntKind.u8.wrap (c:Int)) &&& BitVec.ofInt IntKind.u8.bits 63).toNat:Int))).toNat:Int)=((128+c % 64:Nat):Int):=by
 have h1:=and63 ⟨c % 256,Nat.mod_lt _ (by omega)⟩
 simp only at h1
 rw[wrap8 c,h1,show c % 256 % 64=c % 64 by omega]
 exact or128 ⟨c % 64,Nat.mod_lt _ (by omega)⟩
theorem zs_enc1 (n:Nat) (h:n<256):zs [UInt8.ofNat n] = [(n:Int)]:=by simp only[zs,List.map_cons,List.map_nil,DK n h]
theorem ar {R:Type} {c:Nat} (hv:vr c) (s:ah) (hl:TN s) (k:List Int→Option R):cr (zs s) (c:Int) k=k (zs (s++enc c)):=by
 have kj:=vr_lt hv
 unfold TN at hl
 show iR bR (zs s) (c:Int) k=_
 unfold iR
 rw[wrap32u kj,zs_app]
 rcases Ks hv with ⟨h1,e⟩|⟨h0,h1,e⟩|⟨h0,h1,e⟩|⟨h0,e⟩
 ·rw[aM (show (c:Int)≤127 by omega),cond_true,aw (aM (by rw[Hy]; omega)),e,zs_enc1 c (by omega),wrap8,Nat.mod_eq_of_lt (by omega)]
 all_goals
  rw[bJ (show ¬(c:Int)≤127 by omega),cond_false]
  show fp (zs s) (c:Int) _=_
  unfold fp
  rw[wrap32u kj,e]
  simp only[cont,shr _ 6 (by omega),shr _ 12 (by omega),shr _ 18 (by omega),Hy]
 ·rw[aM (show (c:Int)≤2047 by omega),cond_true,aw (aM (by omega))]
  have:=or192 ⟨c / 64,by omega⟩
  simp only at this
  rw[show c / 2 ^ 6=c / 64 from rfl,this]
  simp only[zs,List.map_cons,List.map_nil,DK (192+c / 64) (by omega),DK (128+c % 64) (by omega)]
 ·rw[bJ (show ¬(c:Int)≤2047 by omega),cond_false]
  unfold vr at hv
  by_cases h2:c<55296
  ·rw[aM (show (c:Int)<55296 by omega),cond_true,cond_true,aw (aM (by omega))]
   have:=or224 ⟨c / 4096,by omega⟩
   simp only at this
   rw[show c / 2 ^ 12=c / 4096 from rfl,this]
   simp only[zs,List.map_cons,List.map_nil,DK (224+c / 4096) (by omega),DK (128+c % 64) (by omega),DK (128+c / 64 % 64) (by omega)]
  rw[bJ (show ¬(c:Int)<55296 by omega),cond_false,aM (show (57343:Int)<(c:Int) by omega),cond_true,aM (show (c:Int)≤65535 by omega),cond_true,aw (aM (by omega))]
  have:=or224 ⟨c / 4096,by omega⟩
  simp only at this
  rw[show c / 2 ^ 12=c / 4096 from rfl,this]
  simp only[zs,List.map_cons,List.map_nil,DK (224+c / 4096) (by omega),DK (128+c % 64) (by omega),DK (128+c / 64 % 64) (by omega)]
 ·rw[bJ (show ¬(c:Int)≤2047 by omega),cond_false]
  rw[bJ (show ¬(c:Int)<55296 by omega),cond_false,aM (show (57343:Int)<(c:Int) by omega),cond_true,bJ (show ¬(c:Int)≤65535 by omega),cond_false,
   aM (show (c:Int)>65535 by omega),cond_true,aM (show (c:Int)≤1114111 by omega),cond_true,aw (aM (by omega))]
  have:=or240 ⟨c / 262144,by omega⟩
  simp only at this
  rw[show c / 2 ^ 18=c / 262144 from rfl,this]
  simp only[zs,List.map_cons,List.map_nil,DK (240+c / 262144) (by omega),DK (128+c % 64) (by omega),DK (128+c / 64 % 64) (by omega),DK (128+c / 4096 % 64) (by omega)]
theorem wr {R:Type} {c:Nat} (hv:vr c) (s:ah) (hl:TN s) (k:Int→List Int→Option R):∃n:Int,ak (c:Int) (zs s) k=k n (zs (s++enc c)):=by
 refine ⟨IntKind.i64.wrap (((zs (s++enc c)).length:Int) - ((zs s).length:Int)),?_⟩
 show hG cr (c:Int) (zs s) k=_
 unfold hG
 rw[ar hv s hl]
end Go.Proofs.YtidfokedcnhahaaGreatDoor
set_option maxRecDepth 100000
namespace Go.Proofs.YtidfokedcnhahaaGreatDoor
open Go Go.aC Go.Lib
def fP (n:Nat):ah:=List.replicate n 48
theorem oB (n:Nat):(fP n).length=n:=List.length_replicate
theorem Q6:∀n:Nat,repeatL [48] n=fP n
 | 0=>rfl
 | n+1=>by
  have:=Q6 n
  simp[repeatL,fP,List.replicate_succ]at this ⊢
  try exact this
theorem repS_zeros (z:Int):k7 [48] z=fP z.toNat:=Q6 _
def body (L:ah) (e:Int):ah :=
 if 0≤e then L++fP e.toNat
 else
  let t:=fP (max 0 (1 - e - (L.length:Int))).toNat++L
  t.take ((t.length:Int)+e).toNat ++ [46]++t.drop ((t.length:Int)+e).toNat
def WN (d:fv):ah:=(if d.ao<0 then [45]else [])++body (decDigits d.ao.natAbs) d.exp
theorem wsn {R:Type} (x:ah) (hx:x.length≤100000000000) (k:Int→List Int→Option R):ai x k=k (x.length:Int) (zs x):=by
 show cb (decide ((0+(jI x).length)*1≤140737488355328)) (k (x.length:Int) (jI x))=_
 rw[KO,aw (aM (by rw[Hy]; omega))]
theorem print_ok {R:Type} {d:fv} (h:Fm d) (k:ah→Option R):bM d k=k (WN d):=by
 have b:=h.bounds
 have e:bM d k=pK bL aj ae ai d k:=rfl
 rw[e]
 unfold pK
 rw[right_ok h,Bool.not_true,cond_false]
 have hL:cf (max d.ao (IntKind.i64.wrap (0 - d.ao)))=decDigits d.ao.natAbs:=by
  rw[cA (n:=0 - d.ao) (by omega) (by omega)]
  have hm:max d.ao (0 - d.ao)=(d.ao.natAbs:Int):=by omega
  rw[hm]
  exact itoa_nonneg _
 have hlen:(decDigits d.ao.natAbs).length≤16:=by rw[decDigits_length]; exact TM (by omega)
 simp only[hL,repS_zeros]
 unfold WN
 generalize decDigits d.ao.natAbs=L at *
 have w1:IntKind.i64.wrap (1 - d.exp)=1 - d.exp:=cA (by omega) (by omega)
 have w2:IntKind.i64.wrap (1 - d.exp - (L.length:Int))=1 - d.exp - (L.length:Int):=cA (by omega) (by omega)
 rw[w1,w2]
 have one:(([48]:ah).length:Int)=1:=rfl
 rw[one]
 have z0:0≤max 0 (1 - d.exp - (L.length:Int)):=by omega
 have zl:max 0 (1 - d.exp - (L.length:Int))≤10:=by omega
 have zL:1 - d.exp≤max 0 (1 - d.exp - (L.length:Int))+L.length:=by omega
 unfold body
 simp only
 generalize max 0 (1 - d.exp - (L.length:Int))=z at *
 have tl:(fP z.toNat++L).length=z.toNat+L.length:=by rw[List.length_append,oB]
 generalize fP z.toNat++L=t at *
 have lapp:∀a b:ah,(a++b).length=a.length+b.length:=fun a b=>List.length_append
 have lone:([46]:ah).length=1:=rfl
 have e45:([45]:List Int)=zs [45]:=rfl
 have q2:∀(x:Int) (f:List Int→Option R),aj x f=f [x]:=fun _ _=>rfl
 have lim45:TN [45]:=by unfold TN; simp
 by_cases he:0≤d.exp
 ·rw[aM (show d.exp≥0 from he),if_pos he]
  by_cases hm:d.ao<0
  ·rw[aM hm,if_pos hm]
   simp only[cond_true]
   rw[q2,aw (by rw[aM (show 1*d.exp≤140737488355328 by omega)]; rfl),aw (aM (by rw[oB]; omega)),e45,ws _ _ (by rw[lapp,oB]; omega) lim45,vL]
  ·rw[bJ hm,if_neg hm]
   simp only[cond_true,cond_false]
   rw[aw (by rw[aM (show 1*d.exp≤140737488355328 by omega)]; rfl),aw (aM (by rw[oB]; omega)),wsn _ (by rw[lapp,oB]; omega),vL]
   rfl
 ·have wt:IntKind.i64.wrap ((t.length:Int)+d.exp)=(t.length:Int)+d.exp:=cA (by omega) (by omega)
  rw[bJ (show ¬d.exp≥0 from he),if_neg he]
  simp only[wt,List.drop_zero,Nat.sub_zero,Int.toNat_natCast,cond_false]
  have l1:(t.take ((t.length:Int)+d.exp).toNat).length≤t.length:=by rw[List.length_take]; omega
  have l2:(t.drop ((t.length:Int)+d.exp).toNat).length≤t.length:=by rw[List.length_drop]; omega
  have c1:(decide ((0:Int)≤(t.length:Int)+d.exp)&&decide ((t.length:Int)+d.exp≤(t.length:Int)))=true:=by rw[aM (by omega),aM (by omega)]; rfl
  have c2:(decide ((0:Int)≤(t.length:Int))&&decide ((t.length:Int)≤(t.length:Int)))=true:=by rw[aM (by omega),aM (by omega)]; rfl
  have c3:(decide ((0:Int)≤z)&&decide (1*z≤140737488355328))=true:=by rw[aM z0,aM (by omega)]; rfl
  have et:(t.drop ((t.length:Int)+d.exp).toNat).take (t.length - ((t.length:Int)+d.exp).toNat)=t.drop ((t.length:Int)+d.exp).toNat:=List.take_of_length_le (by rw[List.length_drop]; exact Nat.le_refl _)
  rw[et]
  by_cases hm:d.ao<0
  ·rw[aM hm,if_pos hm]
   simp only[cond_true]
   rw[q2,aw c3,aw (aM (by rw[oB]; omega)),aw c1,aw (aM (by omega)),aw (aM (by omega)),aw c2,aw c1,aw (aM (by rw[lapp,lone]; omega)),e45,ws _ _ (by rw[lapp,lapp,lone]; omega) lim45,vL]
  ·rw[bJ hm,if_neg hm]
   simp only[cond_false]
   rw[aw c3,aw (aM (by rw[oB]; omega)),aw c1,aw (aM (by omega)),aw (aM (by omega)),aw c2,aw c1,aw (aM (by rw[lapp,lone]; omega)),wsn _ (by rw[lapp,lapp,lone]; omega),vL]
   rfl
theorem band2 {p q:Prop} [Decidable p] [Decidable q] (hp:p) (hq:q):(decide p&&decide q)=true:=by rw[aM hp,aM hq]; rfl
theorem Y4:∀(p s:ah),(s.take p.length==p)=p.isPrefixOf s
 | [],s=>by simp
 | a::p, []=>by simp
 | a::p,b::s=>by
  have:=Y4 p s
  simp only[List.length_cons,List.take_succ_cons,List.isPrefixOf]
  rw[List.cons_beq_cons,this]
  congr 1
  exact Bool.beq_comm
theorem Xb {R:Type} (p s:ah) (hp:p.length≤1000) (hs:s.length≤9000000000000000000) (k:Bool→ah→Option R) :
  aK p s k=if p.isPrefixOf s then k true (s.drop p.length)else k false s:=by
 have e1:∀f:ah→Bool→Option R,fq s p f=cw s p f:=fun _=>rfl
 show fq s p (fun y3 y4=>k y4 y3)=_
 rw[e1]
 show hP cg s p (fun y3 y4=>k y4 y3)=_
 unfold hP
 have e2:∀f:Bool→Option R,cg s p f=f (p.isPrefixOf s):=by
  intro f
  show hM s p f=_
  unfold hM
  by_cases h:p.length≤s.length
  ·rw[aM (show (s.length:Int)≥(p.length:Int) by omega),cond_true,aw (by rw[aM (show (0:Int)≤(p.length:Int) by omega)]; rfl),aw (aM (by omega))]
   rw[List.drop_zero,Int.toNat_natCast,Nat.sub_zero,Y4]
  ·rw[bJ (show ¬(s.length:Int)≥(p.length:Int) by omega),cond_false]
   congr 1
   rw[←Y4]
   symm
   rw[beq_eq_false_iff_ne]
   intro e
   have:=congrArg List.length e
   rw[List.length_take]at this
   omega
 rw[e2]
 cases hp2:p.isPrefixOf s with
 | false=>simp
 | true =>
  have hle:p.length≤s.length:=(List.IsPrefix.length_le (List.isPrefixOf_iff_prefix.1 hp2))
  rw[Bool.not_true,cond_false,aw (band2 (by omega) (by omega)),aw (band2 (by omega) (by omega))]
  simp only[Int.toNat_natCast,if_true]
  rw[List.take_of_length_le (by rw[List.length_drop]; exact Nat.le_refl _)]
theorem decRune_eq {s:ah} (h:s ≠ []):pd s=decodeL s:=by
 unfold pd
 have:s.isEmpty=false:=by cases s with|nil=>exact (h rfl).elim|cons _ _=>rfl
 rw[this]
 rfl
def MB (s:ah):Option (Nat×ah) :=
 if s = []then none else if (decodeL s).1=65533∧(decodeL s).2=1 then none else if (decodeL s).1<32 then none else some ((decodeL s).1,s.drop (decodeL s).2)
theorem plain_ok {R:Type} (s:ah) (hs:s.length≤9000000000000000000) (k:Int→ah→Option R) :
  bP s k=match MB s with|some (c,r)=>k (c:Int) r|none=>k (-1) s:=by
 show lB s k=_
 unfold lB
 by_cases h0:s = []
 ·subst h0; rfl
 rw[decRune_eq h0]
 have hw:=decodeL_width s
 have hle:=decodeL_le s h0
 have hj:(cb (decide ((0:Int)≤(s.length:Int))&&decide ((s.length:Int)≤s.length)) (cb (decide ((0:Int)≤((decodeL s).2:Int))&&decide (((decodeL s).2:Int)≤(s.length:Int))) (k ((decodeL s).1:Int) ((s.drop ((decodeL s).2:Int).toNat).take ((s.length:Int).toNat - ((decodeL s).2:Int).toNat)))))=k ((decodeL s).1:Int) (s.drop (decodeL s).2):=by
  rw[aw (band2 (by omega) (by omega)),aw (band2 (by omega) (by omega)),Int.toNat_natCast,Int.toNat_natCast,List.take_of_length_le (by rw[List.length_drop]; exact Nat.le_refl _)]
 simp only[hj]
 unfold MB
 rw[if_neg h0]
 by_cases h1:(decodeL s).1=65533
 ·have e1:(((decodeL s).1:Int)==65533)=true:=by rw[h1]; rfl
  rw[e1,cond_true]
  by_cases h2:(decodeL s).2=1
  ·rw[aM (show ((decodeL s).2:Int)<2 by omega),cond_true,if_pos ⟨h1,h2⟩]
  ·rw[bJ (show ¬((decodeL s).2:Int)<2 by omega),cond_false,bJ (show ¬((decodeL s).1:Int)<32 by omega),cond_false,if_neg (fun h=>h2 h.2),if_neg (by omega)]
 ·have e1:(((decodeL s).1:Int)==65533)=false:=by rw[beq_eq_false_iff_ne]; omega
  rw[e1,cond_false,if_neg (fun h=>h1 h.1)]
  by_cases h3:(decodeL s).1<32
  ·rw[aM (show ((decodeL s).1:Int)<32 by omega),cond_true,if_pos h3]
  ·rw[bJ (show ¬((decodeL s).1:Int)<32 by omega),cond_false,if_neg h3]
def WO (b:UInt8):Option Nat :=
 let n:=b.toNat
 if 48≤n∧n≤57 then some (n - 48)else if 65≤n∧n≤70 then some (n - 55)else if 97≤n∧n≤102 then some (n - 87)else none
def TO:ah→Nat→Option Nat
 | [],v=>some v
 | b::t,v=>match WO b with|some d=>TO t (16*v+d)|none=>none
def EF (b:Int):Int:=IntKind.u8.wrap ((BitVec.ofInt IntKind.u8.bits b ||| BitVec.ofInt IntKind.u8.bits 32).toNat:Int)
def hexB (b:Nat):Bool :=
 (!(decide (48≤b)&&decide (b≤57))||decide (IntKind.u8.wrap ((b:Int) - 48)=((b - 48:Nat):Int))) &&
 (!(decide ((97:Int)≤EF b)&&decide (EF b≤122))||(!(decide (48≤b)&&decide (b≤57))&&decide (b≠95)&&decide (IntKind.u8.wrap ((IntKind.u8.wrap (EF b - 97))+10)=EF b - 87) &&
  (!decide (EF b - 87<16)||((decide (65≤b)&&decide (b≤70)&&decide (EF b - 87=((b - 55:Nat):Int)))||(decide (97≤b)&&decide (b≤102)&&decide (EF b - 87=((b - 87:Nat):Int))))) &&
  (!decide (16≤EF b - 87)||(!(decide (65≤b)&&decide (b≤70)) && !(decide (97≤b)&&decide (b≤102)))))) &&
 ((decide ((97:Int)≤EF b)&&decide (EF b≤122))||(!(decide (65≤b)&&decide (b≤70)) && !(decide (97≤b)&&decide (b≤102))))
theorem hexB_all:∀b:Fin 256,hexB b.val=true:=by decide +kernel
theorem hex_fact (b:Nat) (hb:b<256) :
  ((48≤b∧b≤57)→IntKind.u8.wrap ((b:Int) - 48)=((b - 48:Nat):Int)) ∧
  ((97:Int)≤EF b→EF b≤122→¬(48≤b∧b≤57)∧b≠95∧IntKind.u8.wrap ((IntKind.u8.wrap (EF b - 97))+10)=EF b - 87 ∧
   (EF b - 87<16→((65≤b∧b≤70)∧EF b - 87=((b - 55:Nat):Int))∨((97≤b∧b≤102)∧EF b - 87=((b - 87:Nat):Int))) ∧
   (16≤EF b - 87→¬(65≤b∧b≤70)∧¬(97≤b∧b≤102))) ∧
  (¬((97:Int)≤EF b∧EF b≤122)→¬(65≤b∧b≤70)∧¬(97≤b∧b≤102)):=by
 have h:=hexB_all ⟨b,hb⟩
 unfold hexB at h
 generalize EF (b:Int)=l at *
 simp only[Bool.and_eq_true,Bool.or_eq_true,Bool.not_eq_true',Bool.and_eq_false_iff,decide_eq_true_eq,decide_eq_false_iff_not]at h
 obtain ⟨⟨h1,h2⟩,h3⟩:=h
 refine ⟨fun q => ?_,fun q1 q2 => ?_,fun q => ?_⟩
 ·rcases h1 with h1|h1
  ·omega
  ·exact h1
 ·rcases h2 with h2|⟨⟨⟨⟨g1,g2⟩,g3⟩,g4⟩,g5⟩
  ·omega
  ·refine ⟨by omega,g2,g3,fun q => ?_,fun q => ?_⟩
   ·rcases g4 with g4|g4
    ·omega
    ·rcases g4 with ⟨⟨k1,k2⟩,k3⟩|⟨⟨k1,k2⟩,k3⟩
     ·exact .inl ⟨⟨k1,k2⟩,k3⟩
     ·exact .inr ⟨⟨k1,k2⟩,k3⟩
   ·rcases g5 with g5|⟨k1,k2⟩
    ·omega
    ·exact ⟨by omega,by omega⟩
 ·rcases h3 with h3|⟨k1,k2⟩
  ·omega
  ·exact ⟨by omega,by omega⟩
theorem hexv_lt {b:UInt8} {d:Nat} (h:WO b=some d):d<16:=by
 unfold WO at h
 simp only at h
 split at h
 ·cases h; omega
 ·split at h
  ·cases h; omega
  ·split at h
   ·cases h; omega
   ·cases h
theorem u64w {n:Int} (h0:0≤n) (h:n≤18446744073709551615):IntKind.u64.wrap n=n:=by
 simp only[IntKind.wrap,IntKind.bits,IntKind.signed]
 simp
 omega
theorem uint_round {R:Type} {s x22:ah} {i v:Nat} (hi:i<s.length) (hs:s.length≤1000) (hv:v<4096) (dz:Int→Bool→ah→Int→Int→Bool→Int→Nat→Int→Int→(List Int)→Option R) (e0:ah→Bool→Int→Option R) (e1 e2:Int→ah→Bool→Int→Option R) (e3:Int→ah→Bool→Option R) :
  dp internal_strconv_lower dz 16 false x22 1152921504606846976 65535 false (v:Int) s.length (s.length:Int) (i:Int) (jI s) e0 e1 e2 e3 =
   match WO (s[i])with
   | some d=>dz 16 false x22 1152921504606846976 65535 false ((16*v+d:Nat):Int) s.length (s.length:Int) ((i+1:Nat):Int) (jI s)
   | none=>e1 0 x22 false (v:Int):=by
 unfold dp
 have hlow:∀(n:Int) (f:Int→Option R),internal_strconv_lower n f=f (EF n):=fun _ _=>rfl
 have GC:(jI s).getD (i:Int).toNat (Ty.aZ (.int .u8))=(s[i].toNat:Int):=by
  rw[Int.toNat_natCast]
  show (s.map fun b=>(b.toNat:Int)).getD i _=_
  simp[List.getD,hi]
  rfl
 rw[aM (show (i:Int)<(s.length:Int) by omega),cond_true,aw (by rw[aM (show (0:Int)≤(i:Int) by omega)]; rfl),
  aw (aM (by rw[Int.toNat_natCast,KO,Hy]; exact hi))]
 simp only[GC,hlow]
 obtain ⟨f1,f2,f3⟩:=hex_fact s[i].toNat (UInt8.toNat_lt _)
 have hb:=UInt8.toNat_lt s[i]
 generalize hbn:s[i].toNat=b at *
 have hw16:IntKind.u8.wrap 16=16:=by decide
 have hw64:IntKind.u64.wrap 16=16:=by decide
 have hi1:IntKind.i64.wrap ((i:Int)+1)=((i+1:Nat):Int):=by rw[cA (by omega) (by omega)]; omega
 -- a digit's value, if it is below 16
 have fit:∀d:Nat,d<16→∀z:Int,z=(d:Int)→(bif (decide (z≥(IntKind.u8.wrap 16)))then (e1 0 x22 false (v:Int))else (bif (decide ((v:Int)≥1152921504606846976))then (e2 65535 x22 false (v:Int))else (bif (decide ((IntKind.u64.wrap ((IntKind.u64.wrap ((v:Int)*(IntKind.u64.wrap 16)))+(IntKind.u64.wrap z)))<(IntKind.u64.wrap ((v:Int)*(IntKind.u64.wrap 16)))))then (e2 65535 x22 false (IntKind.u64.wrap ((v:Int)*(IntKind.u64.wrap 16))))else (bif (decide ((IntKind.u64.wrap ((IntKind.u64.wrap ((v:Int)*(IntKind.u64.wrap 16)))+(IntKind.u64.wrap z)))>65535))then (e2 65535 x22 false (IntKind.u64.wrap ((v:Int)*(IntKind.u64.wrap 16))))else (dz 16 false x22 1152921504606846976 65535 false (IntKind.u64.wrap ((IntKind.u64.wrap ((v:Int)*(IntKind.u64.wrap 16)))+(IntKind.u64.wrap z))) s.length (s.length:Int) (IntKind.i64.wrap ((i:Int)+1)) (jI s)))))) =
   dz 16 false x22 1152921504606846976 65535 false ((16*v+d:Nat):Int) s.length (s.length:Int) ((i+1:Nat):Int) (jI s):=by
  intro d hd z hz
  subst hz
  have k1:IntKind.u64.wrap ((v:Int)*16)=(v:Int)*16:=u64w (by omega) (by omega)
  have k2:IntKind.u64.wrap (d:Int)=d:=u64w (by omega) (by omega)
  have k3:IntKind.u64.wrap ((v:Int)*16+(d:Int))=(v:Int)*16+(d:Int):=u64w (by omega) (by omega)
  rw[hw16,hw64,k1,k2,k3,hi1,bJ (show ¬(d:Int)≥16 by omega),cond_false,bJ (show ¬(v:Int)≥1152921504606846976 by omega),cond_false,bJ (show ¬(v:Int)*16+(d:Int)<(v:Int)*16 by omega),cond_false,
   bJ (show ¬(v:Int)*16+(d:Int)>65535 by omega),cond_false]
  have:(v:Int)*16+(d:Int)=((16*v+d:Nat):Int):=by omega
  rw[this]
 rw[cond_false,Bool.cond_self]
 unfold WO
 simp only[hbn]
 by_cases h1:48≤b∧b≤57
 ·rw[aM (show (48:Int)≤(b:Int) by omega),cond_true,aM (show (b:Int)≤57 by omega),cond_true,if_pos h1]
  exact fit (b - 48) (by omega) _ (f1 h1)
 ·rw[if_neg h1]
  have h48:∀x z:Option R,(bif (decide ((48:Int)≤(b:Int)))then (bif (decide ((b:Int)≤(57:Int)))then x else z)else z)=z:=by
   intro x z
   by_cases h:(48:Int)≤(b:Int)
   ·rw[aM h,cond_true,bJ (show ¬(b:Int)≤57 by omega),cond_false]
   ·rw[bJ h,cond_false]
  simp only[cond_false]
  rw[h48]
  by_cases h2:(97:Int)≤EF b
  ·rw[aM h2,cond_true]
   by_cases h3:EF b≤122
   ·rw[aM h3,cond_true]
    obtain ⟨_,_,g1,g2,g3⟩:=f2 h2 h3
    rw[g1]
    by_cases h4:EF b - 87<16
    ·rcases g2 h4 with ⟨q1,q2⟩|⟨q1,q2⟩
     ·rw[if_pos q1]
      exact fit (b - 55) (by omega) _ q2
     ·rw[if_neg (by omega),if_pos q1]
      exact fit (b - 87) (by omega) _ q2
    ·obtain ⟨q1,q2⟩:=g3 (by omega)
     rw[hw16,aM (show EF b - 87≥16 by omega),cond_true,if_neg q1,if_neg q2]
   ·rw[bJ h3,cond_false]
    obtain ⟨q1,q2⟩:=f3 (by omega)
    rw[if_neg q1,if_neg q2]
  ·rw[bJ h2,cond_false]
   obtain ⟨q1,q2⟩:=f3 (by omega)
   rw[if_neg q1,if_neg q2]
theorem hexN_step (s:ah) (i v:Nat) (hi:i<s.length):TO (s.drop i) v=match WO s[i]with|some d=>TO (s.drop (i+1)) (16*v+d)|none=>none:=by
 rw[List.drop_eq_getElem_cons hi]
 rfl
theorem uint_loop {R:Type} {s x22:ah} (hs:s.length≤4) (e0:ah→Bool→Int→Option R) (e1 e2:Int→ah→Bool→Int→Option R) (e3:Int→ah→Bool→Option R):∀(n i v:Nat),s.length - i<n→i≤s.length→v<16 ^ i →
  (match TO (s.drop i) v with
   | some u=>aH n 16 false x22 1152921504606846976 65535 false (v:Int) s.length (s.length:Int) (i:Int) (jI s) e0 e1 e2 e3=e0 x22 false (u:Int)
   | none=>∃w,aH n 16 false x22 1152921504606846976 65535 false (v:Int) s.length (s.length:Int) (i:Int) (jI s) e0 e1 e2 e3=e1 0 x22 false w):=by
 intro n
 induction n with
 | zero=>intro i v h; omega
 | succ n ih =>
  intro i v h hi hv
  by_cases kj:i<s.length
  ·have hv2:v<4096:=by
    have:16 ^ i≤16 ^ 3:=Nat.pow_le_pow_right (by omega) (by omega)
    have e:(16:Nat) ^ 3=4096:=rfl
    omega
   have hr:=uint_round (R:=R) (x22:=x22) kj (by omega) hv2 (fun gk gn gw mC wa xT Eg Eh HH HI pF=>aH n gk gn gw mC wa xT Eg Eh HH HI pF e0 e1 e2 e3) e0 e1 e2 e3
   have hL:aH (n+1) 16 false x22 1152921504606846976 65535 false (v:Int) s.length (s.length:Int) (i:Int) (jI s) e0 e1 e2 e3 =
    dp internal_strconv_lower (fun gk gn gw mC wa xT Eg Eh HH HI pF=>aH n gk gn gw mC wa xT Eg Eh HH HI pF e0 e1 e2 e3) 16 false x22 1152921504606846976 65535 false (v:Int) s.length (s.length:Int) (i:Int) (jI s) e0 e1 e2 e3:=rfl
   rw[hL,hr,hexN_step s i v kj]
   cases hx:WO s[i]with
   | none=>exact ⟨_,rfl⟩
   | some d =>
    have hd:=hexv_lt hx
    have:(16:Nat) ^ (i+1)=16 ^ i*16:=Nat.pow_succ ..
    exact ih (i+1) (16*v+d) (by omega) (by omega) (by omega)
  ·have e:s.drop i = []:=List.drop_eq_nil_of_le (by omega)
   rw[e]
   simp only[TO]
   show dp internal_strconv_lower _ 16 false x22 1152921504606846976 65535 false (v:Int) s.length (s.length:Int) (i:Int) (jI s) e0 e1 e2 e3=_
   unfold dp
   rw[bJ (show ¬(i:Int)<(s.length:Int) by omega),cond_false]
theorem parse4 {R:Type} {s:ah} (hs:s.length=4) (k0 k1:Int→Option R):ft s 16 16 k0 k1=match TO s 0 with|some u=>k1 (u:Int)|none=>k0 0:=by
 show rU dc s 16 16 k0 k1=_
 unfold rU
 show jG internal_strconv_lower bE aH s 16 16 _ _ _ _ _=_
 unfold jG
 have h1:(s==([]:ah))=false:=by rw[beq_eq_false_iff_ne]; rintro rfl; simp at hs
 rw[h1,cond_false]
 have c1:decide ((2:Int)≤16)=true:=by decide
 have c2:decide ((16:Int)≤36)=true:=by decide
 have c3:((16:Int)==0)=false:=by decide
 have c4:decide ((16:Int)<0)=false:=by decide
 have c5:decide ((16:Int)>64)=false:=by decide
 have c6:((16:Int)==10)=false:=by decide
 have c7:((16:Int)==16)=true:=by decide
 have c8:decide ((0:Int)≤IntKind.u64.wrap 16)=true:=by decide
 have c9:(IntKind.u64.wrap ((IntKind.u64.wrap (1*2 ^ (min ((IntKind.u64.wrap 16).toNat) IntKind.u64.bits))) - 1))=65535:=by decide +kernel
 dsimp only
 rw[c1,cond_true,c2,cond_true,c3,cond_false,c4,cond_false,c5,cond_false,c6,cond_false,c7,cond_true]
 rw[c8,aw rfl,c9]
 have hb:decide (s.length≤281474976710656)=true:=aM (by omega)
 have key:=fun (n:Nat) (hn:4<n) (e0:ah→Bool→Int→Option R) (e1 e2:Int→ah→Bool→Int→Option R) (e3:Int→ah→Bool→Option R)=>uint_loop (R:=R) (s:=s) (x22:=s) (by omega) e0 e1 e2 e3 n 0 0 (by omega) (by omega) (by omega)
 have z0:(((0:Nat):Int))=0:=rfl
 simp only[List.drop_zero,z0]at key
 cases hx:TO s 0 with
 | some u =>
  simp only[hx]at key
  rw[key _ (by omega)]
  rfl
 | none =>
  simp only[hx]at key
  generalize hF:(Int.natAbs 16+List.length s+Int.natAbs 1152921504606846976+Int.natAbs 65535+Int.natAbs 0+Int.natAbs (s.length:Int)+Int.natAbs 0+List.length (jI s)+64)=F at *
  obtain ⟨w,hw⟩:=key F (by rw[←hF]; omega) _ _ _ _
  rw[hw,aw (by rfl),hb,aw rfl]
end Go.Proofs.YtidfokedcnhahaaGreatDoor
end
