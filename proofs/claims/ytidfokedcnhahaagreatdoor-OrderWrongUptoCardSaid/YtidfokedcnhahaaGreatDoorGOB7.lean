/-
  GO, part 7 of 10.
-/
import Derived.Lib.ValidLaws
import Derived.Lib.MapLaws
import Derived.Lib.TrimUEq
import Derived.Lib.RuneBytes
import Derived.KernelRfl
import Derived.Lib.ItoaMem
import Derived.Test.YtidfokedcnhahaaGreatDoorGOB6
set_option linter.unusedSimpArgs false
set_option linter.unnecessarySimpa false
set_option linter.unusedVariables false
set_option linter.unusedSectionVars false
noncomputable section
set_option maxRecDepth 100000
namespace Go.Proofs.YtidfokedcnhahaaGreatDoor
open Go Go.aA
variable {R:Type}
abbrev A1 (R:Type):Type:=ae→(Json→Int→Int→Option R)→Option R
abbrev N1:List cU := [.leaf (.str)]
abbrev N2:List aU := []
def Tg (fn:A1 R):lC R N1 N2:=fun x y k=>fn x.1 (fun q0 q1 q2=>k (.tuple [.agg [.int .i64 q0.kind, .int .i64 q0.num.aq, .int .i64 q0.num.exp, .str q0.text, .sl .str q0.names .no, .sl .json q0.items .no], .int .i64 q1, .int .i64 q2]) [])
def N3 (fn:A1 R):=aG N1 N2 (Tg fn)
section
variable (au:fS R) (du:aD R) (nR:FX R)
def V6:List (oo R) := [(81,false,(kl au av)),(80,false,(AT du av)),(79,true,(V4 nR av))]
def H5 (x1:ae) (k0:Json→Int→Int→Option R):Option R :=
 nR x1 (fun y2 y3 y4=>bif (y3 != 0)then (k0 (⟨0,⟨0,0⟩,([]:ae),([]:List ae),([]:List Json)⟩:Json) y3 y4)else (du 1 y2 0 (fun y5 y6 y7=>let j12:=fun (T2:List Token) (wk:Int)=>bif (wk != 0)then (bX (decide ((0:Int)<T2.length)) (k0 (⟨0,⟨0,0⟩,([]:ae),([]:List ae),([]:List Json)⟩:Json) wk ((T2.getD 0 (Ty.aR .token)).at_)))else (k0 (⟨y5.kind,⟨y5.num.aq,y5.num.exp⟩,y5.text,y5.names,y5.items⟩:Json) 0 0); bX (decide ((0:Int)<y6.length)) (bif ((y6.getD 0 (Ty.aR .token)).kind != 5)then (au 40 y6 y7 (fun y8 y9=>j12 y8 y9))else (j12 y6 y7)))))
theorem json_Parse_ok:dO (R:=R) tt (V6 au du nR) sS false Tryz.f32 N1 N2 (Tg (H5 au du nR)):=fun x y k=>by kernel_rfl
end
theorem json_Parse_EOk:cE (R:=R) Tryz.prog (V6 (R:=R) au du nR) := .d (ln R) rfl <| .f (H4 R _ (ie _)) rfl <| .c (Zh R) <| .n
def cW:A1 R:=fun x1 k0=>H5 au du nR x1 k0
theorem Pl (R:Type):kM Tryz.prog 32 (N3 (cW (R:=R))):=br TT mixed (json_Parse_EOk (R:=R)) rfl rfl rfl rfl cq (json_Parse_ok au du nR)
abbrev se (R:Type):Type:=Json→ae→(Json→Bool→Option R)→Option R
abbrev N4:List cU := [.agg [.int .i64, .int .i64, .int .i64, .str, .sl .str, .sl .json], .leaf (.str)]
abbrev N5:List aU := []
def Th (fn:se R):lC R N4 N5:=fun x y k=>fn (⟨x.1.1,⟨x.1.2.1,x.1.2.2.1⟩,x.1.2.2.2.1,x.1.2.2.2.2.1,x.1.2.2.2.2.2.1⟩:Json) x.2.1 (fun q0 q1=>k (.tuple [.agg [.int .i64 q0.kind, .int .i64 q0.num.aq, .int .i64 q0.num.exp, .str q0.text, .sl .str q0.names .no, .sl .json q0.items .no], .bool q1]) [])
def Dt (fn:se R):=aG N4 N5 (Th fn)
section
variable (bu:hM R)
def V7:List (oo R) := [(127,true,(ov bu av))]
def N6 (x1:Json) (x2:ae) (k0:Json→Bool→Option R):Option R :=
 bu x1.names x2 (fun y3=>bif (x1.kind != 7)then (k0 (⟨0,⟨0,0⟩,([]:ae),([]:List ae),([]:List Json)⟩:Json) false)else (bif (decide (y3<(0:Int)))then (k0 (⟨0,⟨0,0⟩,([]:ae),([]:List ae),([]:List Json)⟩:Json) false)else (bif (decide (y3≥(x1.items.length:Int)))then (k0 (⟨0,⟨0,0⟩,([]:ae),([]:List ae),([]:List Json)⟩:Json) false)else (bX (decide ((0:Int)≤y3)&&decide (y3<x1.items.length)) (k0 (⟨(x1.items.getD y3.toNat (Ty.aR .json)).kind,⟨(x1.items.getD y3.toNat (Ty.aR .json)).num.aq,(x1.items.getD y3.toNat (Ty.aR .json)).num.exp⟩,(x1.items.getD y3.toNat (Ty.aR .json)).text,(x1.items.getD y3.toNat (Ty.aR .json)).names,(x1.items.getD y3.toNat (Ty.aR .json)).items⟩:Json) true)))))
theorem field_find_ok:dO (R:=R) tt (V7 bu) sS false Tryz.f144 N4 N5 (Th (N6 bu)):=fun x y k=>by kernel_rfl
end
theorem field_find_EOk:cE (R:=R) Tryz.prog (V7 (R:=R) bu) := .c (s8 R) <| .n
def cX:se R:=fun x1 x2 k0=>N6 bu x1 x2 k0
theorem Bi (R:Type):kM Tryz.prog 144 (Dt (cX (R:=R))):=br TT mixed (field_find_EOk (R:=R)) rfl rfl rfl rfl cq (field_find_ok bu)
abbrev Bj (R:Type):Type:=Json→(ae→Bool→Option R)→Option R
abbrev I6:List cU := [.agg [.int .i64, .int .i64, .int .i64, .str, .sl .str, .sl .json]]
abbrev I7:List aU := []
def Pm (fn:Bj R):lC R I6 I7:=fun x y k=>fn (⟨x.1.1,⟨x.1.2.1,x.1.2.2.1⟩,x.1.2.2.2.1,x.1.2.2.2.2.1,x.1.2.2.2.2.2.1⟩:Json) (fun q0 q1=>k (.tuple [.str q0, .bool q1]) [])
def QW (fn:Bj R):=aG I6 I7 (Pm fn)
section
def I8 (x1:Json) (k0:ae→Bool→Option R):Option R :=
 k0 x1.text (x1.kind==5)
theorem Zi:dO (R:=R) tt [] sS false Tryz.f109 I6 I7 (Pm I8):=fun x y k=>by kernel_rfl
end
def mI:Bj R:=fun x1 k0=>I8 x1 k0
theorem V8 (R:Type):kM Tryz.prog 109 (QW (mI (R:=R))):=br TT mixed .n rfl rfl rfl rfl cq (Zi)
abbrev np (R:Type):Type:=Json→ae→(ae→Bool→Option R)→Option R
abbrev vb:List cU := [.agg [.int .i64, .int .i64, .int .i64, .str, .sl .str, .sl .json], .leaf (.str), .leaf (.fn 109)]
abbrev vd:List aU := []
def Cj (fn:np R):lC R vb vd:=fun x y k=>fn (⟨x.1.1,⟨x.1.2.1,x.1.2.2.1⟩,x.1.2.2.2.1,x.1.2.2.2.2.1,x.1.2.2.2.2.2.1⟩:Json) x.2.1 (fun q0 q1=>k (.tuple [.str q0, .bool q1]) [])
def Du (fn:np R):=aG vb vd (Cj fn)
section
variable (mI:Bj R) (cX:se R)
def Dv:List (oo R) := [(109,true,(QW mI av)),(144,true,(Dt cX av))]
def vf (x1:Json) (x2:ae) (k0:ae→Bool→Option R):Option R :=
 cX (⟨x1.kind,⟨x1.num.aq,x1.num.exp⟩,x1.text,x1.names,x1.items⟩:Json) x2 (fun y3 y4=>bif (!y4)then (k0 ([]:ae) false)else (mI (⟨y3.kind,⟨y3.num.aq,y3.num.exp⟩,y3.text,y3.names,y3.items⟩:Json) (fun y5 y6=>bif y6 then (k0 y5 true)else (k0 ([]:ae) false))))
theorem Mp:dO (R:=R) tt (Dv mI cX) sS false Tryz.f108 vb vd (Cj (vf mI cX)):=fun x y k=>by kernel_rfl
end
theorem LB:cE (R:=R) Tryz.prog (Dv (R:=R) mI cX) := .c (V8 R) <| .c (Bi R) <| .n
def fc:np R:=fun x1 x2 k0=>vf mI cX x1 x2 k0
theorem JX (R:Type):kM Tryz.prog 108 (Du (fc (R:=R))):=br TT mixed (LB (R:=R)) rfl rfl rfl rfl cq (Mp mI cX)
abbrev FY (R:Type):Type:=Json→ae→(ae→Bool→Option R)→Option R
abbrev N7:List cU := [.agg [.int .i64, .int .i64, .int .i64, .str, .sl .str, .sl .json], .leaf (.str)]
abbrev N8:List aU := []
def Ti (fn:FY R):lC R N7 N8:=fun x y k=>fn (⟨x.1.1,⟨x.1.2.1,x.1.2.2.1⟩,x.1.2.2.2.1,x.1.2.2.2.2.1,x.1.2.2.2.2.2.1⟩:Json) x.2.1 (fun q0 q1=>k (.tuple [.str q0, .bool q1]) [])
def V9 (fn:FY R):=aG N7 N8 (Ti fn)
section
variable (fc:np R)
def Wa:List (oo R) := [(108,true,(Du fc av))]
def N9 (x1:Json) (x2:ae) (k0:ae→Bool→Option R):Option R :=
 fc (⟨x1.kind,⟨x1.num.aq,x1.num.exp⟩,x1.text,x1.names,x1.items⟩:Json) x2 (fun y3 y4=>k0 y3 y4)
theorem field_Text_ok:dO (R:=R) tt (Wa fc) sS false Tryz.f68 N7 N8 (Ti (N9 fc)):=fun x y k=>by kernel_rfl
end
theorem field_Text_EOk:cE (R:=R) Tryz.prog (Wa (R:=R) fc) := .c (JX R) <| .n
def fT:FY R:=fun x1 x2 k0=>N9 fc x1 x2 k0
theorem Zj (R:Type):kM Tryz.prog 68 (V9 (fT (R:=R))):=br TT mixed (field_Text_EOk (R:=R)) rfl rfl rfl rfl cq (field_Text_ok fc)
abbrev vg (R:Type):Type:=fO→Int→(Int→Bool→Option R)→Option R
abbrev Dw:List cU := [.agg [.int .i64, .int .i64], .leaf (.int .i64)]
abbrev Dx:List aU := []
def I9 (fn:vg R):lC R Dw Dx:=fun x y k=>fn (⟨x.1.1,x.1.2.1⟩:fO) x.2.1 (fun q0 q1=>k (.tuple [.int .i64 q0, .bool q1]) [])
def KC (fn:vg R):=aG Dw Dx (I9 fn)
abbrev vh (R:Type):Type:=Nat→Int→Int→Int→(Int→Option R)→(Int→Bool→Int→Option R)→Option R
def pR:Hint := { live := [6,12,13],own := [],rows := [],cells := [],drop := [],out := [4,5,6] }
abbrev jL:Type:=Int×Int×Int
def tO:jL→St:=fun d=>⟨U 6 (.int .i64 d.1::U 5 (.int .i64 d.2.1 :: .int .i64 d.2.2::U 8 ([]))), []⟩
def vi (K:Ex→St→Option R) (q0:Int):Option R:=K (.exit 0) ⟨U 6 (.int .i64 q0::U 15 ([])), []⟩
def vj (K:Ex→St→Option R) (q0:Int) (q1:Bool) (q2:Int):Option R:=K (.ret) ⟨U 4 (.int .i64 q0 :: .bool q1 :: .int .i64 q2::U 15 ([])), []⟩
abbrev l0:List cU:=PU 6 (.leaf (.int .i64)::PU 5 (.leaf (.int .i64) :: .leaf (.int .i64)::PU 8 ([])))
abbrev l7:List aU := []
def ER (x:cU.bT l0) (y:aU.bT l7):Nat:=(Int.natAbs x.2.2.2.2.2.2.1+Int.natAbs ((t8 x).2.2.2.2.1)+Int.natAbs ((t8 x).2.2.2.2.2.1)+64)
def PK (x:cU.bT l0) (y:aU.bT l7):jL:=(x.2.2.2.2.2.2.1,(t8 x).2.2.2.2.1,(t8 x).2.2.2.2.2.1)
def Dy (L:vh R):xp R l0 l7:=fun x y K=>L (ER x y) x.2.2.2.2.2.2.1 ((t8 x).2.2.2.2.1) ((t8 x).2.2.2.2.2.1) (vi K) (vj K)
section
variable (ay:jJ R) (cp:vh R)
def nq:List (oo R) := [(135,true,(qL ay av))]
def pS (dJ:Int→Int→Int→Option R) (x3:Int) (x4:Int) (x5:Int) (e0:Int→Option R) (e1:Int→Bool→Int→Option R):Option R :=
 bif (decide (x5<x4))then (ay (-100000000000000000) x3 100000000000000000 (fun y6=>bif (!y6)then (e1 0 false x3)else (dJ (IntKind.i64.wrap (x3*10)) x4 (IntKind.i64.wrap (x5+1)))))else (e0 x3)
def ES (K:Ex→St→Option R) (rc:jL→Option R) (d:jL):Option R:=pS ay (fun z0 z1 z2=>rc (z0,z1,z2)) d.1 d.2.1 d.2.2 (vi K) (vj K)
def rB:Nat→Option (Hint×cQ R):=fun i=>match i with
 | 3=>some (pR,(cM l0 l7 (Dy cp) iK))
 | _=>none
theorem LC (K:Ex→St→Option R) (rc:St→Option R) (d:jL):roundOf tt (cT (nq ay)) (rB cp) 0 ((az (aX Tryz.f212)).getD 0 .skip) pR (tO d) rc K=ES ay K (fun d=>rc (tO d)) d:=by kernel_rfl
def Dz (x1:fO) (x2:Int) (k0:Int→Bool→Option R):Option R :=
 cp (Int.natAbs x1.aq+Int.natAbs (IntKind.i64.wrap (x1.exp - x2))+Int.natAbs 0+64) x1.aq (IntKind.i64.wrap (x1.exp - x2)) 0 (fun y7=>k0 y7 true) (fun y8 y9 p9=>k0 y8 y9)
theorem Ub:dO (R:=R) tt (nq ay) (rB cp) false Tryz.f212 Dw Dx (I9 (Dz cp)):=fun x y k=>by kernel_rfl
end
theorem SD:cE (R:=R) Tryz.prog (nq (R:=R) ay) := .c (tf R) <| .n
def cp:vh R
 | 0,_,_,_,_,_=>none
 | n+1,gf,gk,gw,e0,e1=>pS ay (fun gf gk gw=>cp n gf gk gw e0 e1) gf gk gw e0 e1
def ET (K:Ex→St→Option R) (n:Nat) (d:jL):Option R:=cp n d.1 d.2.1 d.2.2 (vi K) (vj K)
theorem Oa (other:cQ R) (ho:hG tt (cT (nq (R:=R) ay)) (rB (R:=R) cp) 0 ((az (aX Tryz.f212)).getD 0 .skip) pR other):hG tt (cT (nq (R:=R) ay)) (rB (R:=R) cp) 0 ((az (aX Tryz.f212)).getD 0 .skip) pR (cM l0 l7 (Dy (cp)) other) :=
 cS (A:=ET) ho (dX tO (ES ay) (ET) (fun _ _=>by kernel_rfl) (LC ay cp) (fun _ _ _=>by kernel_rfl)) ER PK (fun _ _=>by kernel_rfl) (fun _ _ _=>by kernel_rfl)
def jc:vg R:=fun x1 x2 k0=>Dz cp x1 x2 k0
theorem PL (R:Type):∀a∈az (aX Tryz.f212),gN tt (cT (nq (R:=R) ay)) (rB (R:=R) cp) 0 a:=by
 refine fb 1 (by kernel_rfl) fun i hi => ?_
 match i,hi with
 | 0,_=>exact cA (by kernel_rfl) (Oa _ dy)
 | n+1,hi=>omega
theorem QX (R:Type):kM Tryz.prog 212 (KC (jc (R:=R))):=br TT mixed (SD (R:=R)) rfl rfl rfl rfl (PL R) (Ub ay cp)
abbrev DA (R:Type):Type:=fO→(Int→Bool→Option R)→Option R
abbrev LD:List cU := [.agg [.int .i64, .int .i64]]
abbrev LF:List aU := []
def QY (fn:DA R):lC R LD LF:=fun x y k=>fn (⟨x.1.1,x.1.2.1⟩:fO) (fun q0 q1=>k (.tuple [.int .i64 q0, .bool q1]) [])
def Tj (fn:DA R):=aG LD LF (QY fn)
section
variable (bQ:o0 R) (jc:vg R)
def Tk:List (oo R) := [(164,true,(Bg bQ av)),(212,true,(KC jc av))]
def LG (x1:fO) (k0:Int→Bool→Option R):Option R :=
 bQ x1 (fun y2=>bif (!y2)then (k0 0 false)else (bif (decide (x1.exp<(0:Int)))then (k0 0 false)else (jc x1 0 (fun y4 y5=>k0 y4 y5))))
theorem decimal_Int_ok:dO (R:=R) tt (Tk bQ jc) sS false Tryz.f186 LD LF (QY (LG bQ jc)):=fun x y k=>by kernel_rfl
end
theorem Zk:cE (R:=R) Tryz.prog (Tk (R:=R) bQ jc) := .c (BH R) <| .c (QX R) <| .n
def mW:DA R:=fun x1 k0=>LG bQ jc x1 k0
theorem XH (R:Type):kM Tryz.prog 186 (Tj (mW (R:=R))):=br TT mixed (Zk (R:=R)) rfl rfl rfl rfl cq (decimal_Int_ok bQ jc)
abbrev H6 (R:Type):Type:=Json→(Int→Bool→Option R)→Option R
abbrev QZ:List cU := [.agg [.int .i64, .int .i64, .int .i64, .str, .sl .str, .sl .json]]
abbrev Q0:List aU := []
def Wb (fn:H6 R):lC R QZ Q0:=fun x y k=>fn (⟨x.1.1,⟨x.1.2.1,x.1.2.2.1⟩,x.1.2.2.2.1,x.1.2.2.2.2.1,x.1.2.2.2.2.2.1⟩:Json) (fun q0 q1=>k (.tuple [.int .i64 q0, .bool q1]) [])
def YA (fn:H6 R):=aG QZ Q0 (Wb fn)
section
variable (mW:DA R)
def YB:List (oo R) := [(186,true,(Tj mW av))]
def Q1 (x1:Json) (k0:Int→Bool→Option R):Option R :=
 mW x1.num (fun y2 y3=>bif y3 then (k0 y2 (x1.kind==4))else (k0 y2 false))
theorem field_num_ok:dO (R:=R) tt (YB mW) sS false Tryz.f146 QZ Q0 (Wb (Q1 mW)):=fun x y k=>by kernel_rfl
end
theorem field_num_EOk:cE (R:=R) Tryz.prog (YB (R:=R) mW) := .c (XH R) <| .n
def tP:H6 R:=fun x1 k0=>Q1 mW x1 k0
theorem field_num_S_ok (R:Type):kM Tryz.prog 146 (YA (tP (R:=R))):=br TT mixed (field_num_EOk (R:=R)) rfl rfl rfl rfl cq (field_num_ok mW)
abbrev rC (R:Type):Type:=Json→ae→(Int→Bool→Option R)→Option R
abbrev zZ:List cU := [.agg [.int .i64, .int .i64, .int .i64, .str, .sl .str, .sl .json], .leaf (.str), .leaf (.fn 146)]
abbrev Aa:List aU := []
def Gm (fn:rC R):lC R zZ Aa:=fun x y k=>fn (⟨x.1.1,⟨x.1.2.1,x.1.2.2.1⟩,x.1.2.2.2.1,x.1.2.2.2.2.1,x.1.2.2.2.2.2.1⟩:Json) x.2.1 (fun q0 q1=>k (.tuple [.int .i64 q0, .bool q1]) [])
def Hy (fn:rC R):=aG zZ Aa (Gm fn)
section
variable (cX:se R) (tP:H6 R)
def Hz:List (oo R) := [(144,true,(Dt cX av)),(146,true,(YA tP av))]
def Ab (x1:Json) (x2:ae) (k0:Int→Bool→Option R):Option R :=
 cX (⟨x1.kind,⟨x1.num.aq,x1.num.exp⟩,x1.text,x1.names,x1.items⟩:Json) x2 (fun y3 y4=>bif (!y4)then (k0 0 false)else (tP (⟨y3.kind,⟨y3.num.aq,y3.num.exp⟩,y3.text,y3.names,y3.items⟩:Json) (fun y5 y6=>bif y6 then (k0 y5 true)else (k0 0 false))))
theorem Q2:dO (R:=R) tt (Hz cX tP) sS false Tryz.f145 zZ Aa (Gm (Ab cX tP)):=fun x y k=>by kernel_rfl
end
theorem PM:cE (R:=R) Tryz.prog (Hz (R:=R) cX tP) := .c (Bi R) <| .c (field_num_S_ok R) <| .n
def gL:rC R:=fun x1 x2 k0=>Ab cX tP x1 x2 k0
theorem Ob (R:Type):kM Tryz.prog 145 (Hy (gL (R:=R))):=br TT mixed (PM (R:=R)) rfl rfl rfl rfl cq (Q2 cX tP)
abbrev H7 (R:Type):Type:=Json→ae→(Int→Bool→Option R)→Option R
abbrev Q3:List cU := [.agg [.int .i64, .int .i64, .int .i64, .str, .sl .str, .sl .json], .leaf (.str)]
abbrev Q4:List aU := []
def Wc (fn:H7 R):lC R Q3 Q4:=fun x y k=>fn (⟨x.1.1,⟨x.1.2.1,x.1.2.2.1⟩,x.1.2.2.2.1,x.1.2.2.2.2.1,x.1.2.2.2.2.2.1⟩:Json) x.2.1 (fun q0 q1=>k (.tuple [.int .i64 q0, .bool q1]) [])
def YC (fn:H7 R):=aG Q3 Q4 (Wc fn)
section
variable (gL:rC R)
def YD:List (oo R) := [(145,true,(Hy gL av))]
def Q5 (x1:Json) (x2:ae) (k0:Int→Bool→Option R):Option R :=
 gL (⟨x1.kind,⟨x1.num.aq,x1.num.exp⟩,x1.text,x1.names,x1.items⟩:Json) x2 (fun y3 y4=>k0 y3 y4)
theorem field_Num_ok:dO (R:=R) tt (YD gL) sS false Tryz.f110 Q3 Q4 (Wc (Q5 gL)):=fun x y k=>by kernel_rfl
end
theorem field_Num_EOk:cE (R:=R) Tryz.prog (YD (R:=R) gL) := .c (Ob R) <| .n
def tQ:H7 R:=fun x1 x2 k0=>Q5 gL x1 x2 k0
theorem field_Num_S_ok (R:Type):kM Tryz.prog 110 (YC (tQ (R:=R))):=br TT mixed (field_Num_EOk (R:=R)) rfl rfl rfl rfl cq (field_Num_ok gL)
abbrev nr (R:Type):Type:=Json→ae→Bool→(Int→Bool→Option R)→Option R
abbrev vk:List cU := [.leaf (.ptr 0 0), .agg [.int .i64, .int .i64, .int .i64, .str, .sl .str, .sl .json], .leaf (.str)]
abbrev vl:List aU := [.cells [.bool]]
def Ck (fn:nr R):lC R vk vl:=fun x y k=>fn (⟨x.2.1.1,⟨x.2.1.2.1,x.2.1.2.2.1⟩,x.2.1.2.2.2.1,x.2.1.2.2.2.2.1,x.2.1.2.2.2.2.2.1⟩:Json) x.2.2.1 y.1.1 (fun q0 q1=>k (.int .i64 q0) [.cells [.bool q1]])
def DB (fn:nr R):=aG vk vl (Ck fn)
section
variable (tQ:H7 R)
def DC:List (oo R) := [(110,true,(YC tQ av))]
def vm (x1:Json) (x2:ae) (x3:Bool) (k0:Int→Bool→Option R):Option R :=
 tQ (⟨x1.kind,⟨x1.num.aq,x1.num.exp⟩,x1.text,x1.names,x1.items⟩:Json) x2 (fun y4 y5=>bif x3 then (k0 y4 true)else (k0 y4 (!y5)))
theorem Mq:dO (R:=R) tt (DC tQ) sS false Tryz.f69 vk vl (Ck (vm tQ)):=fun x y k=>by kernel_rfl
end
theorem LH:cE (R:=R) Tryz.prog (DC (R:=R) tQ) := .c (field_Num_S_ok R) <| .n
def aO:nr R:=fun x1 x2 x3 k0=>vm tQ x1 x2 x3 k0
theorem JY (R:Type):kM Tryz.prog 69 (DB (aO (R:=R))):=br TT mixed (LH (R:=R)) rfl rfl rfl rfl cq (Mq tQ)
abbrev Bk (R:Type):Type:=Json→((List Json)→Bool→Option R)→Option R
abbrev Ja:List cU := [.agg [.int .i64, .int .i64, .int .i64, .str, .sl .str, .sl .json]]
abbrev Jb:List aU := []
def Pn (fn:Bk R):lC R Ja Jb:=fun x y k=>fn (⟨x.1.1,⟨x.1.2.1,x.1.2.2.1⟩,x.1.2.2.2.1,x.1.2.2.2.2.1,x.1.2.2.2.2.2.1⟩:Json) (fun q0 q1=>k (.tuple [.sl .json q0 .no, .bool q1]) [])
def Q6 (fn:Bk R):=aG Ja Jb (Pn fn)
section
variable (cG:dY R)
def Q7:List (oo R) := [(86,true,(FQ cG av))]
def Jc (x1:Json) (k0:(List Json)→Bool→Option R):Option R :=
 cG (⟨x1.kind,⟨x1.num.aq,x1.num.exp⟩,x1.text,x1.names,x1.items⟩:Json) (fun y2=>k0 y2.items (x1.kind==6))
theorem Zl:dO (R:=R) tt (Q7 cG) sS false Tryz.f148 Ja Jb (Pn (Jc cG)):=fun x y k=>by kernel_rfl
end
theorem XI:cE (R:=R) Tryz.prog (Q7 (R:=R) cG) := .p (Fh R _ (ie _)) <| .n
def mJ:Bk R:=fun x1 k0=>Jc cG x1 k0
theorem Wd (R:Type):kM Tryz.prog 148 (Q6 (mJ (R:=R))):=br TT mixed (XI (R:=R)) rfl rfl rfl rfl cq (Zl cG)
abbrev pT (R:Type):Type:=Json→ae→((List Json)→Bool→Option R)→Option R
abbrev ya:List cU := [.agg [.int .i64, .int .i64, .int .i64, .str, .sl .str, .sl .json], .leaf (.str), .leaf (.fn 148)]
abbrev yb:List aU := []
def EU (fn:pT R):lC R ya yb:=fun x y k=>fn (⟨x.1.1,⟨x.1.2.1,x.1.2.2.1⟩,x.1.2.2.2.1,x.1.2.2.2.2.1,x.1.2.2.2.2.2.1⟩:Json) x.2.1 (fun q0 q1=>k (.tuple [.sl .json q0 .no, .bool q1]) [])
def Gn (fn:pT R):=aG ya yb (EU fn)
section
variable (mJ:Bk R) (cX:se R)
def Gp:List (oo R) := [(148,true,(Q6 mJ av)),(144,true,(Dt cX av))]
def yc (x1:Json) (x2:ae) (k0:(List Json)→Bool→Option R):Option R :=
 cX (⟨x1.kind,⟨x1.num.aq,x1.num.exp⟩,x1.text,x1.names,x1.items⟩:Json) x2 (fun y3 y4=>bif (!y4)then (k0 ([]:List Json) false)else (mJ (⟨y3.kind,⟨y3.num.aq,y3.num.exp⟩,y3.text,y3.names,y3.items⟩:Json) (fun y5 y6=>bif y6 then (k0 y5 true)else (k0 ([]:List Json) false))))
theorem PN:dO (R:=R) tt (Gp mJ cX) sS false Tryz.f147 ya yb (EU (yc mJ cX)):=fun x y k=>by kernel_rfl
end
theorem Oc:cE (R:=R) Tryz.prog (Gp (R:=R) mJ cX) := .c (Wd R) <| .c (Bi R) <| .n
def fU:pT R:=fun x1 x2 k0=>yc mJ cX x1 x2 k0
theorem Mr (R:Type):kM Tryz.prog 147 (Gn (fU (R:=R))):=br TT mixed (Oc (R:=R)) rfl rfl rfl rfl cq (PN mJ cX)
abbrev FZ (R:Type):Type:=Json→ae→((List Json)→Bool→Option R)→Option R
abbrev Od:List cU := [.agg [.int .i64, .int .i64, .int .i64, .str, .sl .str, .sl .json], .leaf (.str)]
abbrev Oe:List aU := []
def Tl (fn:FZ R):lC R Od Oe:=fun x y k=>fn (⟨x.1.1,⟨x.1.2.1,x.1.2.2.1⟩,x.1.2.2.2.1,x.1.2.2.2.2.1,x.1.2.2.2.2.2.1⟩:Json) x.2.1 (fun q0 q1=>k (.tuple [.sl .json q0 .no, .bool q1]) [])
def We (fn:FZ R):=aG Od Oe (Tl fn)
section
variable (fU:pT R)
def Wf:List (oo R) := [(147,true,(Gn fU av))]
def Of (x1:Json) (x2:ae) (k0:(List Json)→Bool→Option R):Option R :=
 fU (⟨x1.kind,⟨x1.num.aq,x1.num.exp⟩,x1.text,x1.names,x1.items⟩:Json) x2 (fun y3 y4=>k0 y3 y4)
theorem field_List_ok:dO (R:=R) tt (Wf fU) sS false Tryz.f111 Od Oe (Tl (Of fU)):=fun x y k=>by kernel_rfl
end
theorem field_List_EOk:cE (R:=R) Tryz.prog (Wf (R:=R) fU) := .c (Mr R) <| .n
def pD:FZ R:=fun x1 x2 k0=>Of fU x1 x2 k0
theorem Zm (R:Type):kM Tryz.prog 111 (We (pD (R:=R))):=br TT mixed (field_List_EOk (R:=R)) rfl rfl rfl rfl cq (field_List_ok fU)
abbrev mK (R:Type):Type:=Json→ae→Bool→((List Json)→Bool→Option R)→Option R
abbrev tR:List cU := [.leaf (.ptr 0 0), .agg [.int .i64, .int .i64, .int .i64, .str, .sl .str, .sl .json], .leaf (.str)]
abbrev tS:List aU := [.cells [.bool]]
def A2 (fn:mK R):lC R tR tS:=fun x y k=>fn (⟨x.2.1.1,⟨x.2.1.2.1,x.2.1.2.2.1⟩,x.2.1.2.2.2.1,x.2.1.2.2.2.2.1,x.2.1.2.2.2.2.2.1⟩:Json) x.2.2.1 y.1.1 (fun q0 q1=>k (.sl .json q0 .no) [.cells [.bool q1]])
def Cl (fn:mK R):=aG tR tS (A2 fn)
section
variable (pD:FZ R)
def Cm:List (oo R) := [(111,true,(We pD av))]
def tT (x1:Json) (x2:ae) (x3:Bool) (k0:(List Json)→Bool→Option R):Option R :=
 pD (⟨x1.kind,⟨x1.num.aq,x1.num.exp⟩,x1.text,x1.names,x1.items⟩:Json) x2 (fun y4 y5=>bif x3 then (k0 y4 true)else (k0 y4 (!y5)))
theorem LI:dO (R:=R) tt (Cm pD) sS false Tryz.f70 tR tS (A2 (tT pD)):=fun x y k=>by kernel_rfl
end
theorem JZ:cE (R:=R) Tryz.prog (Cm (R:=R) pD) := .c (Zm R) <| .n
def bL:mK R:=fun x1 x2 x3 k0=>tT pD x1 x2 x3 k0
theorem Jd (R:Type):kM Tryz.prog 70 (Cl (bL (R:=R))):=br TT mixed (JZ (R:=R)) rfl rfl rfl rfl cq (LI pD)
abbrev F0 (R:Type):Type:=Json→(Bool→Bool→Option R)→Option R
abbrev Og:List cU := [.agg [.int .i64, .int .i64, .int .i64, .str, .sl .str, .sl .json]]
abbrev Oh:List aU := []
def Tm (fn:F0 R):lC R Og Oh:=fun x y k=>fn (⟨x.1.1,⟨x.1.2.1,x.1.2.2.1⟩,x.1.2.2.2.1,x.1.2.2.2.2.1,x.1.2.2.2.2.2.1⟩:Json) (fun q0 q1=>k (.tuple [.bool q0, .bool q1]) [])
def Wg (fn:F0 R):=aG Og Oh (Tm fn)
section
def Oi (x1:Json) (k0:Bool→Bool→Option R):Option R :=
 bif (x1.kind==3)then (k0 (x1.kind==3) true)else (k0 (x1.kind==3) (x1.kind==2))
theorem field_flag_ok:dO (R:=R) tt [] sS false Tryz.f150 Og Oh (Tm Oi):=fun x y k=>by kernel_rfl
end
def pE:F0 R:=fun x1 k0=>Oi x1 k0
theorem Zn (R:Type):kM Tryz.prog 150 (Wg (pE (R:=R))):=br TT mixed .n rfl rfl rfl rfl cq (field_flag_ok)
abbrev pU (R:Type):Type:=Json→ae→(Bool→Bool→Option R)→Option R
abbrev yd:List cU := [.agg [.int .i64, .int .i64, .int .i64, .str, .sl .str, .sl .json], .leaf (.str), .leaf (.fn 150)]
abbrev ye:List aU := []
def EV (fn:pU R):lC R yd ye:=fun x y k=>fn (⟨x.1.1,⟨x.1.2.1,x.1.2.2.1⟩,x.1.2.2.2.1,x.1.2.2.2.2.1,x.1.2.2.2.2.2.1⟩:Json) x.2.1 (fun q0 q1=>k (.tuple [.bool q0, .bool q1]) [])
def Gq (fn:pU R):=aG yd ye (EV fn)
section
variable (cX:se R) (pE:F0 R)
def Gr:List (oo R) := [(144,true,(Dt cX av)),(150,true,(Wg pE av))]
def yf (x1:Json) (x2:ae) (k0:Bool→Bool→Option R):Option R :=
 cX (⟨x1.kind,⟨x1.num.aq,x1.num.exp⟩,x1.text,x1.names,x1.items⟩:Json) x2 (fun y3 y4=>bif (!y4)then (k0 false false)else (pE (⟨y3.kind,⟨y3.num.aq,y3.num.exp⟩,y3.text,y3.names,y3.items⟩:Json) (fun y5 y6=>bif y6 then (k0 y5 true)else (k0 false false))))
theorem PO:dO (R:=R) tt (Gr cX pE) sS false Tryz.f149 yd ye (EV (yf cX pE)):=fun x y k=>by kernel_rfl
end
theorem Oj:cE (R:=R) Tryz.prog (Gr (R:=R) cX pE) := .c (Bi R) <| .c (Zn R) <| .n
def fV:pU R:=fun x1 x2 k0=>yf cX pE x1 x2 k0
theorem Ms (R:Type):kM Tryz.prog 149 (Gq (fV (R:=R))):=br TT mixed (Oj (R:=R)) rfl rfl rfl rfl cq (PO cX pE)
abbrev F1 (R:Type):Type:=Json→ae→(Bool→Bool→Option R)→Option R
abbrev Ol:List cU := [.agg [.int .i64, .int .i64, .int .i64, .str, .sl .str, .sl .json], .leaf (.str)]
abbrev Om:List aU := []
def Tn (fn:F1 R):lC R Ol Om:=fun x y k=>fn (⟨x.1.1,⟨x.1.2.1,x.1.2.2.1⟩,x.1.2.2.2.1,x.1.2.2.2.2.1,x.1.2.2.2.2.2.1⟩:Json) x.2.1 (fun q0 q1=>k (.tuple [.bool q0, .bool q1]) [])
def Wh (fn:F1 R):=aG Ol Om (Tn fn)
section
variable (fV:pU R)
def Wi:List (oo R) := [(149,true,(Gq fV av))]
def On (x1:Json) (x2:ae) (k0:Bool→Bool→Option R):Option R :=
 fV (⟨x1.kind,⟨x1.num.aq,x1.num.exp⟩,x1.text,x1.names,x1.items⟩:Json) x2 (fun y3 y4=>k0 y3 y4)
theorem field_Flag_ok:dO (R:=R) tt (Wi fV) sS false Tryz.f112 Ol Om (Tn (On fV)):=fun x y k=>by kernel_rfl
end
theorem field_Flag_EOk:cE (R:=R) Tryz.prog (Wi (R:=R) fV) := .c (Ms R) <| .n
def pF:F1 R:=fun x1 x2 k0=>On fV x1 x2 k0
theorem Zo (R:Type):kM Tryz.prog 112 (Wh (pF (R:=R))):=br TT mixed (field_Flag_EOk (R:=R)) rfl rfl rfl rfl cq (field_Flag_ok fV)
end Go.Proofs.YtidfokedcnhahaaGreatDoor
namespace Go.Proofs.YtidfokedcnhahaaGreatDoor.Pu
open Go Go.aA
def Hc (x:Json):Prop:=∀c∈Ty.cells .json x,Small 1099511627776 c
theorem Hc.text {x:Json} (h:Hc x):x.text.length≤1099511627776:=(h (.str x.text) (by simp[Ty.cells])).gS
theorem Hc.names {x:Json} (h:Hc x):x.names.length≤1099511627776:=(h (.sl .str x.names .no) (by simp[Ty.cells])).GN.1
theorem Hc.items {x:Json} (h:Hc x):x.items.length≤1099511627776:=(h (.sl .json x.items .no) (by simp[Ty.cells])).GN.1
theorem Hc.item {x:Json} (h:Hc x) {y:Json} (hy:y∈x.items):Hc y:=(h (.sl .json x.items .no) (by simp[Ty.cells])).GN.2 y hy
theorem anyT_same {R:Type} {a b:Option R} (h:a=b):anyT a b=b:=by subst h; unfold anyT; rw[if_pos rfl]
theorem clone_str {R:Type} (l:List ae) (hl:l.length≤1099511627776) (k:List ae→Option R):bp l k=k l:=by
 unfold bp oz;have h:decide ((0+l.length)*16≤140737488355328)=true:=by simp; omega
 rw[ao h];cases l with
 | nil=>exact anyT_same rfl
 | cons a l=>rfl
theorem clone_json {R:Type} (l:List Json) (hl:l.length≤1099511627776) (k0:Option R) (k1:Nat→List Json→Option R) (h0:l = []→k0=k1 0 []):bk l k0 k1=k1 l.length l:=by
 unfold bk nJ;have h:decide ((0+l.length)*88≤140737488355328)=true:=by simp; omega
 rw[ao h,Nat.zero_add];cases l with
 | nil=>exact anyT_same (h0 rfl)
 | cons a l=>rfl
theorem depthL_mem {l:List Json} {y:Json} (h:y∈l):y.depth≤Json.IF l:=by
 induction l with
 | nil=>cases h
 | cons a l ih =>
  simp only[Json.IF];rcases List.mem_cons.1 h with rfl|h
  ·exact Nat.le_max_left _ _
  ·exact Nat.le_trans (ih h) (Nat.le_max_right _ _)
theorem depth_eq (x:Json):x.depth=Json.IF x.items+1:=by cases x; simp[Json.depth]
theorem depth_item {x y:Json} (h:y∈x.items):y.depth<x.depth:=by rw[depth_eq x]; exact Nat.lt_succ_of_le (depthL_mem h)
theorem set_same {α:Type} {l:List α} {i:Nat} (h:i<l.length):l.set i l[i]=l:=List.set_getElem_self h
theorem fresh_loop {R:Type} (f:dY R) (l:List Json) (hl:l.length≤1099511627776) (hf:∀y∈l,∀k,f y k=k y) (a b c:Int) (t:ae) (ns:List ae) (p q r:Int) (u:ae)
  (e0:Int→Int→Int→ae→List ae→Nat→Int→Int→Int→ae→List Json→Option R):∀(n i:Nat),i≤l.length→l.length - i<n →
  cw f n l.length (l.length:Int) (i:Int) a b c t ns l.length p q r u l e0=e0 a b c t ns l.length p q r u l:=by
 intro n
 induction n with
 | zero=>intro i _ h; omega
 | succ n ih =>
  intro i hi hn;show wV f (fun x1 x2 x3 x4 x5 x6 x7 x8 x9 Xp PE Et JJ Kn=>cw f n x1 x2 x3 x4 x5 x6 x7 x8 x9 Xp PE Et JJ Kn e0) _ _ _ _ _ _ _ _ _ _ _ _ _ _ e0=_;unfold wV;by_cases h:i<l.length
  ·have h1:decide ((i:Int)<(l.length:Int))=true:=by simp; omega
   have h2:(decide ((0:Int)≤(i:Int))&&true)=true:=by simp
   have h3:decide ((i:Int).toNat<l.length)=true:=by simp; omega
   have hw:IntKind.i64.wrap ((i:Int)+1)=((i+1:Nat):Int):=by rw[cv (by omega) (by omega)]; omega
   have hg:l.getD (i:Int).toNat (Ty.aR .json)=l[i]:=getD_at h _;rw[h1,cond_true,ao h2,ao h3,hg,Json.eta,hf _ (List.getElem_mem h),ao h2,ao h3,hw,Json.eta];have hs:l.set (i:Int).toNat l[i]=l:=set_same h;rw[hs];exact ih (i+1) (by omega) (by omega)
  ·have h1:decide ((i:Int)<(l.length:Int))=false:=by simp; omega
   rw[h1,cond_false]
theorem fresh_N {R:Type}:∀(n:Nat) (x:Json),Hc x→x.depth<n→∀k:Json→Option R,jb n x k=k x:=by
 intro n
 induction n with
 | zero=>intro x _ h; omega
 | succ n ih =>
  intro x hx hd k;show Aw (jb n) x k=_;unfold Aw Lb;rw[clone_str _ hx.names,clone_json _ hx.items]
  ·have:=fresh_loop (jb (R:=R) n) x.items hx.items (fun y hy k=>ih y (hx.item hy) (by have:=depth_item hy; omega) k) x.kind x.num.aq x.num.exp x.text x.names 0 0 0 []
    (fun ZZ y41 y42 Z0 y44 y45 y46 y47 y48 y49 y50=>k (⟨ZZ,⟨y41,y42⟩,Z0,y44,y50⟩:Json))
   refine (this _ 0 (by omega) (by omega)).trans ?_;rw[Json.eta]
  ·intro h0;have:x=⟨x.kind,⟨x.num.aq,x.num.exp⟩,x.text,x.names, []⟩:=by rw[←h0,Json.eta]
   rfl
theorem fresh_eq {R:Type} (x:Json) (hx:Hc x) (k:Json→Option R):cG x k=k x:=fresh_N _ x hx (by omega) k
theorem Uc {R:Type} (l:List ae) (hl:l.length≤1099511627776) (s:ae) (e0:Int→Option R) (e1:Option R):∀(n i:Nat),i≤l.length→l.length - i<n →
  aV n l s (l.length:Int) (i:Int) e1 e0=match (l.drop i).findIdx? (s == ·)with|some j=>e0 ((i+j:Nat):Int)|none=>e1:=by
 intro n
 induction n with
 | zero=>intro i _ h; omega
 | succ n ih =>
  intro i hi hn;show eY (fun a b c d=>aV n a b c d e1 e0) _ _ _ _ e1 e0=_;unfold eY;by_cases h:i<l.length
  ·have h1:decide ((i:Int)<(l.length:Int))=true:=by simp; omega
   have h2:(decide ((0:Int)≤(i:Int))&&true)=true:=by simp
   have hw:IntKind.i64.wrap ((i:Int)+1)=((i+1:Nat):Int):=by rw[cv (by omega) (by omega)]; omega
   have hg:l.getD (i:Int).toNat (Ty.aR .str)=l[i]:=getD_at h _;have e1':=ih (i+1) (by omega) (by omega);rw[h1,cond_true,ao h2,hg,hw,List.drop_eq_getElem_cons h,List.findIdx?_cons];simp only[e1'];cases hq:(s==l[i])with
   | true=>simp
   | false =>
    simp only[cond_false,Bool.false_eq_true,if_false];cases (l.drop (i+1)).findIdx? (s == ·)with
    | none=>rfl
    | some j =>
     show e0 ((i+1+j:Nat):Int)=e0 ((i+(j+1):Nat):Int);rw[show i+1+j=i+(j+1) by omega]
  ·have h1:decide ((i:Int)<(l.length:Int))=false:=by simp; omega
   rw[h1,cond_false,List.drop_eq_nil_of_le (by omega)];rfl
theorem index_eq {R:Type} (l:List ae) (hl:l.length≤1099511627776) (s:ae) (k:Int→Option R):bu l s k=k (match l.findIdx? (s == ·)with|some j=>(j:Int)|none => -1):=by
 unfold bu ow;refine (Uc l hl s _ _ _ 0 (by omega) (by omega)).trans ?_;simp only[List.drop_zero,Nat.zero_add];cases l.findIdx? (s == ·) <;> rfl
theorem contains_eq {R:Type} (l:List ae) (hl:l.length≤1099511627776) (s:ae) (k:Bool→Option R):aC l s k=k (l.contains s):=by
 unfold aC mf;rw[index_eq l hl];congr 1;cases hq:l.findIdx? (s == ·)with
 | none =>
  have:l.contains s=false:=by
   rw[List.findIdx?_eq_none_iff]at hq;rw[List.contains_eq_any_beq];simpa [List.any_eq_false]using hq
  rw[this]; rfl
 | some j =>
  have:l.contains s=true:=by
   obtain ⟨hj,hp,_⟩:=List.findIdx?_eq_some_iff_getElem.1 hq;rw[List.contains_eq_any_beq,List.any_eq_true];exact ⟨l[j],List.getElem_mem hj,hp⟩
  rw[this];simp
def look (s:ae):List ae→List Json→Option Json
 | n::ns,x::xs=>if s==n then some x else look s ns xs
 | _,_=>none
theorem Ud (s:ae):∀(ns:List ae) (xs:List Json),look s ns xs=(ns.findIdx? (s == ·)).bind fun j=>xs[j]?
 | [],xs=>by simp[look]
 | n::ns, []=>by
  simp only[look];cases (n::ns).findIdx? (s == ·) <;> simp
 | n::ns,x::xs=>by
  simp only[look,List.findIdx?_cons];cases hq:(s==n)with
  | true=>simp
  | false =>
   simp only[Bool.false_eq_true,if_false,Ud s ns xs];cases ns.findIdx? (s == ·) <;> simp
def zeroJ:Json:=⟨0,⟨0,0⟩, [], [], []⟩
theorem find_eq {R:Type} (v:Json) (hv:Hc v) (s:ae) (k:Json→Bool→Option R) :
  cX v s k=match (if v.kind=7 then look s v.names v.items else none)with|some x=>k x true|none=>k zeroJ false:=by
 unfold cX N6;rw[index_eq _ hv.names];by_cases h7:v.kind=7
 ·have c1:(v.kind != 7)=false:=by simp[h7]
  rw[c1,cond_false,if_pos h7,Ud];cases hq:v.names.findIdx? (s == ·)with
  | none=>rfl
  | some j =>
   have hj:decide ((j:Int)<0)=false:=by simp
   simp only[Option.bind_some];by_cases hi:j<v.items.length
   ·have h1:decide ((j:Int)<(0:Int))=false:=by simp
    have h2:decide ((j:Int)≥(v.items.length:Int))=false:=by simp; omega
    have h3:(decide ((0:Int)≤(j:Int))&&decide ((j:Int)<v.items.length))=true:=by simp; omega
    have hg:v.items.getD (j:Int).toNat (Ty.aR .json)=v.items[j]:=getD_at hi _;simp only[h1,h2,cond_false,hg,Json.eta];rw[ao h3];simp[hi]
   ·have h1:decide ((j:Int)<(0:Int))=false:=by simp
    have h2:decide ((j:Int)≥(v.items.length:Int))=true:=by simp; omega
    simp only[h1,h2,cond_false,cond_true];simp[show v.items.length≤j by omega];rfl
 ·have c1:(v.kind != 7)=true:=by simp[h7]
  rw[c1,cond_true,if_neg h7];rfl
end Go.Proofs.YtidfokedcnhahaaGreatDoor.Pu
set_option maxRecDepth 100000
namespace Go.aA
open Go.Lib
def vr (c:Nat):Prop:=c<55296∨(57344≤c∧c≤1114111)
instance (c:Nat):Decidable (vr c):=inferInstanceAs (Decidable (_∨_))
def enc (c:Nat):ae:=encodeRune (c:Int)
theorem enc1 {c:Nat} (h:c<128):enc c = [UInt8.ofNat c]:=by
 unfold enc encodeRune encodeRuneZ;rw[if_pos (by omega)];rfl
theorem enc2 {c:Nat} (h0:128≤c) (h:c<2048):enc c = [UInt8.ofNat (192+c / 64),UInt8.ofNat (128+c % 64)]:=by
 unfold enc encodeRune encodeRuneZ;rw[if_neg (by omega),if_pos (by omega)];have e1:(192+(c:Int) / 64).toNat=192+c / 64:=by omega
 have e2:(128+(c:Int) % 64).toNat=128+c % 64:=by omega
 simp only[List.map_cons,List.map_nil,e1,e2]
theorem enc3 {c:Nat} (h0:2048≤c) (h:c<65536) (hv:vr c):enc c = [UInt8.ofNat (224+c / 4096),UInt8.ofNat (128+c / 64 % 64),UInt8.ofNat (128+c % 64)]:=by
 unfold vr at hv;unfold enc encodeRune encodeRuneZ;rw[if_neg (by omega),if_neg (by omega),if_pos (by omega)];have e1:(224+(c:Int) / 4096).toNat=224+c / 4096:=by omega
 have e2:(128+(c:Int) / 64 % 64).toNat=128+c / 64 % 64:=by omega
 have e3:(128+(c:Int) % 64).toNat=128+c % 64:=by omega
 simp only[List.map_cons,List.map_nil,e1,e2,e3]
theorem enc4 {c:Nat} (h0:65536≤c) (h:c<1114112):enc c = [UInt8.ofNat (240+c / 262144),UInt8.ofNat (128+c / 4096 % 64),UInt8.ofNat (128+c / 64 % 64),UInt8.ofNat (128+c % 64)]:=by
 unfold enc encodeRune encodeRuneZ;rw[if_neg (by omega),if_neg (by omega),if_neg (by omega),if_pos (by omega)];have e1:(240+(c:Int) / 262144).toNat=240+c / 262144:=by omega
 have e2:(128+(c:Int) / 4096 % 64).toNat=128+c / 4096 % 64:=by omega
 have e3:(128+(c:Int) / 64 % 64).toNat=128+c / 64 % 64:=by omega
 have e4:(128+(c:Int) % 64).toNat=128+c % 64:=by omega
 simp only[List.map_cons,List.map_nil,e1,e2,e3,e4]
theorem hU (n:Nat) (h:n<256):(UInt8.ofNat n).toNat=n:=by
 simp only[UInt8.toNat_ofNat'];omega
theorem vr_lt {c:Nat} (h:vr c):c<1114112:=by unfold vr at h; omega
theorem Mt {c:Nat} (hv:vr c):(c<128∧enc c = [UInt8.ofNat c])∨(128≤c∧c<2048∧enc c = [UInt8.ofNat (192+c / 64),UInt8.ofNat (128+c % 64)]) ∨
  (2048≤c∧c<65536∧enc c = [UInt8.ofNat (224+c / 4096),UInt8.ofNat (128+c / 64 % 64),UInt8.ofNat (128+c % 64)]) ∨
  (65536≤c∧enc c = [UInt8.ofNat (240+c / 262144),UInt8.ofNat (128+c / 4096 % 64),UInt8.ofNat (128+c / 64 % 64),UInt8.ofNat (128+c % 64)]):=by
 have:=vr_lt hv;by_cases h1:c<128
 ·exact .inl ⟨h1,enc1 h1⟩
 by_cases h2:c<2048
 ·exact .inr (.inl ⟨by omega,h2,enc2 (by omega) h2⟩)
 by_cases h3:c<65536
 ·exact .inr (.inr (.inl ⟨by omega,h3,enc3 (by omega) h3 hv⟩))
 ·exact .inr (.inr (.inr ⟨by omega,enc4 (by omega) this⟩))
theorem KD {c:Nat} (hv:vr c):1≤(enc c).length∧(enc c).length≤4:=by
 rcases Mt hv with ⟨_,e⟩|⟨_,_,e⟩|⟨_,_,e⟩|⟨_,e⟩ <;> rw[e] <;> simp
theorem Wj {c:Nat} (hv:vr c) (t:ae):decodeL (enc c++t)=(c,(enc c).length):=by
 have jz:=vr_lt hv;unfold vr at hv;rw[decodeL_N];rcases Mt hv with ⟨h1,e⟩|⟨h0,h1,e⟩|⟨h0,h1,e⟩|⟨h0,e⟩ <;> rw[e]
 ·simp only[List.cons_append,List.getD_cons_zero,hU c (by omega)];exact decodeN_ascii _ _ _ _ _ h1
 ·simp only[List.cons_append,List.nil_append,List.getD_cons_zero,List.getD_cons_succ,hU (192+c / 64) (by omega),hU (128+c % 64) (by omega),List.length_cons];unfold decodeN;rw[if_neg (by omega),if_pos ⟨by omega,by omega,by omega⟩,if_pos (by omega)];refine Prod.ext ?_ rfl;show (192+c / 64) % 32*64+(128+c % 64) % 64=c;omega
 ·simp only[List.cons_append,List.nil_append,List.getD_cons_zero,List.getD_cons_succ,hU (224+c / 4096) (by omega),hU (128+c / 64 % 64) (by omega),hU (128+c % 64) (by omega),List.length_cons];unfold decodeN;have k:(224+c / 4096) % 16*4096+(128+c / 64 % 64) % 64*64+(128+c % 64) % 64=c:=by omega
  rw[if_neg (by omega),if_neg (by omega),if_pos ⟨by omega,⟨by omega,by omega⟩,by omega,by omega⟩,k,if_pos (by omega)];simp only[List.length_nil]
 ·simp only[List.cons_append,List.nil_append,List.getD_cons_zero,List.getD_cons_succ,hU (240+c / 262144) (by omega),hU (128+c / 4096 % 64) (by omega),hU (128+c / 64 % 64) (by omega),hU (128+c % 64) (by omega),List.length_cons];unfold decodeN;have k:(240+c / 262144) % 8*262144+(128+c / 4096 % 64) % 64*4096+(128+c / 64 % 64) % 64*64+(128+c % 64) % 64=c:=by omega
  rw[if_neg (by omega),if_neg (by omega),if_neg (by omega),if_pos ⟨by omega,⟨by omega,by omega⟩,⟨by omega,by omega⟩,by omega,by omega⟩,k,if_pos (by omega)];simp only[List.length_nil]
def good (l:ae):Prop:=¬((decodeL l).1=65533∧(decodeL l).2=1)
instance (l:ae):Decidable (good l):=inferInstanceAs (Decidable (¬_))
theorem good_enc {c:Nat} (hv:vr c) (t:ae):good (enc c++t):=by
 unfold good;rw[Wj hv t]
 rintro ⟨h1,h2⟩
 simp only at h1 h2;rw[h1]at h2;rw[enc3 (by omega) (by omega) (by unfold vr; omega)]at h2;cases h2
theorem decodeN_vr (n b0 b1 b2 b3:Nat) (h0:b0<256):vr (decodeN n b0 b1 b2 b3).1:=by
 unfold vr decodeN
 repeat' split
 all_goals simp only
 all_goals omega
theorem dec_vr (l:ae):vr (decodeL l).1:=by
 rw[decodeL_N];exact decodeN_vr _ _ _ _ _ (UInt8.toNat_lt _)
theorem dec_good {l:ae} (jW:l ≠ []) (h:good l):l=enc (decodeL l).1++l.drop (decodeL l).2∧(enc (decodeL l).1).length=(decodeL l).2:=by
 have h1:=encode_decode l jW h;have h2:=decodeL_le l jW;refine ⟨?_,?_⟩
 ·unfold enc;rw[h1,List.take_append_drop]
 ·unfold enc;rw[h1,List.length_take];omega
theorem YE {l:ae} (jW:l ≠ []):ft l=if good l then ft (l.drop (decodeL l).2)else false:=by
 unfold ft;rw[validD_step l jW];by_cases h:good l
 ·rw[if_pos h,if_neg (show ¬((decodeL l).1=65533∧(decodeL l).2=1)from h)]
 ·rw[if_neg h,if_pos (Decidable.not_not.1 h)]
theorem enc_ne {c:Nat} (hv:vr c) (t:ae):enc c++t ≠ []:=by
 have:=KD hv;intro e;have:=congrArg List.length e;rw[List.length_append,List.length_nil]at this;omega
theorem validS_enc {c:Nat} (hv:vr c) (t:ae):ft (enc c++t)=ft t:=by
 rw[YE (enc_ne hv t),if_pos (good_enc hv t),Wj hv t];simp
def fv (rs:List Nat):ae:=rs.flatMap enc
theorem YF:∀(rs:List Nat),(∀c∈rs,vr c)→∀t,ft (fv rs++t)=ft t
 | [],_,t=>rfl
 | c::rs,h,t=>by
  have:fv (c::rs)++t=enc c++(fv rs++t):=by simp[fv]
  rw[this,validS_enc (h c (by simp)),YF rs (fun x hx=>h x (by simp[hx]))]
theorem YG:∀(n:Nat) (l:ae),l.length≤n→ft l=true→∃rs:List Nat,(∀c∈rs,vr c)∧l=fv rs
 | 0,l,hl,_=>⟨[],by simp,List.eq_nil_of_length_eq_zero (by omega)⟩
 | n+1,l,hl,h=>by
  by_cases jW:l = []
  ·exact ⟨[],by simp,jW⟩
  rw[YE jW]at h;split at h
  ·rename_i hg;obtain ⟨h1,h2⟩:=dec_good jW hg;have h3:=KD (dec_vr l);obtain ⟨rs,hr,e⟩:=YG n (l.drop (decodeL l).2) (by rw[List.length_drop]; omega) h;refine ⟨(decodeL l).1::rs,?_,?_⟩
   ·intro c hc;rcases List.mem_cons.1 hc with rfl|hc
    ·exact dec_vr l
    ·exact hr c hc
   ·exact h1.trans ((congrArg (enc (decodeL l).1 ++ ·) e).trans (by simp[fv]))
  ·cases h
theorem Io {l:ae}:ft l=true↔∃rs:List Nat,(∀c∈rs,vr c)∧l=fv rs:=by
 refine ⟨YG l.length l (Nat.le_refl _),?_⟩
 rintro ⟨rs,hr,rfl⟩
 have:=YF rs hr [];rw[List.append_nil]at this;rw[this]; rfl
theorem Q8 {s t:ae} {i:Nat} (h:i<s.length):(s++t).getD i 0=s.getD i 0:=by
 simp[List.getD,List.getElem?_append_left h]
theorem YH {s t:ae} {x:UInt8}:(s++x::t).getD s.length 0=x:=by
 simp[List.getD]
end Go.aA
set_option maxRecDepth 100000
namespace Go.Proofs.YtidfokedcnhahaaGreatDoor
open Go Go.aA
def zm (n:Int):Prop := -9223372036854775808≤n∧n≤9223372036854775807
theorem rD {n:Int}:IntKind.i64.has n↔zm n:=by
 unfold IntKind.has zm;simp only[IntKind.min,IntKind.max,IntKind.bits,IntKind.signed];simp
theorem wrap32_id {n:Int} (h1:0≤n) (h2:n<1114112):IntKind.i32.wrap n=n:=by
 simp only[IntKind.wrap,IntKind.bits,IntKind.signed,IntKind.min,IntKind.max];simp;omega
theorem encL_snoc (rs:List Nat) (c:Nat):fv (rs ++ [c])=fv rs++enc c:=by simp[fv]
theorem aE {p:Prop} [Decidable p] (h:p):decide p=true:=decide_eq_true h
theorem bK {p:Prop} [Decidable p] (h:¬p):decide p=false:=decide_eq_false h
end Go.Proofs.YtidfokedcnhahaaGreatDoor
namespace Go.Proofs.YtidfokedcnhahaaGreatDoor.Pu
open Go Go.aA
theorem jok_mk {k m e:Int} {t:ae} {ns:List ae} {xs:List Json} (hk:zm k) (hm:zm m) (he:zm e) (ht:t.length≤1099511627776) (hn:ns.length≤1099511627776) (TS:∀s∈ns,s.length≤1099511627776) (hx:xs.length≤1099511627776) (hxs:∀y∈xs,Hc y) :
  Hc ⟨k,⟨m,e⟩,t,ns,xs⟩:=by
 intro c hc;simp only[Ty.cells,List.mem_cons,List.not_mem_nil,or_false]at hc;rcases hc with rfl|rfl|rfl|rfl|rfl|rfl
 ·exact .int (rD.2 hk)
 ·exact .int (rD.2 hm)
 ·exact .int (rD.2 he)
 ·exact .str ht
 ·exact .sl hn fun s hs v hv=>by
   simp only[Ty.cells,List.mem_singleton]at hv;subst hv;exact .str (TS s hs)
 ·exact .sl hx fun y hy v hv=>hxs y hy v hv
def mk:List ae→List Json→List ae→List Json→List ae×List Json
 | n::ns,x::xs,a,b=>if a.contains n then mk ns xs a b else mk ns xs (a ++ [n]) (b ++ [x])
 | [],_,a,b=>(a,b)
 | _::_, [],a,b=>(a,b)
theorem XJ {R:Type} (ns:List ae) (xs:List Json) (hx:xs.length≤ns.length) (hn:ns.length≤1099511627776) (hj:∀y∈xs,Hc y) (p q r:Int) (t:ae) (a b c:Int) (u:ae)
  (e0:Int→Int→Int→ae→Int→Int→Int→ae→List ae→List Json→Option R):∀(n i:Nat) (l:List ae) (m:List Json),i≤xs.length→xs.length - i<n→l.length=m.length→l.length≤i →
  dz n ns xs (xs.length:Int) (i:Int) p q r t a b c u l m e0=e0 p q r t a b c u (mk (ns.drop i) (xs.drop i) l m).1 (mk (ns.drop i) (xs.drop i) l m).2:=by
 intro n
 induction n with
 | zero=>intro i l m _ h; omega
 | succ n ih =>
  intro i l m hi hni hlm hli;show yC _ _ (fun x1 x2 x3 x4 x5 x6 x7 x8 x9 Xp PE Et JJ Kn=>dz n x1 x2 x3 x4 x5 x6 x7 x8 x9 Xp PE Et JJ Kn e0) _ _ _ _ _ _ _ _ _ _ _ _ _ _ e0=_;unfold yC;by_cases h:i<xs.length
  ·have h1:decide ((i:Int)<(xs.length:Int))=true:=by simp; omega
   have h2:(decide ((0:Int)≤(i:Int))&&true)=true:=by simp
   have h2':(decide ((0:Int)≤(i:Int))&&decide ((i:Int)<ns.length))=true:=by simp; omega
   have hw:IntKind.i64.wrap ((i:Int)+1)=((i+1:Nat):Int):=by rw[cv (by omega) (by omega)]; omega
   have hg:xs.getD (i:Int).toNat (Ty.aR .json)=xs[i]:=getD_at h _;have hg':ns.getD (i:Int).toNat (Ty.aR .str)=ns[i]:=getD_at (by omega) _;have hr1:decide ((l.length+1)*16≤140737488355328)=true:=by simp; omega
   have hr2:decide ((m.length+1)*88≤140737488355328)=true:=by simp; omega
   rw[h1,cond_true,ao h2,ao h2',hg,hg',contains_eq l (by omega),Json.eta,hw];rw[List.drop_eq_getElem_cons h,List.drop_eq_getElem_cons (show i<ns.length by omega)];simp only[mk];cases hc:l.contains ns[i]with
   | true =>
    simp only[Bool.not_true,cond_false,if_true];exact ih (i+1) l m (by omega) (by omega) hlm (by omega)
   | false =>
    simp only[Bool.not_false,cond_true,Bool.false_eq_true,if_false];rw[ao h2',ao hr1,fresh_eq _ (hj _ (List.getElem_mem h)),ao hr2,Json.eta];exact ih (i+1) (l ++ [ns[i]]) (m ++ [xs[i]]) (by omega) (by omega) (by simp[hlm]) (by first|omega|(simp; done)|(simp; omega))
  ·have h1:decide ((i:Int)<(xs.length:Int))=false:=by simp; omega
   rw[h1,cond_false,List.drop_eq_nil_of_le (show xs.length≤i by omega)];have:∀ns:List ae,mk ns [] l m=(l,m):=fun ns=>by cases ns <;> rfl
   rw[this]
theorem make_eq {R:Type} (ns:List ae) (xs:List Json) (hn:ns.length≤1099511627776) (hj:∀y∈xs,Hc y) (k:Json→Option R) :
  dc ns xs k=k ⟨7,⟨0,0⟩, [],(mk ns xs [] []).1,(mk ns xs [] []).2⟩:=by
 unfold dc NK;have hm:(min (xs.length:Int) (ns.length:Int)).toNat - 0=min xs.length ns.length:=by omega
 rw[ao (by first|omega|(simp; done)|(simp; omega)),ao (by first|omega|(simp; done)|(simp; omega)),hm,List.drop_zero];have hl:(xs.take (min xs.length ns.length)).length=min xs.length ns.length:=by simp
 refine (XJ ns (xs.take (min xs.length ns.length)) (by rw[hl]; omega) hn (fun y hy=>hj y (List.mem_of_mem_take hy)) 0 0 0 [] 7 0 0 [] _ _ 0 [] [] (by omega) (by first|omega|(simp; done)|(simp; omega)) rfl (by simp)).trans ?_;have key:∀(ns:List ae) (xs:List Json) (a:List ae) (b:List Json),mk ns (xs.take (min xs.length ns.length)) a b=mk ns xs a b:=by
  intro ns
  induction ns with
  | nil=>intro xs a b; cases xs <;> simp[mk]
  | cons n ns ih =>
   intro xs a b;cases xs with
   | nil=>simp
   | cons x xs =>
    have:min (x::xs).length (n::ns).length=min xs.length ns.length+1:=by simp only[List.length_cons]; omega
    rw[this,List.take_succ_cons];simp only[mk,ih]
 simp only[List.drop_zero,key]
theorem Hc.aq {x:Json} (h:Hc x):zm x.num.aq:=rD.1 (h (.int .i64 x.num.aq) (by simp[Ty.cells])).fA
theorem Hc.exp {x:Json} (h:Hc x):zm x.num.exp:=rD.1 (h (.int .i64 x.num.exp) (by simp[Ty.cells])).fA
def Oo:Nat→Int→Option Int
 | 0,n=>some n
 | k+1,n=>if -100000000000000000≤n∧n≤100000000000000000 then Oo k (n*10)else none
def Ue (d:fO):Bool:=if d.aq=0 then decide (d.exp=0)else (decide (Int.tmod d.aq 10≠0)&&(decide (-1000000000000000≤d.aq)&&decide (d.aq≤1000000000000000)))&&(decide (-9≤d.exp)&&decide (d.exp≤9))
def uW (d:fO):Option Int:=if Ue d=true∧0≤d.exp then Oo d.exp.toNat d.aq else none
theorem Ip {R:Type} (a b c:Int) (k:Bool→Option R):ay a b c k=k (decide (a≤b)&&decide (b≤c)):=by
 unfold ay mT;cases decide (a≤b) <;> rfl
theorem right_eq {R:Type} (d:fO) (k:Bool→Option R):bQ d k=k (Ue d):=by
 unfold bQ jZ Ue;simp only[Ip];by_cases h:d.aq=0
 ·have h1:(d.aq==0)=true:=by simpa using h
  rw[h1,cond_true,if_pos h];rfl
 ·have h1:(d.aq==0)=false:=by simpa using h
  rw[h1,cond_false,if_neg h];by_cases hq:Int.tmod d.aq 10=0
  ·have h2:(Int.tmod d.aq 10 != 0)=false:=by simp[hq]
   rw[h2,cond_false];simp[hq]
  ·have h2:(Int.tmod d.aq 10 != 0)=true:=by simp[hq]
   rw[h2,cond_true];cases hw:(decide (-1000000000000000≤d.aq)&&decide (d.aq≤1000000000000000))with
   | true=>simp[hq]
   | false=>simp[hq]
theorem shift_loop {R:Type} (e0:Int→Option R) (e1:Int→Bool→Int→Option R) (f:Int→Bool→Option R) (h1:∀x,e1 0 false x=f 0 false) (h0:∀x,e0 x=f x true) (m:Nat) (hm:m≤9223372036854775806) :
  ∀(n i:Nat) (x:Int),i≤m→m - i<n → -1000000000000000000≤x→x≤1000000000000000000 →
  cp n x (m:Int) (i:Int) e0 e1=match Oo (m - i) x with|some y=>f y true|none=>f 0 false:=by
 intro n
 induction n with
 | zero=>intro i x _ h; omega
 | succ n ih =>
  intro i x hi hn hx1 hx2;show pS ay (fun a b c=>cp n a b c e0 e1) _ _ _ e0 e1=_;unfold pS;by_cases h:i<m
  ·have c1:decide ((i:Int)<(m:Int))=true:=by simp; omega
   have hw:IntKind.i64.wrap ((i:Int)+1)=((i+1:Nat):Int):=by rw[cv (by omega) (by omega)]; omega
   have e:m - i=(m - (i+1))+1:=by omega
   rw[c1,cond_true,Ip,e];simp only[Oo];by_cases hb : -100000000000000000≤x∧x≤100000000000000000
   ·have hd:(decide (-100000000000000000≤x)&&decide (x≤100000000000000000))=true:=by simp; exact hb
    rw[hd,if_pos hb];simp only[Bool.not_true,cond_false,hw];rw[cv (by omega) (by omega)];exact ih (i+1) (x*10) (by omega) (by omega) (by omega) (by omega)
   ·have hd:(decide (-100000000000000000≤x)&&decide (x≤100000000000000000))=false:=by
     simp only[Bool.and_eq_false_imp,decide_eq_true_eq,decide_eq_false_iff_not];exact fun q1 q2=>hb ⟨q1,q2⟩
    rw[hd,if_neg hb];simp only[Bool.not_false,cond_true];exact h1 x
  ·have c1:decide ((i:Int)<(m:Int))=false:=by simp; omega
   have e:m - i=0:=by omega
   rw[c1,cond_false,e];exact h0 x
theorem W8 {R:Type} (d:fO) (k:Int→Bool→Option R):mW d k=match uW d with|some n=>k n true|none=>k 0 false:=by
 unfold mW LG;rw[right_eq];cases hr:Ue d with
 | false =>
  have:uW d=none:=by unfold uW; rw[if_neg (by simp[hr])]
  rw[this]; rfl
 | true =>
  by_cases he:d.exp<0
  ·have:uW d=none:=by unfold uW; rw[if_neg (by omega)]
   have c:decide (d.exp<(0:Int))=true:=by simpa using he
   rw[this];simp only[Bool.not_true,cond_false,c,cond_true]
  ·have c:decide (d.exp<(0:Int))=false:=by simpa using he
   have hb : -1000000000000000≤d.aq∧d.aq≤1000000000000000∧d.exp≤9:=by
    unfold Ue at hr;split at hr
    ·simp at hr; omega
    ·simp at hr; omega
   have e:uW d=Oo d.exp.toNat d.aq:=by unfold uW; rw[if_pos ⟨hr,by omega⟩]
   rw[e];simp only[Bool.not_true,cond_false,c];unfold jc Dz;rw[cv (by omega) (by omega)];have ec:d.exp - 0=((d.exp.toNat:Nat):Int):=by omega
   rw[ec];exact shift_loop _ _ (fun a b=>k a b) (fun x=>rfl) (fun x=>rfl) d.exp.toNat (by omega) _ 0 d.aq (by omega) (by omega) (by omega) (by omega)
def numF (x:Json):Option Int:=if x.kind=4 then uW x.num else none
theorem num_eq {R:Type} (x:Json) (k:Int→Bool→Option R):∃z:Int,tP x k=match numF x with|some n=>k n true|none=>k z false:=by
 unfold tP Q1 numF;have eta:(⟨x.num.aq,x.num.exp⟩:fO)=x.num:=rfl;simp only[W8];by_cases h:x.kind=4
 ·have h1:(x.kind==4)=true:=by simpa using h
  refine ⟨0,?_⟩;rw[if_pos h];cases hd:uW x.num with
  | some n=>simp only[hd,cond_true,h1]
  | none=>simp only[hd,cond_false]
 ·have h1:(x.kind==4)=false:=by simpa using h
  refine ⟨(uW x.num).getD 0,?_⟩;rw[if_neg h];cases hd:uW x.num with
  | some n=>simp only[hd,cond_true,h1,Option.getD_some]
  | none=>simp only[hd,cond_false,Option.getD_none]
def Zp (v:Json) (s:ae):Option Json:=if v.kind=7 then look s v.names v.items else none
theorem at7_ok {v:Json} (hv:Hc v) {s:ae} {x:Json} (h:Zp v s=some x):Hc x:=by
 unfold Zp at h;split at h
 ·rw[Ud]at h;cases hp:v.names.findIdx? (s == ·)with
  | none=>rw[hp]at h; cases h
  | some j=>rw[hp]at h; exact hv.item (List.mem_of_getElem? h)
 ·cases h
theorem Num_eq {R:Type} (v:Json) (hv:Hc v) (s:ae) (k:Int→Bool→Option R):tQ v s k=match (Zp v s).bind numF with|some n=>k n true|none=>k 0 false:=by
 unfold tQ Q5 gL Ab;simp only[Json.eta];rw[find_eq v hv];show (match Zp v s with|some x=>_|none=>_)=_;cases Zp v s with
 | none=>rfl
 | some x =>
  simp only[Bool.not_true,cond_false,Option.bind_some];obtain ⟨z,hz⟩:=num_eq x (fun y5 y6=>bif y6 then (k y5 true)else (k 0 false));refine hz.trans ?_;cases numF x <;> rfl
def textF (x:Json):Option ae:=if x.kind=5 then some x.text else none
theorem Text_eq {R:Type} (v:Json) (hv:Hc v) (s:ae) (k:ae→Bool→Option R):fT v s k=match (Zp v s).bind textF with|some n=>k n true|none=>k [] false:=by
 unfold fT N9 fc vf mI I8;simp only[Json.eta];rw[find_eq v hv];show (match Zp v s with|some x=>_|none=>_)=_;cases Zp v s with
 | none=>rfl
 | some x =>
  simp only[Bool.not_true,cond_false,Option.bind_some,textF];by_cases h:x.kind=5
  ·have h1:(x.kind==5)=true:=by simpa using h
   simp only[h1,cond_true,if_pos h]
  ·have h1:(x.kind==5)=false:=by simpa using h
   simp only[h1,cond_false,if_neg h]
def flagF (x:Json):Option Bool:=if x.kind=3 then some true else if x.kind=2 then some false else none
theorem flag_eq {R:Type} (x:Json) (k:Bool→Bool→Option R):pE x k=match flagF x with|some b=>k b true|none=>k false false:=by
 unfold pE Oi flagF;by_cases h:x.kind=3
 ·have h1:(x.kind==3)=true:=by simpa using h
  simp only[h1,cond_true,if_pos h]
 ·have h1:(x.kind==3)=false:=by simpa using h
  by_cases h':x.kind=2
  ·have h2:(x.kind==2)=true:=by simpa using h'
   simp only[h1,h2,cond_false,if_neg h,if_pos h']
  ·have h2:(x.kind==2)=false:=by simpa using h'
   simp only[h1,h2,cond_false,if_neg h,if_neg h']
theorem Flag_eq {R:Type} (v:Json) (hv:Hc v) (s:ae) (k:Bool→Bool→Option R):pF v s k=match (Zp v s).bind flagF with|some n=>k n true|none=>k false false:=by
 unfold pF On fV yf;simp only[Json.eta];rw[find_eq v hv];show (match Zp v s with|some x=>_|none=>_)=_;cases Zp v s with
 | none=>rfl
 | some x =>
  simp only[Bool.not_true,cond_false,Option.bind_some,flag_eq];cases flagF x <;> rfl
def listF (x:Json):Option (List Json):=if x.kind=6 then some x.items else none
theorem List_eq {R:Type} (v:Json) (hv:Hc v) (s:ae) (k:List Json→Bool→Option R):pD v s k=match (Zp v s).bind listF with|some n=>k n true|none=>k [] false:=by
 unfold pD Of fU yc mJ Jc;simp only[Json.eta];rw[find_eq v hv];show (match Zp v s with|some x=>_|none=>_)=_;cases hq:Zp v s with
 | none=>rfl
 | some x =>
  simp only[Bool.not_true,cond_false,Option.bind_some,listF];rw[fresh_eq x (at7_ok hv hq)];by_cases h:x.kind=6
  ·have h1:(x.kind==6)=true:=by simpa using h
   simp only[h1,cond_true,if_pos h]
  ·have h1:(x.kind==6)=false:=by simpa using h
   simp only[h1,cond_false,if_neg h]
end Go.Proofs.YtidfokedcnhahaaGreatDoor.Pu
set_option maxRecDepth 100000
namespace Go.Proofs.YtidfokedcnhahaaGreatDoor
open Go Go.aA
variable {R:Type}
abbrev LJ (R:Type):Type:=Int→Int→(fO→Bool→Option R)→Option R
abbrev Oq:List cU := [.leaf (.int .i64), .leaf (.int .i64)]
abbrev Ot:List aU := []
def To (fn:LJ R):lC R Oq Ot:=fun x y k=>fn x.1 x.2.1 (fun q0 q1=>k (.tuple [.agg [.int .i64 q0.aq, .int .i64 q0.exp], .bool q1]) [])
def ref01_Make_s (fn:LJ R):=aG Oq Ot (To fn)
abbrev DE (R:Type):Type:=Nat→Int→Int→fO→(Int→Int→fO→Option R)→(Int→Int→Bool→fO→Option R)→Option R
def yK:Hint := { live := [0,1,4],own := [],rows := [],cells := [],drop := [],out := [0,1,4,5] }
abbrev o4:Type:=Int×Int×fO
def BT:o4→St:=fun d=>⟨.int .i64 d.1 :: .int .i64 d.2.1::U 2 (.ptr 0 0::U 32 ([])), [.cells [.int .i64 d.2.2.aq, .int .i64 d.2.2.exp]]⟩
def DF (K:Ex→St→Option R) (q0:Int) (q1:Int) (q2:fO):Option R:=K (.exit 0) ⟨.int .i64 q0 :: .int .i64 q1::U 2 (.ptr 0 0::U 32 ([])), [.cells [.int .i64 q2.aq, .int .i64 q2.exp]]⟩
def DG (K:Ex→St→Option R) (q0:Int) (q1:Int) (q2:Bool) (q3:fO):Option R:=K (.ret) ⟨.int .i64 q0 :: .int .i64 q1::U 2 (.ptr 0 0 :: .bool q2::U 31 ([])), [.cells [.int .i64 q3.aq, .int .i64 q3.exp]]⟩
abbrev tU:List cU := .leaf (.int .i64) :: .leaf (.int .i64)::PU 2 (.leaf (.ptr 0 0)::PU 32 ([]))
abbrev tV:List aU := [.cells [.int .i64, .int .i64]]
def Mu (x:cU.bT tU) (y:aU.bT tV):Nat:=(Int.natAbs x.1+Int.natAbs x.2.1+fO.fu (⟨y.1.1,y.1.2.1⟩:fO)+64)
def XK (x:cU.bT tU) (y:aU.bT tV):o4:=(x.1,x.2.1,(⟨y.1.1,y.1.2.1⟩:fO))
def KE (L:DE R):xp R tU tV:=fun x y K=>L (Mu x y) x.1 x.2.1 (⟨y.1.1,y.1.2.1⟩:fO) (DF K) (DG K)
section
variable (cB:DE R)
def kn (dJ:Int→Int→fO→Option R) (x3:Int) (x4:Int) (x5:fO) (e0:Int→Int→fO→Option R) (e1:Int→Int→Bool→fO→Option R):Option R :=
 bif ((Int.tmod x3 10)==0)then (bif (decide (x4>(1099511627776:Int)))then (e1 (IntKind.i64.wrap (Int.tdiv x3 10)) x4 false (⟨0,0⟩:fO))else (dJ (IntKind.i64.wrap (Int.tdiv x3 10)) (IntKind.i64.wrap (x4+1)) x5))else (e0 x3 x4 x5)
def Mv (K:Ex→St→Option R) (rc:o4→Option R) (d:o4):Option R:=kn (fun z0 z1 z2=>rc (z0,z1,z2)) d.1 d.2.1 d.2.2 (DF K) (DG K)
def DH:Nat→Option (Hint×cQ R):=fun i=>match i with
 | 3=>some (yK,(cM tU tV (KE cB) iK))
 | _=>none
theorem SE (K:Ex→St→Option R) (rc:St→Option R) (d:o4):roundOf tt (cT []) (DH cB) 0 ((az (aX Tryz.f101)).getD 0 .skip) yK (BT d) rc K=Mv K (fun d=>rc (BT d)) d:=by kernel_rfl
def vn (x1:Int) (x2:Int) (k0:fO→Bool→Option R):Option R :=
 bif (x1==0)then (k0 (⟨0,0⟩:fO) true)else (cB (Int.natAbs x1+Int.natAbs x2+fO.fu (⟨0,0⟩:fO)+64) x1 x2 (⟨0,0⟩:fO) (fun y6 y7 y8=>bif (decide (y6>(1000000000000000:Int)))then (k0 (⟨0,0⟩:fO) false)else (bif (decide (y6<(-1000000000000000:Int)))then (k0 (⟨0,0⟩:fO) false)else (bif (decide (y7>(9:Int)))then (k0 (⟨0,0⟩:fO) false)else (bif (decide (y7<(-9:Int)))then (k0 (⟨0,0⟩:fO) false)else (k0 (⟨y6,y7⟩:fO) true))))) (fun y9 p9 n0 yp=>k0 yp n0))
theorem ref01_Make_ok:dO (R:=R) tt [] (DH cB) false Tryz.f101 Oq Ot (To (vn cB)):=fun x y k=>by kernel_rfl
end
def cB:DE R
 | 0,_,_,_,_,_=>none
 | n+1,gf,gk,gw,e0,e1=>kn (fun gf gk gw=>cB n gf gk gw e0 e1) gf gk gw e0 e1
def Mw (K:Ex→St→Option R) (n:Nat) (d:o4):Option R:=cB n d.1 d.2.1 d.2.2 (DF K) (DG K)
theorem Wl (other:cQ R) (ho:hG tt (cT []) (DH (R:=R) cB) 0 ((az (aX Tryz.f101)).getD 0 .skip) yK other):hG tt (cT []) (DH (R:=R) cB) 0 ((az (aX Tryz.f101)).getD 0 .skip) yK (cM tU tV (KE (cB)) other) :=
 cS (A:=Mw) ho (dX BT (Mv) (Mw) (fun _ _=>by kernel_rfl) (SE cB) (fun _ _ _=>by kernel_rfl)) Mu XK (fun _ _=>by kernel_rfl) (fun _ _ _=>by kernel_rfl)
def vo:LJ R:=fun x1 x2 k0=>vn cB x1 x2 k0
theorem XL (R:Type):∀a∈az (aX Tryz.f101),gN tt (cT []) (DH (R:=R) cB) 0 a:=by
 refine fb 1 (by kernel_rfl) fun i hi => ?_
 match i,hi with
 | 0,_=>exact cA (by kernel_rfl) (Wl _ dy)
 | n+1,hi=>omega
theorem ref01_Make_S_ok (R:Type):kM Tryz.prog 101 (ref01_Make_s (vo (R:=R))):=br TT mixed .n rfl rfl rfl rfl (XL R) (ref01_Make_ok cB)
variable {R:Type}
abbrev H8 (R:Type):Type:=(List ae)→ae→(Bool→Option R)→Option R
abbrev Q9:List cU := [.leaf (.sl .str), .leaf (.str)]
abbrev Ra:List aU := []
def Wm (fn:H8 R):lC R Q9 Ra:=fun x y k=>fn x.1 x.2.1 (fun q0=>k (.bool q0) [])
def YI (fn:H8 R):=aG Q9 Ra (Wm fn)
abbrev Fs (R:Type):Type:=Nat→(List ae)→ae→Int→(Option R)→(Bool→Option R)→Option R
def Bl:Hint := { live := [0,1,5],own := [],rows := [],cells := [],drop := [],out := [4] }
abbrev qz:Type:=(List ae)×ae×Int
def DI:qz→St:=fun d=>⟨.sl .str d.1 .no :: .str d.2.1::U 3 (.int .i64 d.2.2::U 12 ([])), []⟩
def Ft (K:Ex→St→Option R):Option R:=K (.exit 0) ⟨U 18 ([]), []⟩
def Fu (K:Ex→St→Option R) (q0:Bool):Option R:=K (.ret) ⟨U 4 (.bool q0::U 13 ([])), []⟩
abbrev vW:List cU := .leaf (.sl .str) :: .leaf (.str)::PU 3 (.leaf (.int .i64)::PU 12 ([]))
abbrev vX:List aU := []
def Po (x:cU.bT vW) (y:aU.bT vX):Nat:=(List.length x.1+List.length x.2.1+Int.natAbs x.2.2.2.2.2.1+64)
def Zq (x:cU.bT vW) (y:aU.bT vX):qz:=(x.1,x.2.1,x.2.2.2.2.2.1)
def Mx (L:Fs R):xp R vW vX:=fun x y K=>L (Po x y) x.1 x.2.1 x.2.2.2.2.2.1 (Ft K) (Fu K)
section
variable (eN:Fs R)
def Pp (dJ:(List ae)→ae→Int→Option R) (x3:List ae) (x4:ae) (x5:Int) (e0:Option R) (e1:Bool→Option R):Option R :=
 bif (decide (x5<(x3.length:Int)))then (bX (decide ((0:Int)≤x5)&&decide (x5<x3.length)) (bif ((x3.getD x5.toNat (Ty.aR .str))==x4)then (e1 true)else (dJ x3 x4 (IntKind.i64.wrap (x5+1)))))else (e0)
def Pq (K:Ex→St→Option R) (rc:qz→Option R) (d:qz):Option R:=Pp (fun z0 z1 z2=>rc (z0,z1,z2)) d.1 d.2.1 d.2.2 (Ft K) (Fu K)
def Gs:Nat→Option (Hint×cQ R):=fun i=>match i with
 | 2=>some (Bl,(cM vW vX (Mx eN) iK))
 | _=>none
theorem Uf (K:Ex→St→Option R) (rc:St→Option R) (d:qz):roundOf tt (cT []) (Gs eN) 0 ((az (aX Tryz.f154)).getD 0 .skip) Bl (DI d) rc K=Pq K (fun d=>rc (DI d)) d:=by kernel_rfl
def YJ (x1:List ae) (x2:ae) (k0:Bool→Option R):Option R :=
 eN (List.length x1+List.length x2+Int.natAbs 0+64) x1 x2 0 (k0 false) (fun y6=>k0 y6)
theorem ref04_has_ok:dO (R:=R) tt [] (Gs eN) false Tryz.f154 Q9 Ra (Wm (YJ eN)):=fun x y k=>by kernel_rfl
end
def eN:Fs R
 | 0,_,_,_,_,_=>none
 | n+1,gf,gk,gw,e0,e1=>Pp (fun gf gk gw=>eN n gf gk gw e0 e1) gf gk gw e0 e1
def Pr (K:Ex→St→Option R) (n:Nat) (d:qz):Option R:=eN n d.1 d.2.1 d.2.2 (Ft K) (Fu K)
theorem XM (other:cQ R) (ho:hG tt (cT []) (Gs (R:=R) eN) 0 ((az (aX Tryz.f154)).getD 0 .skip) Bl other):hG tt (cT []) (Gs (R:=R) eN) 0 ((az (aX Tryz.f154)).getD 0 .skip) Bl (cM vW vX (Mx (eN)) other) :=
 cS (A:=Pr) ho (dX DI (Pq) (Pr) (fun _ _=>by kernel_rfl) (Uf eN) (fun _ _ _=>by kernel_rfl)) Po Zq (fun _ _=>by kernel_rfl) (fun _ _ _=>by kernel_rfl)
def iM:H8 R:=fun x1 x2 k0=>YJ eN x1 x2 k0
theorem Zr (R:Type):∀a∈az (aX Tryz.f154),gN tt (cT []) (Gs (R:=R) eN) 0 a:=by
 refine fb 1 (by kernel_rfl) fun i hi => ?_
 match i,hi with
 | 0,_=>exact cA (by kernel_rfl) (XM _ dy)
 | n+1,hi=>omega
theorem ref04_has_S_ok (R:Type):kM Tryz.prog 154 (YI (iM (R:=R))):=br TT mixed .n rfl rfl rfl rfl (Zr R) (ref04_has_ok eN)
variable {R:Type}
abbrev yg (R:Type):Type:=ae→(ae→Bool→Option R)→Option R
abbrev LK:List cU := [.leaf (.str)]
abbrev LL:List aU := []
def Rb (fn:yg R):lC R LK LL:=fun x y k=>fn x.1 (fun q0 q1=>k (.tuple [.str q0, .bool q1]) [])
def LM (fn:yg R):=aG LK LL (Rb fn)
abbrev BU (R:Type):Type:=Nat→(List Int)→ae→Nat→((List Int)→Option R)→Option R
def xh:Hint := { live := [4,13],own := [],rows := [],cells := [],drop := [],out := [2,3,4] }
abbrev nt:Type:=(List Int)×ae×Nat
def Ac:nt→St:=fun d=>⟨U 4 (.ptr 0 0::U 8 (.ptr 1 0::U 27 ([]))), [.mZ (.sl (.int .u8) d.1 (.own 2)), .iter d.2.1 d.2.2, .tok]⟩
def BV (K:Ex→St→Option R) (q0:List Int):Option R:=K (.exit 0) ⟨U 4 (.ptr 0 0::U 36 ([])), [.mZ (.sl (.int .u8) q0 (.own 1)), .tok]⟩
abbrev rE:List cU:=PU 4 (.leaf (.ptr 0 0)::PU 8 (.leaf (.ptr 1 0)::PU 27 ([])))
abbrev rF:List aU := [.mZ (.TW (.int .u8) 2), .iter, .tok]
def KF (x:cU.bT rE) (y:aU.bT rF):Nat:=(List.length y.1+List.length y.2.1.1+64)
def Wn (x:cU.bT rE) (y:aU.bT rF):nt:=(y.1,y.2.1.1,y.2.1.2)
def Je (L:BU R):xp R rE rF:=fun x y K=>L (KF x y) y.1 y.2.1.1 y.2.1.2 (BV K)
section
variable (bS:tm R) (aj:ej R) (ad:er R) (fq:Dj R) (af:dp R) (ak:fw R) (cP:BU R)
def wy:List (oo R) := [(165,true,(FR bS av)),(126,false,(ir ad (iq aj av))),(169,true,(Tc fq av)),(124,false,(fo af av)),(170,false,(k8 ak av)),(84,false,(NG R))]
def lp (dJ:(List Int)→ae→Nat→Option R) (x4:List Int) (x5:ae) (x6:Nat) (e0:(List Int)→Option R):Option R :=
 bif decide (x6<x5.length)then (fq ((mP x5 x6).1:Int) (fun y7=>bif (y7 != 0)then (ad 92 x4 (fun y8=>ad y7 y8 (fun y9=>dJ y9 x5 (x6+(mP x5 x6).2))))else (bif (decide (((mP x5 x6).1:Int)<(32:Int)))then (af ([92,117,48,48]:ae) x4 (fun p9 n0=>bX (decide ((0:Int)≤(Int.fdiv ((mP x5 x6).1:Int) (2 ^ (min 4 IntKind.i32.bits))))&&decide ((Int.fdiv ((mP x5 x6).1:Int) (2 ^ (min 4 IntKind.i32.bits)))<(16:Int))) (ad ((([48,49,50,51,52,53,54,55,56,57,97,98,99,100,101,102]:ae).getD ((Int.fdiv ((mP x5 x6).1:Int) (2 ^ (min 4 IntKind.i32.bits))).toNat) 0).toNat:Int) n0 (fun yp=>bX (decide ((0:Int)≤(IntKind.i32.wrap ((BitVec.ofInt IntKind.i32.bits ((mP x5 x6).1:Int) &&& BitVec.ofInt IntKind.i32.bits 15).toNat:Int)))&&decide ((IntKind.i32.wrap ((BitVec.ofInt IntKind.i32.bits ((mP x5 x6).1:Int) &&& BitVec.ofInt IntKind.i32.bits 15).toNat:Int))<(16:Int))) (ad ((([48,49,50,51,52,53,54,55,56,57,97,98,99,100,101,102]:ae).getD ((IntKind.i32.wrap ((BitVec.ofInt IntKind.i32.bits ((mP x5 x6).1:Int) &&& BitVec.ofInt IntKind.i32.bits 15).toNat:Int)).toNat) 0).toNat:Int) yp (fun Im=>dJ Im x5 (x6+(mP x5 x6).2)))))))else (ak ((mP x5 x6).1:Int) x4 (fun IT JG=>dJ JG x5 (x6+(mP x5 x6).2))))))else (e0 x4)
def KG (K:Ex→St→Option R) (rc:nt→Option R) (d:nt):Option R:=lp ad fq af ak (fun z0 z1 z2=>rc (z0,z1,z2)) d.1 d.2.1 d.2.2 (BV K)
def A3:Nat→Option (Hint×cQ R):=fun i=>match i with
 | 6=>some (xh,(cM rE rF (Je cP) iK))
 | _=>none
theorem Rc (K:Ex→St→Option R) (rc:St→Option R) (d:nt):roundOf tt (cT (wy bS aj ad fq af ak)) (A3 cP) 0 ((az (aX Tryz.f123)).getD 0 .skip) xh (Ac d) rc K=KG ad fq af ak K (fun d=>rc (Ac d)) d:=by kernel_rfl
def wz (x1:ae) (k0:ae→Bool→Option R):Option R :=
 bS x1 (fun y2=>bif (!y2)then (k0 ([]:ae) false)else (aj 34 (fun y3=>cP (List.length y3+List.length x1+64) y3 x1 0 (fun Hm=>ad 34 Hm (fun Ql=>k0 (xq Ql) true)))))
theorem quote_Quote_ok:dO (R:=R) tt (wy bS aj ad fq af ak) (A3 cP) false Tryz.f123 LK LL (Rb (wz bS aj ad cP)):=fun x y k=>by kernel_rfl
end
theorem Zs:cE (R:=R) Tryz.prog (wy (R:=R) bS aj ad fq af ak) := .c (Fj R) <| .f (jT R _ (jS R _ (ie _))) rfl <| .c (XC R) <| .d (fW R) rfl <| .d (oW R) rfl <| .s (ZX) Sa <| .n
def cP:BU R
 | 0,_,_,_,_=>none
 | n+1,gf,gk,gw,e0=>lp ad fq af ak (fun gf gk gw=>cP n gf gk gw e0) gf gk gw e0
def KH (K:Ex→St→Option R) (n:Nat) (d:nt):Option R:=cP n d.1 d.2.1 d.2.2 (BV K)
theorem Ug (other:cQ R) (ho:hG tt (cT (wy (R:=R) bS aj ad fq af ak)) (A3 (R:=R) cP) 0 ((az (aX Tryz.f123)).getD 0 .skip) xh other):hG tt (cT (wy (R:=R) bS aj ad fq af ak)) (A3 (R:=R) cP) 0 ((az (aX Tryz.f123)).getD 0 .skip) xh (cM rE rF (Je (cP)) other) :=
 cS (A:=KH) ho (dX Ac (KG ad fq af ak) (KH) (fun _ _=>by kernel_rfl) (Rc bS aj ad fq af ak cP) (fun _ _ _=>by kernel_rfl)) KF Wn (fun _ _=>by kernel_rfl) (fun _ _ _=>by kernel_rfl)
def eF:yg R:=fun x1 k0=>wz bS aj ad cP x1 k0
theorem Wo (R:Type):∀a∈az (aX Tryz.f123),gN tt (cT (wy (R:=R) bS aj ad fq af ak)) (A3 (R:=R) cP) 0 a:=by
 refine fb 1 (by kernel_rfl) fun i hi => ?_
 match i,hi with
 | 0,_=>exact cA (by kernel_rfl) (Ug _ dy)
 | n+1,hi=>omega
theorem My (R:Type):kM Tryz.prog 123 (LM (eF (R:=R))):=br TT mixed (Zs (R:=R)) rfl rfl rfl rfl (Wo R) (quote_Quote_ok bS aj ad fq af ak cP)
abbrev rG (R:Type):Type:=ae→((List Int)→Option R)→Option R
abbrev Ad:List cU := [.leaf (.str), .leaf (.ptr 0 0)]
abbrev Ae:List aU := [.cells [.ptr 1 0], .mZ (.bB)]
def Gt (fn:rG R):lC R Ad Ae:=fun x y k=>fn x.1 (fun q0=>k (.tuple []) [.cells [.ptr 1 0], .mZ (.sl (.int .u8) q0 (.own 2)), .tok])
def HA (fn:rG R):=aG Ad Ae (Gt fn)
section
variable (eF:yg R) (ai:dS R)
def HB:List (oo R) := [(123,true,(LM eF av)),(124,false,(gZ ai av))]
def HC (x1:ae) (k0:(List Int)→Option R):Option R :=
 eF x1 (fun y2 y3=>ai y2 (fun y4 y5=>k0 y5))
theorem Rd:dO (R:=R) tt (HB eF ai) sS false Tryz.f122 Ad Ae (Gt (HC eF ai)):=fun x y k=>by kernel_rfl
end
theorem PQ:cE (R:=R) Tryz.prog (HB (R:=R) eF ai) := .c (My R) <| .d (jj R) rfl <| .n
def dL:rG R:=fun x1 k0=>HC eF ai x1 k0
theorem Ou (R:Type):kM Tryz.prog 122 (HA (dL (R:=R))):=br TT mixed (PQ (R:=R)) rfl rfl rfl rfl cq (Rd eF ai)
abbrev mX (R:Type):Type:=ae→(List Int)→((List Int)→Option R)→Option R
abbrev Af:List cU := [.leaf (.str), .leaf (.ptr 0 0)]
abbrev Ag:List aU := [.cells [.ptr 1 0], .mZ (.TW (.int .u8) 2), .tok]
def Gu (fn:mX R):lC R Af Ag:=fun x y k=>fn x.1 y.2.1 (fun q0=>k (.tuple []) [.cells [.ptr 1 0], .mZ (.sl (.int .u8) q0 (.own 3)), .dead, .tok])
def Ah (fn:mX R):=aG Af Ag (Gu fn)
section
variable (eF:yg R) (af:dp R)
def HD:List (oo R) := [(123,true,(LM eF av)),(124,false,(fo af av))]
def HE (x1:ae) (x2:List Int) (k0:(List Int)→Option R):Option R :=
 eF x1 (fun y3 y4=>af y3 x2 (fun y5 y6=>k0 y6))
theorem Re:dO (R:=R) tt (HD eF af) sS false Tryz.f122 Af Ag (Gu (HE eF af)):=fun x y k=>by kernel_rfl
end
theorem PR:cE (R:=R) Tryz.prog (HD (R:=R) eF af) := .c (My R) <| .d (fW R) rfl <| .n
def aM:mX R:=fun x1 x2 k0=>HE eF af x1 x2 k0
theorem DJ (R:Type):kM Tryz.prog 122 (Ah (aM (R:=R))):=br TT mixed (PR (R:=R)) rfl rfl rfl rfl cq (Re eF af)
abbrev dv (R:Type):Type:=Json→(List Int)→((List Int)→Option R)→Option R
abbrev iE:List cU := [.leaf (.ptr 0 0), .agg [.int .i64, .int .i64, .int .i64, .str, .sl .str, .sl .json]]
abbrev iF:List aU := [.mZ (.TW (.int .u8) 1), .tok]
def eO (fn:dv R):lC R iE iF:=fun x y k=>fn (⟨x.2.1.1,⟨x.2.1.2.1,x.2.1.2.2.1⟩,x.2.1.2.2.2.1,x.2.1.2.2.2.2.1,x.2.1.2.2.2.2.2.1⟩:Json) y.1 (fun q0=>k (.tuple []) [.mZ (.sl (.int .u8) q0 (.own 2)), .dead, .tok])
def KI (fn:dv R):=aG iE iF (eO fn)
abbrev tW (R:Type):Type:=Nat→ae→(List Json)→Int→Int→(List Int)→Json→(ae→(List Int)→Option R)→Option R
def oI:Hint := { live := [2,3,4,5,43,44,45],own := [],rows := [],cells := [],drop := [],out := [2,5] }
abbrev jr:Type:=ae×(List Json)×Int×Int×(List Int)×Json
def sf:jr→St:=fun d=>⟨U 2 (.ptr 2 0 :: .ptr 3 0 :: .func 122 [] [.ptr 2 0] :: .str d.1::U 37 (.sl .json d.2.1 .no :: .int .i64 d.2.2.1 :: .int .i64 d.2.2.2.1::U 28 ([]))), [.mZ (.sl (.int .u8) d.2.2.2.2.1 (.own 4)), .dead, .cells [.ptr 0 0], .cells [.int .i64 d.2.2.2.2.2.kind, .int .i64 d.2.2.2.2.2.num.aq, .int .i64 d.2.2.2.2.2.num.exp, .str d.2.2.2.2.2.text, .sl .str d.2.2.2.2.2.names .no, .sl .json d.2.2.2.2.2.items .no], .tok]⟩
def tX (K:Ex→St→Option R) (q0:ae) (q1:List Int):Option R:=K (.exit 1) ⟨U 2 (.ptr 2 0::U 2 (.str q0::U 68 ([]))), [.mZ (.sl (.int .u8) q1 (.own 3)), .dead, .cells [.ptr 0 0], .tok]⟩
abbrev lq:List cU:=PU 2 (.leaf (.ptr 2 0) :: .leaf (.ptr 3 0) :: .func 122 [] [.ptr 2 0] :: .leaf (.str)::PU 37 (.leaf (.sl .json) :: .leaf (.int .i64) :: .leaf (.int .i64)::PU 28 ([])))
abbrev lr:List aU := [.mZ (.TW (.int .u8) 4), .dead, .cells [.ptr 0 0], .cells [.int .i64, .int .i64, .int .i64, .str, .sl .str, .sl .json], .tok]
def DK (x:cU.bT lq) (y:aU.bT lr):Nat:=(List.length x.2.2.2.2.2.1+List.length ((t8 (t8 (t8 (t8 (t8 x))))).2.2.2.1)+Int.natAbs ((t8 (t8 (t8 (t8 (t8 x))))).2.2.2.2.1)+Int.natAbs ((t8 (t8 (t8 (t8 (t8 x))))).2.2.2.2.2.1)+List.length y.1+Json.fu (⟨y.2.2.2.1.1,⟨y.2.2.2.1.2.1,y.2.2.2.1.2.2.1⟩,y.2.2.2.1.2.2.2.1,y.2.2.2.1.2.2.2.2.1,y.2.2.2.1.2.2.2.2.2.1⟩:Json)+64)
def Ov (x:cU.bT lq) (y:aU.bT lr):jr:=(x.2.2.2.2.2.1,(t8 (t8 (t8 (t8 (t8 x))))).2.2.2.1,(t8 (t8 (t8 (t8 (t8 x))))).2.2.2.2.1,(t8 (t8 (t8 (t8 (t8 x))))).2.2.2.2.2.1,y.1,(⟨y.2.2.2.1.1,⟨y.2.2.2.1.2.1,y.2.2.2.1.2.2.1⟩,y.2.2.2.1.2.2.2.1,y.2.2.2.1.2.2.2.2.1,y.2.2.2.1.2.2.2.2.2.1⟩:Json))
def Cn (L:tW R):xp R lq lr:=fun x y K=>L (DK x y) x.2.2.2.2.2.1 ((t8 (t8 (t8 (t8 (t8 x))))).2.2.2.1) ((t8 (t8 (t8 (t8 (t8 x))))).2.2.2.2.1) ((t8 (t8 (t8 (t8 (t8 x))))).2.2.2.2.2.1) y.1 (⟨y.2.2.2.1.1,⟨y.2.2.2.1.2.1,y.2.2.2.1.2.2.1⟩,y.2.2.2.1.2.2.2.1,y.2.2.2.1.2.2.2.2.1,y.2.2.2.1.2.2.2.2.2.1⟩:Json) (tX K)
section
variable (bR:tp R) (ad:er R) (af:dp R) (aB:dv R) (aM:mX R) (aW:tW R)
def nu:List (oo R) := [(125,true,(G1 bR av)),(126,false,(ir ad av)),(124,false,(fo af av)),(83,false,(aG iE iF (eO aB) av)),(122,false,(Ah aM av))]
def js (dJ:ae→(List Json)→Int→Int→(List Int)→Json→Option R) (ng:ae) (qM:List Json) (lF:Int) (oE:Int) (AV:List Int) (va:Json) (e0:ae→(List Int)→Option R):Option R :=
 bif (decide (oE<lF))then (bX (decide ((0:Int)≤oE)&&decide (oE<qM.length)) (bif (decide (oE>(0:Int)))then (ad 44 AV (fun Fe=>bif (va.kind==7)then (bX (decide ((0:Int)≤oE)&&decide (oE<va.names.length)) (aM (va.names.getD oE.toNat (Ty.aR .str)) Fe (fun y22=>ad 58 y22 (fun ZY=>aB (⟨(qM.getD oE.toNat (Ty.aR .json)).kind,⟨(qM.getD oE.toNat (Ty.aR .json)).num.aq,(qM.getD oE.toNat (Ty.aR .json)).num.exp⟩,(qM.getD oE.toNat (Ty.aR .json)).text,(qM.getD oE.toNat (Ty.aR .json)).names,(qM.getD oE.toNat (Ty.aR .json)).items⟩:Json) ZY (fun VE=>dJ ng qM lF (IntKind.i64.wrap (oE+1)) VE (⟨va.kind,⟨va.num.aq,va.num.exp⟩,va.text,va.names,va.items⟩:Json))))))else (aB (⟨(qM.getD oE.toNat (Ty.aR .json)).kind,⟨(qM.getD oE.toNat (Ty.aR .json)).num.aq,(qM.getD oE.toNat (Ty.aR .json)).num.exp⟩,(qM.getD oE.toNat (Ty.aR .json)).text,(qM.getD oE.toNat (Ty.aR .json)).names,(qM.getD oE.toNat (Ty.aR .json)).items⟩:Json) Fe (fun JF=>dJ ng qM lF (IntKind.i64.wrap (oE+1)) JF (⟨va.kind,⟨va.num.aq,va.num.exp⟩,va.text,va.names,va.items⟩:Json)))))else (bif (va.kind==7)then (bX (decide ((0:Int)≤oE)&&decide (oE<va.names.length)) (aM (va.names.getD oE.toNat (Ty.aR .str)) AV (fun Sz=>ad 58 Sz (fun Fi=>aB (⟨(qM.getD oE.toNat (Ty.aR .json)).kind,⟨(qM.getD oE.toNat (Ty.aR .json)).num.aq,(qM.getD oE.toNat (Ty.aR .json)).num.exp⟩,(qM.getD oE.toNat (Ty.aR .json)).text,(qM.getD oE.toNat (Ty.aR .json)).names,(qM.getD oE.toNat (Ty.aR .json)).items⟩:Json) Fi (fun uR=>dJ ng qM lF (IntKind.i64.wrap (oE+1)) uR (⟨va.kind,⟨va.num.aq,va.num.exp⟩,va.text,va.names,va.items⟩:Json))))))else (aB (⟨(qM.getD oE.toNat (Ty.aR .json)).kind,⟨(qM.getD oE.toNat (Ty.aR .json)).num.aq,(qM.getD oE.toNat (Ty.aR .json)).num.exp⟩,(qM.getD oE.toNat (Ty.aR .json)).text,(qM.getD oE.toNat (Ty.aR .json)).names,(qM.getD oE.toNat (Ty.aR .json)).items⟩:Json) AV (fun U6=>dJ ng qM lF (IntKind.i64.wrap (oE+1)) U6 (⟨va.kind,⟨va.num.aq,va.num.exp⟩,va.text,va.names,va.items⟩:Json))))))else (e0 ng AV)
def DL (K:Ex→St→Option R) (rc:jr→Option R) (d:jr):Option R:=js ad aB aM (fun z0 z1 z2 z3 z4 z5=>rc (z0,z1,z2,z3,z4,z5)) d.1 d.2.1 d.2.2.1 d.2.2.2.1 d.2.2.2.2.1 d.2.2.2.2.2 (tX K)
def rH:Nat→Option (Hint×cQ R):=fun i=>match i with
 | 18=>some (oI,(cM lq lr (Cn aW) iK))
 | _=>none
theorem J0 (K:Ex→St→Option R) (rc:St→Option R) (d:jr):roundOf tt (cT (nu bR ad af aB aM)) (rH aW) 2 ((az (aX Tryz.f83)).getD 0 .skip) oI (sf d) rc K=DL ad aB aM K (fun d=>rc (sf d)) d:=by kernel_rfl
def DM (x1:Json) (x2:List Int) (k0:(List Int)→Option R):Option R :=
 let j33:=fun (z13:ae)=>bX (decide ((0:Int)<z13.length)) (ad ((z13.getD 0 0).toNat:Int) x2 (fun IT=>aW (List.length z13+List.length x1.items+Int.natAbs (x1.items.length:Int)+Int.natAbs 0+List.length IT+Json.fu (⟨x1.kind,⟨x1.num.aq,x1.num.exp⟩,x1.text,x1.names,x1.items⟩:Json)+64) z13 x1.items (x1.items.length:Int) 0 IT (⟨x1.kind,⟨x1.num.aq,x1.num.exp⟩,x1.text,x1.names,x1.items⟩:Json) (fun W0 y31=>bX (decide ((1:Int)<W0.length)) (ad ((W0.getD 1 0).toNat:Int) y31 (fun V0=>k0 V0))))); bif (x1.kind==1)then (af ([110,117,108,108]:ae) x2 (fun y3 y4=>k0 y4))else (bif (x1.kind==2)then (af ([102,97,108,115,101]:ae) x2 (fun y5 y6=>k0 y6))else (bif (x1.kind==3)then (af ([116,114,117,101]:ae) x2 (fun y7 y8=>k0 y8))else (bif (x1.kind==4)then (bR x1.num (fun y9=>af y9 x2 (fun p9 n0=>k0 n0)))else (bif (x1.kind==5)then (aM x1.text x2 (fun yp=>k0 yp))else (bif (x1.kind==7)then (j33 ([123,125]:ae))else (j33 ([91,93]:ae)))))))
theorem Uh:dO (R:=R) tt (nu bR ad af aB aM) (rH aW) false Tryz.f83 iE iF (eO (DM bR ad af aM aW)):=fun x y k=>by kernel_rfl
end
theorem SF (aB:dv R) (oj:aA.Spec.Ok Tryz.prog 83 (aG iE iF (eO aB) av)):cE (R:=R) Tryz.prog (nu (R:=R) bR ad af aB aM) := .c (IX R) <| .d (jT R) rfl <| .d (fW R) rfl <| .f oj rfl <| .d (DJ R) rfl <| .n
def aW (aB:dv R):tW R
 | 0,_,_,_,_,_,_,_=>none
 | n+1,gf,gk,gw,mA,wC,xH,e0=>js ad aB aM (fun gf gk gw mA wC xH=>aW aB n gf gk gw mA wC xH e0) gf gk gw mA wC xH e0
def DN (aB:dv R) (K:Ex→St→Option R) (n:Nat) (d:jr):Option R:=aW aB n d.1 d.2.1 d.2.2.1 d.2.2.2.1 d.2.2.2.2.1 d.2.2.2.2.2 (tX K)
theorem Mz (aB:dv R) (other:cQ R) (ho:hG tt (cT (nu (R:=R) bR ad af aB aM)) (rH (R:=R) (aW aB)) 2 ((az (aX Tryz.f83)).getD 0 .skip) oI other):hG tt (cT (nu (R:=R) bR ad af aB aM)) (rH (R:=R) (aW aB)) 2 ((az (aX Tryz.f83)).getD 0 .skip) oI (cM lq lr (Cn (aW aB)) other) :=
 cS (A:=DN aB) ho (dX sf (DL ad aB aM) (DN aB) (fun _ _=>by kernel_rfl) (J0 bR ad af aB aM (aW aB)) (fun _ _ _=>by kernel_rfl)) DK Ov (fun _ _=>by kernel_rfl) (fun _ _ _=>by kernel_rfl)
def DO (aB:dv R):dv R:=fun x1 x2 k0=>DM bR ad af aM (aW aB) x1 x2 k0
theorem PS (R:Type) (aB:dv R) (oj:aA.Spec.Ok Tryz.prog 83 (aG iE iF (eO aB) av)):∀a∈az (aX Tryz.f83),gN tt (cT (nu (R:=R) bR ad af aB aM)) (rH (R:=R) (aW aB)) 2 a:=by
 refine fb 1 (by kernel_rfl) fun i hi => ?_
 match i,hi with
 | 0,_=>exact cA (by kernel_rfl) (Mz aB _ dy)
 | n+1,hi=>omega
theorem PT (R:Type) (aB:dv R) (oj:aA.Spec.Ok Tryz.prog 83 (aG iE iF (eO aB) av)):kM Tryz.prog 83 (KI (DO aB)):=br TT mixed (SF aB oj) rfl rfl rfl rfl (PS R aB oj) (Uh bR ad af aB aM (aW aB))
def dw:Nat→dv R
 | 0,_,_,_=>none
 | n+1,gf,gk,k0'=>DO (dw n) gf gk k0'
theorem json_write_9953_N_succ (n:Nat):dw (R:=R) (n+1)=DO (dw n):=by kernel_rfl
theorem Rf (R:Type):∀n,aA.Spec.Ok Tryz.prog 83 (aG iE iF (eO (dw (R:=R) n)) av) :=
 Ca (run:=fun n=>eO (dw (R:=R) n)) (fun x y k=>by kernel_rfl) fun n hyp=>PT R (dw n) hyp av (ie _)
def cg:dv R:=fun x1 x2 k0=>dw (Json.depth x1+2) x1 x2 k0
theorem Rg (R:Type):eO (R:=R) cg=fun x y k=>eO (dw (Json.depth (⟨x.2.1.1,⟨x.2.1.2.1,x.2.1.2.2.1⟩,x.2.1.2.2.2.1,x.2.1.2.2.2.2.1,x.2.1.2.2.2.2.2.1⟩:Json)+2)) x y k:=by kernel_rfl
theorem Rh (R:Type) (other:aA.Spec R) (ho:aA.Spec.Ok Tryz.prog 83 other):aA.Spec.Ok Tryz.prog 83 (aG iE iF (eO cg) other) :=
 IG (Mb (run:=fun n=>eO (dw (R:=R) n)) (fun x y=>(Json.depth (⟨x.2.1.1,⟨x.2.1.2.1,x.2.1.2.2.1⟩,x.2.1.2.2.2.1,x.2.1.2.2.2.2.1,x.2.1.2.2.2.2.2.1⟩:Json)+2)) ho (Rf R)) (Rg R)
variable {R:Type}
abbrev vp (R:Type):Type:=Json→((List Int)→Option R)→Option R
abbrev DP:List cU := [.leaf (.ptr 0 0), .agg [.int .i64, .int .i64, .int .i64, .str, .sl .str, .sl .json]]
abbrev DQ:List aU := [.mZ (.bB)]
def Jf (fn:vp R):lC R DP DQ:=fun x y k=>fn (⟨x.2.1.1,⟨x.2.1.2.1,x.2.1.2.2.1⟩,x.2.1.2.2.2.1,x.2.1.2.2.2.2.1,x.2.1.2.2.2.2.2.1⟩:Json) (fun q0=>k (.tuple []) [.mZ (.sl (.int .u8) q0 (.own 1)), .tok])
def KJ (fn:vp R):=aG DP DQ (Jf fn)
abbrev tY (R:Type):Type:=Nat→ae→(List Json)→Int→Int→(List Int)→Json→(ae→(List Int)→Option R)→Option R
def oJ:Hint := { live := [2,3,4,5,43,44,45],own := [],rows := [],cells := [],drop := [],out := [2,5] }
abbrev jt:Type:=ae×(List Json)×Int×Int×(List Int)×Json
def si:jt→St:=fun d=>⟨U 2 (.ptr 1 0 :: .ptr 2 0 :: .func 122 [] [.ptr 1 0] :: .str d.1::U 37 (.sl .json d.2.1 .no :: .int .i64 d.2.2.1 :: .int .i64 d.2.2.2.1::U 28 ([]))), [.mZ (.sl (.int .u8) d.2.2.2.2.1 (.own 3)), .cells [.ptr 0 0], .cells [.int .i64 d.2.2.2.2.2.kind, .int .i64 d.2.2.2.2.2.num.aq, .int .i64 d.2.2.2.2.2.num.exp, .str d.2.2.2.2.2.text, .sl .str d.2.2.2.2.2.names .no, .sl .json d.2.2.2.2.2.items .no], .tok]⟩
def tZ (K:Ex→St→Option R) (q0:ae) (q1:List Int):Option R:=K (.exit 1) ⟨U 2 (.ptr 1 0::U 2 (.str q0::U 68 ([]))), [.mZ (.sl (.int .u8) q1 (.own 2)), .cells [.ptr 0 0], .tok]⟩
abbrev lu:List cU:=PU 2 (.leaf (.ptr 1 0) :: .leaf (.ptr 2 0) :: .func 122 [] [.ptr 1 0] :: .leaf (.str)::PU 37 (.leaf (.sl .json) :: .leaf (.int .i64) :: .leaf (.int .i64)::PU 28 ([])))
abbrev lv:List aU := [.mZ (.TW (.int .u8) 3), .cells [.ptr 0 0], .cells [.int .i64, .int .i64, .int .i64, .str, .sl .str, .sl .json], .tok]
def DR (x:cU.bT lu) (y:aU.bT lv):Nat:=(List.length x.2.2.2.2.2.1+List.length ((t8 (t8 (t8 (t8 (t8 x))))).2.2.2.1)+Int.natAbs ((t8 (t8 (t8 (t8 (t8 x))))).2.2.2.2.1)+Int.natAbs ((t8 (t8 (t8 (t8 (t8 x))))).2.2.2.2.2.1)+List.length y.1+Json.fu (⟨y.2.2.1.1,⟨y.2.2.1.2.1,y.2.2.1.2.2.1⟩,y.2.2.1.2.2.2.1,y.2.2.1.2.2.2.2.1,y.2.2.1.2.2.2.2.2.1⟩:Json)+64)
def Ow (x:cU.bT lu) (y:aU.bT lv):jt:=(x.2.2.2.2.2.1,(t8 (t8 (t8 (t8 (t8 x))))).2.2.2.1,(t8 (t8 (t8 (t8 (t8 x))))).2.2.2.2.1,(t8 (t8 (t8 (t8 (t8 x))))).2.2.2.2.2.1,y.1,(⟨y.2.2.1.1,⟨y.2.2.1.2.1,y.2.2.1.2.2.1⟩,y.2.2.1.2.2.2.1,y.2.2.1.2.2.2.2.1,y.2.2.1.2.2.2.2.2.1⟩:Json))
def Co (L:tY R):xp R lu lv:=fun x y K=>L (DR x y) x.2.2.2.2.2.1 ((t8 (t8 (t8 (t8 (t8 x))))).2.2.2.1) ((t8 (t8 (t8 (t8 (t8 x))))).2.2.2.2.1) ((t8 (t8 (t8 (t8 (t8 x))))).2.2.2.2.2.1) y.1 (⟨y.2.2.1.1,⟨y.2.2.1.2.1,y.2.2.1.2.2.1⟩,y.2.2.1.2.2.2.1,y.2.2.1.2.2.2.2.1,y.2.2.1.2.2.2.2.2.1⟩:Json) (tZ K)
section
variable (bR:tp R) (aj:ej R) (ad:er R) (ai:dS R) (cg:dv R) (dL:rG R) (aM:mX R) (bD:tY R)
def nv:List (oo R) := [(125,true,(G1 bR av)),(126,false,(ir ad (iq aj av))),(124,false,(gZ ai av)),(83,false,(KI cg av)),(122,false,(Ah aM (HA dL av)))]
def DS (dJ:ae→(List Json)→Int→Int→(List Int)→Json→Option R) (Kn:ae) (ng:List Json) (qM:Int) (lF:Int) (oE:List Int) (AV:Json) (e0:ae→(List Int)→Option R):Option R :=
 bif (decide (lF<qM))then (bX (decide ((0:Int)≤lF)&&decide (lF<ng.length)) (bif (decide (lF>(0:Int)))then (ad 44 oE (fun Sw=>bif (AV.kind==7)then (bX (decide ((0:Int)≤lF)&&decide (lF<AV.names.length)) (aM (AV.names.getD lF.toNat (Ty.aR .str)) Sw (fun Fe=>ad 58 Fe (fun y22=>cg (⟨(ng.getD lF.toNat (Ty.aR .json)).kind,⟨(ng.getD lF.toNat (Ty.aR .json)).num.aq,(ng.getD lF.toNat (Ty.aR .json)).num.exp⟩,(ng.getD lF.toNat (Ty.aR .json)).text,(ng.getD lF.toNat (Ty.aR .json)).names,(ng.getD lF.toNat (Ty.aR .json)).items⟩:Json) y22 (fun ZY=>dJ Kn ng qM (IntKind.i64.wrap (lF+1)) ZY (⟨AV.kind,⟨AV.num.aq,AV.num.exp⟩,AV.text,AV.names,AV.items⟩:Json))))))else (cg (⟨(ng.getD lF.toNat (Ty.aR .json)).kind,⟨(ng.getD lF.toNat (Ty.aR .json)).num.aq,(ng.getD lF.toNat (Ty.aR .json)).num.exp⟩,(ng.getD lF.toNat (Ty.aR .json)).text,(ng.getD lF.toNat (Ty.aR .json)).names,(ng.getD lF.toNat (Ty.aR .json)).items⟩:Json) Sw (fun VE=>dJ Kn ng qM (IntKind.i64.wrap (lF+1)) VE (⟨AV.kind,⟨AV.num.aq,AV.num.exp⟩,AV.text,AV.names,AV.items⟩:Json)))))else (bif (AV.kind==7)then (bX (decide ((0:Int)≤lF)&&decide (lF<AV.names.length)) (aM (AV.names.getD lF.toNat (Ty.aR .str)) oE (fun JF=>ad 58 JF (fun Sz=>cg (⟨(ng.getD lF.toNat (Ty.aR .json)).kind,⟨(ng.getD lF.toNat (Ty.aR .json)).num.aq,(ng.getD lF.toNat (Ty.aR .json)).num.exp⟩,(ng.getD lF.toNat (Ty.aR .json)).text,(ng.getD lF.toNat (Ty.aR .json)).names,(ng.getD lF.toNat (Ty.aR .json)).items⟩:Json) Sz (fun Fi=>dJ Kn ng qM (IntKind.i64.wrap (lF+1)) Fi (⟨AV.kind,⟨AV.num.aq,AV.num.exp⟩,AV.text,AV.names,AV.items⟩:Json))))))else (cg (⟨(ng.getD lF.toNat (Ty.aR .json)).kind,⟨(ng.getD lF.toNat (Ty.aR .json)).num.aq,(ng.getD lF.toNat (Ty.aR .json)).num.exp⟩,(ng.getD lF.toNat (Ty.aR .json)).text,(ng.getD lF.toNat (Ty.aR .json)).names,(ng.getD lF.toNat (Ty.aR .json)).items⟩:Json) oE (fun uR=>dJ Kn ng qM (IntKind.i64.wrap (lF+1)) uR (⟨AV.kind,⟨AV.num.aq,AV.num.exp⟩,AV.text,AV.names,AV.items⟩:Json))))))else (e0 Kn oE)
def DT (K:Ex→St→Option R) (rc:jt→Option R) (d:jt):Option R:=DS ad cg aM (fun z0 z1 z2 z3 z4 z5=>rc (z0,z1,z2,z3,z4,z5)) d.1 d.2.1 d.2.2.1 d.2.2.2.1 d.2.2.2.2.1 d.2.2.2.2.2 (tZ K)
def rI:Nat→Option (Hint×cQ R):=fun i=>match i with
 | 18=>some (oJ,(cM lu lv (Co bD) iK))
 | _=>none
theorem J1 (K:Ex→St→Option R) (rc:St→Option R) (d:jt):roundOf tt (cT (nv bR aj ad ai cg dL aM)) (rI bD) 1 ((az (aX Tryz.f83)).getD 0 .skip) oJ (si d) rc K=DT ad cg aM K (fun d=>rc (si d)) d:=by kernel_rfl
def DU (x1:Json) (k0:(List Int)→Option R):Option R :=
 let j32:=fun (z12:ae)=>bX (decide ((0:Int)<z12.length)) (aj ((z12.getD 0 0).toNat:Int) (fun Im=>bD (List.length z12+List.length x1.items+Int.natAbs (x1.items.length:Int)+Int.natAbs 0+List.length Im+Json.fu (⟨x1.kind,⟨x1.num.aq,x1.num.exp⟩,x1.text,x1.names,x1.items⟩:Json)+64) z12 x1.items (x1.items.length:Int) 0 Im (⟨x1.kind,⟨x1.num.aq,x1.num.exp⟩,x1.text,x1.names,x1.items⟩:Json) (fun U6 W0=>bX (decide ((1:Int)<U6.length)) (ad ((U6.getD 1 0).toNat:Int) W0 (fun y31=>k0 y31))))); bif (x1.kind==1)then (ai ([110,117,108,108]:ae) (fun y2 y3=>k0 y3))else (bif (x1.kind==2)then (ai ([102,97,108,115,101]:ae) (fun y4 y5=>k0 y5))else (bif (x1.kind==3)then (ai ([116,114,117,101]:ae) (fun y6 y7=>k0 y7))else (bif (x1.kind==4)then (bR x1.num (fun y8=>ai y8 (fun y9 p9=>k0 p9)))else (bif (x1.kind==5)then (dL x1.text (fun n0=>k0 n0))else (bif (x1.kind==7)then (j32 ([123,125]:ae))else (j32 ([91,93]:ae)))))))
theorem Ui:dO (R:=R) tt (nv bR aj ad ai cg dL aM) (rI bD) false Tryz.f83 DP DQ (Jf (DU bR aj ad ai dL bD)):=fun x y k=>by kernel_rfl
end
theorem SG:cE (R:=R) Tryz.prog (nv (R:=R) bR aj ad ai cg dL aM) := .c (IX R) <| .f (jT R _ (jS R _ (ie _))) rfl <| .d (jj R) rfl <| .f (Rh R _ (ie _)) rfl <| .f (DJ R _ (Ou R _ (ie _))) rfl <| .n
def bD:tY R
 | 0,_,_,_,_,_,_,_=>none
 | n+1,gf,gk,gw,mA,wC,xH,e0=>DS ad cg aM (fun gf gk gw mA wC xH=>bD n gf gk gw mA wC xH e0) gf gk gw mA wC xH e0
def DV (K:Ex→St→Option R) (n:Nat) (d:jt):Option R:=bD n d.1 d.2.1 d.2.2.1 d.2.2.2.1 d.2.2.2.2.1 d.2.2.2.2.2 (tZ K)
theorem MA (other:cQ R) (ho:hG tt (cT (nv (R:=R) bR aj ad ai cg dL aM)) (rI (R:=R) bD) 1 ((az (aX Tryz.f83)).getD 0 .skip) oJ other):hG tt (cT (nv (R:=R) bR aj ad ai cg dL aM)) (rI (R:=R) bD) 1 ((az (aX Tryz.f83)).getD 0 .skip) oJ (cM lu lv (Co (bD)) other) :=
 cS (A:=DV) ho (dX si (DT ad cg aM) (DV) (fun _ _=>by kernel_rfl) (J1 bR aj ad ai cg dL aM bD) (fun _ _ _=>by kernel_rfl)) DR Ow (fun _ _=>by kernel_rfl) (fun _ _ _=>by kernel_rfl)
def hY:vp R:=fun x1 k0=>DU bR aj ad ai dL bD x1 k0
theorem PV (R:Type):∀a∈az (aX Tryz.f83),gN tt (cT (nv (R:=R) bR aj ad ai cg dL aM)) (rI (R:=R) bD) 1 a:=by
 refine fb 1 (by kernel_rfl) fun i hi => ?_
 match i,hi with
 | 0,_=>exact cA (by kernel_rfl) (MA _ dy)
 | n+1,hi=>omega
theorem Ri (R:Type):kM Tryz.prog 83 (KJ (hY (R:=R))):=br TT mixed (SG (R:=R)) rfl rfl rfl rfl (PV R) (Ui bR aj ad ai cg dL aM bD)
abbrev A4 (R:Type):Type:=Json→(ae→Option R)→Option R
abbrev Ox:List cU := [.agg [.int .i64, .int .i64, .int .i64, .str, .sl .str, .sl .json]]
abbrev Oy:List aU := []
def Tp (fn:A4 R):lC R Ox Oy:=fun x y k=>fn (⟨x.1.1,⟨x.1.2.1,x.1.2.2.1⟩,x.1.2.2.2.1,x.1.2.2.2.2.1,x.1.2.2.2.2.2.1⟩:Json) (fun q0=>k (.str q0) [])
def Oz (fn:A4 R):=aG Ox Oy (Tp fn)
section
variable (nL:FT R) (hY:vp R)
def Wp:List (oo R) := [(84,false,(NG R)),(82,true,(VW nL av)),(83,false,(KJ hY av))]
def H9 (x1:Json) (k0:ae→Option R):Option R :=
 nL (⟨x1.kind,⟨x1.num.aq,x1.num.exp⟩,x1.text,x1.names,x1.items⟩:Json) (fun y2=>bif (!y2)then (k0 ([]:ae))else (hY (⟨x1.kind,⟨x1.num.aq,x1.num.exp⟩,x1.text,x1.names,x1.items⟩:Json) (fun y3=>k0 (xq y3))))
theorem json_Print_ok:dO (R:=R) tt (Wp nL hY) sS false Tryz.f35 Ox Oy (Tp (H9 nL hY)):=fun x y k=>by kernel_rfl
end
theorem json_Print_EOk:cE (R:=R) Tryz.prog (Wp (R:=R) nL hY) := .s (ZX) Sa <| .c (Ze R) <| .d (Ri R) rfl <| .n
def eG:A4 R:=fun x1 k0=>H9 nL hY x1 k0
theorem Ps (R:Type):kM Tryz.prog 35 (Oz (eG (R:=R))):=br TT mixed (json_Print_EOk (R:=R)) rfl rfl rfl rfl cq (json_Print_ok nL hY)
abbrev KK (R:Type):Type:=ae→(Int→Option R)→Option R
abbrev Uj:List cU := [.leaf (.str)]
abbrev Uk:List aU := []
def YK (fn:KK R):lC R Uj Uk:=fun x y k=>fn x.1 (fun q0=>k (.int .u32 q0) [])
def seal_Sum_s (fn:KK R):=aG Uj Uk (YK fn)
abbrev Hd (R:Type):Type:=Nat→Int→Nat→Int→Int→(List Int)→(Int→Option R)→Option R
def DW:Hint := { live := [3,7,8,9],own := [],rows := [],cells := [],drop := [],out := [2,3] }
abbrev ua:Type:=Int×Nat×Int×Int×(List Int)
def Fv:ua→St:=fun d=>⟨U 3 (.int .u32 d.1::U 3 (.row 0 d.2.1 :: .int .i64 d.2.2.1 :: .int .i64 d.2.2.2.1::U 10 ([]))), [.row (.int .u8) d.2.2.2.2]⟩
def He (K:Ex→St→Option R) (q0:Int):Option R:=K (.exit 0) ⟨U 3 (.int .u32 q0::U 16 ([])), []⟩
abbrev yh:List cU:=PU 3 (.leaf (.int .u32)::PU 3 (.leaf (.row 0) :: .leaf (.int .i64) :: .leaf (.int .i64)::PU 10 ([])))
abbrev yi:List aU := [.row (.int .u8)]
def Rj (x:cU.bT yh) (y:aU.bT yi):Nat:=(Int.natAbs x.2.2.2.1+Int.natAbs ((t8 x).1)+Int.natAbs ((t8 x).2.1)+List.length y.1+64)
def seal_Sum_3_0_d (x:cU.bT yh) (y:aU.bT yi):ua:=(x.2.2.2.1,x.2.2.2.2.2.2.2.1,(t8 x).1,(t8 x).2.1,y.1)
def Pt (L:Hd R):xp R yh yi:=fun x y K=>L (Rj x y) x.2.2.2.1 x.2.2.2.2.2.2.2.1 ((t8 x).1) ((t8 x).2.1) y.1 (He K)
section
variable (dZ:Hd R)
def DX (dJ:Int→Nat→Int→Int→(List Int)→Option R) (x2:Int) (x3:Nat) (x4:Int) (x5:Int) (x6:List Int) (e0:Int→Option R):Option R :=
 bif (decide (x5<x4))then (bX (decide ((0:Int)≤x5)&&decide (x5<x3)) (bX (decide (x5.toNat<x6.length)) (dJ (IntKind.u32.wrap ((IntKind.u32.wrap ((BitVec.ofInt IntKind.u32.bits x2 ^^^ BitVec.ofInt IntKind.u32.bits (IntKind.u32.wrap (x6.getD x5.toNat (Ty.aR (.int .u8))))).toNat:Int))*16777619)) x3 x4 (IntKind.i64.wrap (x5+1)) x6)))else (e0 x2)
def Rk (K:Ex→St→Option R) (rc:ua→Option R) (d:ua):Option R:=DX (fun z0 z1 z2 z3 z4=>rc (z0,z1,z2,z3,z4)) d.1 d.2.1 d.2.2.1 d.2.2.2.1 d.2.2.2.2 (He K)
def Jg:Nat→Option (Hint×cQ R):=fun i=>match i with
 | 3=>some (DW,(cM yh yi (Pt dZ) iK))
 | _=>none
theorem Wq (K:Ex→St→Option R) (rc:St→Option R) (d:ua):roundOf tt (cT []) (Jg dZ) 0 ((az (aX Tryz.f67)).getD 0 .skip) DW (Fv d) rc K=Rk K (fun d=>rc (Fv d)) d:=by kernel_rfl
def seal_Sum_X (x1:ae) (k0:Int→Option R):Option R :=
 dZ (Int.natAbs 2166136261+Int.natAbs (x1.length:Int)+Int.natAbs 0+List.length (hJ x1)+64) 2166136261 x1.length (x1.length:Int) 0 (hJ x1) (fun y7=>k0 y7)
theorem seal_Sum_ok:dO (R:=R) tt [] (Jg dZ) false Tryz.f67 Uj Uk (YK (seal_Sum_X dZ)):=fun x y k=>by kernel_rfl
end
def dZ:Hd R
 | 0,_,_,_,_,_,_=>none
 | n+1,gf,gk,gw,mA,wC,e0=>DX (fun gf gk gw mA wC=>dZ n gf gk gw mA wC e0) gf gk gw mA wC e0
def Rl (K:Ex→St→Option R) (n:Nat) (d:ua):Option R:=dZ n d.1 d.2.1 d.2.2.1 d.2.2.2.1 d.2.2.2.2 (He K)
theorem Zt (other:cQ R) (ho:hG tt (cT []) (Jg (R:=R) dZ) 0 ((az (aX Tryz.f67)).getD 0 .skip) DW other):hG tt (cT []) (Jg (R:=R) dZ) 0 ((az (aX Tryz.f67)).getD 0 .skip) DW (cM yh yi (Pt (dZ)) other) :=
 cS (A:=Rl) ho (dX Fv (Rk) (Rl) (fun _ _=>by kernel_rfl) (Wq dZ) (fun _ _ _=>by kernel_rfl)) Rj seal_Sum_3_0_d (fun _ _=>by kernel_rfl) (fun _ _ _=>by kernel_rfl)
def vY:KK R:=fun x1 k0=>seal_Sum_X dZ x1 k0
theorem seal_Sum_loops (R:Type):∀a∈az (aX Tryz.f67),gN tt (cT []) (Jg (R:=R) dZ) 0 a:=by
 refine fb 1 (by kernel_rfl) fun i hi => ?_
 match i,hi with
 | 0,_=>exact cA (by kernel_rfl) (Zt _ dy)
 | n+1,hi=>omega
theorem seal_Sum_S_ok (R:Type):kM Tryz.prog 67 (seal_Sum_s (vY (R:=R))):=br TT mixed .n rfl rfl rfl rfl (seal_Sum_loops R) (seal_Sum_ok dZ)
abbrev rJ (R:Type):Type:=ae→(ae→Option R)→Option R
abbrev Rm:List cU := [.leaf (.str)]
abbrev Rn:List aU := []
def Wr (fn:rJ R):lC R Rm Rn:=fun x y k=>fn x.1 (fun q0=>k (.str q0) [])
def Cp (fn:rJ R):=aG Rm Rn (Wr fn)
section
variable (vY:KK R)
def YL:List (oo R) := [(67,true,(seal_Sum_s vY av))]
def KL (x1:ae) (k0:ae→Option R):Option R :=
 vY x1 (fun y2=>bX (decide ((0:Int)≤(IntKind.u32.wrap ((BitVec.ofInt IntKind.u32.bits y2 &&& BitVec.ofInt IntKind.u32.bits 15).toNat:Int)))&&decide ((IntKind.u32.wrap ((BitVec.ofInt IntKind.u32.bits y2 &&& BitVec.ofInt IntKind.u32.bits 15).toNat:Int))<(16:Int))) (bX (decide ((0:Int)≤(IntKind.u32.wrap ((BitVec.ofInt IntKind.u32.bits (Int.fdiv y2 (2 ^ (min 4 IntKind.u32.bits))) &&& BitVec.ofInt IntKind.u32.bits 15).toNat:Int)))&&decide ((IntKind.u32.wrap ((BitVec.ofInt IntKind.u32.bits (Int.fdiv y2 (2 ^ (min 4 IntKind.u32.bits))) &&& BitVec.ofInt IntKind.u32.bits 15).toNat:Int))<(16:Int))) (bX (decide ((0:Int)≤(IntKind.u32.wrap ((BitVec.ofInt IntKind.u32.bits (Int.fdiv (Int.fdiv y2 (2 ^ (min 4 IntKind.u32.bits))) (2 ^ (min 4 IntKind.u32.bits))) &&& BitVec.ofInt IntKind.u32.bits 15).toNat:Int)))&&decide ((IntKind.u32.wrap ((BitVec.ofInt IntKind.u32.bits (Int.fdiv (Int.fdiv y2 (2 ^ (min 4 IntKind.u32.bits))) (2 ^ (min 4 IntKind.u32.bits))) &&& BitVec.ofInt IntKind.u32.bits 15).toNat:Int))<(16:Int))) (bX (decide ((0:Int)≤(IntKind.u32.wrap ((BitVec.ofInt IntKind.u32.bits (Int.fdiv (Int.fdiv (Int.fdiv y2 (2 ^ (min 4 IntKind.u32.bits))) (2 ^ (min 4 IntKind.u32.bits))) (2 ^ (min 4 IntKind.u32.bits))) &&& BitVec.ofInt IntKind.u32.bits 15).toNat:Int)))&&decide ((IntKind.u32.wrap ((BitVec.ofInt IntKind.u32.bits (Int.fdiv (Int.fdiv (Int.fdiv y2 (2 ^ (min 4 IntKind.u32.bits))) (2 ^ (min 4 IntKind.u32.bits))) (2 ^ (min 4 IntKind.u32.bits))) &&& BitVec.ofInt IntKind.u32.bits 15).toNat:Int))<(16:Int))) (bX (decide ((0:Int)≤(IntKind.u32.wrap ((BitVec.ofInt IntKind.u32.bits (Int.fdiv (Int.fdiv (Int.fdiv (Int.fdiv y2 (2 ^ (min 4 IntKind.u32.bits))) (2 ^ (min 4 IntKind.u32.bits))) (2 ^ (min 4 IntKind.u32.bits))) (2 ^ (min 4 IntKind.u32.bits))) &&& BitVec.ofInt IntKind.u32.bits 15).toNat:Int)))&&decide ((IntKind.u32.wrap ((BitVec.ofInt IntKind.u32.bits (Int.fdiv (Int.fdiv (Int.fdiv (Int.fdiv y2 (2 ^ (min 4 IntKind.u32.bits))) (2 ^ (min 4 IntKind.u32.bits))) (2 ^ (min 4 IntKind.u32.bits))) (2 ^ (min 4 IntKind.u32.bits))) &&& BitVec.ofInt IntKind.u32.bits 15).toNat:Int))<(16:Int))) (bX (decide ((0:Int)≤(IntKind.u32.wrap ((BitVec.ofInt IntKind.u32.bits (Int.fdiv (Int.fdiv (Int.fdiv (Int.fdiv (Int.fdiv y2 (2 ^ (min 4 IntKind.u32.bits))) (2 ^ (min 4 IntKind.u32.bits))) (2 ^ (min 4 IntKind.u32.bits))) (2 ^ (min 4 IntKind.u32.bits))) (2 ^ (min 4 IntKind.u32.bits))) &&& BitVec.ofInt IntKind.u32.bits 15).toNat:Int)))&&decide ((IntKind.u32.wrap ((BitVec.ofInt IntKind.u32.bits (Int.fdiv (Int.fdiv (Int.fdiv (Int.fdiv (Int.fdiv y2 (2 ^ (min 4 IntKind.u32.bits))) (2 ^ (min 4 IntKind.u32.bits))) (2 ^ (min 4 IntKind.u32.bits))) (2 ^ (min 4 IntKind.u32.bits))) (2 ^ (min 4 IntKind.u32.bits))) &&& BitVec.ofInt IntKind.u32.bits 15).toNat:Int))<(16:Int))) (bX (decide ((0:Int)≤(IntKind.u32.wrap ((BitVec.ofInt IntKind.u32.bits (Int.fdiv (Int.fdiv (Int.fdiv (Int.fdiv (Int.fdiv (Int.fdiv y2 (2 ^ (min 4 IntKind.u32.bits))) (2 ^ (min 4 IntKind.u32.bits))) (2 ^ (min 4 IntKind.u32.bits))) (2 ^ (min 4 IntKind.u32.bits))) (2 ^ (min 4 IntKind.u32.bits))) (2 ^ (min 4 IntKind.u32.bits))) &&& BitVec.ofInt IntKind.u32.bits 15).toNat:Int)))&&decide ((IntKind.u32.wrap ((BitVec.ofInt IntKind.u32.bits (Int.fdiv (Int.fdiv (Int.fdiv (Int.fdiv (Int.fdiv (Int.fdiv y2 (2 ^ (min 4 IntKind.u32.bits))) (2 ^ (min 4 IntKind.u32.bits))) (2 ^ (min 4 IntKind.u32.bits))) (2 ^ (min 4 IntKind.u32.bits))) (2 ^ (min 4 IntKind.u32.bits))) (2 ^ (min 4 IntKind.u32.bits))) &&& BitVec.ofInt IntKind.u32.bits 15).toNat:Int))<(16:Int))) (bX (decide ((0:Int)≤(IntKind.u32.wrap ((BitVec.ofInt IntKind.u32.bits (Int.fdiv (Int.fdiv (Int.fdiv (Int.fdiv (Int.fdiv (Int.fdiv (Int.fdiv y2 (2 ^ (min 4 IntKind.u32.bits))) (2 ^ (min 4 IntKind.u32.bits))) (2 ^ (min 4 IntKind.u32.bits))) (2 ^ (min 4 IntKind.u32.bits))) (2 ^ (min 4 IntKind.u32.bits))) (2 ^ (min 4 IntKind.u32.bits))) (2 ^ (min 4 IntKind.u32.bits))) &&& BitVec.ofInt IntKind.u32.bits 15).toNat:Int)))&&decide ((IntKind.u32.wrap ((BitVec.ofInt IntKind.u32.bits (Int.fdiv (Int.fdiv (Int.fdiv (Int.fdiv (Int.fdiv (Int.fdiv (Int.fdiv y2 (2 ^ (min 4 IntKind.u32.bits))) (2 ^ (min 4 IntKind.u32.bits))) (2 ^ (min 4 IntKind.u32.bits))) (2 ^ (min 4 IntKind.u32.bits))) (2 ^ (min 4 IntKind.u32.bits))) (2 ^ (min 4 IntKind.u32.bits))) (2 ^ (min 4 IntKind.u32.bits))) &&& BitVec.ofInt IntKind.u32.bits 15).toNat:Int))<(16:Int))) (bX (decide (x1.length+1≤9223372036854775807)) (bX (decide ((x1++([35]:ae)).length+(List.map (fun n:Int=>UInt8.ofNat n.toNat) ([((([48,49,50,51,52,53,54,55,56,57,97,98,99,100,101,102]:ae).getD ((IntKind.u32.wrap ((BitVec.ofInt IntKind.u32.bits (Int.fdiv (Int.fdiv (Int.fdiv (Int.fdiv (Int.fdiv (Int.fdiv (Int.fdiv y2 (2 ^ (min 4 IntKind.u32.bits))) (2 ^ (min 4 IntKind.u32.bits))) (2 ^ (min 4 IntKind.u32.bits))) (2 ^ (min 4 IntKind.u32.bits))) (2 ^ (min 4 IntKind.u32.bits))) (2 ^ (min 4 IntKind.u32.bits))) (2 ^ (min 4 IntKind.u32.bits))) &&& BitVec.ofInt IntKind.u32.bits 15).toNat:Int)).toNat) 0).toNat:Int),((([48,49,50,51,52,53,54,55,56,57,97,98,99,100,101,102]:ae).getD ((IntKind.u32.wrap ((BitVec.ofInt IntKind.u32.bits (Int.fdiv (Int.fdiv (Int.fdiv (Int.fdiv (Int.fdiv (Int.fdiv y2 (2 ^ (min 4 IntKind.u32.bits))) (2 ^ (min 4 IntKind.u32.bits))) (2 ^ (min 4 IntKind.u32.bits))) (2 ^ (min 4 IntKind.u32.bits))) (2 ^ (min 4 IntKind.u32.bits))) (2 ^ (min 4 IntKind.u32.bits))) &&& BitVec.ofInt IntKind.u32.bits 15).toNat:Int)).toNat) 0).toNat:Int),((([48,49,50,51,52,53,54,55,56,57,97,98,99,100,101,102]:ae).getD ((IntKind.u32.wrap ((BitVec.ofInt IntKind.u32.bits (Int.fdiv (Int.fdiv (Int.fdiv (Int.fdiv (Int.fdiv y2 (2 ^ (min 4 IntKind.u32.bits))) (2 ^ (min 4 IntKind.u32.bits))) (2 ^ (min 4 IntKind.u32.bits))) (2 ^ (min 4 IntKind.u32.bits))) (2 ^ (min 4 IntKind.u32.bits))) &&& BitVec.ofInt IntKind.u32.bits 15).toNat:Int)).toNat) 0).toNat:Int),((([48,49,50,51,52,53,54,55,56,57,97,98,99,100,101,102]:ae).getD ((IntKind.u32.wrap ((BitVec.ofInt IntKind.u32.bits (Int.fdiv (Int.fdiv (Int.fdiv (Int.fdiv y2 (2 ^ (min 4 IntKind.u32.bits))) (2 ^ (min 4 IntKind.u32.bits))) (2 ^ (min 4 IntKind.u32.bits))) (2 ^ (min 4 IntKind.u32.bits))) &&& BitVec.ofInt IntKind.u32.bits 15).toNat:Int)).toNat) 0).toNat:Int),((([48,49,50,51,52,53,54,55,56,57,97,98,99,100,101,102]:ae).getD ((IntKind.u32.wrap ((BitVec.ofInt IntKind.u32.bits (Int.fdiv (Int.fdiv (Int.fdiv y2 (2 ^ (min 4 IntKind.u32.bits))) (2 ^ (min 4 IntKind.u32.bits))) (2 ^ (min 4 IntKind.u32.bits))) &&& BitVec.ofInt IntKind.u32.bits 15).toNat:Int)).toNat) 0).toNat:Int),((([48,49,50,51,52,53,54,55,56,57,97,98,99,100,101,102]:ae).getD ((IntKind.u32.wrap ((BitVec.ofInt IntKind.u32.bits (Int.fdiv (Int.fdiv y2 (2 ^ (min 4 IntKind.u32.bits))) (2 ^ (min 4 IntKind.u32.bits))) &&& BitVec.ofInt IntKind.u32.bits 15).toNat:Int)).toNat) 0).toNat:Int),((([48,49,50,51,52,53,54,55,56,57,97,98,99,100,101,102]:ae).getD ((IntKind.u32.wrap ((BitVec.ofInt IntKind.u32.bits (Int.fdiv y2 (2 ^ (min 4 IntKind.u32.bits))) &&& BitVec.ofInt IntKind.u32.bits 15).toNat:Int)).toNat) 0).toNat:Int),((([48,49,50,51,52,53,54,55,56,57,97,98,99,100,101,102]:ae).getD ((IntKind.u32.wrap ((BitVec.ofInt IntKind.u32.bits y2 &&& BitVec.ofInt IntKind.u32.bits 15).toNat:Int)).toNat) 0).toNat:Int)]:List Int):ae).length≤9223372036854775807)) (k0 ((x1++([35]:ae))++(List.map (fun n:Int=>UInt8.ofNat n.toNat) ([((([48,49,50,51,52,53,54,55,56,57,97,98,99,100,101,102]:ae).getD ((IntKind.u32.wrap ((BitVec.ofInt IntKind.u32.bits (Int.fdiv (Int.fdiv (Int.fdiv (Int.fdiv (Int.fdiv (Int.fdiv (Int.fdiv y2 (2 ^ (min 4 IntKind.u32.bits))) (2 ^ (min 4 IntKind.u32.bits))) (2 ^ (min 4 IntKind.u32.bits))) (2 ^ (min 4 IntKind.u32.bits))) (2 ^ (min 4 IntKind.u32.bits))) (2 ^ (min 4 IntKind.u32.bits))) (2 ^ (min 4 IntKind.u32.bits))) &&& BitVec.ofInt IntKind.u32.bits 15).toNat:Int)).toNat) 0).toNat:Int),((([48,49,50,51,52,53,54,55,56,57,97,98,99,100,101,102]:ae).getD ((IntKind.u32.wrap ((BitVec.ofInt IntKind.u32.bits (Int.fdiv (Int.fdiv (Int.fdiv (Int.fdiv (Int.fdiv (Int.fdiv y2 (2 ^ (min 4 IntKind.u32.bits))) (2 ^ (min 4 IntKind.u32.bits))) (2 ^ (min 4 IntKind.u32.bits))) (2 ^ (min 4 IntKind.u32.bits))) (2 ^ (min 4 IntKind.u32.bits))) (2 ^ (min 4 IntKind.u32.bits))) &&& BitVec.ofInt IntKind.u32.bits 15).toNat:Int)).toNat) 0).toNat:Int),((([48,49,50,51,52,53,54,55,56,57,97,98,99,100,101,102]:ae).getD ((IntKind.u32.wrap ((BitVec.ofInt IntKind.u32.bits (Int.fdiv (Int.fdiv (Int.fdiv (Int.fdiv (Int.fdiv y2 (2 ^ (min 4 IntKind.u32.bits))) (2 ^ (min 4 IntKind.u32.bits))) (2 ^ (min 4 IntKind.u32.bits))) (2 ^ (min 4 IntKind.u32.bits))) (2 ^ (min 4 IntKind.u32.bits))) &&& BitVec.ofInt IntKind.u32.bits 15).toNat:Int)).toNat) 0).toNat:Int),((([48,49,50,51,52,53,54,55,56,57,97,98,99,100,101,102]:ae).getD ((IntKind.u32.wrap ((BitVec.ofInt IntKind.u32.bits (Int.fdiv (Int.fdiv (Int.fdiv (Int.fdiv y2 (2 ^ (min 4 IntKind.u32.bits))) (2 ^ (min 4 IntKind.u32.bits))) (2 ^ (min 4 IntKind.u32.bits))) (2 ^ (min 4 IntKind.u32.bits))) &&& BitVec.ofInt IntKind.u32.bits 15).toNat:Int)).toNat) 0).toNat:Int),((([48,49,50,51,52,53,54,55,56,57,97,98,99,100,101,102]:ae).getD ((IntKind.u32.wrap ((BitVec.ofInt IntKind.u32.bits (Int.fdiv (Int.fdiv (Int.fdiv y2 (2 ^ (min 4 IntKind.u32.bits))) (2 ^ (min 4 IntKind.u32.bits))) (2 ^ (min 4 IntKind.u32.bits))) &&& BitVec.ofInt IntKind.u32.bits 15).toNat:Int)).toNat) 0).toNat:Int),((([48,49,50,51,52,53,54,55,56,57,97,98,99,100,101,102]:ae).getD ((IntKind.u32.wrap ((BitVec.ofInt IntKind.u32.bits (Int.fdiv (Int.fdiv y2 (2 ^ (min 4 IntKind.u32.bits))) (2 ^ (min 4 IntKind.u32.bits))) &&& BitVec.ofInt IntKind.u32.bits 15).toNat:Int)).toNat) 0).toNat:Int),((([48,49,50,51,52,53,54,55,56,57,97,98,99,100,101,102]:ae).getD ((IntKind.u32.wrap ((BitVec.ofInt IntKind.u32.bits (Int.fdiv y2 (2 ^ (min 4 IntKind.u32.bits))) &&& BitVec.ofInt IntKind.u32.bits 15).toNat:Int)).toNat) 0).toNat:Int),((([48,49,50,51,52,53,54,55,56,57,97,98,99,100,101,102]:ae).getD ((IntKind.u32.wrap ((BitVec.ofInt IntKind.u32.bits y2 &&& BitVec.ofInt IntKind.u32.bits 15).toNat:Int)).toNat) 0).toNat:Int)]:List Int):ae)))))))))))))
theorem seal_Seal_ok:dO (R:=R) tt (YL vY) sS false Tryz.f28 Rm Rn (Wr (KL vY)):=fun x y k=>by kernel_rfl
end
theorem seal_Seal_EOk:cE (R:=R) Tryz.prog (YL (R:=R) vY) := .c (seal_Sum_S_ok R) <| .n
def bV:rJ R:=fun x1 k0=>KL vY x1 k0
theorem yj (R:Type):kM Tryz.prog 28 (Cp (bV (R:=R))):=br TT mixed (seal_Seal_EOk (R:=R)) rfl rfl rfl rfl cq (seal_Seal_ok vY)
abbrev rK (R:Type):Type:=Order→(ae→Int→Option R)→Option R
abbrev Ro:List cU := [.agg [.int .i64, .str, .int .i64, .int .i64, .sl .stop, .sl .na]]
abbrev Rp:List aU := []
def Ws (fn:rK R):lC R Ro Rp:=fun x y k=>fn (⟨x.1.1,x.1.2.1,x.1.2.2.1,x.1.2.2.2.1,x.1.2.2.2.2.1,x.1.2.2.2.2.2.1⟩:Order) (fun q0 q1=>k (.tuple [.str q0, .int .i64 q1]) [])
def Cq (fn:rK R):=aG Ro Rp (Ws fn)
section
variable (gP:C8 R) (dc:wv R) (gE:C9 R) (eG:A4 R) (aZ:mS R) (eC:ni R) (eR:oC R) (bV:rJ R)
def YM:List (oo R) := [(48,true,(Qu gP av)),(36,true,(HM dc av)),(34,true,(Qz gE av)),(35,true,(Oz eG av)),(21,true,(wm aZ av)),(49,true,(Df eC av)),(52,true,(EP eR av)),(28,true,(Cp bV av))]
def Rq (x1:Order) (k0:ae→Int→Option R):Option R :=
 aZ x1 (fun y2=>bif (!y2)then (k0 ([]:ae) 1)else (gP x1.header (fun y3=>gE x1.cd (fun y4=>gP x1.order (fun y5=>gP x1.update (fun y6=>eC x1.nodes (fun y7=>eR x1.aS (fun y8=>dc ([([104,101,97,100,101,114,73,100]:ae),([115,101,114,105,97,108,78,117,109,98,101,114]:ae),([111,114,100,101,114,73,100]:ae),([111,114,100,101,114,85,112,100,97,116,101,73,100]:ae),([110,111,100,101,115]:ae),([101,100,103,101,115]:ae)]:List ae) ([(⟨y3.kind,⟨y3.num.aq,y3.num.exp⟩,y3.text,y3.names,y3.items⟩:Json),(⟨y4.kind,⟨y4.num.aq,y4.num.exp⟩,y4.text,y4.names,y4.items⟩:Json),(⟨y5.kind,⟨y5.num.aq,y5.num.exp⟩,y5.text,y5.names,y5.items⟩:Json),(⟨y6.kind,⟨y6.num.aq,y6.num.exp⟩,y6.text,y6.names,y6.items⟩:Json),(⟨y7.kind,⟨y7.num.aq,y7.num.exp⟩,y7.text,y7.names,y7.items⟩:Json),(⟨y8.kind,⟨y8.num.aq,y8.num.exp⟩,y8.text,y8.names,y8.items⟩:Json)]:List Json) (fun y9=>eG (⟨y9.kind,⟨y9.num.aq,y9.num.exp⟩,y9.text,y9.names,y9.items⟩:Json) (fun p9=>bV p9 (fun n0=>k0 n0 0)))))))))))
theorem order_Lay_ok:dO (R:=R) tt (YM gP dc gE eG aZ eC eR bV) sS false Tryz.f19 Ro Rp (Ws (Rq gP dc gE eG aZ eC eR bV)):=fun x y k=>by kernel_rfl
end
theorem order_Lay_EOk:cE (R:=R) Tryz.prog (YM (R:=R) gP dc gE eG aZ eC eR bV) := .c (Qw R) <| .c (GV R) <| .c (QA R) <| .c (Ps R) <| .c (td R) <| .c (JM R) <| .c (Ln R) <| .c (yj R) <| .n
def bz:rK R:=fun x1 k0=>Rq gP dc gE eG aZ eC eR bV x1 k0
theorem yk (R:Type):kM Tryz.prog 19 (Cq (bz (R:=R))):=br TT mixed (order_Lay_EOk (R:=R)) rfl rfl rfl rfl cq (order_Lay_ok gP dc gE eG aZ eC eR bV)
abbrev DY (R:Type):Type:=ae→(ae→Int→Option R)→Option R
abbrev Rr:List cU := [.leaf (.str)]
abbrev Rs:List aU := []
def Wu (fn:DY R):lC R Rr Rs:=fun x y k=>fn x.1 (fun q0 q1=>k (.tuple [.str q0, .int .i64 q1]) [])
def Rt (fn:DY R):=aG Rr Rs (Wu fn)
section
variable (bV:rJ R)
def YN:List (oo R) := [(28,true,(Cp bV av)),(78,true,(lastI_S R))]
def KM (x1:ae) (k0:ae→Int→Option R):Option R :=
 bX (decide (x1.length≤281474976710656)) (bif (decide ((Ga x1 35)<(0:Int)))then (k0 ([]:ae) 60)else (bX (decide ((0:Int)≤(Ga x1 35))&&decide ((Ga x1 35)≤x1.length)) (bX (decide ((0:Int)≤(Ga x1 35))) (bV ((x1.drop 0).take ((Ga x1 35).toNat - 0)) (fun y2=>bif (!(y2==x1))then (k0 ([]:ae) 60)else (bX (decide ((0:Int)≤(Ga x1 35))&&decide ((Ga x1 35)≤x1.length)) (bX (decide ((0:Int)≤(Ga x1 35))) (k0 ((x1.drop 0).take ((Ga x1 35).toNat - 0)) 0))))))))
theorem seal_Open_ok:dO (R:=R) tt (YN bV) sS false Tryz.f31 Rr Rs (Wu (KM bV)):=fun x y k=>by kernel_rfl
end
theorem seal_Open_EOk:cE (R:=R) Tryz.prog (YN (R:=R) bV) := .c (yj R) <| .p (lastI_ok) <| .n
def dG:DY R:=fun x1 k0=>KM bV x1 k0
theorem Ru (R:Type):kM Tryz.prog 31 (Rt (dG (R:=R))):=br TT mixed (seal_Open_EOk (R:=R)) rfl rfl rfl rfl cq (seal_Open_ok bV)
variable {R:Type}
abbrev mL (R:Type):Type:=Json→ae→Bool→(Bool→Bool→Option R)→Option R
abbrev ub:List cU := [.leaf (.ptr 0 0), .agg [.int .i64, .int .i64, .int .i64, .str, .sl .str, .sl .json], .leaf (.str)]
abbrev uc:List aU := [.cells [.bool]]
def A5 (fn:mL R):lC R ub uc:=fun x y k=>fn (⟨x.2.1.1,⟨x.2.1.2.1,x.2.1.2.2.1⟩,x.2.1.2.2.2.1,x.2.1.2.2.2.2.1,x.2.1.2.2.2.2.2.1⟩:Json) x.2.2.1 y.1.1 (fun q0 q1=>k (.bool q0) [.cells [.bool q1]])
def Cr (fn:mL R):=aG ub uc (A5 fn)
section
variable (pF:F1 R)
def Cs:List (oo R) := [(112,true,(Wh pF av))]
def uf (x1:Json) (x2:ae) (x3:Bool) (k0:Bool→Bool→Option R):Option R :=
 pF (⟨x1.kind,⟨x1.num.aq,x1.num.exp⟩,x1.text,x1.names,x1.items⟩:Json) x2 (fun y4 y5=>bif x3 then (k0 y4 true)else (k0 y4 (!y5)))
theorem LN:dO (R:=R) tt (Cs pF) sS false Tryz.f71 ub uc (A5 (uf pF)):=fun x y k=>by kernel_rfl
end
theorem J2:cE (R:=R) Tryz.prog (Cs (R:=R) pF) := .c (Zo R) <| .n
def bj:mL R:=fun x1 x2 x3 k0=>uf pF x1 x2 x3 k0
theorem Jh (R:Type):kM Tryz.prog 71 (Cr (bj (R:=R))):=br TT mixed (J2 (R:=R)) rfl rfl rfl rfl cq (LN pF)
variable {R:Type}
abbrev sj (R:Type):Type:=ae→(Order→Int→Option R)→Option R
abbrev OA:List cU := [.leaf (.str)]
abbrev OB:List aU := []
def Tq (fn:sj R):lC R OA OB:=fun x y k=>fn x.1 (fun q0 q1=>k (.tuple [.agg [.int .i64 q0.header, .str q0.cd, .int .i64 q0.order, .int .i64 q0.update, .sl .stop q0.nodes .no, .sl .na q0.aS .no], .int .i64 q1]) [])
def DZ (fn:sj R):=aG OA OB (Tq fn)
abbrev BW (R:Type):Type:=Nat→Bool→(List Json)→Int→Int→Int→ae→Int→Int→Json→Bool→Int→ae→Int→Int→(List Stop)→(Bool→Int→ae→Int→Int→Json→Bool→Int→ae→Int→Int→(List Stop)→Option R)→Option R
abbrev BX (R:Type):Type:=Nat→Bool→(List Json)→Int→Int→Int→ae→Int→Int→Bool→Int→ae→Int→Int→(List Stop)→(List aA.Way)→(Bool→Int→ae→Int→Int→Bool→Int→ae→Int→Int→(List Stop)→(List aA.Way)→Option R)→Option R
def xi:Hint := { live := [2,6,8,10,11,55,56,57],own := [],rows := [],cells := [(3,4, .stop,false)],drop := [],out := [2,3,6,8,10,11] }
abbrev nw:Type:=Bool×(List Json)×Int×Int×Int×ae×Int×Int×Json×Bool×Int×ae×Int×Int×(List Stop)
def Ai:nw→St:=fun d=>⟨U 2 (.ptr 0 0::U 3 (.ptr 1 0 :: .undef :: .ptr 2 0 :: .undef :: .bool d.1 :: .ptr 3 0::U 43 (.sl .json d.2.1 .no :: .int .i64 d.2.2.1 :: .int .i64 d.2.2.2.1::U 58 ([])))), [.cells [.int .i64 d.2.2.2.2.1, .str d.2.2.2.2.2.1, .int .i64 d.2.2.2.2.2.2.1, .int .i64 d.2.2.2.2.2.2.2.1, .bB, .bB], .cells [.int .i64 d.2.2.2.2.2.2.2.2.1.kind, .int .i64 d.2.2.2.2.2.2.2.2.1.num.aq, .int .i64 d.2.2.2.2.2.2.2.2.1.num.exp, .str d.2.2.2.2.2.2.2.2.1.text, .sl .str d.2.2.2.2.2.2.2.2.1.names .no, .sl .json d.2.2.2.2.2.2.2.2.1.items .no], .cells [.bool d.2.2.2.2.2.2.2.2.2.1], .cells [.int .i64 d.2.2.2.2.2.2.2.2.2.2.1, .str d.2.2.2.2.2.2.2.2.2.2.2.1, .int .i64 d.2.2.2.2.2.2.2.2.2.2.2.2.1, .int .i64 d.2.2.2.2.2.2.2.2.2.2.2.2.2.1, .sl .stop d.2.2.2.2.2.2.2.2.2.2.2.2.2.2 (.own 4), .bB], .tok]⟩
def BY (K:Ex→St→Option R) (q0:Bool) (q1:Int) (q2:ae) (q3:Int) (q4:Int) (q5:Json) (q6:Bool) (q7:Int) (q8:ae) (q9:Int) (q10:Int) (q11:List Stop):Option R:=K (.exit 0) ⟨U 2 (.ptr 0 0::U 3 (.ptr 1 0 :: .undef :: .ptr 2 0 :: .undef :: .bool q0 :: .ptr 3 0::U 104 ([]))), [.cells [.int .i64 q1, .str q2, .int .i64 q3, .int .i64 q4, .bB, .bB], .cells [.int .i64 q5.kind, .int .i64 q5.num.aq, .int .i64 q5.num.exp, .str q5.text, .sl .str q5.names .no, .sl .json q5.items .no], .cells [.bool q6], .cells [.int .i64 q7, .str q8, .int .i64 q9, .int .i64 q10, .sl .stop q11 (.own 4), .bB], .tok]⟩
abbrev rL:List cU:=PU 2 (.leaf (.ptr 0 0)::PU 3 (.leaf (.ptr 1 0) :: .leaf (.undef) :: .leaf (.ptr 2 0) :: .leaf (.undef) :: .leaf (.bool) :: .leaf (.ptr 3 0)::PU 43 (.leaf (.sl .json) :: .leaf (.int .i64) :: .leaf (.int .i64)::PU 58 ([]))))
abbrev rM:List aU := [.cells [.int .i64, .str, .int .i64, .int .i64, .bB, .bB], .cells [.int .i64, .int .i64, .int .i64, .str, .sl .str, .sl .json], .cells [.bool], .cells [.int .i64, .str, .int .i64, .int .i64, .TW .stop 4, .bB], .tok]
def KN (x:cU.bT rL) (y:aU.bT rM):Nat:=(List.length ((t8 (t8 (t8 (t8 (t8 (t8 x)))))).2.2.2.2.2.2.2.1)+Int.natAbs ((t8 (t8 (t8 (t8 (t8 (t8 (t8 x))))))).1)+Int.natAbs ((t8 (t8 (t8 (t8 (t8 (t8 (t8 x))))))).2.1)+Int.natAbs y.1.1+List.length y.1.2.1+Int.natAbs y.1.2.2.1+Int.natAbs y.1.2.2.2.1+Json.fu (⟨y.2.1.1,⟨y.2.1.2.1,y.2.1.2.2.1⟩,y.2.1.2.2.2.1,y.2.1.2.2.2.2.1,y.2.1.2.2.2.2.2.1⟩:Json)+Int.natAbs y.2.2.2.1.1+List.length y.2.2.2.1.2.1+Int.natAbs y.2.2.2.1.2.2.1+Int.natAbs y.2.2.2.1.2.2.2.1+List.length y.2.2.2.1.2.2.2.2.1+64)
def Wv (x:cU.bT rL) (y:aU.bT rM):nw:=((t8 x).2.2.1,(t8 (t8 (t8 (t8 (t8 (t8 x)))))).2.2.2.2.2.2.2.1,(t8 (t8 (t8 (t8 (t8 (t8 (t8 x))))))).1,(t8 (t8 (t8 (t8 (t8 (t8 (t8 x))))))).2.1,y.1.1,y.1.2.1,y.1.2.2.1,y.1.2.2.2.1,(⟨y.2.1.1,⟨y.2.1.2.1,y.2.1.2.2.1⟩,y.2.1.2.2.2.1,y.2.1.2.2.2.2.1,y.2.1.2.2.2.2.2.1⟩:Json),y.2.2.1.1,y.2.2.2.1.1,y.2.2.2.1.2.1,y.2.2.2.1.2.2.1,y.2.2.2.1.2.2.2.1,y.2.2.2.1.2.2.2.2.1)
def Ji (L:BW R):xp R rL rM:=fun x y K=>L (KN x y) ((t8 x).2.2.1) ((t8 (t8 (t8 (t8 (t8 (t8 x)))))).2.2.2.2.2.2.2.1) ((t8 (t8 (t8 (t8 (t8 (t8 (t8 x))))))).1) ((t8 (t8 (t8 (t8 (t8 (t8 (t8 x))))))).2.1) y.1.1 y.1.2.1 y.1.2.2.1 y.1.2.2.2.1 (⟨y.2.1.1,⟨y.2.1.2.1,y.2.1.2.2.1⟩,y.2.1.2.2.2.1,y.2.1.2.2.2.2.1,y.2.1.2.2.2.2.2.1⟩:Json) y.2.2.1.1 y.2.2.2.1.1 y.2.2.2.1.2.1 y.2.2.2.1.2.2.1 y.2.2.2.1.2.2.2.1 y.2.2.2.1.2.2.2.2.1 (BY K)
def xj:Hint := { live := [2,8,10,11,79,80,81],own := [],rows := [],cells := [(2,5, .na,false)],drop := [],out := [2,3,8,10,11] }
abbrev nA:Type:=Bool×(List Json)×Int×Int×Int×ae×Int×Int×Bool×Int×ae×Int×Int×(List Stop)×(List aA.Way)
def Aj:nA→St:=fun d=>⟨U 2 (.ptr 0 0::U 5 (.ptr 1 0 :: .undef :: .bool d.1 :: .ptr 2 0::U 67 (.sl .json d.2.1 .no :: .int .i64 d.2.2.1 :: .int .i64 d.2.2.2.1::U 34 ([])))), [.cells [.int .i64 d.2.2.2.2.1, .str d.2.2.2.2.2.1, .int .i64 d.2.2.2.2.2.2.1, .int .i64 d.2.2.2.2.2.2.2.1, .bB, .bB], .cells [.bool d.2.2.2.2.2.2.2.2.1], .cells [.int .i64 d.2.2.2.2.2.2.2.2.2.1, .str d.2.2.2.2.2.2.2.2.2.2.1, .int .i64 d.2.2.2.2.2.2.2.2.2.2.2.1, .int .i64 d.2.2.2.2.2.2.2.2.2.2.2.2.1, .sl .stop d.2.2.2.2.2.2.2.2.2.2.2.2.2.1 (.own 3), .sl .na d.2.2.2.2.2.2.2.2.2.2.2.2.2.2 (.own 4)], .tok, .tok]⟩
def BZ (K:Ex→St→Option R) (q0:Bool) (q1:Int) (q2:ae) (q3:Int) (q4:Int) (q5:Bool) (q6:Int) (q7:ae) (q8:Int) (q9:Int) (q10:List Stop) (q11:List aA.Way):Option R:=K (.exit 2) ⟨U 2 (.ptr 0 0::U 5 (.ptr 1 0 :: .undef :: .bool q0 :: .ptr 2 0::U 104 ([]))), [.cells [.int .i64 q1, .str q2, .int .i64 q3, .int .i64 q4, .bB, .bB], .cells [.bool q5], .cells [.int .i64 q6, .str q7, .int .i64 q8, .int .i64 q9, .sl .stop q10 (.own 3), .sl .na q11 (.own 4)], .tok, .tok]⟩
abbrev rN:List cU:=PU 2 (.leaf (.ptr 0 0)::PU 5 (.leaf (.ptr 1 0) :: .leaf (.undef) :: .leaf (.bool) :: .leaf (.ptr 2 0)::PU 67 (.leaf (.sl .json) :: .leaf (.int .i64) :: .leaf (.int .i64)::PU 34 ([]))))
abbrev rO:List aU := [.cells [.int .i64, .str, .int .i64, .int .i64, .bB, .bB], .cells [.bool], .cells [.int .i64, .str, .int .i64, .int .i64, .TW .stop 3, .TW .na 4], .tok, .tok]
def KO (x:cU.bT rN) (y:aU.bT rO):Nat:=(List.length ((t8 (t8 (t8 (t8 (t8 (t8 (t8 (t8 (t8 x))))))))).2.2.2.2.2.2.2.1)+Int.natAbs ((t8 (t8 (t8 (t8 (t8 (t8 (t8 (t8 (t8 (t8 x)))))))))).1)+Int.natAbs ((t8 (t8 (t8 (t8 (t8 (t8 (t8 (t8 (t8 (t8 x)))))))))).2.1)+Int.natAbs y.1.1+List.length y.1.2.1+Int.natAbs y.1.2.2.1+Int.natAbs y.1.2.2.2.1+Int.natAbs y.2.2.1.1+List.length y.2.2.1.2.1+Int.natAbs y.2.2.1.2.2.1+Int.natAbs y.2.2.1.2.2.2.1+List.length y.2.2.1.2.2.2.2.1+List.length y.2.2.1.2.2.2.2.2.1+64)
def Ww (x:cU.bT rN) (y:aU.bT rO):nA:=((t8 x).2.2.1,(t8 (t8 (t8 (t8 (t8 (t8 (t8 (t8 (t8 x))))))))).2.2.2.2.2.2.2.1,(t8 (t8 (t8 (t8 (t8 (t8 (t8 (t8 (t8 (t8 x)))))))))).1,(t8 (t8 (t8 (t8 (t8 (t8 (t8 (t8 (t8 (t8 x)))))))))).2.1,y.1.1,y.1.2.1,y.1.2.2.1,y.1.2.2.2.1,y.2.1.1,y.2.2.1.1,y.2.2.1.2.1,y.2.2.1.2.2.1,y.2.2.1.2.2.2.1,y.2.2.1.2.2.2.2.1,y.2.2.1.2.2.2.2.2.1)
def Jj (L:BX R):xp R rN rO:=fun x y K=>L (KO x y) ((t8 x).2.2.1) ((t8 (t8 (t8 (t8 (t8 (t8 (t8 (t8 (t8 x))))))))).2.2.2.2.2.2.2.1) ((t8 (t8 (t8 (t8 (t8 (t8 (t8 (t8 (t8 (t8 x)))))))))).1) ((t8 (t8 (t8 (t8 (t8 (t8 (t8 (t8 (t8 (t8 x)))))))))).2.1) y.1.1 y.1.2.1 y.1.2.2.1 y.1.2.2.2.1 y.2.1.1 y.2.2.1.1 y.2.2.1.2.1 y.2.2.1.2.2.1 y.2.2.1.2.2.2.1 y.2.2.1.2.2.2.2.1 y.2.2.1.2.2.2.2.2.1 (BZ K)
section
variable (bj:mL R) (bL:mK R) (aO:nr R) (fT:FY R) (cW:A1 R) (aZ:mS R) (dG:DY R) (cx:BW R) (cy:BX R)
def oK:List (oo R) := [(71,false,(Cr bj av)),(70,false,(Cl bL av)),(69,false,(DB aO av)),(68,true,(V9 fT av)),(32,true,(N3 cW av)),(21,true,(wm aZ av)),(31,true,(Rt dG av))]
def xk (dJ:Bool→(List Json)→Int→Int→Int→ae→Int→Int→Json→Bool→Int→ae→Int→Int→(List Stop)→Option R) (lF:Bool) (oE:List Json) (AV:Int) (va:Int) (QT:Int) (x22:ae) (x23:Int) (x24:Int) (SX:Json) (x26:Bool) (x27:Int) (x28:ae) (x29:Int) (x30:Int) (x31:List Stop) (e0:Bool→Int→ae→Int→Int→Json→Bool→Int→ae→Int→Int→(List Stop)→Option R):Option R :=
 bif (decide (va<AV))then (bX (decide ((0:Int)≤va)&&decide (va<oE.length)) (aO (⟨(oE.getD va.toNat (Ty.aR .json)).kind,⟨(oE.getD va.toNat (Ty.aR .json)).num.aq,(oE.getD va.toNat (Ty.aR .json)).num.exp⟩,(oE.getD va.toNat (Ty.aR .json)).text,(oE.getD va.toNat (Ty.aR .json)).names,(oE.getD va.toNat (Ty.aR .json)).items⟩:Json) ([110,111,100,101,73,100]:ae) x26 (fun V0 y33=>aO (⟨(oE.getD va.toNat (Ty.aR .json)).kind,⟨(oE.getD va.toNat (Ty.aR .json)).num.aq,(oE.getD va.toNat (Ty.aR .json)).num.exp⟩,(oE.getD va.toNat (Ty.aR .json)).text,(oE.getD va.toNat (Ty.aR .json)).names,(oE.getD va.toNat (Ty.aR .json)).items⟩:Json) ([115,101,113,117,101,110,99,101,73,100]:ae) y33 (fun Sc y35=>bj (⟨(oE.getD va.toNat (Ty.aR .json)).kind,⟨(oE.getD va.toNat (Ty.aR .json)).num.aq,(oE.getD va.toNat (Ty.aR .json)).num.exp⟩,(oE.getD va.toNat (Ty.aR .json)).text,(oE.getD va.toNat (Ty.aR .json)).names,(oE.getD va.toNat (Ty.aR .json)).items⟩:Json) ([114,101,108,101,97,115,101,100]:ae) y35 (fun y36 y37=>bX (decide ((x31.length+1)*24≤140737488355328)) (dJ lF oE AV (IntKind.i64.wrap (va+1)) QT x22 x23 x24 (⟨SX.kind,⟨SX.num.aq,SX.num.exp⟩,SX.text,SX.names,SX.items⟩:Json) y37 x27 x28 x29 x30 (x31++([(⟨V0,Sc,y36⟩:Stop)]:List Stop))))))))else (e0 lF QT x22 x23 x24 (⟨SX.kind,⟨SX.num.aq,SX.num.exp⟩,SX.text,SX.names,SX.items⟩:Json) x26 x27 x28 x29 x30 x31)
def KP (K:Ex→St→Option R) (rc:nw→Option R) (d:nw):Option R:=xk bj aO (fun z0 z1 z2 z3 z4 z5 z6 z7 z8 z9 T2 wk z12 z13 z14=>rc (z0,z1,z2,z3,z4,z5,z6,z7,z8,z9,T2,wk,z12,z13,z14)) d.1 d.2.1 d.2.2.1 d.2.2.2.1 d.2.2.2.2.1 d.2.2.2.2.2.1 d.2.2.2.2.2.2.1 d.2.2.2.2.2.2.2.1 d.2.2.2.2.2.2.2.2.1 d.2.2.2.2.2.2.2.2.2.1 d.2.2.2.2.2.2.2.2.2.2.1 d.2.2.2.2.2.2.2.2.2.2.2.1 d.2.2.2.2.2.2.2.2.2.2.2.2.1 d.2.2.2.2.2.2.2.2.2.2.2.2.2.1 d.2.2.2.2.2.2.2.2.2.2.2.2.2.2 (BY K)
def xl (dJ:Bool→(List Json)→Int→Int→Int→ae→Int→Int→Bool→Int→ae→Int→Int→(List Stop)→(List aA.Way)→Option R) (x52:Bool) (x53:List Json) (x54:Int) (YO:Int) (x56:Int) (x57:ae) (x58:Int) (x59:Int) (x60:Bool) (x61:Int) (x62:ae) (x63:Int) (x64:Int) (x65:List Stop) (x66:List aA.Way) (e0:Bool→Int→ae→Int→Int→Bool→Int→ae→Int→Int→(List Stop)→(List aA.Way)→Option R):Option R :=
 bif (decide (YO<x54))then (bX (decide ((0:Int)≤YO)&&decide (YO<x53.length)) (aO (⟨(x53.getD YO.toNat (Ty.aR .json)).kind,⟨(x53.getD YO.toNat (Ty.aR .json)).num.aq,(x53.getD YO.toNat (Ty.aR .json)).num.exp⟩,(x53.getD YO.toNat (Ty.aR .json)).text,(x53.getD YO.toNat (Ty.aR .json)).names,(x53.getD YO.toNat (Ty.aR .json)).items⟩:Json) ([101,100,103,101,73,100]:ae) x60 (fun y67 y68=>aO (⟨(x53.getD YO.toNat (Ty.aR .json)).kind,⟨(x53.getD YO.toNat (Ty.aR .json)).num.aq,(x53.getD YO.toNat (Ty.aR .json)).num.exp⟩,(x53.getD YO.toNat (Ty.aR .json)).text,(x53.getD YO.toNat (Ty.aR .json)).names,(x53.getD YO.toNat (Ty.aR .json)).items⟩:Json) ([115,101,113,117,101,110,99,101,73,100]:ae) y68 (fun y69 y70=>bj (⟨(x53.getD YO.toNat (Ty.aR .json)).kind,⟨(x53.getD YO.toNat (Ty.aR .json)).num.aq,(x53.getD YO.toNat (Ty.aR .json)).num.exp⟩,(x53.getD YO.toNat (Ty.aR .json)).text,(x53.getD YO.toNat (Ty.aR .json)).names,(x53.getD YO.toNat (Ty.aR .json)).items⟩:Json) ([114,101,108,101,97,115,101,100]:ae) y70 (fun y71 y72=>bX (decide ((x66.length+1)*24≤140737488355328)) (dJ x52 x53 x54 (IntKind.i64.wrap (YO+1)) x56 x57 x58 x59 y72 x61 x62 x63 x64 x65 (x66++([(⟨y67,y69,y71⟩:aA.Way)]:List aA.Way))))))))else (e0 x52 x56 x57 x58 x59 x60 x61 x62 x63 x64 x65 x66)
def KQ (K:Ex→St→Option R) (rc:nA→Option R) (d:nA):Option R:=xl bj aO (fun z0 z1 z2 z3 z4 z5 z6 z7 z8 z9 T2 wk z12 z13 z14=>rc (z0,z1,z2,z3,z4,z5,z6,z7,z8,z9,T2,wk,z12,z13,z14)) d.1 d.2.1 d.2.2.1 d.2.2.2.1 d.2.2.2.2.1 d.2.2.2.2.2.1 d.2.2.2.2.2.2.1 d.2.2.2.2.2.2.2.1 d.2.2.2.2.2.2.2.2.1 d.2.2.2.2.2.2.2.2.2.1 d.2.2.2.2.2.2.2.2.2.2.1 d.2.2.2.2.2.2.2.2.2.2.2.1 d.2.2.2.2.2.2.2.2.2.2.2.2.1 d.2.2.2.2.2.2.2.2.2.2.2.2.2.1 d.2.2.2.2.2.2.2.2.2.2.2.2.2.2 (BZ K)
def rP:Nat→Option (Hint×cQ R):=fun i=>match i with
 | 11=>some (xi,(cM rL rM (Ji cx) iK))
 | 16=>some (xj,(cM rN rO (Jj cy) iK))
 | _=>none
theorem Rv (K:Ex→St→Option R) (rc:St→Option R) (d:nw):roundOf tt (cT (oK bj bL aO fT cW aZ dG)) (rP cx cy) 0 ((az (aX Tryz.f29)).getD 0 .skip) xi (Ai d) rc K=KP bj aO K (fun d=>rc (Ai d)) d:=by kernel_rfl
theorem Rw (K:Ex→St→Option R) (rc:St→Option R) (d:nA):roundOf tt (cT (oK bj bL aO fT cW aZ dG)) (rP cx cy) 0 ((az (aX Tryz.f29)).getD 1 .skip) xj (Aj d) rc K=KQ bj aO K (fun d=>rc (Aj d)) d:=by kernel_rfl
def OC (x1:ae) (k0:Order→Int→Option R):Option R :=
 dG x1 (fun y2 y3=>bif (y3 != 0)then (k0 (⟨0,([]:ae),0,0,([]:List Stop),([]:List aA.Way)⟩:Order) y3)else (cW y2 (fun y4 y5 y6=>bif (y5 != 0)then (k0 (⟨0,([]:ae),0,0,([]:List Stop),([]:List aA.Way)⟩:Order) y5)else (fT (⟨y4.kind,⟨y4.num.aq,y4.num.exp⟩,y4.text,y4.names,y4.items⟩:Json) ([115,101,114,105,97,108,78,117,109,98,101,114]:ae) (fun y7 y8=>aO (⟨y4.kind,⟨y4.num.aq,y4.num.exp⟩,y4.text,y4.names,y4.items⟩:Json) ([104,101,97,100,101,114,73,100]:ae) false (fun y9 p9=>aO (⟨y4.kind,⟨y4.num.aq,y4.num.exp⟩,y4.text,y4.names,y4.items⟩:Json) ([111,114,100,101,114,73,100]:ae) p9 (fun n0 yp=>aO (⟨y4.kind,⟨y4.num.aq,y4.num.exp⟩,y4.text,y4.names,y4.items⟩:Json) ([111,114,100,101,114,85,112,100,97,116,101,73,100]:ae) yp (fun Im IT=>bL (⟨y4.kind,⟨y4.num.aq,y4.num.exp⟩,y4.text,y4.names,y4.items⟩:Json) ([110,111,100,101,115]:ae) IT (fun JG Hm=>cx (List.length JG+Int.natAbs (JG.length:Int)+Int.natAbs 0+Int.natAbs 0+List.length ([]:ae)+Int.natAbs 0+Int.natAbs 0+Json.fu (⟨y4.kind,⟨y4.num.aq,y4.num.exp⟩,y4.text,y4.names,y4.items⟩:Json)+Int.natAbs y9+List.length y7+Int.natAbs n0+Int.natAbs Im+List.length ([]:List Stop)+64) y8 JG (JG.length:Int) 0 0 ([]:ae) 0 0 (⟨y4.kind,⟨y4.num.aq,y4.num.exp⟩,y4.text,y4.names,y4.items⟩:Json) Hm y9 y7 n0 Im ([]:List Stop) (fun y38 Yq ZZ y41 y42 Z0 y44 y45 y46 y47 y48 y49=>bL (⟨Z0.kind,⟨Z0.num.aq,Z0.num.exp⟩,Z0.text,Z0.names,Z0.items⟩:Json) ([101,100,103,101,115]:ae) y44 (fun y50 y51=>cy (List.length y50+Int.natAbs (y50.length:Int)+Int.natAbs 0+Int.natAbs Yq+List.length ZZ+Int.natAbs y41+Int.natAbs y42+Int.natAbs y45+List.length y46+Int.natAbs y47+Int.natAbs y48+List.length y49+List.length ([]:List aA.Way)+64) y38 y50 (y50.length:Int) 0 Yq ZZ y41 y42 y51 y45 y46 y47 y48 y49 ([]:List aA.Way) (fun y73 y74 y75 y76 y77 y78 y79 y80 y81 y82 y83 y84=>bif y78 then (k0 (⟨0,([]:ae),0,0,([]:List Stop),([]:List aA.Way)⟩:Order) 80)else (bif (!y73)then (k0 (⟨0,([]:ae),0,0,([]:List Stop),([]:List aA.Way)⟩:Order) 80)else (aZ (⟨y79,y80,y81,y82,y83,y84⟩:Order) (fun y85=>bif (!y85)then (k0 (⟨0,([]:ae),0,0,([]:List Stop),([]:List aA.Way)⟩:Order) 80)else (k0 (⟨y79,y80,y81,y82,y83,y84⟩:Order) 0))))))))))))))))
theorem order_Take_ok:dO (R:=R) tt (oK bj bL aO fT cW aZ dG) (rP cx cy) false Tryz.f29 OA OB (Tq (OC bL aO fT cW aZ dG cx cy)):=fun x y k=>by kernel_rfl
end
theorem order_Take_EOk:cE (R:=R) Tryz.prog (oK (R:=R) bj bL aO fT cW aZ dG) := .d (Jh R) rfl <| .d (Jd R) rfl <| .d (JY R) rfl <| .c (Zj R) <| .c (Pl R) <| .c (td R) <| .c (Ru R) <| .n
def cx:BW R
 | 0,_,_,_,_,_,_,_,_,_,_,_,_,_,_,_,_=>none
 | n+1,gf,gk,gw,mA,wC,xH,EC,Gc,JK,JL,qm,zF,Ff,Fg,OD,e0=>xk bj aO (fun gf gk gw mA wC xH EC Gc JK JL qm zF Ff Fg OD=>cx n gf gk gw mA wC xH EC Gc JK JL qm zF Ff Fg OD e0) gf gk gw mA wC xH EC Gc JK JL qm zF Ff Fg OD e0
def KR (K:Ex→St→Option R) (n:Nat) (d:nw):Option R:=cx n d.1 d.2.1 d.2.2.1 d.2.2.2.1 d.2.2.2.2.1 d.2.2.2.2.2.1 d.2.2.2.2.2.2.1 d.2.2.2.2.2.2.2.1 d.2.2.2.2.2.2.2.2.1 d.2.2.2.2.2.2.2.2.2.1 d.2.2.2.2.2.2.2.2.2.2.1 d.2.2.2.2.2.2.2.2.2.2.2.1 d.2.2.2.2.2.2.2.2.2.2.2.2.1 d.2.2.2.2.2.2.2.2.2.2.2.2.2.1 d.2.2.2.2.2.2.2.2.2.2.2.2.2.2 (BY K)
def cy:BX R
 | 0,_,_,_,_,_,_,_,_,_,_,_,_,_,_,_,_=>none
 | n+1,gf,gk,gw,mA,wC,xH,EC,Gc,JK,JL,qm,zF,Ff,Fg,OD,e0=>xl bj aO (fun gf gk gw mA wC xH EC Gc JK JL qm zF Ff Fg OD=>cy n gf gk gw mA wC xH EC Gc JK JL qm zF Ff Fg OD e0) gf gk gw mA wC xH EC Gc JK JL qm zF Ff Fg OD e0
def KS (K:Ex→St→Option R) (n:Nat) (d:nA):Option R:=cy n d.1 d.2.1 d.2.2.1 d.2.2.2.1 d.2.2.2.2.1 d.2.2.2.2.2.1 d.2.2.2.2.2.2.1 d.2.2.2.2.2.2.2.1 d.2.2.2.2.2.2.2.2.1 d.2.2.2.2.2.2.2.2.2.1 d.2.2.2.2.2.2.2.2.2.2.1 d.2.2.2.2.2.2.2.2.2.2.2.1 d.2.2.2.2.2.2.2.2.2.2.2.2.1 d.2.2.2.2.2.2.2.2.2.2.2.2.2.1 d.2.2.2.2.2.2.2.2.2.2.2.2.2.2 (BZ K)
theorem Ul (other:cQ R) (ho:hG tt (cT (oK (R:=R) bj bL aO fT cW aZ dG)) (rP (R:=R) cx cy) 0 ((az (aX Tryz.f29)).getD 0 .skip) xi other):hG tt (cT (oK (R:=R) bj bL aO fT cW aZ dG)) (rP (R:=R) cx cy) 0 ((az (aX Tryz.f29)).getD 0 .skip) xi (cM rL rM (Ji (cx)) other) :=
 cS (A:=KR) ho (dX Ai (KP bj aO) (KR) (fun _ _=>by kernel_rfl) (Rv bj bL aO fT cW aZ dG cx cy) (fun _ _ _=>by kernel_rfl)) KN Wv (fun _ _=>by kernel_rfl) (fun _ _ _=>by kernel_rfl)
theorem Um (other:cQ R) (ho:hG tt (cT (oK (R:=R) bj bL aO fT cW aZ dG)) (rP (R:=R) cx cy) 0 ((az (aX Tryz.f29)).getD 1 .skip) xj other):hG tt (cT (oK (R:=R) bj bL aO fT cW aZ dG)) (rP (R:=R) cx cy) 0 ((az (aX Tryz.f29)).getD 1 .skip) xj (cM rN rO (Jj (cy)) other) :=
 cS (A:=KS) ho (dX Aj (KQ bj aO) (KS) (fun _ _=>by kernel_rfl) (Rw bj bL aO fT cW aZ dG cx cy) (fun _ _ _=>by kernel_rfl)) KO Ww (fun _ _=>by kernel_rfl) (fun _ _ _=>by kernel_rfl)
def bM:sj R:=fun x1 k0=>OC bL aO fT cW aZ dG cx cy x1 k0
theorem XO (R:Type):∀a∈az (aX Tryz.f29),gN tt (cT (oK (R:=R) bj bL aO fT cW aZ dG)) (rP (R:=R) cx cy) 0 a:=by
 refine fb 2 (by kernel_rfl) fun i hi => ?_
 match i,hi with
 | 0,_=>exact cA (by kernel_rfl) (Ul _ dy)
 | 1,_=>exact cA (by kernel_rfl) (Um _ dy)
 | n+2,hi=>omega
theorem Bm (R:Type):kM Tryz.prog 29 (DZ (bM (R:=R))):=br TT mixed (order_Take_EOk (R:=R)) rfl rfl rfl rfl (XO R) (order_Take_ok bj bL aO fT cW aZ dG cx cy)
variable {R:Type}
abbrev mM (R:Type):Type:=(List Stop)→(List Stop)→(Bool→Option R)→Option R
abbrev ug:List cU := [.leaf (.sl .stop), .leaf (.sl .stop)]
abbrev uh:List aU := []
def A6 (fn:mM R):lC R ug uh:=fun x y k=>fn x.1 x.2.1 (fun q0=>k (.bool q0) [])
def Ct (fn:mM R):=aG ug uh (A6 fn)
abbrev nU (R:Type):Type:=Nat→(List Stop)→(List Stop)→Int→Int→(Option R)→(Bool→Option R)→Option R
def kC:Hint := { live := [0,1,12,13],own := [],rows := [],cells := [],drop := [],out := [4] }
abbrev fY:Type:=(List Stop)×(List Stop)×Int×Int
def mY:fY→St:=fun d=>⟨.sl .stop d.1 .no :: .sl .stop d.2.1 .no::U 10 (.int .i64 d.2.2.1 :: .int .i64 d.2.2.2::U 12 ([])), []⟩
def nV (K:Ex→St→Option R):Option R:=K (.exit 0) ⟨U 26 ([]), []⟩
def nW (K:Ex→St→Option R) (q0:Bool):Option R:=K (.ret) ⟨U 4 (.bool q0::U 21 ([])), []⟩
abbrev iG:List cU := .leaf (.sl .stop) :: .leaf (.sl .stop)::PU 10 (.leaf (.int .i64) :: .leaf (.int .i64)::PU 12 ([]))
abbrev iH:List aU := []
def xm (x:cU.bT iG) (y:aU.bT iH):Nat:=(List.length x.1+List.length x.2.1+Int.natAbs ((t8 x).2.2.2.2.1)+Int.natAbs ((t8 x).2.2.2.2.2.1)+64)
def Ia (x:cU.bT iG) (y:aU.bT iH):fY:=(x.1,x.2.1,(t8 x).2.2.2.2.1,(t8 x).2.2.2.2.2.1)
def vZ (L:nU R):xp R iG iH:=fun x y K=>L (xm x y) x.1 x.2.1 ((t8 x).2.2.2.2.1) ((t8 x).2.2.2.2.2.1) (nV K) (nW K)
section
variable (bA:nU R)
def kD (dJ:(List Stop)→(List Stop)→Int→Int→Option R) (x3:List Stop) (x4:List Stop) (x5:Int) (x6:Int) (e0:Option R) (e1:Bool→Option R):Option R :=
 bif (decide (x6<x5))then (bX (decide ((0:Int)≤x6)&&decide (x6<x3.length)) (bX (decide ((0:Int)≤x6)&&decide (x6<x4.length)) (bif (!((x3.getD x6.toNat (Ty.aR .stop)).node==(x4.getD x6.toNat (Ty.aR .stop)).node&&((x3.getD x6.toNat (Ty.aR .stop)).seq==(x4.getD x6.toNat (Ty.aR .stop)).seq&&((x3.getD x6.toNat (Ty.aR .stop)).bE==(x4.getD x6.toNat (Ty.aR .stop)).bE&&true))))then (e1 false)else (dJ x3 x4 x5 (IntKind.i64.wrap (x6+1))))))else (e0)
def xn (K:Ex→St→Option R) (rc:fY→Option R) (d:fY):Option R:=kD (fun z0 z1 z2 z3=>rc (z0,z1,z2,z3)) d.1 d.2.1 d.2.2.1 d.2.2.2 (nV K) (nW K)
def ko:Nat→Option (Hint×cQ R):=fun i=>match i with
 | 4=>some (kC,(cM iG iH (vZ bA) iK))
 | _=>none
theorem Fw (K:Ex→St→Option R) (rc:St→Option R) (d:fY):roundOf tt (cT []) (ko bA) 0 ((az (aX Tryz.f65)).getD 0 .skip) kC (mY d) rc K=xn K (fun d=>rc (mY d)) d:=by kernel_rfl
def ui (x1:List Stop) (x2:List Stop) (k0:Bool→Option R):Option R :=
 bif ((x1.length:Int) != (x2.length:Int))then (k0 false)else (bA (List.length x1+List.length x2+Int.natAbs (x1.length:Int)+Int.natAbs 0+64) x1 x2 (x1.length:Int) 0 (k0 true) (fun y7=>k0 y7))
theorem LO:dO (R:=R) tt [] (ko bA) false Tryz.f65 ug uh (A6 (ui bA)):=fun x y k=>by kernel_rfl
end
def bA:nU R
 | 0,_,_,_,_,_,_=>none
 | n+1,gf,gk,gw,mA,e0,e1=>kD (fun gf gk gw mA=>bA n gf gk gw mA e0 e1) gf gk gw mA e0 e1
def xo (K:Ex→St→Option R) (n:Nat) (d:fY):Option R:=bA n d.1 d.2.1 d.2.2.1 d.2.2.2 (nV K) (nW K)
theorem Hf (other:cQ R) (ho:hG tt (cT []) (ko (R:=R) bA) 0 ((az (aX Tryz.f65)).getD 0 .skip) kC other):hG tt (cT []) (ko (R:=R) bA) 0 ((az (aX Tryz.f65)).getD 0 .skip) kC (cM iG iH (vZ (bA)) other) :=
 cS (A:=xo) ho (dX mY (xn) (xo) (fun _ _=>by kernel_rfl) (Fw bA) (fun _ _ _=>by kernel_rfl)) xm Ia (fun _ _=>by kernel_rfl) (fun _ _ _=>by kernel_rfl)
def ef:mM R:=fun x1 x2 k0=>ui bA x1 x2 k0
theorem Ib (R:Type):∀a∈az (aX Tryz.f65),gN tt (cT []) (ko (R:=R) bA) 0 a:=by
 refine fb 1 (by kernel_rfl) fun i hi => ?_
 match i,hi with
 | 0,_=>exact cA (by kernel_rfl) (Hf _ dy)
 | n+1,hi=>omega
theorem Jk (R:Type):kM Tryz.prog 65 (Ct (ef (R:=R))):=br TT mixed .n rfl rfl rfl rfl (Ib R) (LO bA)
abbrev oL (R:Type):Type:=(List aA.Way)→(List aA.Way)→(Bool→Option R)→Option R
abbrev wH:List cU := [.leaf (.sl .na), .leaf (.sl .na)]
abbrev wI:List aU := []
def D0 (fn:oL R):lC R wH wI:=fun x y k=>fn x.1 x.2.1 (fun q0=>k (.bool q0) [])
def EW (fn:oL R):=aG wH wI (D0 fn)
abbrev pG (R:Type):Type:=Nat→(List aA.Way)→(List aA.Way)→Int→Int→(Option R)→(Bool→Option R)→Option R
def lV:Hint := { live := [0,1,12,13],own := [],rows := [],cells := [],drop := [],out := [4] }
abbrev gR:Type:=(List aA.Way)×(List aA.Way)×Int×Int
def oM:gR→St:=fun d=>⟨.sl .na d.1 .no :: .sl .na d.2.1 .no::U 10 (.int .i64 d.2.2.1 :: .int .i64 d.2.2.2::U 12 ([])), []⟩
def pH (K:Ex→St→Option R):Option R:=K (.exit 0) ⟨U 26 ([]), []⟩
def pI (K:Ex→St→Option R) (q0:Bool):Option R:=K (.ret) ⟨U 4 (.bool q0::U 21 ([])), []⟩
abbrev jE:List cU := .leaf (.sl .na) :: .leaf (.sl .na)::PU 10 (.leaf (.int .i64) :: .leaf (.int .i64)::PU 12 ([]))
abbrev jF:List aU := []
def zn (x:cU.bT jE) (y:aU.bT jF):Nat:=(List.length x.1+List.length x.2.1+Int.natAbs ((t8 x).2.2.2.2.1)+Int.natAbs ((t8 x).2.2.2.2.2.1)+64)
def J3 (x:cU.bT jE) (y:aU.bT jF):gR:=(x.1,x.2.1,(t8 x).2.2.2.2.1,(t8 x).2.2.2.2.2.1)
def yl (L:pG R):xp R jE jF:=fun x y K=>L (zn x y) x.1 x.2.1 ((t8 x).2.2.2.2.1) ((t8 x).2.2.2.2.2.1) (pH K) (pI K)
section
variable (bO:pG R)
def lW (dJ:(List aA.Way)→(List aA.Way)→Int→Int→Option R) (x3:List aA.Way) (x4:List aA.Way) (x5:Int) (x6:Int) (e0:Option R) (e1:Bool→Option R):Option R :=
 bif (decide (x6<x5))then (bX (decide ((0:Int)≤x6)&&decide (x6<x3.length)) (bX (decide ((0:Int)≤x6)&&decide (x6<x4.length)) (bif (!((x3.getD x6.toNat (Ty.aR .na)).zy==(x4.getD x6.toNat (Ty.aR .na)).zy&&((x3.getD x6.toNat (Ty.aR .na)).seq==(x4.getD x6.toNat (Ty.aR .na)).seq&&((x3.getD x6.toNat (Ty.aR .na)).bE==(x4.getD x6.toNat (Ty.aR .na)).bE&&true))))then (e1 false)else (dJ x3 x4 x5 (IntKind.i64.wrap (x6+1))))))else (e0)
def zo (K:Ex→St→Option R) (rc:gR→Option R) (d:gR):Option R:=lW (fun z0 z1 z2 z3=>rc (z0,z1,z2,z3)) d.1 d.2.1 d.2.2.1 d.2.2.2 (pH K) (pI K)
def l8:Nat→Option (Hint×cQ R):=fun i=>match i with
 | 4=>some (lV,(cM jE jF (yl bO) iK))
 | _=>none
theorem Hg (K:Ex→St→Option R) (rc:St→Option R) (d:gR):roundOf tt (cT []) (l8 bO) 0 ((az (aX Tryz.f66)).getD 0 .skip) lV (oM d) rc K=zo K (fun d=>rc (oM d)) d:=by kernel_rfl
def wJ (x1:List aA.Way) (x2:List aA.Way) (k0:Bool→Option R):Option R :=
 bif ((x1.length:Int) != (x2.length:Int))then (k0 false)else (bO (List.length x1+List.length x2+Int.natAbs (x1.length:Int)+Int.natAbs 0+64) x1 x2 (x1.length:Int) 0 (k0 true) (fun y7=>k0 y7))
theorem OE:dO (R:=R) tt [] (l8 bO) false Tryz.f66 wH wI (D0 (wJ bO)):=fun x y k=>by kernel_rfl
end
def bO:pG R
 | 0,_,_,_,_,_,_=>none
 | n+1,gf,gk,gw,mA,e0,e1=>lW (fun gf gk gw mA=>bO n gf gk gw mA e0 e1) gf gk gw mA e0 e1
def zp (K:Ex→St→Option R) (n:Nat) (d:gR):Option R:=bO n d.1 d.2.1 d.2.2.1 d.2.2.2 (pH K) (pI K)
theorem Jl (other:cQ R) (ho:hG tt (cT []) (l8 (R:=R) bO) 0 ((az (aX Tryz.f66)).getD 0 .skip) lV other):hG tt (cT []) (l8 (R:=R) bO) 0 ((az (aX Tryz.f66)).getD 0 .skip) lV (cM jE jF (yl (bO)) other) :=
 cS (A:=zp) ho (dX oM (zo) (zp) (fun _ _=>by kernel_rfl) (Hg bO) (fun _ _ _=>by kernel_rfl)) zn J3 (fun _ _=>by kernel_rfl) (fun _ _ _=>by kernel_rfl)
def eW:oL R:=fun x1 x2 k0=>wJ bO x1 x2 k0
theorem J4 (R:Type):∀a∈az (aX Tryz.f66),gN tt (cT []) (l8 (R:=R) bO) 0 a:=by
 refine fb 1 (by kernel_rfl) fun i hi => ?_
 match i,hi with
 | 0,_=>exact cA (by kernel_rfl) (Jl _ dy)
 | n+1,hi=>omega
theorem LP (R:Type):kM Tryz.prog 66 (EW (eW (R:=R))):=br TT mixed .n rfl rfl rfl rfl (J4 R) (OE bO)
abbrev wA (R:Type):Type:=Order→Order→(Bool→Option R)→Option R
abbrev OF:List cU := [.agg [.int .i64, .str, .int .i64, .int .i64, .sl .stop, .sl .na], .agg [.int .i64, .str, .int .i64, .int .i64, .sl .stop, .sl .na]]
abbrev OG:List aU := []
def Tr (fn:wA R):lC R OF OG:=fun x y k=>fn (⟨x.1.1,x.1.2.1,x.1.2.2.1,x.1.2.2.2.1,x.1.2.2.2.2.1,x.1.2.2.2.2.2.1⟩:Order) (⟨x.2.1.1,x.2.1.2.1,x.2.1.2.2.1,x.2.1.2.2.2.1,x.2.1.2.2.2.2.1,x.2.1.2.2.2.2.2.1⟩:Order) (fun q0=>k (.bool q0) [])
def Ic (fn:wA R):=aG OF OG (Tr fn)
section
variable (ef:mM R) (eW:oL R)
def Wx:List (oo R) := [(65,true,(Ct ef av)),(66,true,(EW eW av))]
def OH (x1:Order) (x2:Order) (k0:Bool→Option R):Option R :=
 bif (x1.header==x2.header)then (bif (x1.cd==x2.cd)then (bif (x1.order==x2.order)then (bif (x1.update==x2.update)then (ef x1.nodes x2.nodes (fun y3=>bif y3 then (eW x1.aS x2.aS (fun y4=>k0 y4))else (k0 false)))else (k0 false))else (k0 false))else (k0 false))else (k0 false)
theorem order_Same_ok:dO (R:=R) tt (Wx ef eW) sS false Tryz.f23 OF OG (Tr (OH ef eW)):=fun x y k=>by kernel_rfl
end
theorem order_Same_EOk:cE (R:=R) Tryz.prog (Wx (R:=R) ef eW) := .c (Jk R) <| .c (LP R) <| .n
def cu:wA R:=fun x1 x2 k0=>OH ef eW x1 x2 k0
theorem Hh (R:Type):kM Tryz.prog 23 (Ic (cu (R:=R))):=br TT mixed (order_Same_EOk (R:=R)) rfl rfl rfl rfl cq (order_Same_ok ef eW)
abbrev F2 (R:Type):Type:=Order→(Int→Option R)→Option R
abbrev OI:List cU := [.agg [.int .i64, .str, .int .i64, .int .i64, .sl .stop, .sl .na]]
abbrev OJ:List aU := []
def Ts (fn:F2 R):lC R OI OJ:=fun x y k=>fn (⟨x.1.1,x.1.2.1,x.1.2.2.1,x.1.2.2.2.1,x.1.2.2.2.2.1,x.1.2.2.2.2.2.1⟩:Order) (fun q0=>k (.int .i64 q0) [])
def Wy (fn:F2 R):=aG OI OJ (Ts fn)
abbrev D1 (R:Type):Type:=Nat→Int→(List Stop)→Int→Int→(Int→Option R)→Option R
def yL:Hint := { live := [2,6,7,8],own := [],rows := [],cells := [],drop := [],out := [2] }
abbrev o5:Type:=Int×(List Stop)×Int×Int
def B0:o5→St:=fun d=>⟨U 2 (.int .i64 d.1::U 3 (.sl .stop d.2.1 .no :: .int .i64 d.2.2.1 :: .int .i64 d.2.2.2::U 8 ([]))), []⟩
def D2 (K:Ex→St→Option R) (q0:Int):Option R:=K (.exit 0) ⟨U 2 (.int .i64 q0::U 14 ([])), []⟩
abbrev uj:List cU:=PU 2 (.leaf (.int .i64)::PU 3 (.leaf (.sl .stop) :: .leaf (.int .i64) :: .leaf (.int .i64)::PU 8 ([])))
abbrev uk:List aU := []
def MB (x:cU.bT uj) (y:aU.bT uk):Nat:=(Int.natAbs x.2.2.1+List.length x.2.2.2.2.2.2.1+Int.natAbs x.2.2.2.2.2.2.2.1+Int.natAbs ((t8 x).1)+64)
def XP (x:cU.bT uj) (y:aU.bT uk):o5:=(x.2.2.1,x.2.2.2.2.2.2.1,x.2.2.2.2.2.2.2.1,(t8 x).1)
def KT (L:D1 R):xp R uj uk:=fun x y K=>L (MB x y) x.2.2.1 x.2.2.2.2.2.2.1 x.2.2.2.2.2.2.2.1 ((t8 x).1) (D2 K)
section
variable (dC:D1 R)
def yM (dJ:Int→(List Stop)→Int→Int→Option R) (x2:Int) (x3:List Stop) (x4:Int) (x5:Int) (e0:Int→Option R):Option R :=
 bif (decide (x5<x4))then (bX (decide ((0:Int)≤x5)&&decide (x5<x3.length)) (bif (x3.getD x5.toNat (Ty.aR .stop)).bE then (dJ (IntKind.i64.wrap (x2+1)) x3 x4 (IntKind.i64.wrap (x5+1)))else (dJ x2 x3 x4 (IntKind.i64.wrap (x5+1)))))else (e0 x2)
def MC (K:Ex→St→Option R) (rc:o5→Option R) (d:o5):Option R:=yM (fun z0 z1 z2 z3=>rc (z0,z1,z2,z3)) d.1 d.2.1 d.2.2.1 d.2.2.2 (D2 K)
def D3:Nat→Option (Hint×cQ R):=fun i=>match i with
 | 2=>some (yL,(cM uj uk (KT dC) iK))
 | _=>none
theorem SH (K:Ex→St→Option R) (rc:St→Option R) (d:o5):roundOf tt (cT []) (D3 dC) 0 ((az (aX Tryz.f25)).getD 0 .skip) yL (B0 d) rc K=MC K (fun d=>rc (B0 d)) d:=by kernel_rfl
def OK (x1:Order) (k0:Int→Option R):Option R :=
 dC (Int.natAbs 0+List.length x1.nodes+Int.natAbs (x1.nodes.length:Int)+Int.natAbs 0+64) 0 x1.nodes (x1.nodes.length:Int) 0 (fun y7=>k0 y7)
theorem order_Base_ok:dO (R:=R) tt [] (D3 dC) false Tryz.f25 OI OJ (Ts (OK dC)):=fun x y k=>by kernel_rfl
end
def dC:D1 R
 | 0,_,_,_,_,_=>none
 | n+1,gf,gk,gw,mA,e0=>yM (fun gf gk gw mA=>dC n gf gk gw mA e0) gf gk gw mA e0
def MD (K:Ex→St→Option R) (n:Nat) (d:o5):Option R:=dC n d.1 d.2.1 d.2.2.1 d.2.2.2 (D2 K)
theorem Wz (other:cQ R) (ho:hG tt (cT []) (D3 (R:=R) dC) 0 ((az (aX Tryz.f25)).getD 0 .skip) yL other):hG tt (cT []) (D3 (R:=R) dC) 0 ((az (aX Tryz.f25)).getD 0 .skip) yL (cM uj uk (KT (dC)) other) :=
 cS (A:=MD) ho (dX B0 (MC) (MD) (fun _ _=>by kernel_rfl) (SH dC) (fun _ _ _=>by kernel_rfl)) MB XP (fun _ _=>by kernel_rfl) (fun _ _ _=>by kernel_rfl)
def mq:F2 R:=fun x1 k0=>OK dC x1 k0
theorem XQ (R:Type):∀a∈az (aX Tryz.f25),gN tt (cT []) (D3 (R:=R) dC) 0 a:=by
 refine fb 1 (by kernel_rfl) fun i hi => ?_
 match i,hi with
 | 0,_=>exact cA (by kernel_rfl) (Wz _ dy)
 | n+1,hi=>omega
theorem Zu (R:Type):kM Tryz.prog 25 (Wy (mq (R:=R))):=br TT mixed .n rfl rfl rfl rfl (XQ R) (order_Base_ok dC)
abbrev pJ (R:Type):Type:=(Bool→Option R)→Option R
abbrev LQ:List cU := []
abbrev LR:List aU := []
def Rx (fn:pJ R):lC R LQ LR:=fun x y k=>fn (fun q0=>k (.bool q0) [])
def A7 (fn:pJ R):=aG LQ LR (Rx fn)
section
variable (mq:F2 R) (bz:rK R) (aZ:mS R) (cu:wA R) (bM:sj R) (bV:rJ R)
def Tt:List (oo R) := [(25,true,(Wy mq av)),(19,true,(Cq bz av)),(21,true,(wm aZ av)),(23,true,(Ic cu av)),(29,true,(DZ bM av)),(28,true,(Cp bV av))]
def LS (k0:Bool→Option R):Option R :=
 bz (⟨1,([118,49]:ae),2,0,([(⟨3,0,true⟩:Stop)]:List Stop),([]:List aA.Way)⟩:Order) (fun y1 y2=>bM y1 (fun y3 y4=>bz (⟨0,([]:ae),0,0,([]:List Stop),([]:List aA.Way)⟩:Order) (fun y5 y6=>bif (y2==0)then (bV ([123,34,104,101,97,100,101,114,73,100,34,58,49,44,34,115,101,114,105,97,108,78,117,109,98,101,114,34,58,34,118,49,34,44,34,111,114,100,101,114,73,100,34,58,50,44,34,111,114,100,101,114,85,112,100,97,116,101,73,100,34,58,48,44,34,110,111,100,101,115,34,58,91,123,34,110,111,100,101,73,100,34,58,51,44,34,115,101,113,117,101,110,99,101,73,100,34,58,48,44,34,114,101,108,101,97,115,101,100,34,58,116,114,117,101,125,93,44,34,101,100,103,101,115,34,58,91,93,125]:ae) (fun y7=>bif (y1==y7)then (bif (decide ((y1.length:Int)>(100:Int)))then (bif (y4==0)then (cu (⟨1,([118,49]:ae),2,0,([(⟨3,0,true⟩:Stop)]:List Stop),([]:List aA.Way)⟩:Order) y3 (fun y8=>bif y8 then (mq (⟨1,([118,49]:ae),2,0,([(⟨3,0,true⟩:Stop)]:List Stop),([]:List aA.Way)⟩:Order) (fun y9=>bif (y9==1)then (bif (y6==1)then (aZ (⟨1,([118,49]:ae),2,0,([(⟨3,0,true⟩:Stop)]:List Stop),([]:List aA.Way)⟩:Order) (fun p9=>k0 p9))else (k0 false))else (k0 false)))else (k0 false)))else (k0 false))else (k0 false))else (k0 false)))else (k0 false))))
theorem law08_awake_ok:dO (R:=R) tt (Tt mq bz aZ cu bM bV) sS false Tryz.f17 LQ LR (Rx (LS mq bz aZ cu bM bV)):=fun x y k=>by kernel_rfl
end
theorem Zv:cE (R:=R) Tryz.prog (Tt (R:=R) mq bz aZ cu bM bV) := .c (Zu R) <| .c (yk R) <| .c (td R) <| .c (Hh R) <| .c (Bm R) <| .c (yj R) <| .n
def bP:pJ R:=fun  k0=>LS mq bz aZ cu bM bV  k0
theorem yN (R:Type):kM Tryz.prog 17 (A7 (bP (R:=R))):=br TT mixed (Zv (R:=R)) rfl rfl rfl rfl cq (law08_awake_ok mq bz aZ cu bM bV)
abbrev oX (R:Type):Type:=Int→Int→(Int→Option R)→Option R
abbrev OL:List cU := [.leaf (.int .i64), .leaf (.int .i64)]
abbrev OM:List aU := []
def Tu (fn:oX R):lC R OL OM:=fun x y k=>fn x.1 x.2.1 (fun q0=>k (.int .i64 q0) [])
def yO (fn:oX R):=aG OL OM (Tu fn)
section
def WA (x1:Int) (x2:Int) (k0:Int→Option R):Option R :=
 bif (decide (x1<(0:Int)))then (bX (!decide (x2=0)) (k0 (Int.tmod (IntKind.i64.wrap (0 - (IntKind.i64.wrap (x1+1)))) x2)))else (bX (!decide (x2=0)) (k0 (Int.tmod x1 x2)))
theorem law08_pick_ok:dO (R:=R) tt [] sS false Tryz.f27 OL OM (Tu WA):=fun x y k=>by kernel_rfl
end
def bc:oX R:=fun x1 x2 k0=>WA x1 x2 k0
theorem v7 (R:Type):kM Tryz.prog 27 (yO (bc (R:=R))):=br TT mixed .n rfl rfl rfl rfl cq (law08_pick_ok)
abbrev D4 (R:Type):Type:=ae→(ae→Option R)→Option R
abbrev Ry:List cU := [.leaf (.str)]
abbrev Rz:List aU := []
def WB (fn:D4 R):lC R Ry Rz:=fun x y k=>fn x.1 (fun q0=>k (.str q0) [])
def RA (fn:D4 R):=aG Ry Rz (WB fn)
abbrev Fx (R:Type):Type:=Nat→Nat→Int→(List Int)→(Nat→(List Int)→Option R)→Option R
def Bn:Hint := { live := [3,4],own := [],rows := [],cells := [],drop := [],out := [2,3] }
abbrev qA:Type:=Nat×Int×(List Int)
def D5:qA→St:=fun d=>⟨U 3 (.row 0 d.1 :: .int .i64 d.2.1::U 25 ([])), [.row (.int .u8) d.2.2]⟩
def Fy (K:Ex→St→Option R) (q0:Nat) (q1:List Int):Option R:=K (.exit 0) ⟨U 3 (.row 0 q0::U 26 ([])), [.row (.int .u8) q1]⟩
abbrev v8:List cU:=PU 3 (.leaf (.row 0) :: .leaf (.int .i64)::PU 25 ([]))
abbrev wa:List aU := [.row (.int .u8)]
def Pv (x:cU.bT v8) (y:aU.bT wa):Nat:=(Int.natAbs x.2.2.2.2.1+List.length y.1+64)
def Zw (x:cU.bT v8) (y:aU.bT wa):qA:=(x.2.2.2.1,x.2.2.2.2.1,y.1)
def ME (L:Fx R):xp R v8 wa:=fun x y K=>L (Pv x y) x.2.2.2.1 x.2.2.2.2.1 y.1 (Fy K)
section
variable (dP:Fx R)
def Bo (dJ:Nat→Int→(List Int)→Option R) (x2:Nat) (x3:Int) (x4:List Int) (e0:Nat→(List Int)→Option R):Option R :=
 bif (decide (x3<(x2:Int)))then (bX (decide ((0:Int)≤x3)&&decide (x3<x2)) (bX (decide (x3.toNat<x4.length)) (bX (decide ((0:Int)≤(Int.tmod (IntKind.i64.wrap (x4.getD x3.toNat (Ty.aR (.int .u8)))) 20))&&decide ((Int.tmod (IntKind.i64.wrap (x4.getD x3.toNat (Ty.aR (.int .u8)))) 20)<(20:Int))) (bX (decide ((0:Int)≤x3)&&decide (x3<x2)) (bX (decide (x3.toNat<x4.length)) (dJ x2 (IntKind.i64.wrap (x3+1)) (x4.set x3.toNat ((([97,98,99,120,121,122,65,66,67,88,89,90,48,49,56,57,95,46,58,45]:ae).getD ((Int.tmod (IntKind.i64.wrap (x4.getD x3.toNat (Ty.aR (.int .u8)))) 20).toNat) 0).toNat:Int))))))))else (e0 x2 x4)
def Pw (K:Ex→St→Option R) (rc:qA→Option R) (d:qA):Option R:=Bo (fun z0 z1 z2=>rc (z0,z1,z2)) d.1 d.2.1 d.2.2 (Fy K)
def Gv:Nat→Option (Hint×cQ R):=fun i=>match i with
 | 3=>some (Bn,(cM v8 wa (ME dP) iK))
 | _=>none
theorem Un (K:Ex→St→Option R) (rc:St→Option R) (d:qA):roundOf tt (cT []) (Gv dP) 0 ((az (aX Tryz.f33)).getD 0 .skip) Bn (D5 d) rc K=Pw K (fun d=>rc (D5 d)) d:=by kernel_rfl
def RB (x1:ae) (k0:ae→Option R):Option R :=
 bX (decide ((0:Int)≤(min (x1.length:Int) 15))&&decide ((min (x1.length:Int) 15)≤x1.length)) (bX (decide ((0:Int)≤(min (x1.length:Int) 15))) (bX (decide (1+((x1.drop 0).take ((min (x1.length:Int) 15).toNat - 0)).length≤9223372036854775807)) (dP (Int.natAbs 1+List.length (hJ (([110]:ae)++((x1.drop 0).take ((min (x1.length:Int) 15).toNat - 0))))+64) ((([110]:ae)++((x1.drop 0).take ((min (x1.length:Int) 15).toNat - 0))).length) 1 (hJ (([110]:ae)++((x1.drop 0).take ((min (x1.length:Int) 15).toNat - 0)))) (fun y5 y6=>k0 (List.map (fun n:Int=>UInt8.ofNat n.toNat) y6:ae)))))
theorem law07_Fit_ok:dO (R:=R) tt [] (Gv dP) false Tryz.f33 Ry Rz (WB (RB dP)):=fun x y k=>by kernel_rfl
end
def dP:Fx R
 | 0,_,_,_,_=>none
 | n+1,gf,gk,gw,e0=>Bo (fun gf gk gw=>dP n gf gk gw e0) gf gk gw e0
def Px (K:Ex→St→Option R) (n:Nat) (d:qA):Option R:=dP n d.1 d.2.1 d.2.2 (Fy K)
theorem XR (other:cQ R) (ho:hG tt (cT []) (Gv (R:=R) dP) 0 ((az (aX Tryz.f33)).getD 0 .skip) Bn other):hG tt (cT []) (Gv (R:=R) dP) 0 ((az (aX Tryz.f33)).getD 0 .skip) Bn (cM v8 wa (ME (dP)) other) :=
 cS (A:=Px) ho (dX D5 (Pw) (Px) (fun _ _=>by kernel_rfl) (Un dP) (fun _ _ _=>by kernel_rfl)) Pv Zw (fun _ _=>by kernel_rfl) (fun _ _ _=>by kernel_rfl)
def eK:D4 R:=fun x1 k0=>RB dP x1 k0
theorem Zx (R:Type):∀a∈az (aX Tryz.f33),gN tt (cT []) (Gv (R:=R) dP) 0 a:=by
 refine fb 1 (by kernel_rfl) fun i hi => ?_
 match i,hi with
 | 0,_=>exact cA (by kernel_rfl) (XR _ dy)
 | n+1,hi=>omega
theorem RC (R:Type):kM Tryz.prog 33 (RA (eK (R:=R))):=br TT mixed .n rfl rfl rfl rfl (Zx R) (law07_Fit_ok dP)
variable {R:Type}
abbrev vq (R:Type):Type:=Order→Int→(Order→Option R)→Option R
abbrev RD:List cU := [.agg [.int .i64, .str, .int .i64, .int .i64, .sl .stop, .sl .na], .leaf (.int .i64)]
abbrev RE:List aU := []
def WC (fn:vq R):lC R RD RE:=fun x y k=>fn (⟨x.1.1,x.1.2.1,x.1.2.2.1,x.1.2.2.2.1,x.1.2.2.2.2.1,x.1.2.2.2.2.2.1⟩:Order) x.2.1 (fun q0=>k (.agg [.int .i64 q0.header, .str q0.cd, .int .i64 q0.order, .int .i64 q0.update, .sl .stop q0.nodes .no, .sl .na q0.aS .no]) [])
def Gw (fn:vq R):=aG RD RE (WC fn)
abbrev Fz (R:Type):Type:=Nat→Int→Int→Int→Int→Order→Int→ae→Int→Int→Int→ae→Int→Int→(List Stop)→(List aA.Way)→(Int→ae→Int→Int→Int→ae→Int→Int→(List Stop)→(List aA.Way)→Option R)→Option R
def Bp:Hint := { live := [2,4,5,6,7,8,9],own := [],rows := [],cells := [(2,4, .stop,false),(2,5, .na,false)],drop := [],out := [4,5] }
abbrev qB:Type:=Int×Int×Int×Int×Order×Int×ae×Int×Int×Int×ae×Int×Int×(List Stop)×(List aA.Way)
def D6:qB→St:=fun d=>⟨U 2 (.ptr 0 0 :: .undef :: .ptr 1 0 :: .ptr 2 0 :: .int .i64 d.1 :: .int .i64 d.2.1 :: .int .i64 d.2.2.1 :: .int .i64 d.2.2.2.1::U 85 ([])), [.cells [.int .i64 d.2.2.2.2.1.header, .str d.2.2.2.2.1.cd, .int .i64 d.2.2.2.2.1.order, .int .i64 d.2.2.2.2.1.update, .sl .stop d.2.2.2.2.1.nodes .no, .sl .na d.2.2.2.2.1.aS .no], .cells [.int .i64 d.2.2.2.2.2.1, .str d.2.2.2.2.2.2.1, .int .i64 d.2.2.2.2.2.2.2.1, .int .i64 d.2.2.2.2.2.2.2.2.1, .bB, .bB], .cells [.int .i64 d.2.2.2.2.2.2.2.2.2.1, .str d.2.2.2.2.2.2.2.2.2.2.1, .int .i64 d.2.2.2.2.2.2.2.2.2.2.2.1, .int .i64 d.2.2.2.2.2.2.2.2.2.2.2.2.1, .sl .stop d.2.2.2.2.2.2.2.2.2.2.2.2.2.1 (.own 3), .sl .na d.2.2.2.2.2.2.2.2.2.2.2.2.2.2 (.own 4)], .tok, .tok]⟩
def FA (K:Ex→St→Option R) (q0:Int) (q1:ae) (q2:Int) (q3:Int) (q4:Int) (q5:ae) (q6:Int) (q7:Int) (q8:List Stop) (q9:List aA.Way):Option R:=K (.exit 0) ⟨U 4 (.ptr 0 0 :: .ptr 1 0::U 89 ([])), [.cells [.int .i64 q0, .str q1, .int .i64 q2, .int .i64 q3, .bB, .bB], .cells [.int .i64 q4, .str q5, .int .i64 q6, .int .i64 q7, .sl .stop q8 (.own 2), .sl .na q9 (.own 3)], .tok, .tok]⟩
abbrev wc:List cU:=PU 2 (.leaf (.ptr 0 0) :: .leaf (.undef) :: .leaf (.ptr 1 0) :: .leaf (.ptr 2 0) :: .leaf (.int .i64) :: .leaf (.int .i64) :: .leaf (.int .i64) :: .leaf (.int .i64)::PU 85 ([]))
abbrev wg:List aU := [.cells [.int .i64, .str, .int .i64, .int .i64, .sl .stop, .sl .na], .cells [.int .i64, .str, .int .i64, .int .i64, .bB, .bB], .cells [.int .i64, .str, .int .i64, .int .i64, .TW .stop 3, .TW .na 4], .tok, .tok]
def Py (x:cU.bT wc) (y:aU.bT wg):Nat:=(Int.natAbs x.2.2.2.2.2.2.1+Int.natAbs x.2.2.2.2.2.2.2.1+Int.natAbs ((t8 x).1)+Int.natAbs ((t8 x).2.1)+Order.fu (⟨y.1.1,y.1.2.1,y.1.2.2.1,y.1.2.2.2.1,y.1.2.2.2.2.1,y.1.2.2.2.2.2.1⟩:Order)+Int.natAbs y.2.1.1+List.length y.2.1.2.1+Int.natAbs y.2.1.2.2.1+Int.natAbs y.2.1.2.2.2.1+Int.natAbs y.2.2.1.1+List.length y.2.2.1.2.1+Int.natAbs y.2.2.1.2.2.1+Int.natAbs y.2.2.1.2.2.2.1+List.length y.2.2.1.2.2.2.2.1+List.length y.2.2.1.2.2.2.2.2.1+64)
def Zy (x:cU.bT wc) (y:aU.bT wg):qB:=(x.2.2.2.2.2.2.1,x.2.2.2.2.2.2.2.1,(t8 x).1,(t8 x).2.1,(⟨y.1.1,y.1.2.1,y.1.2.2.1,y.1.2.2.2.1,y.1.2.2.2.2.1,y.1.2.2.2.2.2.1⟩:Order),y.2.1.1,y.2.1.2.1,y.2.1.2.2.1,y.2.1.2.2.2.1,y.2.2.1.1,y.2.2.1.2.1,y.2.2.1.2.2.1,y.2.2.1.2.2.2.1,y.2.2.1.2.2.2.2.1,y.2.2.1.2.2.2.2.2.1)
def MF (L:Fz R):xp R wc wg:=fun x y K=>L (Py x y) x.2.2.2.2.2.2.1 x.2.2.2.2.2.2.2.1 ((t8 x).1) ((t8 x).2.1) (⟨y.1.1,y.1.2.1,y.1.2.2.1,y.1.2.2.2.1,y.1.2.2.2.2.1,y.1.2.2.2.2.2.1⟩:Order) y.2.1.1 y.2.1.2.1 y.2.1.2.2.1 y.2.1.2.2.2.1 y.2.2.1.1 y.2.2.1.2.1 y.2.2.1.2.2.1 y.2.2.1.2.2.2.1 y.2.2.1.2.2.2.2.1 y.2.2.1.2.2.2.2.2.1 (FA K)
section
variable (eK:D4 R) (bc:oX R) (dE:Fz R)
def Cu:List (oo R) := [(33,true,(RA eK av)),(27,true,(yO bc av))]
def Bq (dJ:Int→Int→Int→Int→Order→Int→ae→Int→Int→Int→ae→Int→Int→(List Stop)→(List aA.Way)→Option R) (x9:Int) (Xp:Int) (PE:Int) (Et:Int) (JJ:Order) (Kn:Int) (ng:ae) (qM:Int) (lF:Int) (oE:Int) (AV:ae) (va:Int) (QT:Int) (x22:List Stop) (x23:List aA.Way) (e0:Int→ae→Int→Int→Int→ae→Int→Int→(List Stop)→(List aA.Way)→Option R):Option R :=
 bif (decide (Et<Xp))then (bif (decide (Et<(JJ.nodes.length:Int)))then (bX (decide ((0:Int)≤Et)&&decide (Et<JJ.nodes.length)) (bc ((JJ.nodes.getD Et.toNat (Ty.aR .stop)).node) 1000000001 (fun VE=>bX (decide ((0:Int)≤Et)&&decide (Et<JJ.nodes.length)) (bc ((JJ.nodes.getD Et.toNat (Ty.aR .stop)).seq) 1000000001 (fun JF=>bif (decide (Et>(0:Int)))then (bX (decide ((x23.length+1)*24≤140737488355328)) (bX (decide ((x22.length+1)*24≤140737488355328)) (dJ x9 Xp PE (IntKind.i64.wrap (Et+1)) JJ Kn ng qM lF oE AV va QT (x22++([(⟨VE,(IntKind.i64.wrap (x9+(IntKind.i64.wrap (2*Et)))),(decide (Et<PE))⟩:Stop)]:List Stop)) (x23++([(⟨JF,(IntKind.i64.wrap ((IntKind.i64.wrap (x9+(IntKind.i64.wrap (2*Et)))) - 1)),(decide (Et<PE))⟩:aA.Way)]:List aA.Way)))))else (bX (decide ((x22.length+1)*24≤140737488355328)) (dJ x9 Xp PE (IntKind.i64.wrap (Et+1)) JJ Kn ng qM lF oE AV va QT (x22++([(⟨VE,(IntKind.i64.wrap (x9+(IntKind.i64.wrap (2*Et)))),(decide (Et<PE))⟩:Stop)]:List Stop)) x23)))))))else (bif (decide (Et>(0:Int)))then (bX (decide ((x23.length+1)*24≤140737488355328)) (bX (decide ((x22.length+1)*24≤140737488355328)) (dJ x9 Xp PE (IntKind.i64.wrap (Et+1)) JJ Kn ng qM lF oE AV va QT (x22++([(⟨0,(IntKind.i64.wrap (x9+(IntKind.i64.wrap (2*Et)))),(decide (Et<PE))⟩:Stop)]:List Stop)) (x23++([(⟨0,(IntKind.i64.wrap ((IntKind.i64.wrap (x9+(IntKind.i64.wrap (2*Et)))) - 1)),(decide (Et<PE))⟩:aA.Way)]:List aA.Way)))))else (bX (decide ((x22.length+1)*24≤140737488355328)) (dJ x9 Xp PE (IntKind.i64.wrap (Et+1)) JJ Kn ng qM lF oE AV va QT (x22++([(⟨0,(IntKind.i64.wrap (x9+(IntKind.i64.wrap (2*Et)))),(decide (Et<PE))⟩:Stop)]:List Stop)) x23))))else (e0 Kn ng qM lF oE AV va QT x22 x23)
def Pz (K:Ex→St→Option R) (rc:qB→Option R) (d:qB):Option R:=Bq bc (fun z0 z1 z2 z3 z4 z5 z6 z7 z8 z9 T2 wk z12 z13 z14=>rc (z0,z1,z2,z3,z4,z5,z6,z7,z8,z9,T2,wk,z12,z13,z14)) d.1 d.2.1 d.2.2.1 d.2.2.2.1 d.2.2.2.2.1 d.2.2.2.2.2.1 d.2.2.2.2.2.2.1 d.2.2.2.2.2.2.2.1 d.2.2.2.2.2.2.2.2.1 d.2.2.2.2.2.2.2.2.2.1 d.2.2.2.2.2.2.2.2.2.2.1 d.2.2.2.2.2.2.2.2.2.2.2.1 d.2.2.2.2.2.2.2.2.2.2.2.2.1 d.2.2.2.2.2.2.2.2.2.2.2.2.2.1 d.2.2.2.2.2.2.2.2.2.2.2.2.2.2 (FA K)
def Gx:Nat→Option (Hint×cQ R):=fun i=>match i with
 | 6=>some (Bp,(cM wc wg (MF dE) iK))
 | _=>none
theorem Uo (K:Ex→St→Option R) (rc:St→Option R) (d:qB):roundOf tt (cT (Cu eK bc)) (Gx dE) 0 ((az (aX Tryz.f18)).getD 0 .skip) Bp (D6 d) rc K=Pz bc K (fun d=>rc (D6 d)) d:=by kernel_rfl
def RF (x1:Order) (x2:Int) (k0:Order→Option R):Option R :=
 bc x1.header 1000000001 (fun y3=>eK x1.cd (fun y4=>bc x1.order 1000000001 (fun y5=>bc x1.update 1000000001 (fun y6=>bc (x1.aS.length:Int) 500 (fun y7=>bc x2 (min (max (x1.nodes.length:Int) 1) 64) (fun y8=>dE (Int.natAbs (IntKind.i64.wrap (2*y7))+Int.natAbs (min (max (x1.nodes.length:Int) 1) 64)+Int.natAbs (IntKind.i64.wrap (1+y8))+Int.natAbs 0+Order.fu x1+Int.natAbs 0+List.length ([]:ae)+Int.natAbs 0+Int.natAbs 0+Int.natAbs y3+List.length y4+Int.natAbs y5+Int.natAbs y6+List.length ([]:List Stop)+List.length ([]:List aA.Way)+64) (IntKind.i64.wrap (2*y7)) (min (max (x1.nodes.length:Int) 1) 64) (IntKind.i64.wrap (1+y8)) 0 x1 0 ([]:ae) 0 0 y3 y4 y5 y6 ([]:List Stop) ([]:List aA.Way) (fun ZZ y41 y42 Z0 y44 y45 y46 y47 y48 y49=>k0 (⟨y44,y45,y46,y47,y48,y49⟩:Order))))))))
theorem law08_Fit_ok:dO (R:=R) tt (Cu eK bc) (Gx dE) false Tryz.f18 RD RE (WC (RF eK bc dE)):=fun x y k=>by kernel_rfl
end
theorem law08_Fit_EOk:cE (R:=R) Tryz.prog (Cu (R:=R) eK bc) := .c (RC R) <| .c (v7 R) <| .n
def dE:Fz R
 | 0,_,_,_,_,_,_,_,_,_,_,_,_,_,_,_,_=>none
 | n+1,gf,gk,gw,mA,wC,xH,EC,Gc,JK,JL,qm,zF,Ff,Fg,OD,e0=>Bq bc (fun gf gk gw mA wC xH EC Gc JK JL qm zF Ff Fg OD=>dE n gf gk gw mA wC xH EC Gc JK JL qm zF Ff Fg OD e0) gf gk gw mA wC xH EC Gc JK JL qm zF Ff Fg OD e0
def PA (K:Ex→St→Option R) (n:Nat) (d:qB):Option R:=dE n d.1 d.2.1 d.2.2.1 d.2.2.2.1 d.2.2.2.2.1 d.2.2.2.2.2.1 d.2.2.2.2.2.2.1 d.2.2.2.2.2.2.2.1 d.2.2.2.2.2.2.2.2.1 d.2.2.2.2.2.2.2.2.2.1 d.2.2.2.2.2.2.2.2.2.2.1 d.2.2.2.2.2.2.2.2.2.2.2.1 d.2.2.2.2.2.2.2.2.2.2.2.2.1 d.2.2.2.2.2.2.2.2.2.2.2.2.2.1 d.2.2.2.2.2.2.2.2.2.2.2.2.2.2 (FA K)
theorem XS (other:cQ R) (ho:hG tt (cT (Cu (R:=R) eK bc)) (Gx (R:=R) dE) 0 ((az (aX Tryz.f18)).getD 0 .skip) Bp other):hG tt (cT (Cu (R:=R) eK bc)) (Gx (R:=R) dE) 0 ((az (aX Tryz.f18)).getD 0 .skip) Bp (cM wc wg (MF (dE)) other) :=
 cS (A:=PA) ho (dX D6 (Pz bc) (PA) (fun _ _=>by kernel_rfl) (Uo eK bc dE) (fun _ _ _=>by kernel_rfl)) Py Zy (fun _ _=>by kernel_rfl) (fun _ _ _=>by kernel_rfl)
def cC:vq R:=fun x1 x2 k0=>RF eK bc dE x1 x2 k0
theorem Zz (R:Type):∀a∈az (aX Tryz.f18),gN tt (cT (Cu (R:=R) eK bc)) (Gx (R:=R) dE) 0 a:=by
 refine fb 1 (by kernel_rfl) fun i hi => ?_
 match i,hi with
 | 0,_=>exact cA (by kernel_rfl) (XS _ dy)
 | n+1,hi=>omega
theorem D7 (R:Type):kM Tryz.prog 18 (Gw (cC (R:=R))):=br TT mixed (law08_Fit_EOk (R:=R)) rfl rfl rfl rfl (Zz R) (law08_Fit_ok eK bc dE)
variable {R:Type}
variable {R:Type}
variable {R:Type}
abbrev A8 (R:Type):Type:=Order→Order→(Bool→Option R)→Option R
abbrev ON:List cU := [.agg [.int .i64, .str, .int .i64, .int .i64, .sl .stop, .sl .na], .agg [.int .i64, .str, .int .i64, .int .i64, .sl .stop, .sl .na]]
abbrev OO:List aU := []
def Tv (fn:A8 R):lC R ON OO:=fun x y k=>fn (⟨x.1.1,x.1.2.1,x.1.2.2.1,x.1.2.2.2.1,x.1.2.2.2.2.1,x.1.2.2.2.2.2.1⟩:Order) (⟨x.2.1.1,x.2.1.2.1,x.2.1.2.2.1,x.2.1.2.2.2.1,x.2.1.2.2.2.2.1,x.2.1.2.2.2.2.2.1⟩:Order) (fun q0=>k (.bool q0) [])
def OP (fn:A8 R):=aG ON OO (Tv fn)
abbrev D8 (R:Type):Type:=Nat→Int→Order→Order→(Order→Order→Option R)→(Bool→Order→Order→Option R)→Option R
abbrev D9 (R:Type):Type:=Nat→Int→Order→Order→(Option R)→(Bool→Option R)→Option R
def yP:Hint := { live := [2,3,5],own := [],rows := [],cells := [],drop := [],out := [2,3,4] }
abbrev o6:Type:=Int×Order×Order
def B1:o6→St:=fun d=>⟨U 2 (.ptr 0 0 :: .ptr 1 0 :: .undef :: .int .i64 d.1::U 81 ([])), [.cells [.int .i64 d.2.1.header, .str d.2.1.cd, .int .i64 d.2.1.order, .int .i64 d.2.1.update, .sl .stop d.2.1.nodes .no, .sl .na d.2.1.aS .no], .cells [.int .i64 d.2.2.header, .str d.2.2.cd, .int .i64 d.2.2.order, .int .i64 d.2.2.update, .sl .stop d.2.2.nodes .no, .sl .na d.2.2.aS .no]]⟩
def Ea (K:Ex→St→Option R) (q0:Order) (q1:Order):Option R:=K (.exit 0) ⟨U 2 (.ptr 0 0 :: .ptr 1 0::U 83 ([])), [.cells [.int .i64 q0.header, .str q0.cd, .int .i64 q0.order, .int .i64 q0.update, .sl .stop q0.nodes .no, .sl .na q0.aS .no], .cells [.int .i64 q1.header, .str q1.cd, .int .i64 q1.order, .int .i64 q1.update, .sl .stop q1.nodes .no, .sl .na q1.aS .no]]⟩
def Eb (K:Ex→St→Option R) (q0:Bool) (q1:Order) (q2:Order):Option R:=K (.ret) ⟨U 2 (.ptr 0 0 :: .ptr 1 0 :: .bool q0::U 82 ([])), [.cells [.int .i64 q1.header, .str q1.cd, .int .i64 q1.order, .int .i64 q1.update, .sl .stop q1.nodes .no, .sl .na q1.aS .no], .cells [.int .i64 q2.header, .str q2.cd, .int .i64 q2.order, .int .i64 q2.update, .sl .stop q2.nodes .no, .sl .na q2.aS .no]]⟩
abbrev um:List cU:=PU 2 (.leaf (.ptr 0 0) :: .leaf (.ptr 1 0) :: .leaf (.undef) :: .leaf (.int .i64)::PU 81 ([]))
abbrev uo:List aU := [.cells [.int .i64, .str, .int .i64, .int .i64, .sl .stop, .sl .na], .cells [.int .i64, .str, .int .i64, .int .i64, .sl .stop, .sl .na]]
def MG (x:cU.bT um) (y:aU.bT uo):Nat:=(Int.natAbs x.2.2.2.2.2.1+Order.fu (⟨y.1.1,y.1.2.1,y.1.2.2.1,y.1.2.2.2.1,y.1.2.2.2.2.1,y.1.2.2.2.2.2.1⟩:Order)+Order.fu (⟨y.2.1.1,y.2.1.2.1,y.2.1.2.2.1,y.2.1.2.2.2.1,y.2.1.2.2.2.2.1,y.2.1.2.2.2.2.2.1⟩:Order)+64)
def XT (x:cU.bT um) (y:aU.bT uo):o6:=(x.2.2.2.2.2.1,(⟨y.1.1,y.1.2.1,y.1.2.2.1,y.1.2.2.2.1,y.1.2.2.2.2.1,y.1.2.2.2.2.2.1⟩:Order),(⟨y.2.1.1,y.2.1.2.1,y.2.1.2.2.1,y.2.1.2.2.2.1,y.2.1.2.2.2.2.1,y.2.1.2.2.2.2.2.1⟩:Order))
def KU (L:D8 R):xp R um uo:=fun x y K=>L (MG x y) x.2.2.2.2.2.1 (⟨y.1.1,y.1.2.1,y.1.2.2.1,y.1.2.2.2.1,y.1.2.2.2.2.1,y.1.2.2.2.2.2.1⟩:Order) (⟨y.2.1.1,y.2.1.2.1,y.2.1.2.2.1,y.2.1.2.2.2.1,y.2.1.2.2.2.2.1,y.2.1.2.2.2.2.2.1⟩:Order) (Ea K) (Eb K)
def yQ:Hint := { live := [2,3,6],own := [],rows := [],cells := [],drop := [],out := [4] }
abbrev o7:Type:=Int×Order×Order
def B2:o7→St:=fun d=>⟨U 2 (.ptr 0 0 :: .ptr 1 0::U 2 (.int .i64 d.1::U 80 ([]))), [.cells [.int .i64 d.2.1.header, .str d.2.1.cd, .int .i64 d.2.1.order, .int .i64 d.2.1.update, .sl .stop d.2.1.nodes .no, .sl .na d.2.1.aS .no], .cells [.int .i64 d.2.2.header, .str d.2.2.cd, .int .i64 d.2.2.order, .int .i64 d.2.2.update, .sl .stop d.2.2.nodes .no, .sl .na d.2.2.aS .no]]⟩
def Ec (K:Ex→St→Option R):Option R:=K (.exit 2) ⟨U 87 ([]), []⟩
def Ed (K:Ex→St→Option R) (q0:Bool):Option R:=K (.ret) ⟨U 4 (.bool q0::U 82 ([])), []⟩
abbrev ur:List cU:=PU 2 (.leaf (.ptr 0 0) :: .leaf (.ptr 1 0)::PU 2 (.leaf (.int .i64)::PU 80 ([])))
abbrev uu:List aU := [.cells [.int .i64, .str, .int .i64, .int .i64, .sl .stop, .sl .na], .cells [.int .i64, .str, .int .i64, .int .i64, .sl .stop, .sl .na]]
def MH (x:cU.bT ur) (y:aU.bT uu):Nat:=(Int.natAbs x.2.2.2.2.2.2.1+Order.fu (⟨y.1.1,y.1.2.1,y.1.2.2.1,y.1.2.2.2.1,y.1.2.2.2.2.1,y.1.2.2.2.2.2.1⟩:Order)+Order.fu (⟨y.2.1.1,y.2.1.2.1,y.2.1.2.2.1,y.2.1.2.2.2.1,y.2.1.2.2.2.2.1,y.2.1.2.2.2.2.2.1⟩:Order)+64)
def XU (x:cU.bT ur) (y:aU.bT uu):o7:=(x.2.2.2.2.2.2.1,(⟨y.1.1,y.1.2.1,y.1.2.2.1,y.1.2.2.2.1,y.1.2.2.2.2.1,y.1.2.2.2.2.2.1⟩:Order),(⟨y.2.1.1,y.2.1.2.1,y.2.1.2.2.1,y.2.1.2.2.2.1,y.2.1.2.2.2.2.1,y.2.1.2.2.2.2.2.1⟩:Order))
def KV (L:D9 R):xp R ur uu:=fun x y K=>L (MH x y) x.2.2.2.2.2.2.1 (⟨y.1.1,y.1.2.1,y.1.2.2.1,y.1.2.2.2.1,y.1.2.2.2.2.1,y.1.2.2.2.2.2.1⟩:Order) (⟨y.2.1.1,y.2.1.2.1,y.2.1.2.2.1,y.2.1.2.2.2.1,y.2.1.2.2.2.2.1,y.2.1.2.2.2.2.2.1⟩:Order) (Ec K) (Ed K)
section
variable (cK:D8 R) (cL:D9 R)
def yR (dJ:Int→Order→Order→Option R) (x4:Int) (x5:Order) (x6:Order) (e0:Order→Order→Option R) (e1:Bool→Order→Order→Option R):Option R :=
 bif (decide (x4<(x5.nodes.length:Int)))then (bX (decide ((0:Int)≤x4)&&decide (x4<x5.nodes.length)) (bX (decide ((0:Int)≤x4)&&decide (x4<x6.nodes.length)) (bif (!((x5.nodes.getD x4.toNat (Ty.aR .stop)).node==(x6.nodes.getD x4.toNat (Ty.aR .stop)).node&&((x5.nodes.getD x4.toNat (Ty.aR .stop)).seq==(x6.nodes.getD x4.toNat (Ty.aR .stop)).seq&&((x5.nodes.getD x4.toNat (Ty.aR .stop)).bE==(x6.nodes.getD x4.toNat (Ty.aR .stop)).bE&&true))))then (e1 false x5 x6)else (dJ (IntKind.i64.wrap (x4+1)) x5 x6))))else (e0 x5 x6)
def MI (K:Ex→St→Option R) (rc:o6→Option R) (d:o6):Option R:=yR (fun z0 z1 z2=>rc (z0,z1,z2)) d.1 d.2.1 d.2.2 (Ea K) (Eb K)
def yS (dJ:Int→Order→Order→Option R) (Et:Int) (JJ:Order) (Kn:Order) (e0:Option R) (e1:Bool→Option R):Option R :=
 bif (decide (Et<(JJ.aS.length:Int)))then (bX (decide ((0:Int)≤Et)&&decide (Et<JJ.aS.length)) (bX (decide ((0:Int)≤Et)&&decide (Et<Kn.aS.length)) (bif (!((JJ.aS.getD Et.toNat (Ty.aR .na)).zy==(Kn.aS.getD Et.toNat (Ty.aR .na)).zy&&((JJ.aS.getD Et.toNat (Ty.aR .na)).seq==(Kn.aS.getD Et.toNat (Ty.aR .na)).seq&&((JJ.aS.getD Et.toNat (Ty.aR .na)).bE==(Kn.aS.getD Et.toNat (Ty.aR .na)).bE&&true))))then (e1 false)else (dJ (IntKind.i64.wrap (Et+1)) JJ Kn))))else (e0)
def MJ (K:Ex→St→Option R) (rc:o7→Option R) (d:o7):Option R:=yS (fun z0 z1 z2=>rc (z0,z1,z2)) d.1 d.2.1 d.2.2 (Ec K) (Ed K)
def rQ:Nat→Option (Hint×cQ R):=fun i=>match i with
 | 4=>some (yP,(cM um uo (KU cK) iK))
 | 9=>some (yQ,(cM ur uu (KV cL) iK))
 | _=>none
theorem SI (K:Ex→St→Option R) (rc:St→Option R) (d:o6):roundOf tt (cT []) (rQ cK cL) 0 ((az (aX Tryz.f24)).getD 0 .skip) yP (B1 d) rc K=MI K (fun d=>rc (B1 d)) d:=by kernel_rfl
theorem SJ (K:Ex→St→Option R) (rc:St→Option R) (d:o7):roundOf tt (cT []) (rQ cK cL) 0 ((az (aX Tryz.f24)).getD 1 .skip) yQ (B2 d) rc K=MJ K (fun d=>rc (B2 d)) d:=by kernel_rfl
def OQ (x1:Order) (x2:Order) (k0:Bool→Option R):Option R :=
 bif (x1.header != x2.header)then (k0 false)else (bif (!(x1.cd==x2.cd))then (k0 false)else (bif (x1.order != x2.order)then (k0 false)else (bif (x1.update != x2.update)then (k0 false)else (bif ((x1.nodes.length:Int) != (x2.nodes.length:Int))then (k0 false)else (bif ((x1.aS.length:Int) != (x2.aS.length:Int))then (k0 false)else (cK (Int.natAbs 0+Order.fu x1+Order.fu x2+64) 0 x1 x2 (fun y7 y8=>cL (Int.natAbs 0+Order.fu y7+Order.fu y8+64) 0 y7 y8 (k0 true) (fun JG=>k0 JG)) (fun y9 p9 n0=>k0 y9)))))))
theorem ref08_Same_ok:dO (R:=R) tt [] (rQ cK cL) false Tryz.f24 ON OO (Tv (OQ cK cL)):=fun x y k=>by kernel_rfl
end
def cK:D8 R
 | 0,_,_,_,_,_=>none
 | n+1,gf,gk,gw,e0,e1=>yR (fun gf gk gw=>cK n gf gk gw e0 e1) gf gk gw e0 e1
def MK (K:Ex→St→Option R) (n:Nat) (d:o6):Option R:=cK n d.1 d.2.1 d.2.2 (Ea K) (Eb K)
def cL:D9 R
 | 0,_,_,_,_,_=>none
 | n+1,gf,gk,gw,e0,e1=>yS (fun gf gk gw=>cL n gf gk gw e0 e1) gf gk gw e0 e1
def ML (K:Ex→St→Option R) (n:Nat) (d:o7):Option R:=cL n d.1 d.2.1 d.2.2 (Ec K) (Ed K)
theorem WD (other:cQ R) (ho:hG tt (cT []) (rQ (R:=R) cK cL) 0 ((az (aX Tryz.f24)).getD 0 .skip) yP other):hG tt (cT []) (rQ (R:=R) cK cL) 0 ((az (aX Tryz.f24)).getD 0 .skip) yP (cM um uo (KU (cK)) other) :=
 cS (A:=MK) ho (dX B1 (MI) (MK) (fun _ _=>by kernel_rfl) (SI cK cL) (fun _ _ _=>by kernel_rfl)) MG XT (fun _ _=>by kernel_rfl) (fun _ _ _=>by kernel_rfl)
theorem WE (other:cQ R) (ho:hG tt (cT []) (rQ (R:=R) cK cL) 0 ((az (aX Tryz.f24)).getD 1 .skip) yQ other):hG tt (cT []) (rQ (R:=R) cK cL) 0 ((az (aX Tryz.f24)).getD 1 .skip) yQ (cM ur uu (KV (cL)) other) :=
 cS (A:=ML) ho (dX B2 (MJ) (ML) (fun _ _=>by kernel_rfl) (SJ cK cL) (fun _ _ _=>by kernel_rfl)) MH XU (fun _ _=>by kernel_rfl) (fun _ _ _=>by kernel_rfl)
def eh:A8 R:=fun x1 x2 k0=>OQ cK cL x1 x2 k0
theorem XV (R:Type):∀a∈az (aX Tryz.f24),gN tt (cT []) (rQ (R:=R) cK cL) 0 a:=by
 refine fb 2 (by kernel_rfl) fun i hi => ?_
 match i,hi with
 | 0,_=>exact cA (by kernel_rfl) (WD _ dy)
 | 1,_=>exact cA (by kernel_rfl) (WE _ dy)
 | n+2,hi=>omega
theorem PB (R:Type):kM Tryz.prog 24 (OP (eh (R:=R))):=br TT mixed .n rfl rfl rfl rfl (XV R) (ref08_Same_ok cK cL)
variable {R:Type}
variable {R:Type}
variable {R:Type}
abbrev kq (R:Type):Type:=ae→(List Token)→Int→Int→(Bool→(List Token)→Int→Int→Option R)→Option R
abbrev vu:List cU := [.leaf (.ptr 0 0), .leaf (.str)]
abbrev vv:List aU := [.cells [.sl .token, .int .i64, .int .i64]]
def Cv (fn:kq R):lC R vu vv:=fun x y k=>fn x.2.1 y.1.1 y.1.2.1 y.1.2.2.1 (fun q0 q1 q2 q3=>k (.bool q0) [.cells [.sl .token q1 .no, .int .i64 q2, .int .i64 q3]])
def vw (fn:kq R):=aG vu vv (Cv fn)
section
def Ee (x1:ae) (x2:List Token) (x3:Int) (x4:Int) (k0:Bool→(List Token)→Int→Int→Option R):Option R :=
 bif (x4==0)then (bX (decide ((0:Int)≤x3)&&decide (x3<x2.length)) (bif ((x2.getD x3.toNat (Ty.aR .token)).kind==1)then (bX (decide ((0:Int)≤x3)&&decide (x3<x2.length)) (bif ((x2.getD x3.toNat (Ty.aR .token)).text==x1)then (k0 ((x2.getD x3.toNat (Ty.aR .token)).text==x1) x2 (IntKind.i64.wrap (x3+1)) x4)else (k0 ((x2.getD x3.toNat (Ty.aR .token)).text==x1) x2 x3 x4)))else (k0 false x2 x3 x4)))else (k0 false x2 x3 x4)
theorem MN:dO (R:=R) (tt.mode [.json]) [] sS false Tryz.f152 vu vv (Cv Ee):=fun x y k=>by kernel_rfl
end
def aI:kq R:=fun x1 x2 x3 x4 k0=>Ee x1 x2 x3 x4 k0
theorem zq (R:Type):kM Tryz.prog 152 (vw (aI (R:=R))):=br (TT.mode [.json]) mixed .n rfl rfl rfl rfl cq (MN)
abbrev lX (R:Type):Type:=ae→(List Token)→Int→Int→((List Token)→Int→Int→Option R)→Option R
abbrev sk:List cU := [.leaf (.ptr 0 0), .leaf (.str)]
abbrev sn:List aU := [.cells [.sl .token, .int .i64, .int .i64]]
def zt (fn:lX R):lC R sk sn:=fun x y k=>fn x.2.1 y.1.1 y.1.2.1 y.1.2.2.1 (fun q0 q1 q2=>k (.tuple []) [.cells [.sl .token q0 .no, .int .i64 q1, .int .i64 q2]])
def A9 (fn:lX R):=aG sk sn (zt fn)
section
variable (aI:kq R)
def Ba:List (oo R) := [(152,false,(vw aI av))]
def Bb (x1:ae) (x2:List Token) (x3:Int) (x4:Int) (k0:(List Token)→Int→Int→Option R):Option R :=
 aI x1 x2 x3 x4 (fun y5 y6 y7 y8=>bif (!y5)then (bif (y8==0)then (k0 y6 y7 40)else (k0 y6 y7 y8))else (k0 y6 y7 y8))
theorem J5:dO (R:=R) (tt.mode [.json]) (Ba aI) sS false Tryz.f153 sk sn (zt (Bb aI)):=fun x y k=>by kernel_rfl
end
theorem Jm:cE (R:=R) Tryz.prog (Ba (R:=R) aI) := .d (zq R) rfl <| .n
def bh:lX R:=fun x1 x2 x3 x4 k0=>Bb aI x1 x2 x3 x4 k0
theorem Ie (R:Type):kM Tryz.prog 153 (A9 (bh (R:=R))):=br (TT.mode [.json]) mixed (Jm (R:=R)) rfl rfl rfl rfl cq (J5 aI)
variable {R:Type}
abbrev bl (R:Type):Type:=Int→(List Token)→Int→Int→(Json→(List Token)→Int→Int→Option R)→Option R
abbrev dT:List cU := [.leaf (.ptr 0 0), .leaf (.int .i64)]
abbrev dU:List aU := [.cells [.sl .token, .int .i64, .int .i64]]
def cI (fn:bl R):lC R dT dU:=fun x y k=>fn x.2.1 y.1.1 y.1.2.1 y.1.2.2.1 (fun q0 q1 q2 q3=>k (.agg [.int .i64 q0.kind, .int .i64 q0.num.aq, .int .i64 q0.num.exp, .str q0.text, .sl .str q0.names .no, .sl .json q0.items .no]) [.cells [.sl .token q1 .no, .int .i64 q2, .int .i64 q3]])
def J6 (fn:bl R):=aG dT dU (cI fn)
abbrev lJ (R:Type):Type:=Nat→Int→Bool→(List Token)→Int→Int→Int→Int→Int→ae→Int→Int→Int→ae→Nat→(List Json)→((List Token)→Int→Int→Int→Int→Int→ae→Int→Int→Int→ae→Nat→(List Json)→Option R)→Option R
abbrev lK (R:Type):Type:=Nat→Int→Bool→(List Token)→Int→Int→Int→Int→Int→ae→Int→Int→Int→ae→(List ae)→Nat→(List Json)→((List Token)→Int→Int→Int→Int→Int→ae→Int→Int→Int→ae→(List ae)→Nat→(List Json)→Option R)→Option R
def ju:Hint := { live := [0,1,4,7,8],own := [],rows := [],cells := [(2,5, .json,true)],drop := [],out := [4,7] }
abbrev ff:Type:=Int×Bool×(List Token)×Int×Int×Int×Int×Int×ae×Int×Int×Int×ae×Nat×(List Json)
def lx:ff→St:=fun d=>⟨.ptr 0 0 :: .int .i64 d.1::U 2 (.ptr 1 0::U 2 (.ptr 2 0 :: .bool d.2.1::U 184 ([]))), [.cells [.sl .token d.2.2.1 .no, .int .i64 d.2.2.2.1, .int .i64 d.2.2.2.2.1], .cells [.int .i64 d.2.2.2.2.2.1, .int .i64 d.2.2.2.2.2.2.1, .int .i64 d.2.2.2.2.2.2.2.1, .str d.2.2.2.2.2.2.2.2.1, .bB, .bB], .cells [.int .i64 d.2.2.2.2.2.2.2.2.2.1, .int .i64 d.2.2.2.2.2.2.2.2.2.2.1, .int .i64 d.2.2.2.2.2.2.2.2.2.2.2.1, .str d.2.2.2.2.2.2.2.2.2.2.2.2.1, .bB, .row 3 d.2.2.2.2.2.2.2.2.2.2.2.2.2.1], .row .json d.2.2.2.2.2.2.2.2.2.2.2.2.2.2]⟩
def lL (K:Ex→St→Option R) (q0:List Token) (q1:Int) (q2:Int) (q3:Int) (q4:Int) (q5:Int) (q6:ae) (q7:Int) (q8:Int) (q9:Int) (q10:ae) (q11:Nat) (q12:List Json):Option R:=K (.exit 1) ⟨U 4 (.ptr 1 0::U 2 (.ptr 2 0::U 185 ([]))), [.cells [.sl .token q0 .no, .int .i64 q1, .int .i64 q2], .cells [.int .i64 q3, .int .i64 q4, .int .i64 q5, .str q6, .bB, .bB], .cells [.int .i64 q7, .int .i64 q8, .int .i64 q9, .str q10, .bB, .row 3 q11], .row .json q12]⟩
abbrev gG:List cU := .leaf (.ptr 0 0) :: .leaf (.int .i64)::PU 2 (.leaf (.ptr 1 0)::PU 2 (.leaf (.ptr 2 0) :: .leaf (.bool)::PU 184 ([])))
abbrev gH:List aU := [.cells [.sl .token, .int .i64, .int .i64], .cells [.int .i64, .int .i64, .int .i64, .str, .bB, .bB], .cells [.int .i64, .int .i64, .int .i64, .str, .bB, .row 3], .row .json]
def uv (x:cU.bT gG) (y:aU.bT gH):Nat:=(Int.natAbs x.2.1+List.length y.1.1+Int.natAbs y.1.2.1+Int.natAbs y.1.2.2.1+Int.natAbs y.2.1.1+Int.natAbs y.2.1.2.1+Int.natAbs y.2.1.2.2.1+List.length y.2.1.2.2.2.1+Int.natAbs y.2.2.1.1+Int.natAbs y.2.2.1.2.1+Int.natAbs y.2.2.1.2.2.1+List.length y.2.2.1.2.2.2.1+List.length y.2.2.2.1+64)
def FB (x:cU.bT gG) (y:aU.bT gH):ff:=(x.2.1,(t8 x).1,y.1.1,y.1.2.1,y.1.2.2.1,y.2.1.1,y.2.1.2.1,y.2.1.2.2.1,y.2.1.2.2.2.1,y.2.2.1.1,y.2.2.1.2.1,y.2.2.1.2.2.1,y.2.2.1.2.2.2.1,y.2.2.1.2.2.2.2.2.1,y.2.2.2.1)
def sN (L:lJ R):xp R gG gH:=fun x y K=>L (uv x y) x.2.1 ((t8 x).1) y.1.1 y.1.2.1 y.1.2.2.1 y.2.1.1 y.2.1.2.1 y.2.1.2.2.1 y.2.1.2.2.2.1 y.2.2.1.1 y.2.2.1.2.1 y.2.2.1.2.2.1 y.2.2.1.2.2.2.1 y.2.2.1.2.2.2.2.2.1 y.2.2.2.1 (lL K)
def jv:Hint := { live := [0,1,4,10,11],own := [],rows := [],cells := [(2,4, .str,false),(2,5, .json,true)],drop := [],out := [4,10] }
abbrev fg:Type:=Int×Bool×(List Token)×Int×Int×Int×Int×Int×ae×Int×Int×Int×ae×(List ae)×Nat×(List Json)
def ly:fg→St:=fun d=>⟨.ptr 0 0 :: .int .i64 d.1::U 2 (.ptr 1 0::U 5 (.ptr 2 0 :: .bool d.2.1::U 181 ([]))), [.cells [.sl .token d.2.2.1 .no, .int .i64 d.2.2.2.1, .int .i64 d.2.2.2.2.1], .cells [.int .i64 d.2.2.2.2.2.1, .int .i64 d.2.2.2.2.2.2.1, .int .i64 d.2.2.2.2.2.2.2.1, .str d.2.2.2.2.2.2.2.2.1, .bB, .bB], .cells [.int .i64 d.2.2.2.2.2.2.2.2.2.1, .int .i64 d.2.2.2.2.2.2.2.2.2.2.1, .int .i64 d.2.2.2.2.2.2.2.2.2.2.2.1, .str d.2.2.2.2.2.2.2.2.2.2.2.2.1, .sl .str d.2.2.2.2.2.2.2.2.2.2.2.2.2.1 (.own 3), .row 4 d.2.2.2.2.2.2.2.2.2.2.2.2.2.2.1], .tok, .row .json d.2.2.2.2.2.2.2.2.2.2.2.2.2.2.2]⟩
def lM (K:Ex→St→Option R) (q0:List Token) (q1:Int) (q2:Int) (q3:Int) (q4:Int) (q5:Int) (q6:ae) (q7:Int) (q8:Int) (q9:Int) (q10:ae) (q11:List ae) (q12:Nat) (q13:List Json):Option R:=K (.exit 3) ⟨U 4 (.ptr 1 0::U 5 (.ptr 2 0::U 182 ([]))), [.cells [.sl .token q0 .no, .int .i64 q1, .int .i64 q2], .cells [.int .i64 q3, .int .i64 q4, .int .i64 q5, .str q6, .bB, .bB], .cells [.int .i64 q7, .int .i64 q8, .int .i64 q9, .str q10, .sl .str q11 (.own 3), .row 4 q12], .tok, .row .json q13]⟩
abbrev gI:List cU := .leaf (.ptr 0 0) :: .leaf (.int .i64)::PU 2 (.leaf (.ptr 1 0)::PU 5 (.leaf (.ptr 2 0) :: .leaf (.bool)::PU 181 ([])))
abbrev gJ:List aU := [.cells [.sl .token, .int .i64, .int .i64], .cells [.int .i64, .int .i64, .int .i64, .str, .bB, .bB], .cells [.int .i64, .int .i64, .int .i64, .str, .TW .str 3, .row 4], .tok, .row .json]
def uw (x:cU.bT gI) (y:aU.bT gJ):Nat:=(Int.natAbs x.2.1+List.length y.1.1+Int.natAbs y.1.2.1+Int.natAbs y.1.2.2.1+Int.natAbs y.2.1.1+Int.natAbs y.2.1.2.1+Int.natAbs y.2.1.2.2.1+List.length y.2.1.2.2.2.1+Int.natAbs y.2.2.1.1+Int.natAbs y.2.2.1.2.1+Int.natAbs y.2.2.1.2.2.1+List.length y.2.2.1.2.2.2.1+List.length y.2.2.1.2.2.2.2.1+List.length y.2.2.2.2.1+64)
def FC (x:cU.bT gI) (y:aU.bT gJ):fg:=(x.2.1,(t8 x).2.2.2.1,y.1.1,y.1.2.1,y.1.2.2.1,y.2.1.1,y.2.1.2.1,y.2.1.2.2.1,y.2.1.2.2.2.1,y.2.2.1.1,y.2.2.1.2.1,y.2.2.1.2.2.1,y.2.2.1.2.2.2.1,y.2.2.1.2.2.2.2.1,y.2.2.1.2.2.2.2.2.1,y.2.2.2.2.1)
def sO (L:lK R):xp R gI gJ:=fun x y K=>L (uw x y) x.2.1 ((t8 x).2.2.2.1) y.1.1 y.1.2.1 y.1.2.2.1 y.2.1.1 y.2.1.2.1 y.2.1.2.2.1 y.2.1.2.2.2.1 y.2.2.1.1 y.2.2.1.2.1 y.2.2.1.2.2.1 y.2.2.1.2.2.2.1 y.2.2.1.2.2.2.2.1 y.2.2.1.2.2.2.2.2.1 y.2.2.2.2.1 (lM K)
section
variable (aI:kq R) (bh:lX R) (ag:bl R) (iM:H8 R) (bf:lJ R) (bg:lK R)
def dV:List (oo R) := [(152,false,(vw aI av)),(153,false,(A9 bh av)),(114,false,(aG dT dU (cI ag) av)),(154,true,(YI iM av))]
def ux (dJ:Int→Bool→(List Token)→Int→Int→Int→Int→Int→ae→Int→Int→Int→ae→Nat→(List Json)→Option R) (PE:Int) (Et:Bool) (JJ:List Token) (Kn:Int) (ng:Int) (qM:Int) (lF:Int) (oE:Int) (AV:ae) (va:Int) (QT:Int) (x22:Int) (x23:ae) (x24:Nat) (SX:List Json) (e0:(List Token)→Int→Int→Int→Int→Int→ae→Int→Int→Int→ae→Nat→(List Json)→Option R):Option R :=
 bif (!Et)then (bif (ng==0)then (ag (IntKind.i64.wrap (PE+1)) JJ Kn ng (fun Fi uR U6 W0=>bX (decide ((SX.length+1)*88≤140737488355328)) (aI ([44]:ae) uR U6 W0 (fun y31 V0 y33 Sc=>bif (!y31)then (bh ([93]:ae) V0 y33 Sc (fun y35 y36 y37=>dJ PE true y35 y36 y37 qM lF oE AV va QT x22 x23 (SX.length+1) (SX++([(⟨Fi.kind,⟨Fi.num.aq,Fi.num.exp⟩,Fi.text,Fi.names,Fi.items⟩:Json)]:List Json))))else (dJ PE Et V0 y33 Sc qM lF oE AV va QT x22 x23 (SX.length+1) (SX++([(⟨Fi.kind,⟨Fi.num.aq,Fi.num.exp⟩,Fi.text,Fi.names,Fi.items⟩:Json)]:List Json)))))))else (e0 JJ Kn ng qM lF oE AV va QT x22 x23 x24 SX))else (e0 JJ Kn ng qM lF oE AV va QT x22 x23 x24 SX)
def uy (K:Ex→St→Option R) (rc:ff→Option R) (d:ff):Option R:=ux aI bh ag (fun z0 z1 z2 z3 z4 z5 z6 z7 z8 z9 T2 wk z12 z13 z14=>rc (z0,z1,z2,z3,z4,z5,z6,z7,z8,z9,T2,wk,z12,z13,z14)) d.1 d.2.1 d.2.2.1 d.2.2.2.1 d.2.2.2.2.1 d.2.2.2.2.2.1 d.2.2.2.2.2.2.1 d.2.2.2.2.2.2.2.1 d.2.2.2.2.2.2.2.2.1 d.2.2.2.2.2.2.2.2.2.1 d.2.2.2.2.2.2.2.2.2.2.1 d.2.2.2.2.2.2.2.2.2.2.2.1 d.2.2.2.2.2.2.2.2.2.2.2.2.1 d.2.2.2.2.2.2.2.2.2.2.2.2.2.1 d.2.2.2.2.2.2.2.2.2.2.2.2.2.2 (lL K)
def uz (dJ:Int→Bool→(List Token)→Int→Int→Int→Int→Int→ae→Int→Int→Int→ae→(List ae)→Nat→(List Json)→Option R) (YO:Int) (x56:Bool) (x57:List Token) (x58:Int) (x59:Int) (x60:Int) (x61:Int) (x62:Int) (x63:ae) (x64:Int) (x65:Int) (x66:Int) (x67:ae) (x68:List ae) (x69:Nat) (x70:List Json) (e0:(List Token)→Int→Int→Int→Int→Int→ae→Int→Int→Int→ae→(List ae)→Nat→(List Json)→Option R):Option R :=
 bif (!x56)then (bif (x59==0)then (bX (decide ((0:Int)≤x58)&&decide (x58<x57.length)) (bif ((x57.getD x58.toNat (Ty.aR .token)).kind != 2)then (e0 x57 x58 40 x60 x61 x62 x63 x64 x65 x66 x67 x68 x69 x70)else (iM x68 ((x57.getD x58.toNat (Ty.aR .token)).text) (fun y72=>bif y72 then (e0 x57 x58 42 x60 x61 x62 x63 x64 x65 x66 x67 x68 x69 x70)else (bh ([58]:ae) x57 (IntKind.i64.wrap (x58+1)) x59 (fun y73 y74 y75=>bX (decide ((x68.length+1)*16≤140737488355328)) (ag (IntKind.i64.wrap (YO+1)) y73 y74 y75 (fun y76 y77 y78 y79=>bX (decide ((x70.length+1)*88≤140737488355328)) (aI ([44]:ae) y77 y78 y79 (fun y80 y81 y82 y83=>bif (!y80)then (bh ([125]:ae) y81 y82 y83 (fun y84 y85 y86=>dJ YO true y84 y85 y86 x60 x61 x62 x63 x64 x65 x66 x67 (x68++([(x57.getD x58.toNat (Ty.aR .token)).text]:List ae)) (x70.length+1) (x70++([(⟨y76.kind,⟨y76.num.aq,y76.num.exp⟩,y76.text,y76.names,y76.items⟩:Json)]:List Json))))else (dJ YO x56 y81 y82 y83 x60 x61 x62 x63 x64 x65 x66 x67 (x68++([(x57.getD x58.toNat (Ty.aR .token)).text]:List ae)) (x70.length+1) (x70++([(⟨y76.kind,⟨y76.num.aq,y76.num.exp⟩,y76.text,y76.names,y76.items⟩:Json)]:List Json)))))))))))))else (e0 x57 x58 x59 x60 x61 x62 x63 x64 x65 x66 x67 x68 x69 x70))else (e0 x57 x58 x59 x60 x61 x62 x63 x64 x65 x66 x67 x68 x69 x70)
def uA (K:Ex→St→Option R) (rc:fg→Option R) (d:fg):Option R:=uz aI bh ag iM (fun z0 z1 z2 z3 z4 z5 z6 z7 z8 z9 T2 wk z12 z13 z14 z15=>rc (z0,z1,z2,z3,z4,z5,z6,z7,z8,z9,T2,wk,z12,z13,z14,z15)) d.1 d.2.1 d.2.2.1 d.2.2.2.1 d.2.2.2.2.1 d.2.2.2.2.2.1 d.2.2.2.2.2.2.1 d.2.2.2.2.2.2.2.1 d.2.2.2.2.2.2.2.2.1 d.2.2.2.2.2.2.2.2.2.1 d.2.2.2.2.2.2.2.2.2.2.1 d.2.2.2.2.2.2.2.2.2.2.2.1 d.2.2.2.2.2.2.2.2.2.2.2.2.1 d.2.2.2.2.2.2.2.2.2.2.2.2.2.1 d.2.2.2.2.2.2.2.2.2.2.2.2.2.2.1 d.2.2.2.2.2.2.2.2.2.2.2.2.2.2.2 (lM K)
def eP:Nat→Option (Hint×cQ R):=fun i=>match i with
 | 22=>some (ju,(cM gG gH (sN bf) iK))
 | 31=>some (jv,(cM gI gJ (sO bg) iK))
 | _=>none
theorem CR (K:Ex→St→Option R) (rc:St→Option R) (d:ff):roundOf (tt.mode [.json]) (cT (dV aI bh ag iM)) (eP bf bg) 1 ((az (aX Tryz.f114)).getD 0 .skip) ju (lx d) rc K=uy aI bh ag K (fun d=>rc (lx d)) d:=by kernel_rfl
theorem CS (K:Ex→St→Option R) (rc:St→Option R) (d:fg):roundOf (tt.mode [.json]) (cT (dV aI bh ag iM)) (eP bf bg) 1 ((az (aX Tryz.f114)).getD 1 .skip) jv (ly d) rc K=uA aI bh ag iM K (fun d=>rc (ly d)) d:=by kernel_rfl
def zu (x1:Int) (x2:List Token) (x3:Int) (x4:Int) (k0:Json→(List Token)→Int→Int→Option R):Option R :=
 bif (x4 != 0)then (k0 (⟨0,⟨0,0⟩,([]:ae),([]:List ae),([]:List Json)⟩:Json) x2 x3 x4)else (bX (decide ((0:Int)≤x3)&&decide (x3<x2.length)) (let j102:=fun (z5:Bool)=>let j101:=bif (decide (x1>(16:Int)))then (k0 (⟨0,⟨0,0⟩,([]:ae),([]:List ae),([]:List Json)⟩:Json) x2 x3 41)else (bif ((x2.getD x3.toNat (Ty.aR .token)).kind==2)then (k0 (⟨5,⟨0,0⟩,(x2.getD x3.toNat (Ty.aR .token)).text,([]:List ae),([]:List Json)⟩:Json) x2 (IntKind.i64.wrap (x3+1)) x4)else (bif ((x2.getD x3.toNat (Ty.aR .token)).kind==3)then (k0 (⟨4,⟨(x2.getD x3.toNat (Ty.aR .token)).num.aq,(x2.getD x3.toNat (Ty.aR .token)).num.exp⟩,([]:ae),([]:List ae),([]:List Json)⟩:Json) x2 (IntKind.i64.wrap (x3+1)) x4)else (bif ((x2.getD x3.toNat (Ty.aR .token)).kind==4)then (k0 (⟨((mO .str (.int .i64) ((x2.getD x3.toNat (Ty.aR .token)).text) ([(([110,117,108,108]:ae),1),(([102,97,108,115,101]:ae),2),(([116,114,117,101]:ae),3)]:List (ae×Int))):Int),⟨0,0⟩,([]:ae),([]:List ae),([]:List Json)⟩:Json) x2 (IntKind.i64.wrap (x3+1)) x4)else (bif ((x2.getD x3.toNat (Ty.aR .token)).text==([91]:ae))then (aI ([93]:ae) x2 (IntKind.i64.wrap (x3+1)) x4 (fun y7 y8 y9 p9=>bf (Int.natAbs x1+List.length y8+Int.natAbs y9+Int.natAbs p9+Int.natAbs 0+Int.natAbs 0+Int.natAbs 0+List.length ([]:ae)+Int.natAbs 6+Int.natAbs 0+Int.natAbs 0+List.length ([]:ae)+List.length ([]:List Json)+64) x1 y7 y8 y9 p9 0 0 0 ([]:ae) 6 0 0 ([]:ae) 0 ([]:List Json) (fun y38 Yq ZZ y41 y42 Z0 y44 y45 y46 y47 y48 y49 y50=>k0 (⟨y45,⟨y46,y47⟩,y48,([]:List ae),y50⟩:Json) y38 Yq ZZ)))else (aI ([125]:ae) x2 (IntKind.i64.wrap (x3+1)) x4 (fun y51 y52 y53 y54=>bg (Int.natAbs x1+List.length y52+Int.natAbs y53+Int.natAbs y54+Int.natAbs 0+Int.natAbs 0+Int.natAbs 0+List.length ([]:ae)+Int.natAbs 7+Int.natAbs 0+Int.natAbs 0+List.length ([]:ae)+List.length ([]:List ae)+List.length ([]:List Json)+64) x1 y51 y52 y53 y54 0 0 0 ([]:ae) 7 0 0 ([]:ae) ([]:List ae) 0 ([]:List Json) (fun y87 y88 y89 y90 y91 y92 y93 y94 y95 y96 y97 y98 y99 y100=>k0 (⟨y94,⟨y95,y96⟩,y97,y98,y100⟩:Json) y87 y88 y89))))))); bif ((x2.getD x3.toNat (Ty.aR .token)).kind==5)then (k0 (⟨0,⟨0,0⟩,([]:ae),([]:List ae),([]:List Json)⟩:Json) x2 x3 40)else (bif ((x2.getD x3.toNat (Ty.aR .token)).kind==1)then (bif (!z5)then (k0 (⟨0,⟨0,0⟩,([]:ae),([]:List ae),([]:List Json)⟩:Json) x2 x3 40)else (j101))else (j101)); bif ((x2.getD x3.toNat (Ty.aR .token)).kind==1)then (bif ((x2.getD x3.toNat (Ty.aR .token)).text==([91]:ae))then (j102 true)else (j102 ((x2.getD x3.toNat (Ty.aR .token)).text==([123]:ae))))else (j102 false)))
theorem Jn:dO (R:=R) (tt.mode [.json]) (dV aI bh ag iM) (eP bf bg) false Tryz.f114 dT dU (cI (zu aI bf bg)):=fun x y k=>by kernel_rfl
end
theorem Ig (ag:bl R) (iI:aA.Spec.Ok Tryz.prog 114 (aG dT dU (cI ag) av)):cE (R:=R) Tryz.prog (dV (R:=R) aI bh ag iM) := .d (zq R) rfl <| .d (Ie R) rfl <| .f iI rfl <| .c (ref04_has_S_ok R) <| .n
def bf (ag:bl R):lJ R
 | 0,_,_,_,_,_,_,_,_,_,_,_,_,_,_,_,_=>none
 | n+1,gf,gk,gw,mA,wC,xH,EC,Gc,JK,JL,qm,zF,Ff,Fg,OD,e0=>ux aI bh ag (fun gf gk gw mA wC xH EC Gc JK JL qm zF Ff Fg OD=>bf ag n gf gk gw mA wC xH EC Gc JK JL qm zF Ff Fg OD e0) gf gk gw mA wC xH EC Gc JK JL qm zF Ff Fg OD e0
def uB (ag:bl R) (K:Ex→St→Option R) (n:Nat) (d:ff):Option R:=bf ag n d.1 d.2.1 d.2.2.1 d.2.2.2.1 d.2.2.2.2.1 d.2.2.2.2.2.1 d.2.2.2.2.2.2.1 d.2.2.2.2.2.2.2.1 d.2.2.2.2.2.2.2.2.1 d.2.2.2.2.2.2.2.2.2.1 d.2.2.2.2.2.2.2.2.2.2.1 d.2.2.2.2.2.2.2.2.2.2.2.1 d.2.2.2.2.2.2.2.2.2.2.2.2.1 d.2.2.2.2.2.2.2.2.2.2.2.2.2.1 d.2.2.2.2.2.2.2.2.2.2.2.2.2.2 (lL K)
def bg (ag:bl R):lK R
 | 0,_,_,_,_,_,_,_,_,_,_,_,_,_,_,_,_,_=>none
 | n+1,gf,gk,gw,mA,wC,xH,EC,Gc,JK,JL,qm,zF,Ff,Fg,OD,x15',e0=>uz aI bh ag iM (fun gf gk gw mA wC xH EC Gc JK JL qm zF Ff Fg OD x15'=>bg ag n gf gk gw mA wC xH EC Gc JK JL qm zF Ff Fg OD x15' e0) gf gk gw mA wC xH EC Gc JK JL qm zF Ff Fg OD x15' e0
def uC (ag:bl R) (K:Ex→St→Option R) (n:Nat) (d:fg):Option R:=bg ag n d.1 d.2.1 d.2.2.1 d.2.2.2.1 d.2.2.2.2.1 d.2.2.2.2.2.1 d.2.2.2.2.2.2.1 d.2.2.2.2.2.2.2.1 d.2.2.2.2.2.2.2.2.1 d.2.2.2.2.2.2.2.2.2.1 d.2.2.2.2.2.2.2.2.2.2.1 d.2.2.2.2.2.2.2.2.2.2.2.1 d.2.2.2.2.2.2.2.2.2.2.2.2.1 d.2.2.2.2.2.2.2.2.2.2.2.2.2.1 d.2.2.2.2.2.2.2.2.2.2.2.2.2.2.1 d.2.2.2.2.2.2.2.2.2.2.2.2.2.2.2 (lM K)
theorem EH (ag:bl R) (other:cQ R) (ho:hG (tt.mode [.json]) (cT (dV (R:=R) aI bh ag iM)) (eP (R:=R) (bf ag) (bg ag)) 1 ((az (aX Tryz.f114)).getD 0 .skip) ju other):hG (tt.mode [.json]) (cT (dV (R:=R) aI bh ag iM)) (eP (R:=R) (bf ag) (bg ag)) 1 ((az (aX Tryz.f114)).getD 0 .skip) ju (cM gG gH (sN (bf ag)) other) :=
 cS (A:=uB ag) ho (dX lx (uy aI bh ag) (uB ag) (fun _ _=>by kernel_rfl) (CR aI bh ag iM (bf ag) (bg ag)) (fun _ _ _=>by kernel_rfl)) uv FB (fun _ _=>by kernel_rfl) (fun _ _ _=>by kernel_rfl)
theorem EI (ag:bl R) (other:cQ R) (ho:hG (tt.mode [.json]) (cT (dV (R:=R) aI bh ag iM)) (eP (R:=R) (bf ag) (bg ag)) 1 ((az (aX Tryz.f114)).getD 1 .skip) jv other):hG (tt.mode [.json]) (cT (dV (R:=R) aI bh ag iM)) (eP (R:=R) (bf ag) (bg ag)) 1 ((az (aX Tryz.f114)).getD 1 .skip) jv (cM gI gJ (sO (bg ag)) other) :=
 cS (A:=uC ag) ho (dX ly (uA aI bh ag iM) (uC ag) (fun _ _=>by kernel_rfl) (CS aI bh ag iM (bf ag) (bg ag)) (fun _ _ _=>by kernel_rfl)) uw FC (fun _ _=>by kernel_rfl) (fun _ _ _=>by kernel_rfl)
def qq (ag:bl R):bl R:=fun x1 x2 x3 x4 k0=>zu aI (bf ag) (bg ag) x1 x2 x3 x4 k0
theorem Gy (R:Type) (ag:bl R) (iI:aA.Spec.Ok Tryz.prog 114 (aG dT dU (cI ag) av)):∀a∈az (aX Tryz.f114),gN (tt.mode [.json]) (cT (dV (R:=R) aI bh ag iM)) (eP (R:=R) (bf ag) (bg ag)) 1 a:=by
 refine fb 2 (by kernel_rfl) fun i hi => ?_
 match i,hi with
 | 0,_=>exact cA (by kernel_rfl) (EH ag _ dy)
 | 1,_=>exact cA (by kernel_rfl) (EI ag _ dy)
 | n+2,hi=>omega
theorem Gz (R:Type) (ag:bl R) (iI:aA.Spec.Ok Tryz.prog 114 (aG dT dU (cI ag) av)):kM Tryz.prog 114 (J6 (qq ag)):=br (TT.mode [.json]) mixed (Ig ag iI) rfl rfl rfl rfl (Gy R ag iI) (Jn aI bh ag iM (bf ag) (bg ag))
def dW:Nat→bl R
 | 0,_,_,_,_,_=>none
 | n+1,gf,gk,gw,mA,k0'=>qq (dW n) gf gk gw mA k0'
theorem XW (n:Nat):dW (R:=R) (n+1)=qq (dW n):=by kernel_rfl
theorem Hi (R:Type):∀n,aA.Spec.Ok Tryz.prog 114 (aG dT dU (cI (dW (R:=R) n)) av) :=
 Ca (run:=fun n=>cI (dW (R:=R) n)) (fun x y k=>by kernel_rfl) fun n hyp=>Gz R (dW n) hyp av (ie _)
def Cw:bl R:=fun x1 x2 x3 x4 k0=>dW 40 x1 x2 x3 x4 k0
theorem Hj (R:Type):cI (R:=R) Cw=fun x y k=>cI (dW 40) x y k:=by kernel_rfl
theorem ZA (R:Type) (other:aA.Spec R) (ho:aA.Spec.Ok Tryz.prog 114 other):aA.Spec.Ok Tryz.prog 114 (aG dT dU (cI Cw) other) :=
 IG (Mb (run:=fun n=>cI (dW (R:=R) n)) (fun x y=>40) ho (Hi R)) (Hj R)
variable {R:Type}
end Go.Proofs.YtidfokedcnhahaaGreatDoor
namespace Go.Proofs.YtidfokedcnhahaaGreatDoor.Pu
open Go Go.aA
theorem tmod_zero {m:Int} (h0:m≠0) (h:Int.tmod m 10=0):∃c:Int,m=10*c∧c≠0∧Int.tdiv m 10=c:=by
 obtain ⟨c,rfl⟩:=Int.dvd_of_tmod_eq_zero h;exact ⟨c,rfl,by rintro rfl; exact h0 rfl,Int.mul_tdiv_cancel_left c (by decide)⟩
theorem made_loops {R:Type} (d:fO):∀(j:Nat) (m e:Int) (n:Nat),m≠0→m.natAbs<10 ^ j→m.natAbs<n→0≤e→e+j≤19→zm m →
  ∃m' e':Int,zm m'∧zm e'∧(∀e0,bG (R:=R) n m e d e0=e0 m' e' d)∧(∀e0 e1,cB (R:=R) n m e d e0 e1=e0 m' e' d):=by
 intro j
 induction j with
 | zero=>intro m e n h0 h; omega
 | succ j ih =>
  intro m e n h0 h hn he hej hm;obtain ⟨hm1,hm2⟩:=hm;cases n with
  | zero=>omega
  | succ n =>
   by_cases hq:Int.tmod m 10=0
   ·have c1:(Int.tmod m 10==0)=true:=by simpa using hq
    have c2:decide (e>(1099511627776:Int))=false:=decide_eq_false (by omega);obtain ⟨c,hc,SU,hcd⟩:=tmod_zero h0 hq;have hp:10 ^ (j+1)=10*10 ^ j:=by rw[Nat.pow_succ,Nat.mul_comm]
    obtain ⟨m',e',g1,g2,g3,g4⟩:=ih c (e+1) n SU (by rw[hp]at h; omega) (by omega) (by omega) (by omega) ⟨by omega,by omega⟩;refine ⟨m',e',g1,g2,fun e0 => ?_,fun e0 e1 => ?_⟩
    ·show fQ (fun a b c=>bG n a b c e0) m e d e0=_;unfold fQ;rw[c1,cond_true,hcd,cv (by omega) (by omega),cv (by omega) (by omega)];exact g3 e0
    ·show kn (fun a b c=>cB n a b c e0 e1) m e d e0 e1=_;unfold kn;rw[c1,cond_true,c2,cond_false,hcd,cv (by omega) (by omega),cv (by omega) (by omega)];exact g4 e0 e1
   ·have c1:(Int.tmod m 10==0)=false:=by simpa using hq
    refine ⟨m,e,⟨hm1,hm2⟩,⟨by omega,by omega⟩,fun e0 => ?_,fun e0 e1 => ?_⟩
    ·show fQ _ m e d e0=_;unfold fQ;rw[c1,cond_false]
    ·show kn _ m e d e0 e1=_;unfold kn;rw[c1,cond_false]
theorem made_same {R:Type} (n:Int) (hn:zm n):∃(d:fO) (b:Bool),zm d.aq∧zm d.exp∧(∀k:fO→Bool→Option R,bm n 0 k=k d b)∧∀k:fO→Bool→Option R,vo n 0 k=k d b:=by
 obtain ⟨hn1,hn2⟩:=hn;by_cases h0:n=0
 ·subst h0;exact ⟨⟨0,0⟩,true,⟨by decide,by decide⟩,⟨by decide,by decide⟩,fun k=>rfl,fun k=>rfl⟩
 ·have c0:(n==0)=false:=by simpa using h0
  have c5:min (0:Int) 1000000=0:=by decide
  obtain ⟨m',e',g1,g2,g3,g4⟩:=made_loops (R:=R) ⟨0,0⟩ 19 n 0 (Int.natAbs n+Int.natAbs 0+fO.fu (⟨0,0⟩:fO)+64) h0 (by omega) (by omega) (by omega) (by omega) ⟨hn1,hn2⟩;by_cases hb:(-1000000000000000≤m'∧m'≤1000000000000000)∧(-9≤e'∧e'≤9)
  ·refine ⟨⟨m',e'⟩,true,g1,g2,fun k => ?_,fun k => ?_⟩
   ·unfold bm kQ;rw[c0,cond_false,c5,g3,Ip];have d1:(decide (-1000000000000000≤m')&&decide (m'≤1000000000000000))=true:=by simp; omega
    have d2:(decide (-9≤e')&&decide (e'≤9))=true:=by simp; omega
    rw[d1,Bool.not_true,cond_false,Ip,d2,Bool.not_true,cond_false]
   ·unfold vo vn;rw[c0,cond_false,g4];have d1:decide (m'>(1000000000000000:Int))=false:=decide_eq_false (by omega);have d2:decide (m'<(-1000000000000000:Int))=false:=decide_eq_false (by omega);have d3:decide (e'>(9:Int))=false:=decide_eq_false (by omega);have d4:decide (e'<(-9:Int))=false:=decide_eq_false (by omega);simp only[d1,d2,d3,d4,cond_false]
  ·refine ⟨⟨0,0⟩,false,⟨by decide,by decide⟩,⟨by decide,by decide⟩,fun k => ?_,fun k => ?_⟩
   ·unfold bm kQ;rw[c0,cond_false,c5,g3,Ip];by_cases hm : -1000000000000000≤m'∧m'≤1000000000000000
    ·have d1:(decide (-1000000000000000≤m')&&decide (m'≤1000000000000000))=true:=by simp; omega
     have d2:(decide (-9≤e')&&decide (e'≤9))=false:=by simp only[Bool.and_eq_false_imp,decide_eq_true_eq,decide_eq_false_iff_not]; omega
     rw[d1,Bool.not_true,cond_false,Ip,d2,Bool.not_false,cond_true]
    ·have d1:(decide (-1000000000000000≤m')&&decide (m'≤1000000000000000))=false:=by simp only[Bool.and_eq_false_imp,decide_eq_true_eq,decide_eq_false_iff_not]; omega
     rw[d1,Bool.not_false,cond_true]
   ·unfold vo vn;rw[c0,cond_false,g4];by_cases d1:m'>(1000000000000000:Int)
    ·simp only[decide_eq_true d1,cond_true]
    ·by_cases d2:m'<(-1000000000000000:Int)
     ·simp only[decide_eq_false d1,decide_eq_true d2,cond_true,cond_false]
     ·by_cases d3:e'>(9:Int)
      ·simp only[decide_eq_false d1,decide_eq_false d2,decide_eq_true d3,cond_true,cond_false]
      ·have d4:e'<(-9:Int):=by omega
       simp only[decide_eq_false d1,decide_eq_false d2,decide_eq_false d3,decide_eq_true d4,cond_true,cond_false]
end Go.Proofs.YtidfokedcnhahaaGreatDoor.Pu
set_option maxRecDepth 100000
namespace Go.Proofs.YtidfokedcnhahaaGreatDoor
open Go Go.aA
end Go.Proofs.YtidfokedcnhahaaGreatDoor
namespace Go.Proofs.YtidfokedcnhahaaGreatDoor
open Go Go.aA
end Go.Proofs.YtidfokedcnhahaaGreatDoor
set_option maxRecDepth 100000
namespace Go.Proofs.YtidfokedcnhahaaGreatDoor
open Go Go.aA
theorem strip_ex:∀(b:Nat) (m:Int),m≠0→m.natAbs<b→∃(j:Nat) (u:Int),m=u*10 ^ j∧Int.tmod u 10≠0
 | 0,m,_,h=>by omega
 | b+1,m,h0,hb=>by
  by_cases h:Int.tmod m 10=0
  ·have hd:m=Int.tdiv m 10*10:=by have:=Int.tmod_add_mul_tdiv m 10; omega
   have hn:(Int.tdiv m 10).natAbs<m.natAbs:=by rw[Int.natAbs_tdiv]; show m.natAbs / 10<m.natAbs; omega
   obtain ⟨j,u,e,hu⟩:=strip_ex b (Int.tdiv m 10) (by omega) (by omega);refine ⟨j+1,u,?_,hu⟩;rw[Int.pow_succ,←Int.mul_assoc,←e];exact hd
  ·exact ⟨0,m,by simp,h⟩
theorem strip_one:∀(i j:Nat) (u v:Int),Int.tmod u 10≠0→Int.tmod v 10≠0→u*10 ^ i=v*10 ^ j→i=j∧u=v
 | 0,0,u,v,_,_,h=>⟨rfl,by simpa using h⟩
 | 0,j+1,u,v,hu,_,h=>by
  exfalso;apply hu;have:u=(v*10 ^ j)*10:=by rw[Int.pow_succ,←Int.mul_assoc]at h; simpa using h
  rw[this];exact Int.mul_tmod_left _ _
 | i+1,0,u,v,_,hv,h=>by
  exfalso;apply hv;have:v=(u*10 ^ i)*10:=by rw[Int.pow_succ,←Int.mul_assoc]at h; simpa using h.symm
  rw[this];exact Int.mul_tmod_left _ _
 | i+1,j+1,u,v,hu,hv,h=>by
  have h2:u*10 ^ i=v*10 ^ j:=by
   rw[Int.pow_succ,Int.pow_succ,←Int.mul_assoc,←Int.mul_assoc]at h;omega
  obtain ⟨h3,h4⟩:=strip_one i j u v hu hv h2;exact ⟨by omega,h4⟩
theorem Sd (j:Nat):(1:Int)≤10 ^ j:=by
 induction j with
 | zero=>simp
 | succ j ih=>rw[Int.pow_succ]; omega
theorem Up (u:Int) (j:Nat):u.natAbs≤(u*10 ^ j).natAbs:=by
 rw[Int.natAbs_mul];have h:=Sd j;have:1≤((10:Int) ^ j).natAbs:=by omega
 exact Nat.le_mul_of_pos_right _ this
theorem noughts_le (u:Int) (hu:u≠0):∀j:Nat,j≤(u*10 ^ j).natAbs:=by
 intro j;rw[Int.natAbs_mul];have h1:1≤u.natAbs:=by omega
 have h2:j≤((10:Int) ^ j).natAbs:=by
  induction j with
  | zero=>simp
  | succ j ih =>
   have:=Sd j;rw[Int.pow_succ,Int.natAbs_mul];show j+1≤((10:Int) ^ j).natAbs*10;omega
 calc j≤((10:Int) ^ j).natAbs:=h2
  _≤u.natAbs*((10:Int) ^ j).natAbs:=Nat.le_mul_of_pos_left _ h1
theorem noughts_pow (u:Int) (hu:u≠0) (j:Nat):2 ^ j≤(u*10 ^ j).natAbs:=by
 rw[Int.natAbs_mul];have h2:∀j:Nat,2 ^ j≤((10:Int) ^ j).natAbs:=by
  intro j
  induction j with
  | zero=>simp
  | succ j ih =>
   rw[Int.pow_succ,Int.natAbs_mul,Nat.pow_succ];show 2 ^ j*2≤((10:Int) ^ j).natAbs*10;omega
 exact Nat.le_trans (h2 j) (Nat.le_mul_of_pos_left _ (by omega))
theorem noughts_64 {u:Int} (hu:u≠0) {j:Nat} (hb:zm (u*10 ^ j)):j<64:=by
 have h:=noughts_pow u hu j;unfold zm at hb;rcases Nat.lt_or_ge j 64 with h1|h1
 ·exact h1
 ·have h2:(2:Nat) ^ 64≤2 ^ j:=Nat.pow_le_pow_right (by omega) h1;have h3:(2:Nat) ^ 64=18446744073709551616:=rfl;omega
theorem XJ {R:Type} (d:fO) (e0:Int→Int→fO→Option R):∀(j n:Nat) (u x:Int),j<n→Int.tmod u 10≠0→zm (u*10 ^ j) → -9223372036854775808≤x→x+j≤4000000000000000000 →
  bG n (u*10 ^ j) x d e0=e0 u (x+j) d:=by
 intro j
 induction j with
 | zero =>
  intro n u x hn hu hb h1 h2;obtain ⟨m,rfl⟩:∃m,n=m+1:=⟨n - 1,by omega⟩;have e:bG (m+1) (u*10 ^ 0) x d e0=fQ (fun gf gk gw=>bG m gf gk gw e0) (u*10 ^ 0) x d e0:=rfl;rw[e];unfold fQ;have e1:u*10 ^ 0=u:=by simp
  have e2:(Int.tmod u 10==0)=false:=by rw[beq_eq_false_iff_ne]; exact hu
  rw[e1,e2,cond_false];simp
 | succ j ih =>
  intro n u x hn hu hb h1 h2;obtain ⟨m,rfl⟩:∃m,n=m+1:=⟨n - 1,by omega⟩;have e:bG (m+1) (u*10 ^ (j+1)) x d e0=fQ (fun gf gk gw=>bG m gf gk gw e0) (u*10 ^ (j+1)) x d e0:=rfl;rw[e];unfold fQ;have ep:u*10 ^ (j+1)=u*10 ^ j*10:=by rw[Int.pow_succ,Int.mul_assoc]
  unfold zm at hb;rw[ep]at hb ⊢;have e1:(Int.tmod (u*10 ^ j*10) 10==0)=true:=by rw[Int.mul_tmod_left]; rfl
  have e2:Int.tdiv (u*10 ^ j*10) 10=u*10 ^ j:=Int.mul_tdiv_cancel _ (by omega);rw[e1,cond_true,e2,cv (n:=u*10 ^ j) (by omega) (by omega),cv (n:=x+1) (by omega) (by omega)];show bG m (u*10 ^ j) (x+1) d e0=_;rw[ih m u (x+1) (by omega) hu (by unfold zm; omega) (by omega) (by omega)];have:x+1+(j:Int)=x+((j+1:Nat):Int):=by omega
  rw[this]
theorem MO {R:Type} (a b c:Int) (k:Bool→Option R):ay a b c k=k (decide (a≤b)&&decide (b≤c)):=by
 have e:ay a b c k=mT a b c k:=rfl;rw[e];unfold mT;by_cases h1:a≤b
 ·rw[aE h1]; first|rfl|simp
 ·rw[bK h1]; first|rfl|simp
def YP (u x:Int):fO×Bool:=if -1000000000000000≤u∧u≤1000000000000000 ∧ -9≤x∧x≤9 then (⟨u,x⟩,true)else (⟨0,0⟩,false)
theorem make_ok {R:Type} (u:Int) (j:Nat) (x:Int) (hu:Int.tmod u 10≠0) (hb:zm (u*10 ^ j)) (h1 : -9223372036854775808≤x) (h2:x≤1000000) (k:fO→Bool→Option R) :
  bm (u*10 ^ j) x k=k (YP u (x+j)).1 (YP u (x+j)).2:=by
 have e:bm (u*10 ^ j) x k=kQ ay bG (u*10 ^ j) x k:=rfl;rw[e];unfold kQ;have hu0:u≠0:=by rintro rfl; exact hu rfl
 have ha:=Up u j;have hn:=noughts_le u hu0 j;have h64:=noughts_64 hu0 hb;have h0:(u*10 ^ j==0)=false:=by rw[beq_eq_false_iff_ne]; omega
 have hm:min x 1000000=x:=Int.min_eq_left h2;unfold zm at hb;rw[h0,cond_false,hm,XJ _ _ j _ u x (by omega) hu (by unfold zm; exact hb) h1 (by omega)];rw[MO];unfold YP;by_cases c1 : -1000000000000000≤u∧u≤1000000000000000
 ·rw[aE c1.1,aE c1.2];simp only[Bool.and_self,Bool.not_true,cond_false];rw[MO];by_cases c2 : -9≤x+(j:Int)∧x+(j:Int)≤9
  ·rw[aE c2.1,aE c2.2,if_pos ⟨c1.1,c1.2,c2.1,c2.2⟩];rfl
  ·rw[if_neg (fun h=>c2 h.2.2)];have:(decide (-9≤x+(j:Int))&&decide (x+(j:Int)≤9))=false:=by
    rw[Bool.and_eq_false_iff,decide_eq_false_iff_not,decide_eq_false_iff_not]; omega
   rw[this];rfl
 ·rw[if_neg (fun h=>c1 ⟨h.1,h.2.1⟩)];have:(decide (-1000000000000000≤u)&&decide (u≤1000000000000000))=false:=by
   rw[Bool.and_eq_false_iff,decide_eq_false_iff_not,decide_eq_false_iff_not]; omega
  rw[this];rfl
theorem XX {R:Type} (x:Int) (k:fO→Bool→Option R):bm 0 x k=k ⟨0,0⟩ true:=by
 have e:bm 0 x k=kQ ay bG 0 x k:=rfl;rw[e];rfl
theorem right_mk {R:Type} {u x:Int} (hu:Int.tmod u 10≠0) (h : -1000000000000000≤u∧u≤1000000000000000 ∧ -9≤x∧x≤9) (k:Bool→Option R):bQ ⟨u,x⟩ k=k true:=by
 have e:bQ ⟨u,x⟩ k=jZ ay ⟨u,x⟩ k:=rfl;rw[e];unfold jZ;have hu0:u≠0:=by rintro rfl; exact hu rfl
 have e1:(u==0)=false:=by rw[beq_eq_false_iff_ne]; exact hu0
 have e2:(Int.tmod u 10 != 0)=true:=bne_iff_ne.2 hu;simp only[e1,e2,cond_false,cond_true,MO];rw[aE h.1,aE h.2.1,aE h.2.2.1,aE h.2.2.2];rfl
variable {R:Type}
abbrev Ak (R:Type):Type:=Order→Int→Int→ae→(Bool→Option R)→Option R
abbrev vy:List cU := [.agg [.int .i64, .str, .int .i64, .int .i64, .sl .stop, .sl .na], .leaf (.int .i64), .leaf (.int .i64), .leaf (.str)]
abbrev vz:List aU := []
def Al (fn:Ak R):lC R vy vz:=fun x y k=>fn (⟨x.1.1,x.1.2.1,x.1.2.2.1,x.1.2.2.2.1,x.1.2.2.2.2.1,x.1.2.2.2.2.2.1⟩:Order) x.2.1 x.2.2.1 x.2.2.2.1 (fun q0=>k (.bool q0) [])
def Uq (fn:Ak R):=aG vy vz (Al fn)
abbrev so (R:Type):Type:=Nat→Int→ae→(List ae)→(List Json)→Int→Order→Json→(Int→ae→(List ae)→(List Json)→Order→Option R)→Option R
def nB:Hint := { live := [2,3,10,15,18,19,20],own := [(18, .str),(19, .json)],rows := [],cells := [],drop := [],out := [2,3,8,10,18,19] }
abbrev iN:Type:=Int×ae×(List ae)×(List Json)×Int×Order×Json
def qs:iN→St:=fun d=>⟨U 2 (.int .i64 d.1 :: .str d.2.1::U 6 (.ptr 0 0::U 4 (.ptr 1 0::U 2 (.sl .str d.2.2.1 (.own 2) :: .sl .json d.2.2.2.1 (.own 3) :: .int .i64 d.2.2.2.2.1::U 132 ([]))))), [.cells [.int .i64 d.2.2.2.2.2.1.header, .str d.2.2.2.2.2.1.cd, .int .i64 d.2.2.2.2.2.1.order, .int .i64 d.2.2.2.2.2.1.update, .sl .stop d.2.2.2.2.2.1.nodes .no, .sl .na d.2.2.2.2.2.1.aS .no], .cells [.int .i64 d.2.2.2.2.2.2.kind, .int .i64 d.2.2.2.2.2.2.num.aq, .int .i64 d.2.2.2.2.2.2.num.exp, .str d.2.2.2.2.2.2.text, .sl .str d.2.2.2.2.2.2.names .no, .sl .json d.2.2.2.2.2.2.items .no], .tok, .tok]⟩
def sq (K:Ex→St→Option R) (q0:Int) (q1:ae) (q2:List ae) (q3:List Json) (q4:Order):Option R:=K (.exit 0) ⟨U 2 (.int .i64 q0 :: .str q1::U 6 (.ptr 0 0::U 7 (.sl .str q2 (.own 1) :: .sl .json q3 (.own 2)::U 133 ([])))), [.cells [.int .i64 q4.header, .str q4.cd, .int .i64 q4.order, .int .i64 q4.update, .sl .stop q4.nodes .no, .sl .na q4.aS .no], .tok, .tok]⟩
abbrev kr:List cU:=PU 2 (.leaf (.int .i64) :: .leaf (.str)::PU 6 (.leaf (.ptr 0 0)::PU 4 (.leaf (.ptr 1 0)::PU 2 (.leaf (.TW .str 2) :: .leaf (.TW .json 3) :: .leaf (.int .i64)::PU 132 ([])))))
abbrev ku:List aU := [.cells [.int .i64, .str, .int .i64, .int .i64, .sl .stop, .sl .na], .cells [.int .i64, .int .i64, .int .i64, .str, .sl .str, .sl .json], .tok, .tok]
def Cx (x:cU.bT kr) (y:aU.bT ku):Nat:=(Int.natAbs x.2.2.1+List.length x.2.2.2.1+List.length ((t8 (t8 x)).2.2.1)+List.length ((t8 (t8 x)).2.2.2.1)+Int.natAbs ((t8 (t8 x)).2.2.2.2.1)+Order.fu (⟨y.1.1,y.1.2.1,y.1.2.2.1,y.1.2.2.2.1,y.1.2.2.2.2.1,y.1.2.2.2.2.2.1⟩:Order)+Json.fu (⟨y.2.1.1,⟨y.2.1.2.1,y.2.1.2.2.1⟩,y.2.1.2.2.2.1,y.2.1.2.2.2.2.1,y.2.1.2.2.2.2.2.1⟩:Json)+64)
def MP (x:cU.bT kr) (y:aU.bT ku):iN:=(x.2.2.1,x.2.2.2.1,(t8 (t8 x)).2.2.1,(t8 (t8 x)).2.2.2.1,(t8 (t8 x)).2.2.2.2.1,(⟨y.1.1,y.1.2.1,y.1.2.2.1,y.1.2.2.2.1,y.1.2.2.2.2.1,y.1.2.2.2.2.2.1⟩:Order),(⟨y.2.1.1,⟨y.2.1.2.1,y.2.1.2.2.1⟩,y.2.1.2.2.2.1,y.2.1.2.2.2.2.1,y.2.1.2.2.2.2.2.1⟩:Json))
def Bc (L:so R):xp R kr ku:=fun x y K=>L (Cx x y) x.2.2.1 x.2.2.2.1 ((t8 (t8 x)).2.2.1) ((t8 (t8 x)).2.2.2.1) ((t8 (t8 x)).2.2.2.2.1) (⟨y.1.1,y.1.2.1,y.1.2.2.1,y.1.2.2.2.1,y.1.2.2.2.2.1,y.1.2.2.2.2.2.1⟩:Order) (⟨y.2.1.1,⟨y.2.1.2.1,y.2.1.2.2.1⟩,y.2.1.2.2.2.1,y.2.1.2.2.2.2.1,y.2.1.2.2.2.2.2.1⟩:Json) (sq K)
section
variable (dc:wv R) (gE:C9 R) (eK:D4 R) (cC:vq R) (bP:pJ R) (bc:oX R) (cW:A1 R) (eG:A4 R) (bz:rK R) (cu:wA R) (bM:sj R) (dG:DY R) (bV:rJ R) (bW:so R)
def mr:List (oo R) := [(36,true,(HM dc av)),(34,true,(Qz gE av)),(33,true,(RA eK av)),(18,true,(Gw cC av)),(17,true,(A7 bP av)),(27,true,(yO bc av)),(32,true,(N3 cW av)),(35,true,(Oz eG av)),(19,true,(Cq bz av)),(23,true,(Ic cu av)),(29,true,(DZ bM av)),(31,true,(Rt dG av)),(28,true,(Cp bV av))]
def nC (dJ:Int→ae→(List ae)→(List Json)→Int→Order→Json→Option R) (ng:Int) (qM:ae) (lF:List ae) (oE:List Json) (AV:Int) (va:Order) (QT:Json) (e0:Int→ae→(List ae)→(List Json)→Order→Option R):Option R :=
 bif (decide (AV≥(0:Int)))then (bX (decide ((0:Int)≤AV)&&decide (AV<QT.names.length)) (bX (decide ((lF.length+1)*16≤140737488355328)) (bX (decide ((0:Int)≤AV)&&decide (AV<QT.items.length)) (bX (decide ((oE.length+1)*88≤140737488355328)) (dJ ng qM (lF++([(QT.names.getD AV.toNat (Ty.aR .str))]:List ae)) (oE++([(⟨(QT.items.getD AV.toNat (Ty.aR .json)).kind,⟨(QT.items.getD AV.toNat (Ty.aR .json)).num.aq,(QT.items.getD AV.toNat (Ty.aR .json)).num.exp⟩,(QT.items.getD AV.toNat (Ty.aR .json)).text,(QT.items.getD AV.toNat (Ty.aR .json)).names,(QT.items.getD AV.toNat (Ty.aR .json)).items⟩:Json)]:List Json)) (IntKind.i64.wrap (AV - 1)) va (⟨QT.kind,⟨QT.num.aq,QT.num.exp⟩,QT.text,QT.names,QT.items⟩:Json))))))else (e0 ng qM lF oE va)
def Cy (K:Ex→St→Option R) (rc:iN→Option R) (d:iN):Option R:=nC (fun z0 z1 z2 z3 z4 z5 z6=>rc (z0,z1,z2,z3,z4,z5,z6)) d.1 d.2.1 d.2.2.1 d.2.2.2.1 d.2.2.2.2.1 d.2.2.2.2.2.1 d.2.2.2.2.2.2 (sq K)
def pK:Nat→Option (Hint×cQ R):=fun i=>match i with
 | 11=>some (nB,(cM kr ku (Bc bW) iK))
 | _=>none
theorem Jo (K:Ex→St→Option R) (rc:St→Option R) (d:iN):roundOf tt (cT (mr dc gE eK cC bP bc cW eG bz cu bM dG bV)) (pK bW) 0 ((az (aX Tryz.f7)).getD 0 .skip) nB (qs d) rc K=Cy K (fun d=>rc (qs d)) d:=by kernel_rfl
def B3 (x1:Order) (x2:Int) (x3:Int) (x4:ae) (k0:Bool→Option R):Option R :=
 bP (fun y5=>cC x1 x2 (fun y6=>bz y6 (fun y7 y8=>dG y7 (fun y9 p9=>cW y9 (fun n0 yp Im=>bif (!y5)then (k0 false)else (bif (y8 != 0)then (k0 false)else (bif (p9 != 0)then (k0 false)else (bif (yp != 0)then (k0 false)else (bif ((n0.names.length:Int) != 6)then (k0 false)else (bif ((n0.items.length:Int) != 6)then (k0 false)else (bW (Int.natAbs x3+List.length x4+List.length ([]:List ae)+List.length ([]:List Json)+Int.natAbs 5+Order.fu y6+Json.fu (⟨n0.kind,⟨n0.num.aq,n0.num.exp⟩,n0.text,n0.names,n0.items⟩:Json)+64) x3 x4 ([]:List ae) ([]:List Json) 5 y6 (⟨n0.kind,⟨n0.num.aq,n0.num.exp⟩,n0.text,n0.names,n0.items⟩:Json) (fun y22 ZY VE JF Sz=>eK ZY (fun Fi=>bX (decide (1+Fi.length≤9223372036854775807)) (bX (decide ((VE.length+1)*16≤140737488355328)) (gE ([121]:ae) (fun uR=>bX (decide ((JF.length+1)*88≤140737488355328)) (dc (VE++([(([120]:ae)++Fi)]:List ae)) (JF++([(⟨uR.kind,⟨uR.num.aq,uR.num.exp⟩,uR.text,uR.names,uR.items⟩:Json)]:List Json)) (fun U6=>eG (⟨U6.kind,⟨U6.num.aq,U6.num.exp⟩,U6.text,U6.names,U6.items⟩:Json) (fun W0=>bX (decide (1+W0.length≤9223372036854775807)) (bX (decide ((([32]:ae)++W0).length+1≤9223372036854775807)) (bV ((([32]:ae)++W0)++([10]:ae)) (fun y31=>bM y31 (fun V0 y33=>bc y22 6 (fun Sc=>bX (decide ((0:Int)≤Sc)&&decide (Sc≤(VE++([(([120]:ae)++Fi)]:List ae)).length)) (bX (decide ((0:Int)≤Sc)) (bX (decide ((0+(((VE++([(([120]:ae)++Fi)]:List ae)).drop 0).take (Sc.toNat - 0)).length)*16≤140737488355328)) (bX (decide ((0:Int)≤(IntKind.i64.wrap (Sc+1)))&&decide ((IntKind.i64.wrap (Sc+1))≤(VE++([(([120]:ae)++Fi)]:List ae)).length)) (bX (decide (((((VE++([(([120]:ae)++Fi)]:List ae)).drop 0).take (Sc.toNat - 0)).length+((VE++([(([120]:ae)++Fi)]:List ae)).drop (IntKind.i64.wrap (Sc+1)).toNat).length)*16≤140737488355328)) (bX (decide ((0:Int)≤Sc)&&decide (Sc≤(JF++([(⟨uR.kind,⟨uR.num.aq,uR.num.exp⟩,uR.text,uR.names,uR.items⟩:Json)]:List Json)).length)) (bX (decide ((0:Int)≤Sc)) (bX (decide ((0+(((JF++([(⟨uR.kind,⟨uR.num.aq,uR.num.exp⟩,uR.text,uR.names,uR.items⟩:Json)]:List Json)).drop 0).take (Sc.toNat - 0)).length)*88≤140737488355328)) (bX (decide ((0:Int)≤(IntKind.i64.wrap (Sc+1)))&&decide ((IntKind.i64.wrap (Sc+1))≤(JF++([(⟨uR.kind,⟨uR.num.aq,uR.num.exp⟩,uR.text,uR.names,uR.items⟩:Json)]:List Json)).length)) (bX (decide (((((JF++([(⟨uR.kind,⟨uR.num.aq,uR.num.exp⟩,uR.text,uR.names,uR.items⟩:Json)]:List Json)).drop 0).take (Sc.toNat - 0)).length+((JF++([(⟨uR.kind,⟨uR.num.aq,uR.num.exp⟩,uR.text,uR.names,uR.items⟩:Json)]:List Json)).drop (IntKind.i64.wrap (Sc+1)).toNat).length)*88≤140737488355328)) (dc ((((VE++([(([120]:ae)++Fi)]:List ae)).drop 0).take (Sc.toNat - 0))++((VE++([(([120]:ae)++Fi)]:List ae)).drop (IntKind.i64.wrap (Sc+1)).toNat)) ((((JF++([(⟨uR.kind,⟨uR.num.aq,uR.num.exp⟩,uR.text,uR.names,uR.items⟩:Json)]:List Json)).drop 0).take (Sc.toNat - 0))++((JF++([(⟨uR.kind,⟨uR.num.aq,uR.num.exp⟩,uR.text,uR.names,uR.items⟩:Json)]:List Json)).drop (IntKind.i64.wrap (Sc+1)).toNat)) (fun y35=>eG (⟨y35.kind,⟨y35.num.aq,y35.num.exp⟩,y35.text,y35.names,y35.items⟩:Json) (fun y36=>bV y36 (fun y37=>bM y37 (fun y38 Yq=>bif (y33==0)then (cu Sz V0 (fun ZZ=>bif ZZ then (k0 (Yq==80))else (k0 false)))else (k0 false)))))))))))))))))))))))))))))))))))))))
theorem SK:dO (R:=R) tt (mr dc gE eK cC bP bc cW eG bz cu bM dG bV) (pK bW) false Tryz.f7 vy vz (Al (B3 dc gE eK cC bP bc cW eG bz cu bM dG bV bW)):=fun x y k=>by kernel_rfl
end
theorem RG:cE (R:=R) Tryz.prog (mr (R:=R) dc gE eK cC bP bc cW eG bz cu bM dG bV) := .c (GV R) <| .c (QA R) <| .c (RC R) <| .c (D7 R) <| .c (yN R) <| .c (v7 R) <| .c (Pl R) <| .c (Ps R) <| .c (yk R) <| .c (Hh R) <| .c (Bm R) <| .c (Ru R) <| .c (yj R) <| .n
def bW:so R
 | 0,_,_,_,_,_,_,_,_=>none
 | n+1,gf,gk,gw,mA,wC,xH,EC,e0=>nC (fun gf gk gw mA wC xH EC=>bW n gf gk gw mA wC xH EC e0) gf gk gw mA wC xH EC e0
def Cz (K:Ex→St→Option R) (n:Nat) (d:iN):Option R:=bW n d.1 d.2.1 d.2.2.1 d.2.2.2.1 d.2.2.2.2.1 d.2.2.2.2.2.1 d.2.2.2.2.2.2 (sq K)
theorem LU (other:cQ R) (ho:hG tt (cT (mr (R:=R) dc gE eK cC bP bc cW eG bz cu bM dG bV)) (pK (R:=R) bW) 0 ((az (aX Tryz.f7)).getD 0 .skip) nB other):hG tt (cT (mr (R:=R) dc gE eK cC bP bc cW eG bz cu bM dG bV)) (pK (R:=R) bW) 0 ((az (aX Tryz.f7)).getD 0 .skip) nB (cM kr ku (Bc (bW)) other) :=
 cS (A:=Cz) ho (dX qs (Cy) (Cz) (fun _ _=>by kernel_rfl) (Jo dc gE eK cC bP bc cW eG bz cu bM dG bV bW) (fun _ _ _=>by kernel_rfl)) Cx MP (fun _ _=>by kernel_rfl) (fun _ _ _=>by kernel_rfl)
def uD:Ak R:=fun x1 x2 x3 x4 k0=>B3 dc gE eK cC bP bc cW eG bz cu bM dG bV bW x1 x2 x3 x4 k0
theorem OR (R:Type):∀a∈az (aX Tryz.f7),gN tt (cT (mr (R:=R) dc gE eK cC bP bc cW eG bz cu bM dG bV)) (pK (R:=R) bW) 0 a:=by
 refine fb 1 (by kernel_rfl) fun i hi => ?_
 match i,hi with
 | 0,_=>exact cA (by kernel_rfl) (LU _ dy)
 | n+1,hi=>omega
theorem PW (R:Type):kM Tryz.prog 7 (Uq (uD (R:=R))):=br TT mixed (RG (R:=R)) rfl rfl rfl rfl (OR R) (SK dc gE eK cC bP bc cW eG bz cu bM dG bV bW)
abbrev sr (R:Type):Type:=Order→Int→Int→Int→(Bool→Option R)→Option R
abbrev nD:List cU := [.agg [.int .i64, .str, .int .i64, .int .i64, .sl .stop, .sl .na], .leaf (.int .i64), .leaf (.int .i64), .leaf (.int .i64)]
abbrev nE:List aU := []
def su (fn:sr R):lC R nD nE:=fun x y k=>fn (⟨x.1.1,x.1.2.1,x.1.2.2.1,x.1.2.2.2.1,x.1.2.2.2.2.1,x.1.2.2.2.2.2.1⟩:Order) x.2.1 x.2.2.1 x.2.2.2.1 (fun q0=>k (.bool q0) [])
def MQ (fn:sr R):=aG nD nE (su fn)
section
variable (cC:vq R) (bP:pJ R) (bc:oX R) (bz:rK R) (aZ:mS R)
def CA:List (oo R) := [(18,true,(Gw cC av)),(17,true,(A7 bP av)),(27,true,(yO bc av)),(19,true,(Cq bz av)),(21,true,(wm aZ av))]
def uE (x1:Order) (x2:Int) (x3:Int) (x4:Int) (k0:Bool→Option R):Option R :=
 bP (fun y5=>cC x1 x2 (fun y6=>bc x4 (y6.nodes.length:Int) (fun y7=>bX (decide ((0+y6.nodes.length)*24≤140737488355328)) (bX (decide ((0+y6.aS.length)*24≤140737488355328)) (let j23:=fun (wk:Int) (z12:ae) (z13:Int) (z14:Int) (z15:Nat) (z16:Nat) (z17:List Stop) (z18:List aA.Way)=>bz (⟨wk,z12,z13,z14,z17,z18⟩:Order) (fun U5 Sw=>bif y5 then (aZ (⟨wk,z12,z13,z14,z17,z18⟩:Order) (fun Fe=>bif (!Fe)then (bif (U5==([]:ae))then (k0 (Sw==1))else (k0 false))else (k0 false)))else (k0 false)); bc x3 7 (fun y8=>bif (y8==0)then (bX (decide ((0:Int)≤y7)&&decide (y7<y6.nodes.length)) (bX (decide (y7.toNat<y6.nodes.length)) (bX (decide ((0:Int)≤y7)&&decide (y7<y6.nodes.length)) (bX (decide (y7.toNat<y6.nodes.length)) (j23 y6.header y6.cd y6.order y6.update y6.nodes.length y6.aS.length (y6.nodes.set y7.toNat (⟨(y6.nodes.getD y7.toNat (Ty.aR .stop)).node,(IntKind.i64.wrap ((y6.nodes.getD y7.toNat (Ty.aR .stop)).seq+1)),(y6.nodes.getD y7.toNat (Ty.aR .stop)).bE⟩:Stop)) y6.aS)))))else (bif (y8==1)then (bX (decide ((0:Int)<y6.nodes.length)) (bX (decide (0<y6.nodes.length)) (j23 y6.header y6.cd y6.order y6.update y6.nodes.length y6.aS.length (y6.nodes.set 0 (⟨(y6.nodes.getD 0 (Ty.aR .stop)).node,(y6.nodes.getD 0 (Ty.aR .stop)).seq,false⟩:Stop)) y6.aS)))else (bif (y8==2)then (j23 y6.header ([97,32,98]:ae) y6.order y6.update y6.nodes.length y6.aS.length y6.nodes y6.aS)else (bif (y8==3)then (bX (decide ((0:Int)≤y7)&&decide (y7<y6.nodes.length)) (bX (decide (y7.toNat<y6.nodes.length)) (j23 y6.header y6.cd y6.order y6.update y6.nodes.length y6.aS.length (y6.nodes.set y7.toNat (⟨(-1),(y6.nodes.getD y7.toNat (Ty.aR .stop)).seq,(y6.nodes.getD y7.toNat (Ty.aR .stop)).bE⟩:Stop)) y6.aS)))else (bif (y8==4)then (bX (decide ((y6.aS.length+1)*24≤140737488355328)) (bz (⟨y6.header,y6.cd,y6.order,y6.update,y6.nodes,(y6.aS++([(⟨0,0,false⟩:aA.Way)]:List aA.Way))⟩:Order) (fun VE JF=>bif y5 then (aZ (⟨y6.header,y6.cd,y6.order,y6.update,y6.nodes,(y6.aS++([(⟨0,0,false⟩:aA.Way)]:List aA.Way))⟩:Order) (fun Sz=>bif (!Sz)then (bif (VE==([]:ae))then (k0 (JF==1))else (k0 false))else (k0 false)))else (k0 false))))else (bif (y8==5)then (bif ((y6.nodes.length:Int)==1)then (k0 y5)else (bc x4 (IntKind.i64.wrap ((y6.nodes.length:Int) - 1)) (fun y9=>bc x4 (IntKind.i64.wrap ((y6.nodes.length:Int) - 1)) (fun p9=>bX (decide ((0:Int)≤p9)&&decide (p9<y6.aS.length)) (bX (decide (p9.toNat<y6.aS.length)) (bX (decide ((0:Int)≤y9)&&decide (y9<y6.aS.length)) (bX (decide (y9.toNat<y6.aS.length)) (j23 y6.header y6.cd y6.order y6.update y6.nodes.length y6.aS.length y6.nodes (y6.aS.set y9.toNat (⟨(y6.aS.getD y9.toNat (Ty.aR .na)).zy,(y6.aS.getD y9.toNat (Ty.aR .na)).seq,(!(y6.aS.getD p9.toNat (Ty.aR .na)).bE)⟩:aA.Way))))))))))else (j23 y6.header y6.cd y6.order 1000000001 y6.nodes.length y6.aS.length y6.nodes y6.aS))))))))))))
theorem LV:dO (R:=R) (tt.mode [.stop, .na]) (CA cC bP bc bz aZ) sS false Tryz.f8 nD nE (su (uE cC bP bc bz aZ)):=fun x y k=>by kernel_rfl
end
theorem J7:cE (R:=R) Tryz.prog (CA (R:=R) cC bP bc bz aZ) := .c (D7 R) <| .c (yN R) <| .c (v7 R) <| .c (yk R) <| .c (td R) <| .n
def l9:sr R:=fun x1 x2 x3 x4 k0=>uE cC bP bc bz aZ x1 x2 x3 x4 k0
theorem Jp (R:Type):kM Tryz.prog 8 (MQ (l9 (R:=R))):=br (TT.mode [.stop, .na]) mixed (J7 (R:=R)) rfl rfl rfl rfl cq (LV cC bP bc bz aZ)
variable {R:Type}
variable {R:Type}
end Go.Proofs.YtidfokedcnhahaaGreatDoor
set_option maxRecDepth 100000
namespace Go.Proofs.YtidfokedcnhahaaGreatDoor
open Go Go.aA Go.Lib
def Fm (d:fO):Prop:=(d.aq=0∧d.exp=0)∨(Int.tmod d.aq 10≠0 ∧ -1000000000000000≤d.aq∧d.aq≤1000000000000000 ∧ -9≤d.exp∧d.exp≤9)
theorem Fm.bounds {d:fO} (h:Fm d) : -1000000000000000≤d.aq∧d.aq≤1000000000000000 ∧ -9≤d.exp∧d.exp≤9:=by
 rcases h with h|h <;> omega
theorem Fm.nz {d:fO} (h:Fm d) (h0:d.aq≠0):Int.tmod d.aq 10≠0:=by
 rcases h with h|h
 ·exact (h0 h.1).elim
 ·exact h.1
theorem Fm.zero {d:fO} (h:Fm d) (h0:d.aq=0):d=⟨0,0⟩:=by
 rcases h with h|h
 ·cases d; simp only at h; rw[h.1,h.2]
 ·exact (h.1 (by rw[h0]; rfl)).elim
theorem Fm.mk0:Fm ⟨0,0⟩ := .inl ⟨rfl,rfl⟩
theorem tmod_neg {m:Int} (h:Int.tmod m 10≠0):Int.tmod (-m) 10≠0:=by rw[Int.neg_tmod]; omega
theorem Fm.neg {d:fO} (h:Fm d):Fm ⟨-d.aq,d.exp⟩:=by
 rcases h with h|h
 ·exact .inl ⟨by simp only; omega,h.2⟩
 ·exact .inr ⟨tmod_neg h.1,by simp only; omega,by simp only; omega,h.2.2.2⟩
theorem right_ok {R:Type} {d:fO} (h:Fm d) (k:Bool→Option R):bQ d k=k true:=by
 rcases h with h|h
 ·have e:bQ d k=jZ ay d k:=rfl;rw[e];unfold jZ;rw[h.1,h.2];rfl
 ·cases d; exact right_mk h.1 h.2 k
def Made (m x:Int) (r:fO×Bool):Prop:=(m=0∧r=(⟨0,0⟩,true))∨∃(u:Int) (j:Nat),m=u*10 ^ j∧Int.tmod u 10≠0∧r=YP u (x+j)
theorem make_any {R:Type} (m x:Int) (hm:zm m) (h1 : -4000000000000000000≤x) (h2:x≤1000000):∃r:fO×Bool,Made m x r∧∀k:fO→Bool→Option R,bm m x k=k r.1 r.2:=by
 by_cases h0:m=0
 ·subst h0;exact ⟨_, .inl ⟨rfl,rfl⟩,fun k=>XX x k⟩
 ·obtain ⟨j,u,hu,hd⟩:=strip_ex (m.natAbs+1) m h0 (by omega);exact ⟨_, .inr ⟨u,j,hu,hd,rfl⟩,fun k=>by subst hu; exact make_ok u j x hd hm (by omega) h2 k⟩
def val (d:fO):Int:=d.aq*10 ^ (d.exp+9).toNat
theorem nDigits_low (u:Nat) (h:0<u):10 ^ (nDigits u - 1)≤u:=by
 induction u using Nat.strongRecOn with
 | _ u ih =>
  by_cases h1:u<10
  ·rw[nDigits_small h1]; exact h
  ·rw[nDigits_big h1,Nat.add_sub_cancel];have h2:=ih (u / 10) (by omega) (by omega);have h3:=nDigits_pos (u / 10);have e:nDigits (u / 10)=(nDigits (u / 10) - 1)+1:=by omega
   rw[e,Nat.pow_succ];omega
theorem WG {u:Nat} (h:u≤1000000000000000):nDigits u≤16:=by
 rcases Nat.eq_zero_or_pos u with rfl|h0
 ·rw[nDigits_small (by omega)]; omega
 ·have h1:=nDigits_low u h0;rcases Nat.lt_or_ge (nDigits u) 17 with h2|h2
  ·omega
  ·have h3:(10:Nat) ^ 16≤10 ^ (nDigits u - 1):=Nat.pow_le_pow_right (by omega) (by omega);have e:(10:Nat) ^ 16=10000000000000000:=rfl;omega
theorem mkD_fm {u x:Int} (hu:Int.tmod u 10≠0) (h:(YP u x).2=true):YP u x=(⟨u,x⟩,true)∧Fm ⟨u,x⟩:=by
 unfold YP at h ⊢;split at h
 ·rename_i hc;rw[if_pos hc];exact ⟨rfl, .inr ⟨hu,hc⟩⟩
 ·cases h
theorem made_same {d:fO} (h:Fm d) (h0:d.aq≠0) {j:Nat} {x:Int} (hx:x+j=d.exp) {r:fO×Bool} (hr:Made (d.aq*10 ^ j) x r):r=(d,true):=by
 have hz:=h.nz h0;have hab:=Up d.aq j;rcases hr with ⟨h1,_⟩|⟨u,i,e,hu,rfl⟩
 ·omega
 ·obtain ⟨rfl,rfl⟩:=strip_one i j u d.aq hu hz e.symm;have b:=h.bounds;unfold YP;rw[if_pos (by omega),hx]
end Go.Proofs.YtidfokedcnhahaaGreatDoor
set_option maxRecDepth 100000
namespace Go.Proofs.YtidfokedcnhahaaGreatDoor
open Go Go.aA
abbrev zs (s:ae):List Int:=s.map fun b=>(b.toNat:Int)
theorem zs_app (s t:ae):zs (s++t)=zs s++zs t:=List.map_append
theorem CB (s:ae):hJ s=zs s:=rfl
theorem FD (s:ae):(zs s).length=s.length:=List.length_map _
theorem vA (s:ae):xq (zs s)=s:=by
 unfold xq zs;rw[List.map_map]
 conv=>rhs; rw[←List.map_id s]
 exact List.map_congr_left fun b _=>by simp
theorem FE (n:Nat) (h:n<256):((UInt8.ofNat n).toNat:Int)=n:=by rw[hU n h]
def WH (s:ae):Prop:=s.length≤100000000000
theorem wb {R:Type} (b:UInt8) (s:ae) (hl:WH s) (k:List Int→Option R):ad (b.toNat:Int) (zs s) k=k (zs (s ++ [b])):=by
 show bX (decide (((zs s).length+1)*1≤140737488355328)) (k (zs s ++ [(b.toNat:Int)]))=_;unfold WH at hl;rw[ao (aE (by rw[FD]; omega)),zs_app];rfl
theorem ws {R:Type} (x:ae) (s:ae) (hx:x.length≤100000000000) (hl:WH s) (k:Int→List Int→Option R):af x (zs s) k=k (x.length:Int) (zs (s++x)):=by
 show bX (decide (((zs s).length+(hJ x).length)*1≤140737488355328)) (k (x.length:Int) (zs s++hJ x))=_;unfold WH at hl;rw[CB,ao (aE (by rw[FD,FD]; omega)),zs_app]
theorem or128:∀x:Fin 64,IntKind.u8.wrap ((BitVec.ofInt IntKind.u8.bits 128 ||| BitVec.ofInt IntKind.u8.bits (x.val:Int)).toNat:Int)=((128+x.val:Nat):Int):=by decide +kernel
theorem or192:∀x:Fin 32,IntKind.u8.wrap ((BitVec.ofInt IntKind.u8.bits 192 ||| BitVec.ofInt IntKind.u8.bits (IntKind.u8.wrap (x.val:Int))).toNat:Int)=((192+x.val:Nat):Int):=by decide +kernel
theorem or224:∀x:Fin 16,IntKind.u8.wrap ((BitVec.ofInt IntKind.u8.bits 224 ||| BitVec.ofInt IntKind.u8.bits (IntKind.u8.wrap (x.val:Int))).toNat:Int)=((224+x.val:Nat):Int):=by decide +kernel
theorem or240:∀x:Fin 8,IntKind.u8.wrap ((BitVec.ofInt IntKind.u8.bits 240 ||| BitVec.ofInt IntKind.u8.bits (IntKind.u8.wrap (x.val:Int))).toNat:Int)=((240+x.val:Nat):Int):=by decide +kernel
theorem and63:∀x:Fin 256,IntKind.u8.wrap ((BitVec.ofInt IntKind.u8.bits (x.val:Int) &&& BitVec.ofInt IntKind.u8.bits 63).toNat:Int)=((x.val % 64:Nat):Int):=by decide +kernel
theorem wrap8 (n:Nat):IntKind.u8.wrap (n:Int)=((n % 256:Nat):Int):=by
 simp only[IntKind.wrap,IntKind.bits,IntKind.signed];simp
theorem wrap32u {n:Nat} (h:n<1114112):IntKind.u32.wrap (n:Int)=(n:Int):=by
 simp only[IntKind.wrap,IntKind.bits,IntKind.signed];simp;omega
theorem shr (c n:Nat) (h:n≤32):Int.fdiv (c:Int) (2 ^ (min n IntKind.i32.bits))=((c / 2 ^ n:Nat):Int):=by
 have e:min n IntKind.i32.bits=n:=Nat.min_eq_left h;rw[e,Int.fdiv_eq_ediv_of_nonneg _ (by exact Int.le_of_lt (Int.pow_pos (by omega)))];rw[Int.natCast_ediv];congr 1
theorem cont (c:Nat):IntKind.u8.wrap ((BitVec.ofInt IntKind.u8.bits 128 ||| BitVec.ofInt IntKind.u8.bits (IntKind.u8.wrap ((BitVec.ofInt IntKind.u8.bits (IntKind.u8.wrap (c:Int)) &&& BitVec.ofInt IntKind.u8.bits 63).toNat:Int))).toNat:Int)=((128+c % 64:Nat):Int):=by
 have h1:=and63 ⟨c % 256,Nat.mod_lt _ (by omega)⟩;simp only at h1;rw[wrap8 c,h1,show c % 256 % 64=c % 64 by omega];exact or128 ⟨c % 64,Nat.mod_lt _ (by omega)⟩
theorem zs_enc1 (n:Nat) (h:n<256):zs [UInt8.ofNat n] = [(n:Int)]:=by simp only[zs,List.map_cons,List.map_nil,FE n h]
theorem ar {R:Type} {c:Nat} (hv:vr c) (s:ae) (hl:WH s) (k:List Int→Option R):cH (zs s) (c:Int) k=k (zs (s++enc c)):=by
 have jz:=vr_lt hv;unfold WH at hl;show jk ca (zs s) (c:Int) k=_;unfold jk;rw[wrap32u jz,zs_app];rcases Mt hv with ⟨h1,e⟩|⟨h0,h1,e⟩|⟨h0,h1,e⟩|⟨h0,e⟩
 ·rw[aE (show (c:Int)≤127 by omega),cond_true,ao (aE (by rw[FD]; omega)),e,zs_enc1 c (by omega),wrap8,Nat.mod_eq_of_lt (by omega)]
 all_goals
  rw[bK (show ¬(c:Int)≤127 by omega),cond_false];show fK (zs s) (c:Int) _=_;unfold fK;rw[wrap32u jz,e];simp only[cont,shr _ 6 (by omega),shr _ 12 (by omega),shr _ 18 (by omega),FD]
 ·rw[aE (show (c:Int)≤2047 by omega),cond_true,ao (aE (by omega))];have:=or192 ⟨c / 64,by omega⟩;simp only at this;rw[show c / 2 ^ 6=c / 64 from rfl,this];simp only[zs,List.map_cons,List.map_nil,FE (192+c / 64) (by omega),FE (128+c % 64) (by omega)]
 ·rw[bK (show ¬(c:Int)≤2047 by omega),cond_false];unfold vr at hv;by_cases h2:c<55296
  ·rw[aE (show (c:Int)<55296 by omega),cond_true,cond_true,ao (aE (by omega))];have:=or224 ⟨c / 4096,by omega⟩;simp only at this;rw[show c / 2 ^ 12=c / 4096 from rfl,this];simp only[zs,List.map_cons,List.map_nil,FE (224+c / 4096) (by omega),FE (128+c % 64) (by omega),FE (128+c / 64 % 64) (by omega)]
  rw[bK (show ¬(c:Int)<55296 by omega),cond_false,aE (show (57343:Int)<(c:Int) by omega),cond_true,aE (show (c:Int)≤65535 by omega),cond_true,ao (aE (by omega))];have:=or224 ⟨c / 4096,by omega⟩;simp only at this;rw[show c / 2 ^ 12=c / 4096 from rfl,this];simp only[zs,List.map_cons,List.map_nil,FE (224+c / 4096) (by omega),FE (128+c % 64) (by omega),FE (128+c / 64 % 64) (by omega)]
 ·rw[bK (show ¬(c:Int)≤2047 by omega),cond_false];rw[bK (show ¬(c:Int)<55296 by omega),cond_false,aE (show (57343:Int)<(c:Int) by omega),cond_true,bK (show ¬(c:Int)≤65535 by omega),cond_false,
   aE (show (c:Int)>65535 by omega),cond_true,aE (show (c:Int)≤1114111 by omega),cond_true,ao (aE (by omega))]
  have:=or240 ⟨c / 262144,by omega⟩;simp only at this;rw[show c / 2 ^ 18=c / 262144 from rfl,this];simp only[zs,List.map_cons,List.map_nil,FE (240+c / 262144) (by omega),FE (128+c % 64) (by omega),FE (128+c / 64 % 64) (by omega),FE (128+c / 4096 % 64) (by omega)]
theorem wr {R:Type} {c:Nat} (hv:vr c) (s:ae) (hl:WH s) (k:Int→List Int→Option R):∃n:Int,ak (c:Int) (zs s) k=k n (zs (s++enc c)):=by
 refine ⟨IntKind.i64.wrap (((zs (s++enc c)).length:Int) - ((zs s).length:Int)),?_⟩;show iu cH (c:Int) (zs s) k=_;unfold iu;rw[ar hv s hl]
end Go.Proofs.YtidfokedcnhahaaGreatDoor
set_option maxRecDepth 100000
namespace Go.Proofs.YtidfokedcnhahaaGreatDoor
open Go Go.aA Go.Lib
def gi (n:Nat):ae:=List.replicate n 48
theorem o8 (n:Nat):(gi n).length=n:=List.length_replicate
theorem Tw:∀n:Nat,repeatL [48] n=gi n
 | 0=>rfl
 | n+1=>by
  have:=Tw n;simp[repeatL,gi,List.replicate_succ]at this ⊢
  try exact this
theorem repS_zeros (z:Int):lE [48] z=gi z.toNat:=Tw _
def body (L:ae) (e:Int):ae :=
 if 0≤e then L++gi e.toNat
 else
  let t:=gi (max 0 (1 - e - (L.length:Int))).toNat++L
  t.take ((t.length:Int)+e).toNat ++ [46]++t.drop ((t.length:Int)+e).toNat
def ZB (d:fO):ae:=(if d.aq<0 then [45]else [])++body (decDigits d.aq.natAbs) d.exp
theorem wsn {R:Type} (x:ae) (hx:x.length≤100000000000) (k:Int→List Int→Option R):ai x k=k (x.length:Int) (zs x):=by
 show bX (decide ((0+(hJ x).length)*1≤140737488355328)) (k (x.length:Int) (hJ x))=_;rw[CB,ao (aE (by rw[FD]; omega))]
theorem print_ok {R:Type} {d:fO} (h:Fm d) (k:ae→Option R):bR d k=k (ZB d):=by
 have b:=h.bounds;have e:bR d k=qw bQ aj af ai d k:=rfl;rw[e];unfold qw;rw[right_ok h,Bool.not_true,cond_false];have hL:cr (max d.aq (IntKind.i64.wrap (0 - d.aq)))=decDigits d.aq.natAbs:=by
  rw[cv (n:=0 - d.aq) (by omega) (by omega)];have hm:max d.aq (0 - d.aq)=(d.aq.natAbs:Int):=by omega
  rw[hm];exact itoa_nonneg _
 have hlen:(decDigits d.aq.natAbs).length≤16:=by rw[decDigits_length]; exact WG (by omega)
 simp only[hL,repS_zeros];unfold ZB;generalize decDigits d.aq.natAbs=L at *;have w1:IntKind.i64.wrap (1 - d.exp)=1 - d.exp:=cv (by omega) (by omega);have w2:IntKind.i64.wrap (1 - d.exp - (L.length:Int))=1 - d.exp - (L.length:Int):=cv (by omega) (by omega);rw[w1,w2];have one:(([48]:ae).length:Int)=1:=rfl;rw[one];have z0:0≤max 0 (1 - d.exp - (L.length:Int)):=by omega
 have zl:max 0 (1 - d.exp - (L.length:Int))≤10:=by omega
 have zL:1 - d.exp≤max 0 (1 - d.exp - (L.length:Int))+L.length:=by omega
 unfold body;simp only;generalize max 0 (1 - d.exp - (L.length:Int))=z at *;have tl:(gi z.toNat++L).length=z.toNat+L.length:=by rw[List.length_append,o8]
 generalize gi z.toNat++L=t at *;have lapp:∀a b:ae,(a++b).length=a.length+b.length:=fun a b=>List.length_append
 have lone:([46]:ae).length=1:=rfl;have e45:([45]:List Int)=zs [45]:=rfl;have q2:∀(x:Int) (f:List Int→Option R),aj x f=f [x]:=fun _ _=>rfl
 have lim45:WH [45]:=by unfold WH; simp
 by_cases he:0≤d.exp
 ·rw[aE (show d.exp≥0 from he),if_pos he];by_cases hm:d.aq<0
  ·rw[aE hm,if_pos hm];simp only[cond_true];rw[q2,ao (by rw[aE (show 1*d.exp≤140737488355328 by omega)]; rfl),ao (aE (by rw[o8]; omega)),e45,ws _ _ (by rw[lapp,o8]; omega) lim45,vA]
  ·rw[bK hm,if_neg hm];simp only[cond_true,cond_false];rw[ao (by rw[aE (show 1*d.exp≤140737488355328 by omega)]; rfl),ao (aE (by rw[o8]; omega)),wsn _ (by rw[lapp,o8]; omega),vA];rfl
 ·have wt:IntKind.i64.wrap ((t.length:Int)+d.exp)=(t.length:Int)+d.exp:=cv (by omega) (by omega);rw[bK (show ¬d.exp≥0 from he),if_neg he];simp only[wt,List.drop_zero,Nat.sub_zero,Int.toNat_natCast,cond_false];have l1:(t.take ((t.length:Int)+d.exp).toNat).length≤t.length:=by rw[List.length_take]; omega
  have l2:(t.drop ((t.length:Int)+d.exp).toNat).length≤t.length:=by rw[List.length_drop]; omega
  have c1:(decide ((0:Int)≤(t.length:Int)+d.exp)&&decide ((t.length:Int)+d.exp≤(t.length:Int)))=true:=by rw[aE (by omega),aE (by omega)]; rfl
  have c2:(decide ((0:Int)≤(t.length:Int))&&decide ((t.length:Int)≤(t.length:Int)))=true:=by rw[aE (by omega),aE (by omega)]; rfl
  have c3:(decide ((0:Int)≤z)&&decide (1*z≤140737488355328))=true:=by rw[aE z0,aE (by omega)]; rfl
  have et:(t.drop ((t.length:Int)+d.exp).toNat).take (t.length - ((t.length:Int)+d.exp).toNat)=t.drop ((t.length:Int)+d.exp).toNat:=List.take_of_length_le (by rw[List.length_drop]; exact Nat.le_refl _);rw[et];by_cases hm:d.aq<0
  ·rw[aE hm,if_pos hm];simp only[cond_true];rw[q2,ao c3,ao (aE (by rw[o8]; omega)),ao c1,ao (aE (by omega)),ao (aE (by omega)),ao c2,ao c1,ao (aE (by rw[lapp,lone]; omega)),e45,ws _ _ (by rw[lapp,lapp,lone]; omega) lim45,vA]
  ·rw[bK hm,if_neg hm];simp only[cond_false];rw[ao c3,ao (aE (by rw[o8]; omega)),ao c1,ao (aE (by omega)),ao (aE (by omega)),ao c2,ao c1,ao (aE (by rw[lapp,lone]; omega)),wsn _ (by rw[lapp,lapp,lone]; omega),vA];rfl
end Go.Proofs.YtidfokedcnhahaaGreatDoor
end
