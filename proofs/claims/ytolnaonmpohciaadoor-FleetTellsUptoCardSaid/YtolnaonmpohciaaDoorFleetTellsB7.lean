/-
  FleetTells: for every input whose bulk is at most 1048576 the law returns true, and each argument reads behind the call as it read before; part 7 of 9 of the proof: an interpreter of the model's code over typed data, proved sound; the functions that the law reaches, printed as Lean functions and tied; the plain law. Own texts laid one behind the other.
-/
import Derived.Test.YtolnaonmpohciaaDoorFleetTellsB6
set_option linter.unusedSimpArgs false
set_option linter.unnecessarySimpa false
set_option linter.unusedVariables false
set_option linter.unusedSectionVars false
noncomputable section
/-
 Functions of the program as pure Lean functions, and the ties; printed by wip/tools/emit.py.
-/
set_option maxRecDepth 100000
namespace Go.Proofs.YtolnaonmpohciaaDoor
open Go Go.ad
variable {R:Type}

/-! ### humpyard/humpyardlaw11.Fit -/
abbrev vW (R:Type):Type:=Int→(List oD)→(ad.cf→Option R)→Option R
abbrev Ew:List cu := [.leaf (.int .i64), .leaf (.sl .u7)]
abbrev Ey:List aw := []
def H4 (fn:vW R):mY R Ew Ey:=fun x y k=>fn x.1 x.2.1 (fun q0=>k (.agg [.int .i64 q0.nodes, .sl .fk q0.af .no]) [])
def Kd (fn:vW R):=bx Ew Ey (H4 fn)
abbrev uv (R:Type):Type:=Nat→(List oD)→Int→Bool→Int→Int→Int→(List ad.Edge)→ad.Edge→((List oD)→Int→Bool→Int→Int→(List ad.Edge)→ad.Edge→Option R)→Option R
abbrev uw (R:Type):Type:=Nat→(List oD)→Int→Int→Int→(List ad.Edge)→(Int→Int→(List ad.Edge)→Option R)→Option R
def pI:Hint := { live := [1,4,5,6,7,8,9],own := [],rows := [],cells := [],drop := [],out := [1,4,5,6,7,8] }
abbrev jF:Type:=(List oD)×Int×Bool×Int×Int×Int×(List ad.Edge)×ad.Edge
def sM:jF→St:=fun d=>⟨.undef :: .sl .u7 d.1 .no::U 2 (.ptr 0 0 :: .ptr 1 0 :: .int .i64 d.2.1 :: .ptr 2 0 :: .bool d.2.2.1 :: .int .i64 d.2.2.2.1::U 83 ([])), [.cells [.int .i64 d.2.2.2.2.1, .aI], .cells [.int .i64 d.2.2.2.2.2.1, .sl .fk d.2.2.2.2.2.2.1 (.own 3)], .cells [.int .i64 d.2.2.2.2.2.2.2.src, .int .i64 d.2.2.2.2.2.2.2.dst, .int .i64 d.2.2.2.2.2.2.2.cost], .tok]⟩
def ux (K:Ex→St→Option R) (q0:List oD) (q1:Int) (q2:Bool) (q3:Int) (q4:Int) (q5:List ad.Edge) (q6:ad.Edge):Option R:=K (.exit 2) ⟨.undef :: .sl .u7 q0 .no::U 2 (.ptr 0 0 :: .ptr 1 0 :: .int .i64 q1 :: .ptr 2 0 :: .bool q2::U 84 ([])), [.cells [.int .i64 q3, .aI], .cells [.int .i64 q4, .sl .fk q5 (.own 3)], .cells [.int .i64 q6.src, .int .i64 q6.dst, .int .i64 q6.cost], .tok]⟩
abbrev lL:List cu := .leaf (.undef) :: .leaf (.sl .u7)::PU 2 (.leaf (.ptr 0 0) :: .leaf (.ptr 1 0) :: .leaf (.int .i64) :: .leaf (.ptr 2 0) :: .leaf (.bool) :: .leaf (.int .i64)::PU 83 ([]))
abbrev lM:List aw := [.cells [.int .i64, .aI], .cells [.int .i64, .Li .fk 3], .cells [.int .i64, .int .i64, .int .i64], .tok]
def Dm (x:cu.aQ lL) (y:aw.aQ lM):Nat:=(List.length x.2.1+Int.natAbs x.2.2.2.2.2.2.1+Int.natAbs ((t8 x).2.1)+Int.natAbs y.1.1+Int.natAbs y.2.1.1+List.length y.2.1.2.1+ad.Edge.fu (⟨y.2.2.1.1,y.2.2.1.2.1,y.2.2.1.2.2.1⟩:ad.Edge)+64)
def KP (x:cu.aQ lL) (y:aw.aQ lM):jF:=(x.2.1,x.2.2.2.2.2.2.1,(t8 x).1,(t8 x).2.1,y.1.1,y.2.1.1,y.2.1.2.1,(⟨y.2.2.1.1,y.2.2.1.2.1,y.2.2.1.2.2.1⟩:ad.Edge))
def AS (L:uv R):nD R lL lM:=fun x y K=>L (Dm x y) x.2.1 x.2.2.2.2.2.2.1 ((t8 x).1) ((t8 x).2.1) y.1.1 y.2.1.1 y.2.1.2.1 (⟨y.2.2.1.1,y.2.2.1.2.1,y.2.2.1.2.2.1⟩:ad.Edge) (ux K)
def pJ:Hint := { live := [1,4,5,6],own := [],rows := [],cells := [(1,1, .fk,false)],drop := [],out := [4,5] }
abbrev jG:Type:=(List oD)×Int×Int×Int×(List ad.Edge)
def sN:jG→St:=fun d=>⟨.undef :: .sl .u7 d.1 .no::U 2 (.ptr 0 0 :: .ptr 1 0 :: .int .i64 d.2.1::U 86 ([])), [.cells [.int .i64 d.2.2.1, .aI], .cells [.int .i64 d.2.2.2.1, .sl .fk d.2.2.2.2 (.own 2)], .tok]⟩
def uy (K:Ex→St→Option R) (q0:Int) (q1:Int) (q2:List ad.Edge):Option R:=K (.exit 0) ⟨U 4 (.ptr 0 0 :: .ptr 1 0::U 87 ([])), [.cells [.int .i64 q0, .aI], .cells [.int .i64 q1, .sl .fk q2 (.own 2)], .tok]⟩
abbrev lN:List cu := .leaf (.undef) :: .leaf (.sl .u7)::PU 2 (.leaf (.ptr 0 0) :: .leaf (.ptr 1 0) :: .leaf (.int .i64)::PU 86 ([]))
abbrev lO:List aw := [.cells [.int .i64, .aI], .cells [.int .i64, .Li .fk 2], .tok]
def Dn (x:cu.aQ lN) (y:aw.aQ lO):Nat:=(List.length x.2.1+Int.natAbs x.2.2.2.2.2.2.1+Int.natAbs y.1.1+Int.natAbs y.2.1.1+List.length y.2.1.2.1+64)
def KQ (x:cu.aQ lN) (y:aw.aQ lO):jG:=(x.2.1,x.2.2.2.2.2.2.1,y.1.1,y.2.1.1,y.2.1.2.1)
def AT (L:uw R):nD R lN lO:=fun x y K=>L (Dn x y) x.2.1 x.2.2.2.2.2.2.1 y.1.1 y.2.1.1 y.2.1.2.1 (uy K)
section
variable (cn:uK R) (bg:uv R) (bh:uw R)
def jR:List (xm R) := [(23,true,(HU cn aL))]
def pK (bS:(List oD)→Int→Bool→Int→Int→Int→(List ad.Edge)→ad.Edge→Option R) (xY:List oD) (Bj:Int) (MD:Bool) (Fl:Int) (DJ:Int) (Dg:Int) (uc:List ad.Edge) (uf:ad.Edge) (e0:(List oD)→Int→Bool→Int→Int→(List ad.Edge)→ad.Edge→Option R):Option R :=
 bif (decide (Fl<(uc.length:Int)))then (bif MD then (cC (decide ((0:Int)≤Fl)&&decide (Fl<uc.length)) (bif ((uc.getD Fl.toNat (Ty.aC .fk)).src != uf.src)then (bS xY Bj true (IntKind.i64.wrap (Fl+1)) DJ Dg uc uf)else (cC (decide ((0:Int)≤Fl)&&decide (Fl<uc.length)) (bS xY Bj ((uc.getD Fl.toNat (Ty.aC .fk)).dst != uf.dst) (IntKind.i64.wrap (Fl+1)) DJ Dg uc uf))))else (bS xY Bj false (IntKind.i64.wrap (Fl+1)) DJ Dg uc uf))else (e0 xY Bj MD DJ Dg uc uf)
def Dp (K:Ex→St→Option R) (rc:jF→Option R) (d:jF):Option R:=pK (fun z0 z1 z2 z3 z4 z5 z6 z7=>rc (z0,z1,z2,z3,z4,z5,z6,z7)) d.1 d.2.1 d.2.2.1 d.2.2.2.1 d.2.2.2.2.1 d.2.2.2.2.2.1 d.2.2.2.2.2.2.1 d.2.2.2.2.2.2.2 (ux K)
def pL (bS:(List oD)→Int→Int→Int→(List ad.Edge)→Option R) (x4:List oD) (x5:Int) (x6:Int) (x7:Int) (x8:List ad.Edge) (e0:Int→Int→(List ad.Edge)→Option R):Option R :=
 bif (decide (x5<(x4.length:Int)))then (bif (decide ((x8.length:Int)<(24:Int)))then (cC (decide ((0:Int)≤x5)&&decide (x5<x4.length)) (cn ((x4.getD x5.toNat (Ty.aC .u7)).a) x7 (fun vD=>cC (decide ((0:Int)≤x5)&&decide (x5<x4.length)) (cn ((x4.getD x5.toNat (Ty.aC .u7)).b) x7 (fun uJ=>cC (decide ((0:Int)≤x5)&&decide (x5<x4.length)) (cn ((x4.getD x5.toNat (Ty.aC .u7)).c) 9 (fun pH=>bg (List.length x4+Int.natAbs x5+Int.natAbs 0+Int.natAbs x6+Int.natAbs x7+List.length x8+ad.Edge.fu (⟨vD,uJ,(IntKind.i64.wrap (1+pH))⟩:ad.Edge)+64) x4 x5 (vD != uJ) 0 x6 x7 x8 (⟨vD,uJ,(IntKind.i64.wrap (1+pH))⟩:ad.Edge) (fun J9 Ka Rs Jg Nw Fp Qn=>bif Rs then (cC (decide ((Fp.length+1)*24≤140737488355328)) (bS J9 (IntKind.i64.wrap (Ka+1)) Jg Nw (Fp++([Qn]:List ad.Edge))))else (bS J9 (IntKind.i64.wrap (Ka+1)) Jg Nw Fp)))))))))else (e0 x6 x7 x8))else (e0 x6 x7 x8)
def Dq (K:Ex→St→Option R) (rc:jG→Option R) (d:jG):Option R:=pL cn bg (fun z0 z1 z2 z3 z4=>rc (z0,z1,z2,z3,z4)) d.1 d.2.1 d.2.2.1 d.2.2.2.1 d.2.2.2.2 (uy K)
def lb:Nat→Option (Hint×bO R):=fun i=>match i with
 | 3=>some (pJ,(bF lN lO (AT bh) dZ))
 | 8=>some (pI,(bF lL lM (AS bg) dZ))
 | _=>none
theorem GZ (K:Ex→St→Option R) (rc:St→Option R) (d:jF):roundOf tt (bQ (jR cn)) (lb bg bh) 0 ((ah (ar Tryd.f6)).getD 1 .skip) pI (sM d) rc K=Dp K (fun d=>rc (sM d)) d:=by kernel_rfl
theorem G0 (K:Ex→St→Option R) (rc:St→Option R) (d:jG):roundOf tt (bQ (jR cn)) (lb bg bh) 0 ((ah (ar Tryd.f6)).getD 0 .skip) pJ (sN d) rc K=Dq cn bg K (fun d=>rc (sN d)) d:=by kernel_rfl
def Ke (x1:Int) (x2:List oD) (k0:ad.cf→Option R):Option R :=
 cn x1 8 (fun y3=>bh (List.length x2+Int.natAbs 0+Int.natAbs 0+Int.natAbs (IntKind.i64.wrap (1+y3))+List.length ([]:List ad.Edge)+64) x2 0 0 (IntKind.i64.wrap (1+y3)) ([]:List ad.Edge) (fun y29 Wm Yf=>k0 (⟨Wm,Yf⟩:ad.cf)))
theorem P4:dT (R:=R) tt (jR cn) (lb bg bh) false Tryd.f6 Ew Ey (H4 (Ke cn bh)):=fun x y k=>by kernel_rfl
end
theorem N5:dG (R:=R) Tryd.prog (jR (R:=R) cn) := .c (KK R) <| .n
def bg:uv R
 | 0,_,_,_,_,_,_,_,_,_=>none
 | n+1,eE,eF,eR,jZ,ug,vi,yY,yZ,e0=>pK (fun eE eF eR jZ ug vi yY yZ=>bg n eE eF eR jZ ug vi yY yZ e0) eE eF eR jZ ug vi yY yZ e0
def Dr (K:Ex→St→Option R) (n:Nat) (d:jF):Option R:=bg n d.1 d.2.1 d.2.2.1 d.2.2.2.1 d.2.2.2.2.1 d.2.2.2.2.2.1 d.2.2.2.2.2.2.1 d.2.2.2.2.2.2.2 (ux K)
def bh:uw R
 | 0,_,_,_,_,_,_=>none
 | n+1,eE,eF,eR,jZ,ug,e0=>pL cn bg (fun eE eF eR jZ ug=>bh n eE eF eR jZ ug e0) eE eF eR jZ ug e0
def Ds (K:Ex→St→Option R) (n:Nat) (d:jG):Option R:=bh n d.1 d.2.1 d.2.2.1 d.2.2.2.1 d.2.2.2.2 (uy K)
theorem Jz (other:bO R) (ho:dK tt (bQ (jR (R:=R) cn)) (lb (R:=R) bg bh) 0 ((ah (ar Tryd.f6)).getD 1 .skip) pI other):dK tt (bQ (jR (R:=R) cn)) (lb (R:=R) bg bh) 0 ((ah (ar Tryd.f6)).getD 1 .skip) pI (bF lL lM (AS (bg)) other) :=
 bM (A:=Dr) ho (cI sM (Dp) (Dr) (fun _ _=>by kernel_rfl) (GZ cn bg bh) (fun _ _ _=>by kernel_rfl)) Dm KP (fun _ _=>by kernel_rfl) (fun _ _ _=>by kernel_rfl)
theorem JA (other:bO R) (ho:dK tt (bQ (jR (R:=R) cn)) (lb (R:=R) bg bh) 0 ((ah (ar Tryd.f6)).getD 0 .skip) pJ other):dK tt (bQ (jR (R:=R) cn)) (lb (R:=R) bg bh) 0 ((ah (ar Tryd.f6)).getD 0 .skip) pJ (bF lN lO (AT (bh)) other) :=
 bM (A:=Ds) ho (cI sN (Dq cn bg) (Ds) (fun _ _=>by kernel_rfl) (G0 cn bg bh) (fun _ _ _=>by kernel_rfl)) Dn KQ (fun _ _=>by kernel_rfl) (fun _ _ _=>by kernel_rfl)
def db:vW R:=fun x1 x2 k0=>Ke cn bh x1 x2 k0
theorem KR (R:Type):∀a∈ah (ar Tryd.f6),dY tt (bQ (jR (R:=R) cn)) (lb (R:=R) bg bh) 0 a:=by
 refine dx 2 (by kernel_rfl) fun i hi => ?_
 match i,hi with
 | 0,_=>exact bw (by kernel_rfl) (JA _ cj)
 | 1,_=>exact bw (by kernel_rfl) (Jz _ cj)
 | n+2,hi=>omega
theorem M4 (R:Type):mW Tryd.prog 6 (Kd (db (R:=R))):=bL TT mixed (N5 (R:=R)) rfl rfl rfl rfl (KR R) (P4 cn bg bh)

/-! ### humpyard/humpyardlaw13.pick -/
abbrev pC (R:Type):Type:=Int→Int→(Int→Option R)→Option R
abbrev CE:List cu := [.leaf (.int .i64), .leaf (.int .i64)]
abbrev CF:List aw := []
def Gf (fn:pC R):mY R CE CF:=fun x y k=>fn x.1 x.2.1 (fun q0=>k (.int .i64 q0) [])
def CG (fn:pC R):=bx CE CF (Gf fn)
section
def H5 (x1:Int) (x2:Int) (k0:Int→Option R):Option R :=
 bif (decide (x1<(0:Int)))then (cC (!decide (x2=0)) (k0 (Int.tmod (IntKind.i64.wrap (0 - (IntKind.i64.wrap (x1+1)))) x2)))else (cC (!decide (x2=0)) (k0 (Int.tmod x1 x2)))
theorem N6:dT (R:=R) tt [] xo false Tryd.f47 CE CF (Gf H5):=fun x y k=>by kernel_rfl
end
def aK:pC R:=fun x1 x2 k0=>H5 x1 x2 k0
theorem Dt (R:Type):mW Tryd.prog 47 (CG (aK (R:=R))):=bL TT mixed .n rfl rfl rfl rfl de (N6)

/-! ### humpyard/humpyardlaw13.Path -/
abbrev uO (R:Type):Type:=ad.cf→Int→(List Int)→Int→((List Int)→Option R)→Option R
abbrev CH:List cu := [.agg [.int .i64, .sl .fk], .leaf (.int .i64), .leaf (.sl (.int .i64)), .leaf (.int .i64)]
abbrev CI:List aw := []
def Gg (fn:uO R):mY R CH CI:=fun x y k=>fn (⟨x.1.1,x.1.2.1⟩:ad.cf) x.2.1 x.2.2.1 x.2.2.2.1 (fun q0=>k (.sl (.int .i64) q0 .no) [])
def H6 (fn:uO R):=bx CH CI (Gg fn)
abbrev sO (R:Type):Type:=Nat→(List Int)→Int→Int→(List Int)→Int→(List Int)→Int→ad.cf→((List Int)→Int→(List Int)→Int→(List Int)→ad.cf→Option R)→Option R
abbrev sP (R:Type):Type:=Nat→(List Int)→Int→Int→(List Int)→Int→ad.cf→((List Int)→Option R)→Option R
def nW:Hint := { live := [2,3,4,9,10,11,12,13],own := [(12,(.int .i64))],rows := [],cells := [],drop := [],out := [2,3,4,8,10,11,12] }
abbrev iG:Type:=(List Int)×Int×Int×(List Int)×Int×(List Int)×Int×ad.cf
def qk:iG→St:=fun d=>⟨U 2 (.sl (.int .i64) d.1 .no :: .int .i64 d.2.1 :: .ptr 0 0::U 4 (.int .i64 d.2.2.1 :: .sl (.int .i64) d.2.2.2.1 (.own 1) :: .int .i64 d.2.2.2.2.1 :: .sl (.int .i64) d.2.2.2.2.2.1 (.own 2) :: .int .i64 d.2.2.2.2.2.2.1::U 63 ([]))), [.cells [.int .i64 d.2.2.2.2.2.2.2.nodes, .sl .fk d.2.2.2.2.2.2.2.af .no], .tok, .tok]⟩
def sQ (K:Ex→St→Option R) (q0:List Int) (q1:Int) (q2:List Int) (q3:Int) (q4:List Int) (q5:ad.cf):Option R:=K (.exit 2) ⟨U 2 (.sl (.int .i64) q0 .no :: .int .i64 q1 :: .ptr 0 0::U 5 (.sl (.int .i64) q2 (.own 1) :: .int .i64 q3 :: .sl (.int .i64) q4 (.own 2)::U 64 ([]))), [.cells [.int .i64 q5.nodes, .sl .fk q5.af .no], .tok, .tok]⟩
abbrev kP:List cu:=PU 2 (.leaf (.sl (.int .i64)) :: .leaf (.int .i64) :: .leaf (.ptr 0 0)::PU 4 (.leaf (.int .i64) :: .leaf (.Li (.int .i64) 1) :: .leaf (.int .i64) :: .leaf (.Li (.int .i64) 2) :: .leaf (.int .i64)::PU 63 ([])))
abbrev kQ:List aw := [.cells [.int .i64, .sl .fk], .tok, .tok]
def AU (x:cu.aQ kP) (y:aw.aQ kQ):Nat:=(List.length x.2.2.1+Int.natAbs x.2.2.2.1+Int.natAbs ((t8 x).2.1)+List.length ((t8 x).2.2.1)+Int.natAbs ((t8 x).2.2.2.1)+List.length ((t8 x).2.2.2.2.1)+Int.natAbs ((t8 x).2.2.2.2.2.1)+ad.cf.fu (⟨y.1.1,y.1.2.1⟩:ad.cf)+64)
def JB (x:cu.aQ kP) (y:aw.aQ kQ):iG:=(x.2.2.1,x.2.2.2.1,(t8 x).2.1,(t8 x).2.2.1,(t8 x).2.2.2.1,(t8 x).2.2.2.2.1,(t8 x).2.2.2.2.2.1,(⟨y.1.1,y.1.2.1⟩:ad.cf))
def yh (L:sO R):nD R kP kQ:=fun x y K=>L (AU x y) x.2.2.1 x.2.2.2.1 ((t8 x).2.1) ((t8 x).2.2.1) ((t8 x).2.2.2.1) ((t8 x).2.2.2.2.1) ((t8 x).2.2.2.2.2.1) (⟨y.1.1,y.1.2.1⟩:ad.cf) (sQ K)
def nX:Hint := { live := [2,3,4,9,10,11],own := [],rows := [],cells := [],drop := [],out := [8,10] }
abbrev iH:Type:=(List Int)×Int×Int×(List Int)×Int×ad.cf
def ql:iH→St:=fun d=>⟨U 2 (.sl (.int .i64) d.1 .no :: .int .i64 d.2.1 :: .ptr 0 0::U 4 (.int .i64 d.2.2.1 :: .sl (.int .i64) d.2.2.2.1 (.own 1) :: .int .i64 d.2.2.2.2.1::U 65 ([]))), [.cells [.int .i64 d.2.2.2.2.2.nodes, .sl .fk d.2.2.2.2.2.af .no], .tok]⟩
def sR (K:Ex→St→Option R) (q0:List Int):Option R:=K (.exit 0) ⟨U 10 (.sl (.int .i64) q0 (.own 0)::U 66 ([])), [.tok]⟩
abbrev kR:List cu:=PU 2 (.leaf (.sl (.int .i64)) :: .leaf (.int .i64) :: .leaf (.ptr 0 0)::PU 4 (.leaf (.int .i64) :: .leaf (.Li (.int .i64) 1) :: .leaf (.int .i64)::PU 65 ([])))
abbrev kS:List aw := [.cells [.int .i64, .sl .fk], .tok]
def AV (x:cu.aQ kR) (y:aw.aQ kS):Nat:=(List.length x.2.2.1+Int.natAbs x.2.2.2.1+Int.natAbs ((t8 x).2.1)+List.length ((t8 x).2.2.1)+Int.natAbs ((t8 x).2.2.2.1)+ad.cf.fu (⟨y.1.1,y.1.2.1⟩:ad.cf)+64)
def JC (x:cu.aQ kR) (y:aw.aQ kS):iH:=(x.2.2.1,x.2.2.2.1,(t8 x).2.1,(t8 x).2.2.1,(t8 x).2.2.2.1,(⟨y.1.1,y.1.2.1⟩:ad.cf))
def yi (L:sP R):nD R kR kS:=fun x y K=>L (AV x y) x.2.2.1 x.2.2.2.1 ((t8 x).2.1) ((t8 x).2.2.1) ((t8 x).2.2.2.1) (⟨y.1.1,y.1.2.1⟩:ad.cf) (sR K)
section
variable (aK:pC R) (aY:sO R) (bc:sP R)
def ia:List (xm R) := [(47,true,(CG aK aL))]
def nY (bS:(List Int)→Int→Int→(List Int)→Int→(List Int)→Int→ad.cf→Option R) (xY:List Int) (Bj:Int) (MD:Int) (Fl:List Int) (DJ:Int) (Dg:List Int) (uc:Int) (uf:ad.cf) (e0:(List Int)→Int→(List Int)→Int→(List Int)→ad.cf→Option R):Option R :=
 bif (decide (uc<(uf.af.length:Int)))then (cC (decide ((0:Int)≤uc)&&decide (uc<uf.af.length)) (bif ((uf.af.getD uc.toNat (Ty.aC .fk)).src==MD)then (cC (decide ((Dg.length+1)*8≤140737488355328)) (bS xY Bj MD Fl DJ ((Dg:List Int)++(([uc]:List Int):List Int)) (IntKind.i64.wrap (uc+1)) uf))else (bS xY Bj MD Fl DJ Dg (IntKind.i64.wrap (uc+1)) uf)))else (e0 xY Bj Fl DJ Dg uf)
def AW (K:Ex→St→Option R) (rc:iG→Option R) (d:iG):Option R:=nY (fun z0 z1 z2 z3 z4 z5 z6 z7=>rc (z0,z1,z2,z3,z4,z5,z6,z7)) d.1 d.2.1 d.2.2.1 d.2.2.2.1 d.2.2.2.2.1 d.2.2.2.2.2.1 d.2.2.2.2.2.2.1 d.2.2.2.2.2.2.2 (sQ K)
def nZ (bS:(List Int)→Int→Int→(List Int)→Int→ad.cf→Option R) (x6:List Int) (x7:Int) (x8:Int) (x9:List Int) (Fk:Int) (Jf:ad.cf) (e0:(List Int)→Option R):Option R :=
 bif (decide (Fk<(x6.length:Int)))then (bif (decide (Fk<x7))then (aY (List.length x6+Int.natAbs x7+Int.natAbs x8+List.length x9+Int.natAbs Fk+List.length ([]:List Int)+Int.natAbs 0+ad.cf.fu Jf+64) x6 x7 x8 x9 Fk ([]:List Int) 0 Jf (fun Lm J9 Ka Rs Jg Nw=>bif ((Jg.length:Int)==0)then (e0 Ka)else (cC (decide ((0:Int)≤Rs)&&decide (Rs<Lm.length)) (aK (Lm.getD Rs.toNat (Ty.aC (.int .i64))) (Jg.length:Int) (fun Fp=>cC (decide ((0:Int)≤Fp)&&decide (Fp<Jg.length)) (cC (decide ((0:Int)≤(Jg.getD Fp.toNat (Ty.aC (.int .i64))))&&decide ((Jg.getD Fp.toNat (Ty.aC (.int .i64)))<Nw.af.length)) (cC (decide ((Ka.length+2)*8≤140737488355328)) (bS Lm J9 ((Nw.af.getD (Jg.getD Fp.toNat (Ty.aC (.int .i64))).toNat (Ty.aC .fk)).dst) ((Ka:List Int)++(([(IntKind.i64.wrap (1000+(Jg.getD Fp.toNat (Ty.aC (.int .i64))))),(Nw.af.getD (Jg.getD Fp.toNat (Ty.aC (.int .i64))).toNat (Ty.aC .fk)).dst]:List Int):List Int)) (IntKind.i64.wrap (Rs+1)) Nw))))))))else (e0 x9))else (e0 x9)
def AX (K:Ex→St→Option R) (rc:iH→Option R) (d:iH):Option R:=nZ aK aY (fun z0 z1 z2 z3 z4 z5=>rc (z0,z1,z2,z3,z4,z5)) d.1 d.2.1 d.2.2.1 d.2.2.2.1 d.2.2.2.2.1 d.2.2.2.2.2 (sR K)
def jS:Nat→Option (Hint×bO R):=fun i=>match i with
 | 4=>some (nX,(bF kR kS (yi bc) dZ))
 | 8=>some (nW,(bF kP kQ (yh aY) dZ))
 | _=>none
theorem Fy (K:Ex→St→Option R) (rc:St→Option R) (d:iG):roundOf tt (bQ (ia aK)) (jS aY bc) 0 ((ah (ar Tryd.f46)).getD 1 .skip) nW (qk d) rc K=AW K (fun d=>rc (qk d)) d:=by kernel_rfl
theorem Fz (K:Ex→St→Option R) (rc:St→Option R) (d:iH):roundOf tt (bQ (ia aK)) (jS aY bc) 0 ((ah (ar Tryd.f46)).getD 0 .skip) nX (ql d) rc K=AX aK aY K (fun d=>rc (ql d)) d:=by kernel_rfl
def H7 (x1:ad.cf) (x2:Int) (x3:List Int) (x4:Int) (k0:(List Int)→Option R):Option R :=
 aK x2 x1.nodes (fun y5=>bc (List.length x3+Int.natAbs x4+Int.natAbs y5+List.length ([y5]:List Int)+Int.natAbs 0+ad.cf.fu x1+64) x3 x4 y5 ([y5]:List Int) 0 x1 (fun Qn=>k0 Qn))
theorem N7:dT (R:=R) tt (ia aK) (jS aY bc) false Tryd.f46 CH CI (Gg (H7 aK bc)):=fun x y k=>by kernel_rfl
end
theorem M5:dG (R:=R) Tryd.prog (ia (R:=R) aK) := .c (Dt R) <| .n
def aY:sO R
 | 0,_,_,_,_,_,_,_,_,_=>none
 | n+1,eE,eF,eR,jZ,ug,vi,yY,yZ,e0=>nY (fun eE eF eR jZ ug vi yY yZ=>aY n eE eF eR jZ ug vi yY yZ e0) eE eF eR jZ ug vi yY yZ e0
def AY (K:Ex→St→Option R) (n:Nat) (d:iG):Option R:=aY n d.1 d.2.1 d.2.2.1 d.2.2.2.1 d.2.2.2.2.1 d.2.2.2.2.2.1 d.2.2.2.2.2.2.1 d.2.2.2.2.2.2.2 (sQ K)
def bc:sP R
 | 0,_,_,_,_,_,_,_=>none
 | n+1,eE,eF,eR,jZ,ug,vi,e0=>nZ aK aY (fun eE eF eR jZ ug vi=>bc n eE eF eR jZ ug vi e0) eE eF eR jZ ug vi e0
def AZ (K:Ex→St→Option R) (n:Nat) (d:iH):Option R:=bc n d.1 d.2.1 d.2.2.1 d.2.2.2.1 d.2.2.2.2.1 d.2.2.2.2.2 (sR K)
theorem H8 (other:bO R) (ho:dK tt (bQ (ia (R:=R) aK)) (jS (R:=R) aY bc) 0 ((ah (ar Tryd.f46)).getD 1 .skip) nW other):dK tt (bQ (ia (R:=R) aK)) (jS (R:=R) aY bc) 0 ((ah (ar Tryd.f46)).getD 1 .skip) nW (bF kP kQ (yh (aY)) other) :=
 bM (A:=AY) ho (cI qk (AW) (AY) (fun _ _=>by kernel_rfl) (Fy aK aY bc) (fun _ _ _=>by kernel_rfl)) AU JB (fun _ _=>by kernel_rfl) (fun _ _ _=>by kernel_rfl)
theorem H9 (other:bO R) (ho:dK tt (bQ (ia (R:=R) aK)) (jS (R:=R) aY bc) 0 ((ah (ar Tryd.f46)).getD 0 .skip) nX other):dK tt (bQ (ia (R:=R) aK)) (jS (R:=R) aY bc) 0 ((ah (ar Tryd.f46)).getD 0 .skip) nX (bF kR kS (yi (bc)) other) :=
 bM (A:=AZ) ho (cI ql (AX aK aY) (AZ) (fun _ _=>by kernel_rfl) (Fz aK aY bc) (fun _ _ _=>by kernel_rfl)) AV JC (fun _ _=>by kernel_rfl) (fun _ _ _=>by kernel_rfl)
def gR:uO R:=fun x1 x2 x3 x4 k0=>H7 aK bc x1 x2 x3 x4 k0
theorem JD (R:Type):∀a∈ah (ar Tryd.f46),dY tt (bQ (ia (R:=R) aK)) (jS (R:=R) aY bc) 0 a:=by
 refine dx 2 (by kernel_rfl) fun i hi => ?_
 match i,hi with
 | 0,_=>exact bw (by kernel_rfl) (H9 _ cj)
 | 1,_=>exact bw (by kernel_rfl) (H8 _ cj)
 | n+2,hi=>omega
theorem KS (R:Type):mW Tryd.prog 46 (H6 (gR (R:=R))):=bL TT mixed (M5 (R:=R)) rfl rfl rfl rfl (JD R) (N7 aK aY bc)

/-! ### humpyard/humpyardref07.Name -/
abbrev pD (R:Type):Type:=aA→(Bool→Option R)→Option R
abbrev CJ:List cu := [.leaf (.str)]
abbrev CK:List aw := []
def Gh (fn:pD R):mY R CJ CK:=fun x y k=>fn x.1 (fun q0=>k (.bool q0) [])
def CL (fn:pD R):=bx CJ CK (Gh fn)
abbrev sS (R:Type):Type:=Nat→aA→Int→(aA→Option R)→(aA→Bool→Option R)→Option R
def n5:Hint := { live := [0,3],own := [],rows := [],cells := [],drop := [],out := [0,2] }
abbrev iI:Type:=aA×Int
def qm:iI→St:=fun d=>⟨.str d.1::U 2 (.int .i64 d.2::U 57 ([])), []⟩
def sT (K:Ex→St→Option R) (q0:aA):Option R:=K (.exit 0) ⟨.str q0::U 60 ([]), []⟩
def sU (K:Ex→St→Option R) (q0:aA) (q1:Bool):Option R:=K (.ret) ⟨.str q0 :: .undef :: .bool q1::U 58 ([]), []⟩
abbrev kT:List cu := .leaf (.str)::PU 2 (.leaf (.int .i64)::PU 57 ([]))
abbrev kU:List aw := []
def A0 (x:cu.aQ kT) (y:aw.aQ kU):Nat:=(List.length x.1+Int.natAbs x.2.2.2.1+64)
def JE (x:cu.aQ kT) (y:aw.aQ kU):iI:=(x.1,x.2.2.2.1)
def yj (L:sS R):nD R kT kU:=fun x y K=>L (A0 x y) x.1 x.2.2.2.1 (sT K) (sU K)
section
variable (bZ:sS R)
def n7 (bS:aA→Int→Option R) (x2:aA) (x3:Int) (e0:aA→Option R) (e1:aA→Bool→Option R):Option R :=
 bif (decide (x3<(x2.length:Int)))then (cC (decide ((0:Int)≤x3)&&decide (x3<x2.length)) (bif (decide (((x2.getD x3.toNat 0).toNat:Int)≥(97:Int)))then (bif (decide (((x2.getD x3.toNat 0).toNat:Int)≤(122:Int)))then (bS x2 (IntKind.i64.wrap (x3+1)))else (bif (decide (((x2.getD x3.toNat 0).toNat:Int)≥(65:Int)))then (bif (decide (((x2.getD x3.toNat 0).toNat:Int)≤(90:Int)))then (bS x2 (IntKind.i64.wrap (x3+1)))else (bif (decide (((x2.getD x3.toNat 0).toNat:Int)≥(48:Int)))then (bif (decide (((x2.getD x3.toNat 0).toNat:Int)≤(57:Int)))then (bS x2 (IntKind.i64.wrap (x3+1)))else (bif (((x2.getD x3.toNat 0).toNat:Int)==95)then (bS x2 (IntKind.i64.wrap (x3+1)))else (bif (((x2.getD x3.toNat 0).toNat:Int)==46)then (bS x2 (IntKind.i64.wrap (x3+1)))else (bif (((x2.getD x3.toNat 0).toNat:Int)==58)then (bS x2 (IntKind.i64.wrap (x3+1)))else (bif (!(((x2.getD x3.toNat 0).toNat:Int)==45))then (e1 x2 false)else (bS x2 (IntKind.i64.wrap (x3+1))))))))else (bif (((x2.getD x3.toNat 0).toNat:Int)==95)then (bS x2 (IntKind.i64.wrap (x3+1)))else (bif (((x2.getD x3.toNat 0).toNat:Int)==46)then (bS x2 (IntKind.i64.wrap (x3+1)))else (bif (((x2.getD x3.toNat 0).toNat:Int)==58)then (bS x2 (IntKind.i64.wrap (x3+1)))else (bif (!(((x2.getD x3.toNat 0).toNat:Int)==45))then (e1 x2 false)else (bS x2 (IntKind.i64.wrap (x3+1)))))))))else (bif (decide (((x2.getD x3.toNat 0).toNat:Int)≥(48:Int)))then (bif (decide (((x2.getD x3.toNat 0).toNat:Int)≤(57:Int)))then (bS x2 (IntKind.i64.wrap (x3+1)))else (bif (((x2.getD x3.toNat 0).toNat:Int)==95)then (bS x2 (IntKind.i64.wrap (x3+1)))else (bif (((x2.getD x3.toNat 0).toNat:Int)==46)then (bS x2 (IntKind.i64.wrap (x3+1)))else (bif (((x2.getD x3.toNat 0).toNat:Int)==58)then (bS x2 (IntKind.i64.wrap (x3+1)))else (bif (!(((x2.getD x3.toNat 0).toNat:Int)==45))then (e1 x2 false)else (bS x2 (IntKind.i64.wrap (x3+1))))))))else (bif (((x2.getD x3.toNat 0).toNat:Int)==95)then (bS x2 (IntKind.i64.wrap (x3+1)))else (bif (((x2.getD x3.toNat 0).toNat:Int)==46)then (bS x2 (IntKind.i64.wrap (x3+1)))else (bif (((x2.getD x3.toNat 0).toNat:Int)==58)then (bS x2 (IntKind.i64.wrap (x3+1)))else (bif (!(((x2.getD x3.toNat 0).toNat:Int)==45))then (e1 x2 false)else (bS x2 (IntKind.i64.wrap (x3+1))))))))))else (bif (decide (((x2.getD x3.toNat 0).toNat:Int)≥(65:Int)))then (bif (decide (((x2.getD x3.toNat 0).toNat:Int)≤(90:Int)))then (bS x2 (IntKind.i64.wrap (x3+1)))else (bif (decide (((x2.getD x3.toNat 0).toNat:Int)≥(48:Int)))then (bif (decide (((x2.getD x3.toNat 0).toNat:Int)≤(57:Int)))then (bS x2 (IntKind.i64.wrap (x3+1)))else (bif (((x2.getD x3.toNat 0).toNat:Int)==95)then (bS x2 (IntKind.i64.wrap (x3+1)))else (bif (((x2.getD x3.toNat 0).toNat:Int)==46)then (bS x2 (IntKind.i64.wrap (x3+1)))else (bif (((x2.getD x3.toNat 0).toNat:Int)==58)then (bS x2 (IntKind.i64.wrap (x3+1)))else (bif (!(((x2.getD x3.toNat 0).toNat:Int)==45))then (e1 x2 false)else (bS x2 (IntKind.i64.wrap (x3+1))))))))else (bif (((x2.getD x3.toNat 0).toNat:Int)==95)then (bS x2 (IntKind.i64.wrap (x3+1)))else (bif (((x2.getD x3.toNat 0).toNat:Int)==46)then (bS x2 (IntKind.i64.wrap (x3+1)))else (bif (((x2.getD x3.toNat 0).toNat:Int)==58)then (bS x2 (IntKind.i64.wrap (x3+1)))else (bif (!(((x2.getD x3.toNat 0).toNat:Int)==45))then (e1 x2 false)else (bS x2 (IntKind.i64.wrap (x3+1)))))))))else (bif (decide (((x2.getD x3.toNat 0).toNat:Int)≥(48:Int)))then (bif (decide (((x2.getD x3.toNat 0).toNat:Int)≤(57:Int)))then (bS x2 (IntKind.i64.wrap (x3+1)))else (bif (((x2.getD x3.toNat 0).toNat:Int)==95)then (bS x2 (IntKind.i64.wrap (x3+1)))else (bif (((x2.getD x3.toNat 0).toNat:Int)==46)then (bS x2 (IntKind.i64.wrap (x3+1)))else (bif (((x2.getD x3.toNat 0).toNat:Int)==58)then (bS x2 (IntKind.i64.wrap (x3+1)))else (bif (!(((x2.getD x3.toNat 0).toNat:Int)==45))then (e1 x2 false)else (bS x2 (IntKind.i64.wrap (x3+1))))))))else (bif (((x2.getD x3.toNat 0).toNat:Int)==95)then (bS x2 (IntKind.i64.wrap (x3+1)))else (bif (((x2.getD x3.toNat 0).toNat:Int)==46)then (bS x2 (IntKind.i64.wrap (x3+1)))else (bif (((x2.getD x3.toNat 0).toNat:Int)==58)then (bS x2 (IntKind.i64.wrap (x3+1)))else (bif (!(((x2.getD x3.toNat 0).toNat:Int)==45))then (e1 x2 false)else (bS x2 (IntKind.i64.wrap (x3+1)))))))))))else (e0 x2)
def A1 (K:Ex→St→Option R) (rc:iI→Option R) (d:iI):Option R:=n7 (fun z0 z1=>rc (z0,z1)) d.1 d.2 (sT K) (sU K)
def sV:Nat→Option (Hint×bO R):=fun i=>match i with
 | 2=>some (n5,(bF kT kU (yj bZ) dZ))
 | _=>none
theorem FA (K:Ex→St→Option R) (rc:St→Option R) (d:iI):roundOf tt (bQ []) (sV bZ) 0 ((ah (ar Tryd.f60)).getD 0 .skip) n5 (qm d) rc K=A1 K (fun d=>rc (qm d)) d:=by kernel_rfl
def CM (x1:aA) (k0:Bool→Option R):Option R :=
 bZ (List.length x1+Int.natAbs 0+64) x1 0 (fun y5=>bif (decide ((y5.length:Int)≥(1:Int)))then (k0 (decide ((y5.length:Int)≤(16:Int))))else (k0 false)) (fun y6 y7=>k0 y7)
theorem N8:dT (R:=R) tt [] (sV bZ) false Tryd.f60 CJ CK (Gh (CM bZ)):=fun x y k=>by kernel_rfl
end
def bZ:sS R
 | 0,_,_,_,_=>none
 | n+1,eE,eF,e0,e1=>n7 (fun eE eF=>bZ n eE eF e0 e1) eE eF e0 e1
def A2 (K:Ex→St→Option R) (n:Nat) (d:iI):Option R:=bZ n d.1 d.2 (sT K) (sU K)
theorem Ia (other:bO R) (ho:dK tt (bQ []) (sV (R:=R) bZ) 0 ((ah (ar Tryd.f60)).getD 0 .skip) n5 other):dK tt (bQ []) (sV (R:=R) bZ) 0 ((ah (ar Tryd.f60)).getD 0 .skip) n5 (bF kT kU (yj (bZ)) other) :=
 bM (A:=A2) ho (cI qm (A1) (A2) (fun _ _=>by kernel_rfl) (FA bZ) (fun _ _ _=>by kernel_rfl)) A0 JE (fun _ _=>by kernel_rfl) (fun _ _ _=>by kernel_rfl)
def cp:pD R:=fun x1 k0=>CM bZ x1 k0
theorem JF (R:Type):∀a∈ah (ar Tryd.f60),dY tt (bQ []) (sV (R:=R) bZ) 0 a:=by
 refine dx 1 (by kernel_rfl) fun i hi => ?_
 match i,hi with
 | 0,_=>exact bw (by kernel_rfl) (Ia _ cj)
 | n+1,hi=>omega
theorem Du (R:Type):mW Tryd.prog 60 (CL (cp (R:=R))):=bL TT mixed .n rfl rfl rfl rfl (JF R) (N8 bZ)

/-! ### humpyard/humpyardref08.num -/
abbrev vX (R:Type):Type:=Int→(Bool→Option R)→Option R
abbrev Ez:List cu := [.leaf (.int .i64)]
abbrev EA:List aw := []
def Ib (fn:vX R):mY R Ez EA:=fun x y k=>fn x.1 (fun q0=>k (.bool q0) [])
def Kf (fn:vX R):=bx Ez EA (Ib fn)
section
def EB (x1:Int) (k0:Bool→Option R):Option R :=
 bif (decide (x1≥(0:Int)))then (k0 (decide (x1≤(1000000000:Int))))else (k0 false)
theorem P5:dT (R:=R) tt [] xo false Tryd.f63 Ez EA (Ib EB):=fun x y k=>by kernel_rfl
end
def cb:vX R:=fun x1 k0=>EB x1 k0
theorem M6 (R:Type):mW Tryd.prog 63 (Kf (cb (R:=R))):=bL TT mixed .n rfl rfl rfl rfl de (P5)

end Go.Proofs.YtolnaonmpohciaaDoor

/-
 Functions of the program as pure Lean functions, and the ties; printed by wip/tools/emit.py.
-/
set_option maxRecDepth 100000
namespace Go.Proofs.YtolnaonmpohciaaDoor
open Go Go.ad
variable {R:Type}

/-! ### humpyard/humpyardref08.Right -/
abbrev sW (R:Type):Type:=Order→(Bool→Option R)→Option R
abbrev zy:List cu := [.agg [.int .i64, .str, .int .i64, .int .i64, .sl .stop, .sl .dt]]
abbrev zz:List aw := []
def EC (fn:sW R):mY R zy zz:=fun x y k=>fn (⟨x.1.1,x.1.2.1,x.1.2.2.1,x.1.2.2.2.1,x.1.2.2.2.2.1,x.1.2.2.2.2.2.1⟩:Order) (fun q0=>k (.bool q0) [])
def Gi (fn:sW R):=bx zy zz (EC fn)
abbrev qn (R:Type):Type:=Nat→Int→Int→Order→(Int→Order→Option R)→(Bool→Int→Order→Option R)→Option R
abbrev oU (R:Type):Type:=Nat→Int→Int→Order→(Option R)→(Bool→Option R)→Option R
def mR:Hint := { live := [1,4,5],own := [],rows := [],cells := [],drop := [],out := [1,2,4] }
abbrev gF:Type:=Int×Int×Order
def oV:gF→St:=fun d=>⟨.undef :: .ptr 0 0::U 2 (.int .i64 d.1 :: .int .i64 d.2.1::U 158 ([])), [.cells [.int .i64 d.2.2.header, .str d.2.2.ae, .int .i64 d.2.2.order, .int .i64 d.2.2.update, .sl .stop d.2.2.nodes .no, .sl .dt d.2.2.af .no]]⟩
def qo (K:Ex→St→Option R) (q0:Int) (q1:Order):Option R:=K (.exit 0) ⟨.undef :: .ptr 0 0::U 2 (.int .i64 q0::U 159 ([])), [.cells [.int .i64 q1.header, .str q1.ae, .int .i64 q1.order, .int .i64 q1.update, .sl .stop q1.nodes .no, .sl .dt q1.af .no]]⟩
def qp (K:Ex→St→Option R) (q0:Bool) (q1:Int) (q2:Order):Option R:=K (.ret) ⟨.undef :: .ptr 0 0 :: .bool q0 :: .undef :: .int .i64 q1::U 159 ([]), [.cells [.int .i64 q2.header, .str q2.ae, .int .i64 q2.order, .int .i64 q2.update, .sl .stop q2.nodes .no, .sl .dt q2.af .no]]⟩
abbrev jT:List cu := .leaf (.undef) :: .leaf (.ptr 0 0)::PU 2 (.leaf (.int .i64) :: .leaf (.int .i64)::PU 158 ([]))
abbrev jU:List aw := [.cells [.int .i64, .str, .int .i64, .int .i64, .sl .stop, .sl .dt]]
def yk (x:cu.aQ jT) (y:aw.aQ jU):Nat:=(Int.natAbs x.2.2.2.2.1+Int.natAbs x.2.2.2.2.2.1+Order.fu (⟨y.1.1,y.1.2.1,y.1.2.2.1,y.1.2.2.2.1,y.1.2.2.2.2.1,y.1.2.2.2.2.2.1⟩:Order)+64)
def Ic (x:cu.aQ jT) (y:aw.aQ jU):gF:=(x.2.2.2.2.1,x.2.2.2.2.2.1,(⟨y.1.1,y.1.2.1,y.1.2.2.1,y.1.2.2.2.1,y.1.2.2.2.2.1,y.1.2.2.2.2.2.1⟩:Order))
def w7 (L:qn R):nD R jT jU:=fun x y K=>L (yk x y) x.2.2.2.2.1 x.2.2.2.2.2.1 (⟨y.1.1,y.1.2.1,y.1.2.2.1,y.1.2.2.2.1,y.1.2.2.2.2.1,y.1.2.2.2.2.2.1⟩:Order) (qo K) (qp K)
def lv:Hint := { live := [1,4,7],own := [],rows := [],cells := [],drop := [],out := [2] }
abbrev fY:Type:=Int×Int×Order
def nj:fY→St:=fun d=>⟨.undef :: .ptr 0 0::U 2 (.int .i64 d.1::U 2 (.int .i64 d.2.1::U 156 ([]))), [.cells [.int .i64 d.2.2.header, .str d.2.2.ae, .int .i64 d.2.2.order, .int .i64 d.2.2.update, .sl .stop d.2.2.nodes .no, .sl .dt d.2.2.af .no]]⟩
def oW (K:Ex→St→Option R):Option R:=K (.exit 2) ⟨U 164 ([]), []⟩
def oX (K:Ex→St→Option R) (q0:Bool):Option R:=K (.ret) ⟨U 2 (.bool q0::U 161 ([])), []⟩
abbrev ji:List cu := .leaf (.undef) :: .leaf (.ptr 0 0)::PU 2 (.leaf (.int .i64)::PU 2 (.leaf (.int .i64)::PU 156 ([])))
abbrev jj:List aw := [.cells [.int .i64, .str, .int .i64, .int .i64, .sl .stop, .sl .dt]]
def w8 (x:cu.aQ ji) (y:aw.aQ jj):Nat:=(Int.natAbs x.2.2.2.2.1+Int.natAbs x.2.2.2.2.2.2.2.1+Order.fu (⟨y.1.1,y.1.2.1,y.1.2.2.1,y.1.2.2.2.1,y.1.2.2.2.2.1,y.1.2.2.2.2.2.1⟩:Order)+64)
def G1 (x:cu.aQ ji) (y:aw.aQ jj):fY:=(x.2.2.2.2.1,x.2.2.2.2.2.2.2.1,(⟨y.1.1,y.1.2.1,y.1.2.2.1,y.1.2.2.2.1,y.1.2.2.2.2.1,y.1.2.2.2.2.2.1⟩:Order))
def vH (L:oU R):nD R ji jj:=fun x y K=>L (w8 x y) x.2.2.2.2.1 x.2.2.2.2.2.2.2.1 (⟨y.1.1,y.1.2.1,y.1.2.2.1,y.1.2.2.2.1,y.1.2.2.2.2.1,y.1.2.2.2.2.2.1⟩:Order) (oW K) (oX K)
section
variable (cp:pD R) (cb:vX R) (aZ:qn R) (aR:oU R)
def gh:List (xm R) := [(60,true,(CL cp aL)),(63,true,(Kf cb aL))]
def mS (bS:Int→Int→Order→Option R) (x7:Int) (x8:Int) (x9:Order) (e0:Int→Order→Option R) (e1:Bool→Int→Order→Option R):Option R :=
 bif (decide (x8<x7))then (cC (decide ((0:Int)≤x8)&&decide (x8<x9.nodes.length)) (cb ((x9.nodes.getD x8.toNat (Ty.aC .stop)).node) (fun vD=>bif (!vD)then (e1 false x7 x9)else (cb ((x9.nodes.getD x8.toNat (Ty.aC .stop)).seq) (fun uJ=>bif (!uJ)then (e1 false x7 x9)else (cC (decide ((0:Int)<x9.nodes.length)) (bif ((x9.nodes.getD x8.toNat (Ty.aC .stop)).seq != (IntKind.i64.wrap ((x9.nodes.getD 0 (Ty.aC .stop)).seq+(IntKind.i64.wrap (2*x8)))))then (e1 false x7 x9)else (bif (decide (x8>(0:Int)))then (bif (x9.nodes.getD x8.toNat (Ty.aC .stop)).ax then (cC (decide ((0:Int)≤(IntKind.i64.wrap (x8 - 1)))&&decide ((IntKind.i64.wrap (x8 - 1))<x9.nodes.length)) (bif (!(x9.nodes.getD (IntKind.i64.wrap (x8 - 1)).toNat (Ty.aC .stop)).ax)then (e1 false x7 x9)else (bS x7 (IntKind.i64.wrap (x8+1)) x9)))else (bS x7 (IntKind.i64.wrap (x8+1)) x9))else (bS x7 (IntKind.i64.wrap (x8+1)) x9)))))))))else (e0 x7 x9)
def yl (K:Ex→St→Option R) (rc:gF→Option R) (d:gF):Option R:=mS cb (fun z0 z1 z2=>rc (z0,z1,z2)) d.1 d.2.1 d.2.2 (qo K) (qp K)
def lx (bS:Int→Int→Order→Option R) (Dg:Int) (uc:Int) (uf:Order) (e0:Option R) (e1:Bool→Option R):Option R :=
 bif (decide (uc<(IntKind.i64.wrap (Dg - 1))))then (cC (decide ((0:Int)≤uc)&&decide (uc<uf.af.length)) (cb ((uf.af.getD uc.toNat (Ty.aC .dt)).fk) (fun Lm=>bif (!Lm)then (e1 false)else (cb ((uf.af.getD uc.toNat (Ty.aC .dt)).seq) (fun J9=>bif (!J9)then (e1 false)else (cC (decide ((0:Int)≤uc)&&decide (uc<uf.nodes.length)) (bif ((uf.af.getD uc.toNat (Ty.aC .dt)).seq != (IntKind.i64.wrap ((uf.nodes.getD uc.toNat (Ty.aC .stop)).seq+1)))then (e1 false)else (cC (decide ((0:Int)≤(IntKind.i64.wrap (uc+1)))&&decide ((IntKind.i64.wrap (uc+1))<uf.nodes.length)) (bif (!((uf.af.getD uc.toNat (Ty.aC .dt)).ax==(uf.nodes.getD (IntKind.i64.wrap (uc+1)).toNat (Ty.aC .stop)).ax))then (e1 false)else (bS Dg (IntKind.i64.wrap (uc+1)) uf))))))))))else (e0)
def w9 (K:Ex→St→Option R) (rc:fY→Option R) (d:fY):Option R:=lx cb (fun z0 z1 z2=>rc (z0,z1,z2)) d.1 d.2.1 d.2.2 (oW K) (oX K)
def im:Nat→Option (Hint×bO R):=fun i=>match i with
 | 6=>some (mR,(bF jT jU (w7 aZ) dZ))
 | 12=>some (lv,(bF ji jj (vH aR) dZ))
 | _=>none
theorem ED (K:Ex→St→Option R) (rc:St→Option R) (d:gF):roundOf tt (bQ (gh cp cb)) (im aZ aR) 0 ((ah (ar Tryd.f53)).getD 0 .skip) mR (oV d) rc K=yl cb K (fun d=>rc (oV d)) d:=by kernel_rfl
theorem DG (K:Ex→St→Option R) (rc:St→Option R) (d:fY):roundOf tt (bQ (gh cp cb)) (im aZ aR) 0 ((ah (ar Tryd.f53)).getD 1 .skip) lv (nj d) rc K=w9 cb K (fun d=>rc (nj d)) d:=by kernel_rfl
def zA (x1:Order) (k0:Bool→Option R):Option R :=
 cp x1.ae (fun y2=>bif (!y2)then (k0 false)else (cb x1.header (fun y3=>bif (!y3)then (k0 false)else (cb x1.order (fun y4=>bif (!y4)then (k0 false)else (cb x1.update (fun y5=>bif (!y5)then (k0 false)else (bif (decide ((x1.nodes.length:Int)<(1:Int)))then (k0 false)else (bif (decide ((x1.nodes.length:Int)>(64:Int)))then (k0 false)else (bif ((x1.af.length:Int) != (IntKind.i64.wrap ((x1.nodes.length:Int) - 1)))then (k0 false)else (cC (decide ((0:Int)<x1.nodes.length)) (bif ((Int.tmod (x1.nodes.getD 0 (Ty.aC .stop)).seq 2) != 0)then (k0 false)else (cC (decide ((0:Int)<x1.nodes.length)) (bif (!(x1.nodes.getD 0 (Ty.aC .stop)).ax)then (k0 false)else (aZ (Int.natAbs (x1.nodes.length:Int)+Int.natAbs 0+Order.fu x1+64) (x1.nodes.length:Int) 0 x1 (fun IL Bk=>aR (Int.natAbs IL+Int.natAbs 0+Order.fu Bk+64) IL 0 Bk (k0 true) (fun Rs=>k0 Rs)) (fun Kb OS OT=>k0 Kb))))))))))))))))
theorem M7:dT (R:=R) tt (gh cp cb) (im aZ aR) false Tryd.f53 zy zz (EC (zA cp cb aZ aR)):=fun x y k=>by kernel_rfl
end
theorem KT:dG (R:=R) Tryd.prog (gh (R:=R) cp cb) := .c (Du R) <| .c (M6 R) <| .n
def aZ:qn R
 | 0,_,_,_,_,_=>none
 | n+1,eE,eF,eR,e0,e1=>mS cb (fun eE eF eR=>aZ n eE eF eR e0 e1) eE eF eR e0 e1
def ym (K:Ex→St→Option R) (n:Nat) (d:gF):Option R:=aZ n d.1 d.2.1 d.2.2 (qo K) (qp K)
def aR:oU R
 | 0,_,_,_,_,_=>none
 | n+1,eE,eF,eR,e0,e1=>lx cb (fun eE eF eR=>aR n eE eF eR e0 e1) eE eF eR e0 e1
def xa (K:Ex→St→Option R) (n:Nat) (d:fY):Option R:=aR n d.1 d.2.1 d.2.2 (oW K) (oX K)
theorem G2 (other:bO R) (ho:dK tt (bQ (gh (R:=R) cp cb)) (im (R:=R) aZ aR) 0 ((ah (ar Tryd.f53)).getD 0 .skip) mR other):dK tt (bQ (gh (R:=R) cp cb)) (im (R:=R) aZ aR) 0 ((ah (ar Tryd.f53)).getD 0 .skip) mR (bF jT jU (w7 (aZ)) other) :=
 bM (A:=ym) ho (cI oV (yl cb) (ym) (fun _ _=>by kernel_rfl) (ED cp cb aZ aR) (fun _ _ _=>by kernel_rfl)) yk Ic (fun _ _=>by kernel_rfl) (fun _ _ _=>by kernel_rfl)
theorem FB (other:bO R) (ho:dK tt (bQ (gh (R:=R) cp cb)) (im (R:=R) aZ aR) 0 ((ah (ar Tryd.f53)).getD 1 .skip) lv other):dK tt (bQ (gh (R:=R) cp cb)) (im (R:=R) aZ aR) 0 ((ah (ar Tryd.f53)).getD 1 .skip) lv (bF ji jj (vH (aR)) other) :=
 bM (A:=xa) ho (cI nj (w9 cb) (xa) (fun _ _=>by kernel_rfl) (DG cp cb aZ aR) (fun _ _ _=>by kernel_rfl)) w8 G1 (fun _ _=>by kernel_rfl) (fun _ _ _=>by kernel_rfl)
def cZ:sW R:=fun x1 k0=>zA cp cb aZ aR x1 k0
theorem Ie (R:Type):∀a∈ah (ar Tryd.f53),dY tt (bQ (gh (R:=R) cp cb)) (im (R:=R) aZ aR) 0 a:=by
 refine dx 2 (by kernel_rfl) fun i hi => ?_
 match i,hi with
 | 0,_=>exact bw (by kernel_rfl) (G2 _ cj)
 | 1,_=>exact bw (by kernel_rfl) (FB _ cj)
 | n+2,hi=>omega
theorem JG (R:Type):mW Tryd.prog 53 (Gi (cZ (R:=R))):=bL TT mixed (KT (R:=R)) rfl rfl rfl rfl (Ie R) (M7 cp cb aZ aR)

/-! ### humpyard/humpyardref13.Order -/
abbrev nk (R:Type):Type:=Order→(List Int)→Int→Int→(Order→Bool→Option R)→Option R
abbrev zB:List cu := [.agg [.int .i64, .str, .int .i64, .int .i64, .sl .stop, .sl .dt], .leaf (.sl (.int .i64)), .leaf (.int .i64), .leaf (.int .i64)]
abbrev zC:List aw := []
def EE (fn:nk R):mY R zB zC:=fun x y k=>fn (⟨x.1.1,x.1.2.1,x.1.2.2.1,x.1.2.2.2.1,x.1.2.2.2.2.1,x.1.2.2.2.2.2.1⟩:Order) x.2.1 x.2.2.1 x.2.2.2.1 (fun q0 q1=>k (.tuple [.agg [.int .i64 q0.header, .str q0.ae, .int .i64 q0.order, .int .i64 q0.update, .sl .stop q0.nodes .no, .sl .dt q0.af .no], .bool q1]) [])
def zD (fn:nk R):=bx zB zC (EE fn)
abbrev qq (R:Type):Type:=Nat→(List Int)→Int→Int→Int→Order→Int→aA→Int→Int→((List Int)→Int→Int→Order→Int→aA→Int→Int→Option R)→((List Int)→Int→Int→Bool→Order→Int→aA→Int→Int→Option R)→Option R
abbrev oY (R:Type):Type:=Nat→(List Int)→Int→Int→Int→Int→aA→Int→Int→Int→aA→Int→Int→(List Stop)→(List ad.Way)→(Int→aA→Int→Int→Int→aA→Int→Int→(List Stop)→(List ad.Way)→Option R)→Option R
def mT:Hint := { live := [1,2,3,4,8,10],own := [],rows := [],cells := [],drop := [],out := [1,2,3,4,8,9] }
abbrev gG:Type:=(List Int)×Int×Int×Int×Order×Int×aA×Int×Int
def oZ:gG→St:=fun d=>⟨.undef :: .sl (.int .i64) d.1 .no :: .int .i64 d.2.1 :: .int .i64 d.2.2.1 :: .ptr 0 0::U 3 (.ptr 1 0 :: .undef :: .int .i64 d.2.2.2.1::U 108 ([])), [.cells [.int .i64 d.2.2.2.2.1.header, .str d.2.2.2.2.1.ae, .int .i64 d.2.2.2.2.1.order, .int .i64 d.2.2.2.2.1.update, .sl .stop d.2.2.2.2.1.nodes .no, .sl .dt d.2.2.2.2.1.af .no], .cells [.int .i64 d.2.2.2.2.2.1, .str d.2.2.2.2.2.2.1, .int .i64 d.2.2.2.2.2.2.2.1, .int .i64 d.2.2.2.2.2.2.2.2, .aI, .aI]]⟩
def qs (K:Ex→St→Option R) (q0:List Int) (q1:Int) (q2:Int) (q3:Order) (q4:Int) (q5:aA) (q6:Int) (q7:Int):Option R:=K (.exit 0) ⟨.undef :: .sl (.int .i64) q0 .no :: .int .i64 q1 :: .int .i64 q2 :: .ptr 0 0::U 3 (.ptr 1 0::U 110 ([])), [.cells [.int .i64 q3.header, .str q3.ae, .int .i64 q3.order, .int .i64 q3.update, .sl .stop q3.nodes .no, .sl .dt q3.af .no], .cells [.int .i64 q4, .str q5, .int .i64 q6, .int .i64 q7, .aI, .aI]]⟩
def qt (K:Ex→St→Option R) (q0:List Int) (q1:Int) (q2:Int) (q3:Bool) (q4:Order) (q5:Int) (q6:aA) (q7:Int) (q8:Int):Option R:=K (.ret) ⟨.undef :: .sl (.int .i64) q0 .no :: .int .i64 q1 :: .int .i64 q2 :: .ptr 0 0::U 3 (.ptr 1 0 :: .bool q3::U 109 ([])), [.cells [.int .i64 q4.header, .str q4.ae, .int .i64 q4.order, .int .i64 q4.update, .sl .stop q4.nodes .no, .sl .dt q4.af .no], .cells [.int .i64 q5, .str q6, .int .i64 q7, .int .i64 q8, .aI, .aI]]⟩
abbrev jV:List cu := .leaf (.undef) :: .leaf (.sl (.int .i64)) :: .leaf (.int .i64) :: .leaf (.int .i64) :: .leaf (.ptr 0 0)::PU 3 (.leaf (.ptr 1 0) :: .leaf (.undef) :: .leaf (.int .i64)::PU 108 ([]))
abbrev jW:List aw := [.cells [.int .i64, .str, .int .i64, .int .i64, .sl .stop, .sl .dt], .cells [.int .i64, .str, .int .i64, .int .i64, .aI, .aI]]
def yn (x:cu.aQ jV) (y:aw.aQ jW):Nat:=(List.length x.2.1+Int.natAbs x.2.2.1+Int.natAbs x.2.2.2.1+Int.natAbs ((t8 x).2.2.1)+Order.fu (⟨y.1.1,y.1.2.1,y.1.2.2.1,y.1.2.2.2.1,y.1.2.2.2.2.1,y.1.2.2.2.2.2.1⟩:Order)+Int.natAbs y.2.1.1+List.length y.2.1.2.1+Int.natAbs y.2.1.2.2.1+Int.natAbs y.2.1.2.2.2.1+64)
def Ig (x:cu.aQ jV) (y:aw.aQ jW):gG:=(x.2.1,x.2.2.1,x.2.2.2.1,(t8 x).2.2.1,(⟨y.1.1,y.1.2.1,y.1.2.2.1,y.1.2.2.2.1,y.1.2.2.2.2.1,y.1.2.2.2.2.2.1⟩:Order),y.2.1.1,y.2.1.2.1,y.2.1.2.2.1,y.2.1.2.2.2.1)
def xb (L:qq R):nD R jV jW:=fun x y K=>L (yn x y) x.2.1 x.2.2.1 x.2.2.2.1 ((t8 x).2.2.1) (⟨y.1.1,y.1.2.1,y.1.2.2.1,y.1.2.2.2.1,y.1.2.2.2.2.1,y.1.2.2.2.2.2.1⟩:Order) y.2.1.1 y.2.1.2.1 y.2.1.2.2.1 y.2.1.2.2.2.1 (qs K) (qt K)
def ly:Hint := { live := [1,2,3,8,11,12],own := [],rows := [],cells := [(1,4, .stop,false),(1,5, .dt,false)],drop := [],out := [8,9,11] }
abbrev fZ:Type:=(List Int)×Int×Int×Int×Int×aA×Int×Int×Int×aA×Int×Int×(List Stop)×(List ad.Way)
def np:fZ→St:=fun d=>⟨.undef :: .sl (.int .i64) d.1 .no :: .int .i64 d.2.1 :: .int .i64 d.2.2.1::U 4 (.ptr 0 0::U 2 (.ptr 1 0 :: .int .i64 d.2.2.2.1::U 106 ([]))), [.cells [.int .i64 d.2.2.2.2.1, .str d.2.2.2.2.2.1, .int .i64 d.2.2.2.2.2.2.1, .int .i64 d.2.2.2.2.2.2.2.1, .aI, .aI], .cells [.int .i64 d.2.2.2.2.2.2.2.2.1, .str d.2.2.2.2.2.2.2.2.2.1, .int .i64 d.2.2.2.2.2.2.2.2.2.2.1, .int .i64 d.2.2.2.2.2.2.2.2.2.2.2.1, .sl .stop d.2.2.2.2.2.2.2.2.2.2.2.2.1 (.own 2), .sl .dt d.2.2.2.2.2.2.2.2.2.2.2.2.2 (.own 3)], .tok, .tok]⟩
def o0 (K:Ex→St→Option R) (q0:Int) (q1:aA) (q2:Int) (q3:Int) (q4:Int) (q5:aA) (q6:Int) (q7:Int) (q8:List Stop) (q9:List ad.Way):Option R:=K (.exit 2) ⟨U 8 (.ptr 0 0::U 2 (.ptr 1 0::U 107 ([]))), [.cells [.int .i64 q0, .str q1, .int .i64 q2, .int .i64 q3, .aI, .aI], .cells [.int .i64 q4, .str q5, .int .i64 q6, .int .i64 q7, .sl .stop q8 (.own 2), .sl .dt q9 (.own 3)], .tok, .tok]⟩
abbrev jk:List cu := .leaf (.undef) :: .leaf (.sl (.int .i64)) :: .leaf (.int .i64) :: .leaf (.int .i64)::PU 4 (.leaf (.ptr 0 0)::PU 2 (.leaf (.ptr 1 0) :: .leaf (.int .i64)::PU 106 ([])))
abbrev jl:List aw := [.cells [.int .i64, .str, .int .i64, .int .i64, .aI, .aI], .cells [.int .i64, .str, .int .i64, .int .i64, .Li .stop 2, .Li .dt 3], .tok, .tok]
def xc (x:cu.aQ jk) (y:aw.aQ jl):Nat:=(List.length x.2.1+Int.natAbs x.2.2.1+Int.natAbs x.2.2.2.1+Int.natAbs ((t8 x).2.2.2.2.1)+Int.natAbs y.1.1+List.length y.1.2.1+Int.natAbs y.1.2.2.1+Int.natAbs y.1.2.2.2.1+Int.natAbs y.2.1.1+List.length y.2.1.2.1+Int.natAbs y.2.1.2.2.1+Int.natAbs y.2.1.2.2.2.1+List.length y.2.1.2.2.2.2.1+List.length y.2.1.2.2.2.2.2.1+64)
def G3 (x:cu.aQ jk) (y:aw.aQ jl):fZ:=(x.2.1,x.2.2.1,x.2.2.2.1,(t8 x).2.2.2.2.1,y.1.1,y.1.2.1,y.1.2.2.1,y.1.2.2.2.1,y.2.1.1,y.2.1.2.1,y.2.1.2.2.1,y.2.1.2.2.2.1,y.2.1.2.2.2.2.1,y.2.1.2.2.2.2.2.1)
def vI (L:oY R):nD R jk jl:=fun x y K=>L (xc x y) x.2.1 x.2.2.1 x.2.2.2.1 ((t8 x).2.2.2.2.1) y.1.1 y.1.2.1 y.1.2.2.1 y.1.2.2.2.1 y.2.1.1 y.2.1.2.1 y.2.1.2.2.1 y.2.1.2.2.2.1 y.2.1.2.2.2.2.1 y.2.1.2.2.2.2.2.1 (o0 K)
section
variable (cZ:sW R) (bf:qq R) (aW:oY R)
def gi:List (xm R) := [(53,true,(Gi cZ aL))]
def mU (bS:(List Int)→Int→Int→Int→Order→Int→aA→Int→Int→Option R) (x5:List Int) (x6:Int) (x7:Int) (x8:Int) (x9:Order) (Fk:Int) (Jf:aA) (Fg:Int) (xY:Int) (e0:(List Int)→Int→Int→Order→Int→aA→Int→Int→Option R) (e1:(List Int)→Int→Int→Bool→Order→Int→aA→Int→Int→Option R):Option R :=
 bif (decide (x8<(x5.length:Int)))then (bif ((Int.tmod x8 2)==0)then (cC (decide ((0:Int)≤x8)&&decide (x8<x5.length)) (bif (decide ((x5.getD x8.toNat (Ty.aC (.int .i64)))<(0:Int)))then (e1 x5 x6 x7 false x9 0 ([]:aA) 0 0)else (cC (decide ((0:Int)≤x8)&&decide (x8<x5.length)) (bif (decide ((x5.getD x8.toNat (Ty.aC (.int .i64)))≥(1000:Int)))then (e1 x5 x6 x7 false x9 0 ([]:aA) 0 0)else (bif ((Int.tmod x8 2)==1)then (cC (decide ((0:Int)≤x8)&&decide (x8<x5.length)) (bif (decide ((x5.getD x8.toNat (Ty.aC (.int .i64)))<(1000:Int)))then (e1 x5 x6 x7 false x9 0 ([]:aA) 0 0)else (bS x5 x6 x7 (IntKind.i64.wrap (x8+1)) x9 Fk Jf Fg xY)))else (bS x5 x6 x7 (IntKind.i64.wrap (x8+1)) x9 Fk Jf Fg xY))))))else (bif ((Int.tmod x8 2)==1)then (cC (decide ((0:Int)≤x8)&&decide (x8<x5.length)) (bif (decide ((x5.getD x8.toNat (Ty.aC (.int .i64)))<(1000:Int)))then (e1 x5 x6 x7 false x9 0 ([]:aA) 0 0)else (bS x5 x6 x7 (IntKind.i64.wrap (x8+1)) x9 Fk Jf Fg xY)))else (bS x5 x6 x7 (IntKind.i64.wrap (x8+1)) x9 Fk Jf Fg xY)))else (e0 x5 x6 x7 x9 Fk Jf Fg xY)
def yo (K:Ex→St→Option R) (rc:gG→Option R) (d:gG):Option R:=mU (fun z0 z1 z2 z3 z4 z5 z6 z7 z8=>rc (z0,z1,z2,z3,z4,z5,z6,z7,z8)) d.1 d.2.1 d.2.2.1 d.2.2.2.1 d.2.2.2.2.1 d.2.2.2.2.2.1 d.2.2.2.2.2.2.1 d.2.2.2.2.2.2.2.1 d.2.2.2.2.2.2.2.2 (qs K) (qt K)
def lz (bS:(List Int)→Int→Int→Int→Int→aA→Int→Int→Int→aA→Int→Int→(List Stop)→(List ad.Way)→Option R) (RG:List Int) (Uq:Int) (Ur:Int) (KI:Int) (Us:Int) (x37:aA) (x38:Int) (x39:Int) (x40:Int) (x41:aA) (x42:Int) (Tp:Int) (R5:List Stop) (YF:List ad.Way) (e0:Int→aA→Int→Int→Int→aA→Int→Int→(List Stop)→(List ad.Way)→Option R):Option R :=
 bif (decide (KI<(RG.length:Int)))then (bif (decide (KI<(127:Int)))then (bif ((Int.tmod KI 2)==0)then (cC (decide ((0:Int)≤KI)&&decide (KI<RG.length)) (cC (decide ((R5.length+1)*24≤140737488355328)) (bS RG Uq Ur (IntKind.i64.wrap (KI+1)) Us x37 x38 x39 x40 x41 x42 Tp (R5++([(⟨(RG.getD KI.toNat (Ty.aC (.int .i64))),(IntKind.i64.wrap (Uq+KI)),(decide ((IntKind.i64.wrap (Int.tdiv KI 2))<Ur))⟩:Stop)]:List Stop)) YF)))else (cC (decide ((0:Int)≤KI)&&decide (KI<RG.length)) (cC (decide ((YF.length+1)*24≤140737488355328)) (bS RG Uq Ur (IntKind.i64.wrap (KI+1)) Us x37 x38 x39 x40 x41 x42 Tp R5 (YF++([(⟨(IntKind.i64.wrap ((RG.getD KI.toNat (Ty.aC (.int .i64))) - 1000)),(IntKind.i64.wrap (Uq+KI)),(decide ((IntKind.i64.wrap (Int.tdiv (IntKind.i64.wrap (KI+1)) 2))<Ur))⟩:ad.Way)]:List ad.Way))))))else (e0 Us x37 x38 x39 x40 x41 x42 Tp R5 YF))else (e0 Us x37 x38 x39 x40 x41 x42 Tp R5 YF)
def xd (K:Ex→St→Option R) (rc:fZ→Option R) (d:fZ):Option R:=lz (fun z0 z1 z2 z3 z4 z5 z6 z7 z8 z9 ME KD z12 NQ=>rc (z0,z1,z2,z3,z4,z5,z6,z7,z8,z9,ME,KD,z12,NQ)) d.1 d.2.1 d.2.2.1 d.2.2.2.1 d.2.2.2.2.1 d.2.2.2.2.2.1 d.2.2.2.2.2.2.1 d.2.2.2.2.2.2.2.1 d.2.2.2.2.2.2.2.2.1 d.2.2.2.2.2.2.2.2.2.1 d.2.2.2.2.2.2.2.2.2.2.1 d.2.2.2.2.2.2.2.2.2.2.2.1 d.2.2.2.2.2.2.2.2.2.2.2.2.1 d.2.2.2.2.2.2.2.2.2.2.2.2.2 (o0 K)
def iq:Nat→Option (Hint×bO R):=fun i=>match i with
 | 4=>some (mT,(bF jV jW (xb bf) dZ))
 | 10=>some (ly,(bF jk jl (vI aW) dZ))
 | _=>none
theorem EF (K:Ex→St→Option R) (rc:St→Option R) (d:gG):roundOf tt (bQ (gi cZ)) (iq bf aW) 0 ((ah (ar Tryd.f38)).getD 0 .skip) mT (oZ d) rc K=yo K (fun d=>rc (oZ d)) d:=by kernel_rfl
theorem DH (K:Ex→St→Option R) (rc:St→Option R) (d:fZ):roundOf tt (bQ (gi cZ)) (iq bf aW) 0 ((ah (ar Tryd.f38)).getD 1 .skip) ly (np d) rc K=xd K (fun d=>rc (np d)) d:=by kernel_rfl
def zE (x1:Order) (x2:List Int) (x3:Int) (x4:Int) (k0:Order→Bool→Option R):Option R :=
 bif ((Int.tmod (x2.length:Int) 2)==0)then (k0 (⟨0,([]:aA),0,0,([]:List Stop),([]:List ad.Way)⟩:Order) false)else (bf (List.length x2+Int.natAbs x3+Int.natAbs x4+Int.natAbs 0+Order.fu x1+Int.natAbs 0+List.length ([]:aA)+Int.natAbs 0+Int.natAbs 0+64) x2 x3 x4 0 x1 0 ([]:aA) 0 0 (fun Kb OS OT RH YA VK Lm J9=>aW (List.length Kb+Int.natAbs OS+Int.natAbs OT+Int.natAbs 0+Int.natAbs YA+List.length VK+Int.natAbs Lm+Int.natAbs J9+Int.natAbs RH.header+List.length RH.ae+Int.natAbs RH.order+Int.natAbs RH.update+List.length ([]:List Stop)+List.length ([]:List ad.Way)+64) Kb OS OT 0 YA VK Lm J9 RH.header RH.ae RH.order RH.update ([]:List Stop) ([]:List ad.Way) (fun y47 Zm y49 Zn Wo Wp Wq Wr Ws Wu=>cZ (⟨Wo,Wp,Wq,Wr,Ws,Wu⟩:Order) (fun y57=>bif (!y57)then (k0 (⟨0,([]:aA),0,0,([]:List Stop),([]:List ad.Way)⟩:Order) false)else (k0 (⟨Wo,Wp,Wq,Wr,Ws,Wu⟩:Order) true)))) (fun Ka Rs Jg Nw Fp Qn y29 Wm Yf=>k0 (⟨Qn,y29,Wm,Yf,([]:List Stop),([]:List ad.Way)⟩:Order) Nw))
theorem M8:dT (R:=R) tt (gi cZ) (iq bf aW) false Tryd.f38 zB zC (EE (zE cZ bf aW)):=fun x y k=>by kernel_rfl
end
theorem KU:dG (R:=R) Tryd.prog (gi (R:=R) cZ) := .c (JG R) <| .n
def bf:qq R
 | 0,_,_,_,_,_,_,_,_,_,_,_=>none
 | n+1,eE,eF,eR,jZ,ug,vi,yY,yZ,Eg,e0,e1=>mU (fun eE eF eR jZ ug vi yY yZ Eg=>bf n eE eF eR jZ ug vi yY yZ Eg e0 e1) eE eF eR jZ ug vi yY yZ Eg e0 e1
def yp (K:Ex→St→Option R) (n:Nat) (d:gG):Option R:=bf n d.1 d.2.1 d.2.2.1 d.2.2.2.1 d.2.2.2.2.1 d.2.2.2.2.2.1 d.2.2.2.2.2.2.1 d.2.2.2.2.2.2.2.1 d.2.2.2.2.2.2.2.2 (qs K) (qt K)
def aW:oY R
 | 0,_,_,_,_,_,_,_,_,_,_,_,_,_,_,_=>none
 | n+1,eE,eF,eR,jZ,ug,vi,yY,yZ,Eg,GV,uh,ui,uj,uk,e0=>lz (fun eE eF eR jZ ug vi yY yZ Eg GV uh ui uj uk=>aW n eE eF eR jZ ug vi yY yZ Eg GV uh ui uj uk e0) eE eF eR jZ ug vi yY yZ Eg GV uh ui uj uk e0
def xe (K:Ex→St→Option R) (n:Nat) (d:fZ):Option R:=aW n d.1 d.2.1 d.2.2.1 d.2.2.2.1 d.2.2.2.2.1 d.2.2.2.2.2.1 d.2.2.2.2.2.2.1 d.2.2.2.2.2.2.2.1 d.2.2.2.2.2.2.2.2.1 d.2.2.2.2.2.2.2.2.2.1 d.2.2.2.2.2.2.2.2.2.2.1 d.2.2.2.2.2.2.2.2.2.2.2.1 d.2.2.2.2.2.2.2.2.2.2.2.2.1 d.2.2.2.2.2.2.2.2.2.2.2.2.2 (o0 K)
theorem G4 (other:bO R) (ho:dK tt (bQ (gi (R:=R) cZ)) (iq (R:=R) bf aW) 0 ((ah (ar Tryd.f38)).getD 0 .skip) mT other):dK tt (bQ (gi (R:=R) cZ)) (iq (R:=R) bf aW) 0 ((ah (ar Tryd.f38)).getD 0 .skip) mT (bF jV jW (xb (bf)) other) :=
 bM (A:=yp) ho (cI oZ (yo) (yp) (fun _ _=>by kernel_rfl) (EF cZ bf aW) (fun _ _ _=>by kernel_rfl)) yn Ig (fun _ _=>by kernel_rfl) (fun _ _ _=>by kernel_rfl)
theorem FC (other:bO R) (ho:dK tt (bQ (gi (R:=R) cZ)) (iq (R:=R) bf aW) 0 ((ah (ar Tryd.f38)).getD 1 .skip) ly other):dK tt (bQ (gi (R:=R) cZ)) (iq (R:=R) bf aW) 0 ((ah (ar Tryd.f38)).getD 1 .skip) ly (bF jk jl (vI (aW)) other) :=
 bM (A:=xe) ho (cI np (xd) (xe) (fun _ _=>by kernel_rfl) (DH cZ bf aW) (fun _ _ _=>by kernel_rfl)) xc G3 (fun _ _=>by kernel_rfl) (fun _ _ _=>by kernel_rfl)
def cy:nk R:=fun x1 x2 x3 x4 k0=>zE cZ bf aW x1 x2 x3 x4 k0
theorem Ih (R:Type):∀a∈ah (ar Tryd.f38),dY tt (bQ (gi (R:=R) cZ)) (iq (R:=R) bf aW) 0 a:=by
 refine dx 2 (by kernel_rfl) fun i hi => ?_
 match i,hi with
 | 0,_=>exact bw (by kernel_rfl) (G4 _ cj)
 | 1,_=>exact bw (by kernel_rfl) (FC _ cj)
 | n+2,hi=>omega
theorem A3 (R:Type):mW Tryd.prog 38 (zD (cy (R:=R))):=bL TT mixed (KU (R:=R)) rfl rfl rfl rfl (Ih R) (M8 cZ bf aW)

/-! ### humpyard/humpyardlaw13.Make -/
abbrev uP (R:Type):Type:=ad.cf→kh→(Order→(List Int)→Option R)→Option R
abbrev CN:List cu := [.agg [.int .i64, .sl .fk], .agg [.int .i64, .int .i64, .int .i64, .int .i64, .int .i64, .int .i64, .sl (.int .i64)]]
abbrev CO:List aw := []
def Gj (fn:uP R):mY R CN CO:=fun x y k=>fn (⟨x.1.1,x.1.2.1⟩:ad.cf) (⟨x.2.1.1,x.2.1.2.1,x.2.1.2.2.1,x.2.1.2.2.2.1,x.2.1.2.2.2.2.1,x.2.1.2.2.2.2.2.1,x.2.1.2.2.2.2.2.2.1⟩:kh) (fun q0 q1=>k (.tuple [.agg [.int .i64 q0.header, .str q0.ae, .int .i64 q0.order, .int .i64 q0.update, .sl .stop q0.nodes .no, .sl .dt q0.af .no], .sl (.int .i64) q1 .no]) [])
def Ii (fn:uP R):=bx CN CO (Gj fn)
section
variable (gR:uO R) (aK:pC R) (cy:nk R)
def Ij:List (xm R) := [(46,true,(H6 gR aL)),(47,true,(CG aK aL)),(38,true,(zD cy aL))]
def Ik (x1:ad.cf) (x2:kh) (k0:Order→(List Int)→Option R):Option R :=
 gR x1 x2.from_ x2.turns 20 (fun y3=>aK x2.header 50 (fun y4=>aK x2.order 3 (fun y5=>aK x2.update 4 (fun y6=>aK x2.seq 20 (fun y7=>aK x2.ax (IntKind.i64.wrap (Int.tdiv (IntKind.i64.wrap ((y3.length:Int)+1)) 2)) (fun y8=>cy (⟨y4,([118]:aA),y5,y6,([]:List Stop),([]:List ad.Way)⟩:Order) y3 (IntKind.i64.wrap (2*y7)) (IntKind.i64.wrap (1+y8)) (fun y9 vD=>k0 y9 y3)))))))
theorem N9:dT (R:=R) tt (Ij gR aK cy) xo false Tryd.f24 CN CO (Gj (Ik gR aK cy)):=fun x y k=>by kernel_rfl
end
theorem M9:dG (R:=R) Tryd.prog (Ij (R:=R) gR aK cy) := .c (KS R) <| .c (Dt R) <| .c (A3 R) <| .n
def gS:uP R:=fun x1 x2 k0=>Ik gR aK cy x1 x2 k0
theorem KV (R:Type):mW Tryd.prog 24 (Ii (gS (R:=R))):=bL TT mixed (M9 (R:=R)) rfl rfl rfl rfl de (N9 gR aK cy)

/-! ### humpyard/humpyardlaw18.pick -/
abbrev pE (R:Type):Type:=Int→Int→(Int→Option R)→Option R
abbrev CP:List cu := [.leaf (.int .i64), .leaf (.int .i64)]
abbrev CQ:List aw := []
def Gk (fn:pE R):mY R CP CQ:=fun x y k=>fn x.1 x.2.1 (fun q0=>k (.int .i64 q0) [])
def CR (fn:pE R):=bx CP CQ (Gk fn)
section
def Il (x1:Int) (x2:Int) (k0:Int→Option R):Option R :=
 bif (decide (x1<(0:Int)))then (cC (!decide (x2=0)) (k0 (Int.tmod (IntKind.i64.wrap (0 - (IntKind.i64.wrap (x1+1)))) x2)))else (cC (!decide (x2=0)) (k0 (Int.tmod x1 x2)))
theorem Oa:dT (R:=R) tt [] xo false Tryd.f8 CP CQ (Gk Il):=fun x y k=>by kernel_rfl
end
def av:pE R:=fun x1 x2 k0=>Il x1 x2 k0
theorem Dv (R:Type):mW Tryd.prog 8 (CR (av (R:=R))):=bL TT mixed .n rfl rfl rfl rfl de (Oa)

/-! ### humpyard/humpyardlaw18.Fit -/
abbrev vY (R:Type):Type:=ad.cf→ad.bN→kh→(ad.bN→Option R)→Option R
abbrev EG:List cu := [.agg [.int .i64, .sl .fk], .agg [.str, .int .i64, .int .i64, .int .i64, .int .i64, .int .i64, .sl (.int .i64), .int .i64, .bool, .int .i64, .bool, .int .i64, .str, .int .i64, .int .i64, .sl .stop, .sl .dt], .agg [.int .i64, .int .i64, .int .i64, .int .i64, .int .i64, .int .i64, .sl (.int .i64)]]
abbrev EH:List aw := []
def Im (fn:vY R):mY R EG EH:=fun x y k=>fn (⟨x.1.1,x.1.2.1⟩:ad.cf) (⟨x.2.1.1,x.2.1.2.1,x.2.1.2.2.1,x.2.1.2.2.2.1,x.2.1.2.2.2.2.1,x.2.1.2.2.2.2.2.1,x.2.1.2.2.2.2.2.2.1,x.2.1.2.2.2.2.2.2.2.1,(t8 x.2.1).1,(t8 x.2.1).2.1,(t8 x.2.1).2.2.1,⟨(t8 x.2.1).2.2.2.1,(t8 x.2.1).2.2.2.2.1,(t8 x.2.1).2.2.2.2.2.1,(t8 x.2.1).2.2.2.2.2.2.1,(t8 x.2.1).2.2.2.2.2.2.2.1,(t8 (t8 x.2.1)).1⟩⟩:ad.bN) (⟨x.2.2.1.1,x.2.2.1.2.1,x.2.2.1.2.2.1,x.2.2.1.2.2.2.1,x.2.2.1.2.2.2.2.1,x.2.2.1.2.2.2.2.2.1,x.2.2.1.2.2.2.2.2.2.1⟩:kh) (fun q0=>k (.agg [.str q0.ae, .int .i64 q0.header, .int .i64 q0.order, .int .i64 q0.update, .int .i64 q0.aX, .int .i64 q0.seen, .sl (.int .i64) q0.path .no, .int .i64 q0.seq, .bool q0.open_, .int .i64 q0.rel, .bool q0.wait, .int .i64 q0.pending.header, .str q0.pending.ae, .int .i64 q0.pending.order, .int .i64 q0.pending.update, .sl .stop q0.pending.nodes .no, .sl .dt q0.pending.af .no]) [])
def Kg (fn:vY R):=bx EG EH (Im fn)
section
variable (gS:uP R) (av:pE R)
def Kh:List (xm R) := [(24,true,(Ii gS aL)),(8,true,(CR av aL))]
def Ki (x1:ad.cf) (x2:ad.bN) (x3:kh) (k0:ad.bN→Option R):Option R :=
 gS x1 x3 (fun y4 y5=>av x2.header 1000000001 (fun y6=>av x2.order 9 (fun y7=>av x2.update 9 (fun y8=>av x2.aX 4 (fun y9=>av x2.seen 9 (fun vD=>av x2.seq 9 (fun uJ=>av x2.rel (IntKind.i64.wrap ((IntKind.i64.wrap (Int.tdiv (y5.length:Int) 2))+1)) (fun pH=>bif x2.wait then (k0 (⟨([118]:aA),y6,y7,y8,y9,vD,y5,(IntKind.i64.wrap (2*uJ)),x2.open_,pH,x2.wait,⟨y4.header,y4.ae,y4.order,y4.update,y4.nodes,y4.af⟩⟩:ad.bN))else (k0 (⟨([118]:aA),y6,y7,y8,y9,vD,y5,(IntKind.i64.wrap (2*uJ)),x2.open_,pH,x2.wait,⟨0,([]:aA),0,0,([]:List Stop),([]:List ad.Way)⟩⟩:ad.bN))))))))))
theorem P6:dT (R:=R) tt (Kh gS av) xo false Tryd.f7 EG EH (Im (Ki gS av)):=fun x y k=>by kernel_rfl
end
theorem Ob:dG (R:=R) Tryd.prog (Kh (R:=R) gS av) := .c (KV R) <| .c (Dv R) <| .n
def dc:vY R:=fun x1 x2 x3 k0=>Ki gS av x1 x2 x3 k0
theorem Na (R:Type):mW Tryd.prog 7 (Kg (dc (R:=R))):=bL TT mixed (Ob (R:=R)) rfl rfl rfl rfl de (P6 gS av)

end Go.Proofs.YtolnaonmpohciaaDoor

/-
 Functions of the program as pure Lean functions, and the ties; printed by wip/tools/emit.py.
-/
set_option maxRecDepth 100000
namespace Go.Proofs.YtolnaonmpohciaaDoor
open Go Go.ad
variable {R:Type}

/-! ### slices.Equal[[]humpyard/api.Way,humpyard/api.Way] -/
abbrev ib (R:Type):Type:=(List ad.Way)→(List ad.Way)→(Bool→Option R)→Option R
abbrev mB:List cu := [.leaf (.sl .dt), .leaf (.sl .dt)]
abbrev mC:List aw := []
def sX (fn:ib R):mY R mB mC:=fun x y k=>fn x.1 x.2.1 (fun q0=>k (.bool q0) [])
def tO (fn:ib R):=bx mB mC (sX fn)
abbrev jm (R:Type):Type:=Nat→(List ad.Way)→(List ad.Way)→Int→Int→(Option R)→(Bool→Option R)→Option R
def fM:Hint := { live := [0,1,12,13],own := [],rows := [],cells := [],drop := [],out := [4] }
abbrev dC:Type:=(List ad.Way)×(List ad.Way)×Int×Int
def ic:dC→St:=fun d=>⟨.sl .dt d.1 .no :: .sl .dt d.2.1 .no::U 10 (.int .i64 d.2.2.1 :: .int .i64 d.2.2.2::U 12 ([])), []⟩
def jn (K:Ex→St→Option R):Option R:=K (.exit 0) ⟨U 26 ([]), []⟩
def jq (K:Ex→St→Option R) (q0:Bool):Option R:=K (.ret) ⟨U 4 (.bool q0::U 21 ([])), []⟩
abbrev eC:List cu := .leaf (.sl .dt) :: .leaf (.sl .dt)::PU 10 (.leaf (.int .i64) :: .leaf (.int .i64)::PU 12 ([]))
abbrev eD:List aw := []
def oA (x:cu.aQ eC) (y:aw.aQ eD):Nat:=(List.length x.1+List.length x.2.1+Int.natAbs ((t8 x).2.2.2.2.1)+Int.natAbs ((t8 x).2.2.2.2.2.1)+64)
def xD (x:cu.aQ eC) (y:aw.aQ eD):dC:=(x.1,x.2.1,(t8 x).2.2.2.2.1,(t8 x).2.2.2.2.2.1)
def nq (L:jm R):nD R eC eD:=fun x y K=>L (oA x y) x.1 x.2.1 ((t8 x).2.2.2.2.1) ((t8 x).2.2.2.2.2.1) (jn K) (jq K)
section
variable (aH:jm R)
def fN (bS:(List ad.Way)→(List ad.Way)→Int→Int→Option R) (x3:List ad.Way) (x4:List ad.Way) (x5:Int) (x6:Int) (e0:Option R) (e1:Bool→Option R):Option R :=
 bif (decide (x6<x5))then (cC (decide ((0:Int)≤x6)&&decide (x6<x3.length)) (cC (decide ((0:Int)≤x6)&&decide (x6<x4.length)) (bif (!((x3.getD x6.toNat (Ty.aC .dt)).fk==(x4.getD x6.toNat (Ty.aC .dt)).fk&&((x3.getD x6.toNat (Ty.aC .dt)).seq==(x4.getD x6.toNat (Ty.aC .dt)).seq&&((x3.getD x6.toNat (Ty.aC .dt)).ax==(x4.getD x6.toNat (Ty.aC .dt)).ax&&true))))then (e1 false)else (bS x3 x4 x5 (IntKind.i64.wrap (x6+1))))))else (e0)
def oB (K:Ex→St→Option R) (rc:dC→Option R) (d:dC):Option R:=fN (fun z0 z1 z2 z3=>rc (z0,z1,z2,z3)) d.1 d.2.1 d.2.2.1 d.2.2.2 (jn K) (jq K)
def fS:Nat→Option (Hint×bO R):=fun i=>match i with
 | 4=>some (fM,(bF eC eD (nq aH) dZ))
 | _=>none
theorem vy (K:Ex→St→Option R) (rc:St→Option R) (d:dC):roundOf tt (bQ []) (fS aH) 0 ((ah (ar Tryd.f49)).getD 0 .skip) fM (ic d) rc K=oB K (fun d=>rc (ic d)) d:=by kernel_rfl
def mD (x1:List ad.Way) (x2:List ad.Way) (k0:Bool→Option R):Option R :=
 bif ((x1.length:Int) != (x2.length:Int))then (k0 false)else (aH (List.length x1+List.length x2+Int.natAbs (x1.length:Int)+Int.natAbs 0+64) x1 x2 (x1.length:Int) 0 (k0 true) (fun y7=>k0 y7))
theorem CS:dT (R:=R) tt [] (fS aH) false Tryd.f49 mB mC (sX (mD aH)):=fun x y k=>by kernel_rfl
end
def aH:jm R
 | 0,_,_,_,_,_,_=>none
 | n+1,eE,eF,eR,jZ,e0,e1=>fN (fun eE eF eR jZ=>aH n eE eF eR jZ e0 e1) eE eF eR jZ e0 e1
def oC (K:Ex→St→Option R) (n:Nat) (d:dC):Option R:=aH n d.1 d.2.1 d.2.2.1 d.2.2.2 (jn K) (jq K)
theorem xf (other:bO R) (ho:dK tt (bQ []) (fS (R:=R) aH) 0 ((ah (ar Tryd.f49)).getD 0 .skip) fM other):dK tt (bQ []) (fS (R:=R) aH) 0 ((ah (ar Tryd.f49)).getD 0 .skip) fM (bF eC eD (nq (aH)) other) :=
 bM (A:=oC) ho (cI ic (oB) (oC) (fun _ _=>by kernel_rfl) (vy aH) (fun _ _ _=>by kernel_rfl)) oA xD (fun _ _=>by kernel_rfl) (fun _ _ _=>by kernel_rfl)
def cP:ib R:=fun x1 x2 k0=>mD aH x1 x2 k0
theorem xE (R:Type):∀a∈ah (ar Tryd.f49),dY tt (bQ []) (fS (R:=R) aH) 0 a:=by
 refine dx 1 (by kernel_rfl) fun i hi => ?_
 match i,hi with
 | 0,_=>exact bw (by kernel_rfl) (xf _ cj)
 | n+1,hi=>omega
theorem zF (R:Type):mW Tryd.prog 49 (tO (cP (R:=R))):=bL TT mixed .n rfl rfl rfl rfl (xE R) (CS aH)

/-! ### humpyard/order.Same -/
abbrev uQ (R:Type):Type:=Order→Order→(Bool→Option R)→Option R
abbrev CT:List cu := [.agg [.int .i64, .str, .int .i64, .int .i64, .sl .stop, .sl .dt], .agg [.int .i64, .str, .int .i64, .int .i64, .sl .stop, .sl .dt]]
abbrev CU:List aw := []
def Gl (fn:uQ R):mY R CT CU:=fun x y k=>fn (⟨x.1.1,x.1.2.1,x.1.2.2.1,x.1.2.2.2.1,x.1.2.2.2.2.1,x.1.2.2.2.2.2.1⟩:Order) (⟨x.2.1.1,x.2.1.2.1,x.2.1.2.2.1,x.2.1.2.2.2.1,x.2.1.2.2.2.2.1,x.2.1.2.2.2.2.2.1⟩:Order) (fun q0=>k (.bool q0) [])
def Io (fn:uQ R):=bx CT CU (Gl fn)
section
variable (cw:gg R) (cP:ib R)
def Ip:List (xm R) := [(48,true,(qL cw aL)),(49,true,(tO cP aL))]
def CV (x1:Order) (x2:Order) (k0:Bool→Option R):Option R :=
 bif (x1.header==x2.header)then (bif (x1.ae==x2.ae)then (bif (x1.order==x2.order)then (bif (x1.update==x2.update)then (cw x1.nodes x2.nodes (fun y3=>bif y3 then (cP x1.af x2.af (fun y4=>k0 y4))else (k0 false)))else (k0 false))else (k0 false))else (k0 false))else (k0 false)
theorem Oc:dT (R:=R) tt (Ip cw cP) xo false Tryd.f32 CT CU (Gl (CV cw cP)):=fun x y k=>by kernel_rfl
end
theorem Nb:dG (R:=R) Tryd.prog (Ip (R:=R) cw cP) := .c (wZ R) <| .c (zF R) <| .n
def jr:uQ R:=fun x1 x2 k0=>CV cw cP x1 x2 k0
theorem KW (R:Type):mW Tryd.prog 32 (Io (jr (R:=R))):=bL TT mixed (Nb (R:=R)) rfl rfl rfl rfl de (Oc cw cP)

/-! ### humpyard/fleet.Same$1 -/
abbrev pM (R:Type):Type:=ad.bN→(Int→Int→Int→Int→Int→Int→Int→Option R)→Option R
abbrev xg:List cu := [.agg [.str, .int .i64, .int .i64, .int .i64, .int .i64, .int .i64, .sl (.int .i64), .int .i64, .bool, .int .i64, .bool, .int .i64, .str, .int .i64, .int .i64, .sl .stop, .sl .dt]]
abbrev xh:List aw := []
def Dw (fn:pM R):mY R xg xh:=fun x y k=>fn (⟨x.1.1,x.1.2.1,x.1.2.2.1,x.1.2.2.2.1,x.1.2.2.2.2.1,x.1.2.2.2.2.2.1,x.1.2.2.2.2.2.2.1,x.1.2.2.2.2.2.2.2.1,(t8 x.1).1,(t8 x.1).2.1,(t8 x.1).2.2.1,⟨(t8 x.1).2.2.2.1,(t8 x.1).2.2.2.2.1,(t8 x.1).2.2.2.2.2.1,(t8 x.1).2.2.2.2.2.2.1,(t8 x.1).2.2.2.2.2.2.2.1,(t8 (t8 x.1)).1⟩⟩:ad.bN) (fun q0 q1 q2 q3 q4 q5 q6=>k (.agg [.int .i64 q0, .int .i64 q1, .int .i64 q2, .int .i64 q3, .int .i64 q4, .int .i64 q5, .int .i64 q6]) [])
def EI (fn:pM R):=bx xg xh (Dw fn)
section
def xi (x1:ad.bN) (k0:Int→Int→Int→Int→Int→Int→Int→Option R):Option R :=
 k0 x1.header x1.order x1.update x1.aX x1.seen x1.seq x1.rel
theorem KX:dT (R:=R) tt [] xo false Tryd.f33 xg xh (Dw xi):=fun x y k=>by kernel_rfl
end
def fv:pM R:=fun x1 k0=>xi x1 k0
theorem Iq (R:Type):mW Tryd.prog 33 (EI (fv (R:=R))):=bL TT mixed .n rfl rfl rfl rfl de (KX)

/-! ### humpyard/fleet.Same -/
abbrev uR (R:Type):Type:=ad.bN→ad.bN→(Bool→Option R)→Option R
abbrev CW:List cu := [.agg [.str, .int .i64, .int .i64, .int .i64, .int .i64, .int .i64, .sl (.int .i64), .int .i64, .bool, .int .i64, .bool, .int .i64, .str, .int .i64, .int .i64, .sl .stop, .sl .dt], .agg [.str, .int .i64, .int .i64, .int .i64, .int .i64, .int .i64, .sl (.int .i64), .int .i64, .bool, .int .i64, .bool, .int .i64, .str, .int .i64, .int .i64, .sl .stop, .sl .dt]]
abbrev CX:List aw := []
def Gm (fn:uR R):mY R CW CX:=fun x y k=>fn (⟨x.1.1,x.1.2.1,x.1.2.2.1,x.1.2.2.2.1,x.1.2.2.2.2.1,x.1.2.2.2.2.2.1,x.1.2.2.2.2.2.2.1,x.1.2.2.2.2.2.2.2.1,(t8 x.1).1,(t8 x.1).2.1,(t8 x.1).2.2.1,⟨(t8 x.1).2.2.2.1,(t8 x.1).2.2.2.2.1,(t8 x.1).2.2.2.2.2.1,(t8 x.1).2.2.2.2.2.2.1,(t8 x.1).2.2.2.2.2.2.2.1,(t8 (t8 x.1)).1⟩⟩:ad.bN) (⟨x.2.1.1,x.2.1.2.1,x.2.1.2.2.1,x.2.1.2.2.2.1,x.2.1.2.2.2.2.1,x.2.1.2.2.2.2.2.1,x.2.1.2.2.2.2.2.2.1,x.2.1.2.2.2.2.2.2.2.1,(t8 x.2.1).1,(t8 x.2.1).2.1,(t8 x.2.1).2.2.1,⟨(t8 x.2.1).2.2.2.1,(t8 x.2.1).2.2.2.2.1,(t8 x.2.1).2.2.2.2.2.1,(t8 x.2.1).2.2.2.2.2.2.1,(t8 x.2.1).2.2.2.2.2.2.2.1,(t8 (t8 x.2.1)).1⟩⟩:ad.bN) (fun q0=>k (.bool q0) [])
def Ir (fn:uR R):=bx CW CX (Gm fn)
section
variable (fv:pM R) (jr:uQ R) (cO:hY R)
def Iu:List (xm R) := [(33,true,(EI fv aL)),(32,true,(Io jr aL)),(31,true,(tN cO aL))]
def CY (x1:ad.bN) (x2:ad.bN) (k0:Bool→Option R):Option R :=
 cO x1.path x2.path (fun y3=>bif (!y3)then (k0 false)else (jr x1.pending x2.pending (fun y4=>bif (!y4)then (k0 false)else (bif (x1.ae==x2.ae)then (fv x1 (fun y6 y7 y8 y9 vD uJ pH=>fv x2 (fun IL Bk Kb OS OT RH YA=>bif (y6==IL&&(y7==Bk&&(y8==Kb&&(y9==OS&&(vD==OT&&(uJ==RH&&(pH==YA&&true)))))))then (bif (x1.open_==x2.open_)then (k0 (x1.wait==x2.wait))else (k0 false))else (k0 false))))else (k0 false)))))
theorem Od:dT (R:=R) tt (Iu fv jr cO) xo false Tryd.f14 CW CX (Gm (CY fv jr cO)):=fun x y k=>by kernel_rfl
end
theorem Nc:dG (R:=R) Tryd.prog (Iu (R:=R) fv jr cO) := .c (Iq R) <| .c (KW R) <| .c (zw R) <| .n
def cq:uR R:=fun x1 x2 k0=>CY fv jr cO x1 x2 k0
theorem KY (R:Type):mW Tryd.prog 14 (Ir (cq (R:=R))):=bL TT mixed (Nc (R:=R)) rfl rfl rfl rfl de (Od fv jr cO)

/-! ### humpyard/humpyardref18.Next -/
abbrev uS (R:Type):Type:=ad.bN→Int→(ad.bN→Order→Bool→Option R)→Option R
abbrev CZ:List cu := [.agg [.str, .int .i64, .int .i64, .int .i64, .int .i64, .int .i64, .sl (.int .i64), .int .i64, .bool, .int .i64, .bool, .int .i64, .str, .int .i64, .int .i64, .sl .stop, .sl .dt], .leaf (.int .i64)]
abbrev C0:List aw := []
def Gn (fn:uS R):mY R CZ C0:=fun x y k=>fn (⟨x.1.1,x.1.2.1,x.1.2.2.1,x.1.2.2.2.1,x.1.2.2.2.2.1,x.1.2.2.2.2.2.1,x.1.2.2.2.2.2.2.1,x.1.2.2.2.2.2.2.2.1,(t8 x.1).1,(t8 x.1).2.1,(t8 x.1).2.2.1,⟨(t8 x.1).2.2.2.1,(t8 x.1).2.2.2.2.1,(t8 x.1).2.2.2.2.2.1,(t8 x.1).2.2.2.2.2.2.1,(t8 x.1).2.2.2.2.2.2.2.1,(t8 (t8 x.1)).1⟩⟩:ad.bN) x.2.1 (fun q0 q1 q2=>k (.tuple [.agg [.str q0.ae, .int .i64 q0.header, .int .i64 q0.order, .int .i64 q0.update, .int .i64 q0.aX, .int .i64 q0.seen, .sl (.int .i64) q0.path .no, .int .i64 q0.seq, .bool q0.open_, .int .i64 q0.rel, .bool q0.wait, .int .i64 q0.pending.header, .str q0.pending.ae, .int .i64 q0.pending.order, .int .i64 q0.pending.update, .sl .stop q0.pending.nodes .no, .sl .dt q0.pending.af .no], .agg [.int .i64 q1.header, .str q1.ae, .int .i64 q1.order, .int .i64 q1.update, .sl .stop q1.nodes .no, .sl .dt q1.af .no], .bool q2]) [])
def Iv (fn:uS R):=bx CZ C0 (Gn fn)
section
variable (cy:nk R) (aB:jE R) (bC:lW R)
def Iw:List (xm R) := [(38,true,(zD cy aL)),(28,true,(sB aB aL)),(29,true,(vT bC aL))]
def C1 (x1:ad.bN) (x2:Int) (k0:ad.bN→Order→Bool→Option R):Option R :=
 aB x1 (fun y3=>bC y3.path (fun y4=>bif (!y4)then (k0 y3 (⟨0,([]:aA),0,0,([]:List Stop),([]:List ad.Way)⟩:Order) false)else (bif (decide (y3.rel<(0:Int)))then (k0 y3 (⟨0,([]:aA),0,0,([]:List Stop),([]:List ad.Way)⟩:Order) false)else (bif y3.wait then (aB y3 (fun y6=>k0 y3 y6.pending true))else (let Zj:=fun (z7:Int)=>let j15:=fun (z8:Bool)=>bif z8 then (cy (⟨(IntKind.i64.wrap (y3.header+1)),y3.ae,(IntKind.i64.wrap (y3.order+1)),0,([]:List Stop),([]:List ad.Way)⟩:Order) y3.path 0 (IntKind.i64.wrap ((min z7 63)+1)) (fun y9 vD=>bif (!vD)then (k0 y3 (⟨0,([]:aA),0,0,([]:List Stop),([]:List ad.Way)⟩:Order) false)else (aB (⟨y3.ae,(IntKind.i64.wrap (y3.header+1)),(IntKind.i64.wrap (y3.order+1)),0,y3.aX,y3.seen,y3.path,0,true,(min z7 63),true,⟨y9.header,y9.ae,y9.order,y9.update,y9.nodes,y9.af⟩⟩:ad.bN) (fun OS=>k0 (⟨y3.ae,(IntKind.i64.wrap (y3.header+1)),(IntKind.i64.wrap (y3.order+1)),0,y3.aX,y3.seen,y3.path,0,true,(min z7 63),true,⟨y9.header,y9.ae,y9.order,y9.update,y9.nodes,y9.af⟩⟩:ad.bN) OS.pending true))))else (let YG:=fun (KD:Bool)=>bif KD then (cC (decide ((0:Int)≤(IntKind.i64.wrap (2*y3.rel)))&&decide ((IntKind.i64.wrap (2*y3.rel))≤y3.path.length)) (cy (⟨(IntKind.i64.wrap (y3.header+1)),y3.ae,y3.order,(IntKind.i64.wrap (y3.update+1)),([]:List Stop),([]:List ad.Way)⟩:Order) (y3.path.drop (IntKind.i64.wrap (2*y3.rel)).toNat) (IntKind.i64.wrap (y3.seq+(IntKind.i64.wrap (2*y3.rel)))) (IntKind.i64.wrap ((IntKind.i64.wrap ((min z7 (IntKind.i64.wrap (y3.rel+63))) - y3.rel))+1)) (fun pH IL=>bif (!IL)then (k0 y3 (⟨0,([]:aA),0,0,([]:List Stop),([]:List ad.Way)⟩:Order) false)else (aB (⟨y3.ae,(IntKind.i64.wrap (y3.header+1)),y3.order,(IntKind.i64.wrap (y3.update+1)),y3.aX,y3.seen,y3.path,y3.seq,true,(min z7 (IntKind.i64.wrap (y3.rel+63))),true,⟨pH.header,pH.ae,pH.order,pH.update,pH.nodes,pH.af⟩⟩:ad.bN) (fun OT=>k0 (⟨y3.ae,(IntKind.i64.wrap (y3.header+1)),y3.order,(IntKind.i64.wrap (y3.update+1)),y3.aX,y3.seen,y3.path,y3.seq,true,(min z7 (IntKind.i64.wrap (y3.rel+63))),true,⟨pH.header,pH.ae,pH.order,pH.update,pH.nodes,pH.af⟩⟩:ad.bN) OT.pending true)))))else (k0 y3 (⟨0,([]:aA),0,0,([]:List Stop),([]:List ad.Way)⟩:Order) false); bif y3.open_ then (bif (decide (y3.rel≥(0:Int)))then (bif (decide (y3.rel<z7))then (bif (decide (y3.header<(1000000000:Int)))then (YG (decide (y3.update<(1000000000:Int))))else (YG false))else (YG false))else (YG false))else (YG false)); bif (!y3.open_)then (bif (decide ((IntKind.i64.wrap (Int.tdiv (y3.path.length:Int) 2))>(0:Int)))then (bif (decide (y3.header<(1000000000:Int)))then (j15 (decide (y3.order<(1000000000:Int))))else (j15 false))else (j15 false))else (j15 false); bif (decide (x2>(0:Int)))then (Zj (min x2 (IntKind.i64.wrap (Int.tdiv (y3.path.length:Int) 2))))else (Zj (IntKind.i64.wrap (Int.tdiv (y3.path.length:Int) 2))))))))
theorem Oe:dT (R:=R) tt (Iw cy aB bC) xo false Tryd.f16 CZ C0 (Gn (C1 cy aB bC)):=fun x y k=>by kernel_rfl
end
theorem Nd:dG (R:=R) Tryd.prog (Iw (R:=R) cy aB bC) := .c (A3 R) <| .c (sC R) <| .c (vu R) <| .n
def cA:uS R:=fun x1 x2 k0=>C1 cy aB bC x1 x2 k0
theorem KZ (R:Type):mW Tryd.prog 16 (Iv (cA (R:=R))):=bL TT mixed (Nd (R:=R)) rfl rfl rfl rfl de (Oe cy aB bC)

/-! ### humpyard/humpyardref09.num -/
abbrev vZ (R:Type):Type:=Int→(Bool→Option R)→Option R
abbrev EJ:List cu := [.leaf (.int .i64)]
abbrev EK:List aw := []
def Ix (fn:vZ R):mY R EJ EK:=fun x y k=>fn x.1 (fun q0=>k (.bool q0) [])
def Kj (fn:vZ R):=bx EJ EK (Ix fn)
section
def EL (x1:Int) (k0:Bool→Option R):Option R :=
 bif (decide (x1≥(0:Int)))then (k0 (decide (x1≤(1000000000:Int))))else (k0 false)
theorem P7:dT (R:=R) tt [] xo false Tryd.f61 EJ EK (Ix EL):=fun x y k=>by kernel_rfl
end
def eZ:vZ R:=fun x1 k0=>EL x1 k0
theorem Nf (R:Type):mW Tryd.prog 61 (Kj (eZ (R:=R))):=bL TT mixed .n rfl rfl rfl rfl de (P7)

/-! ### humpyard/humpyardref09.Right -/
abbrev sY (R:Type):Type:=ad.State→(Bool→Option R)→Option R
abbrev zG:List cu := [.agg [.int .i64, .int .i64, .str, .int .i64, .int .i64, .bool, .int .i64, .int .i64, .bool, .int .i64]]
abbrev zH:List aw := []
def EM (fn:sY R):mY R zG zH:=fun x y k=>fn (⟨x.1.1,x.1.2.1,x.1.2.2.1,x.1.2.2.2.1,x.1.2.2.2.2.1,x.1.2.2.2.2.2.1,x.1.2.2.2.2.2.2.1,x.1.2.2.2.2.2.2.2.1,(t8 x.1).1,(t8 x.1).2.1⟩:ad.State) (fun q0=>k (.bool q0) [])
def Gp (fn:sY R):=bx zG zH (EM fn)
section
variable (cp:pD R) (eZ:vZ R)
def Gq:List (xm R) := [(60,true,(CL cp aL)),(61,true,(Kj eZ aL))]
def zI (x1:ad.State) (k0:Bool→Option R):Option R :=
 cp x1.ae (fun y2=>bif y2 then (eZ x1.header (fun y3=>bif y3 then (eZ x1.aX (fun y4=>bif y4 then (eZ x1.order (fun y5=>bif y5 then (eZ x1.update (fun y6=>bif y6 then (eZ x1.node (fun y7=>bif y7 then (eZ x1.seq (fun y8=>bif y8 then (eZ x1.accepted (fun y9=>bif y9 then (bif ((Int.tmod x1.seq 2)==0)then (bif x1.live then (k0 true)else (k0 (!x1.dW)))else (k0 false))else (k0 false)))else (k0 false)))else (k0 false)))else (k0 false)))else (k0 false)))else (k0 false)))else (k0 false)))else (k0 false))
theorem Ng:dT (R:=R) tt (Gq cp eZ) xo false Tryd.f43 zG zH (EM (zI cp eZ)):=fun x y k=>by kernel_rfl
end
theorem K0:dG (R:=R) Tryd.prog (Gq (R:=R) cp eZ) := .c (Du R) <| .c (Nf R) <| .n
def c4:sY R:=fun x1 k0=>zI cp eZ x1 k0
theorem JH (R:Type):mW Tryd.prog 43 (Gp (c4 (R:=R))):=bL TT mixed (K0 (R:=R)) rfl rfl rfl rfl de (Ng cp eZ)

/-! ### humpyard/humpyardref09.Newer -/
abbrev sZ (R:Type):Type:=ad.State→ad.State→(Bool→Option R)→Option R
abbrev zJ:List cu := [.agg [.int .i64, .int .i64, .str, .int .i64, .int .i64, .bool, .int .i64, .int .i64, .bool, .int .i64], .agg [.int .i64, .int .i64, .str, .int .i64, .int .i64, .bool, .int .i64, .int .i64, .bool, .int .i64]]
abbrev zK:List aw := []
def EN (fn:sZ R):mY R zJ zK:=fun x y k=>fn (⟨x.1.1,x.1.2.1,x.1.2.2.1,x.1.2.2.2.1,x.1.2.2.2.2.1,x.1.2.2.2.2.2.1,x.1.2.2.2.2.2.2.1,x.1.2.2.2.2.2.2.2.1,(t8 x.1).1,(t8 x.1).2.1⟩:ad.State) (⟨x.2.1.1,x.2.1.2.1,x.2.1.2.2.1,x.2.1.2.2.2.1,x.2.1.2.2.2.2.1,x.2.1.2.2.2.2.2.1,x.2.1.2.2.2.2.2.2.1,x.2.1.2.2.2.2.2.2.2.1,(t8 x.2.1).1,(t8 x.2.1).2.1⟩:ad.State) (fun q0=>k (.bool q0) [])
def Gr (fn:sZ R):=bx zJ zK (EN fn)
section
def zL (x1:ad.State) (x2:ad.State) (k0:Bool→Option R):Option R :=
 bif (decide (x1.aX>x2.aX))then (k0 true)else (bif (x1.aX==x2.aX)then (k0 (decide (x1.header>x2.header)))else (k0 false))
theorem Nh:dT (R:=R) tt [] xo false Tryd.f44 zJ zK (EN zL):=fun x y k=>by kernel_rfl
end
def c6:sZ R:=fun x1 x2 k0=>zL x1 x2 k0
theorem JI (R:Type):mW Tryd.prog 44 (Gr (c6 (R:=R))):=bL TT mixed .n rfl rfl rfl rfl de (Nh)

/-! ### humpyard/humpyardref18.has -/
abbrev v8 (R:Type):Type:=(List Int)→Int→(Bool→Option R)→Option R
abbrev EO:List cu := [.leaf (.sl (.int .i64)), .leaf (.int .i64)]
abbrev EP:List aw := []
def Iy (fn:v8 R):mY R EO EP:=fun x y k=>fn x.1 x.2.1 (fun q0=>k (.bool q0) [])
def Kk (fn:v8 R):=bx EO EP (Iy fn)
abbrev uz (R:Type):Type:=Nat→(List Int)→Int→Int→(Option R)→(Bool→Option R)→Option R
def pN:Hint := { live := [0,1,5],own := [],rows := [],cells := [],drop := [],out := [4] }
abbrev jH:Type:=(List Int)×Int×Int
def s8:jH→St:=fun d=>⟨.sl (.int .i64) d.1 .no :: .int .i64 d.2.1::U 3 (.int .i64 d.2.2::U 12 ([])), []⟩
def uA (K:Ex→St→Option R):Option R:=K (.exit 0) ⟨U 18 ([]), []⟩
def uB (K:Ex→St→Option R) (q0:Bool):Option R:=K (.ret) ⟨U 4 (.bool q0::U 13 ([])), []⟩
abbrev lP:List cu := .leaf (.sl (.int .i64)) :: .leaf (.int .i64)::PU 3 (.leaf (.int .i64)::PU 12 ([]))
abbrev lQ:List aw := []
def Dx (x:cu.aQ lP) (y:aw.aQ lQ):Nat:=(List.length x.1+Int.natAbs x.2.1+Int.natAbs x.2.2.2.2.2.1+64)
def K1 (x:cu.aQ lP) (y:aw.aQ lQ):jH:=(x.1,x.2.1,x.2.2.2.2.2.1)
def A4 (L:uz R):nD R lP lQ:=fun x y K=>L (Dx x y) x.1 x.2.1 x.2.2.2.2.2.1 (uA K) (uB K)
section
variable (cm:uz R)
def pO (bS:(List Int)→Int→Int→Option R) (x3:List Int) (x4:Int) (x5:Int) (e0:Option R) (e1:Bool→Option R):Option R :=
 bif (decide (x5<(x3.length:Int)))then (cC (decide ((0:Int)≤x5)&&decide (x5<x3.length)) (bif ((x3.getD x5.toNat (Ty.aC (.int .i64)))==x4)then (e1 true)else (bS x3 x4 (IntKind.i64.wrap (x5+1)))))else (e0)
def Dy (K:Ex→St→Option R) (rc:jH→Option R) (d:jH):Option R:=pO (fun z0 z1 z2=>rc (z0,z1,z2)) d.1 d.2.1 d.2.2 (uA K) (uB K)
def u5:Nat→Option (Hint×bO R):=fun i=>match i with
 | 2=>some (pN,(bF lP lQ (A4 cm) dZ))
 | _=>none
theorem G5 (K:Ex→St→Option R) (rc:St→Option R) (d:jH):roundOf tt (bQ []) (u5 cm) 0 ((ah (ar Tryd.f45)).getD 0 .skip) pN (s8 d) rc K=Dy K (fun d=>rc (s8 d)) d:=by kernel_rfl
def ER (x1:List Int) (x2:Int) (k0:Bool→Option R):Option R :=
 cm (List.length x1+Int.natAbs x2+Int.natAbs 0+64) x1 x2 0 (k0 false) (fun y6=>k0 y6)
theorem P8:dT (R:=R) tt [] (u5 cm) false Tryd.f45 EO EP (Iy (ER cm)):=fun x y k=>by kernel_rfl
end
def cm:uz R
 | 0,_,_,_,_,_=>none
 | n+1,eE,eF,eR,e0,e1=>pO (fun eE eF eR=>cm n eE eF eR e0 e1) eE eF eR e0 e1
def Dz (K:Ex→St→Option R) (n:Nat) (d:jH):Option R:=cm n d.1 d.2.1 d.2.2 (uA K) (uB K)
theorem JJ (other:bO R) (ho:dK tt (bQ []) (u5 (R:=R) cm) 0 ((ah (ar Tryd.f45)).getD 0 .skip) pN other):dK tt (bQ []) (u5 (R:=R) cm) 0 ((ah (ar Tryd.f45)).getD 0 .skip) pN (bF lP lQ (A4 (cm)) other) :=
 bM (A:=Dz) ho (cI s8 (Dy) (Dz) (fun _ _=>by kernel_rfl) (G5 cm) (fun _ _ _=>by kernel_rfl)) Dx K1 (fun _ _=>by kernel_rfl) (fun _ _ _=>by kernel_rfl)
def cB:v8 R:=fun x1 x2 k0=>ER cm x1 x2 k0
theorem K2 (R:Type):∀a∈ah (ar Tryd.f45),dY tt (bQ []) (u5 (R:=R) cm) 0 a:=by
 refine dx 1 (by kernel_rfl) fun i hi => ?_
 match i,hi with
 | 0,_=>exact bw (by kernel_rfl) (JJ _ cj)
 | n+1,hi=>omega
theorem Ni (R:Type):mW Tryd.prog 45 (Kk (cB (R:=R))):=bL TT mixed .n rfl rfl rfl rfl (K2 R) (P8 cm)

end Go.Proofs.YtolnaonmpohciaaDoor

set_option maxRecDepth 100000
namespace Go.Proofs.YtolnaonmpohciaaDoor
open Go Go.ad Go.Lib

theorem ff {α:Type} (b:Bool) (x y:α):(bif !b then x else y)=bif b then y else x:=by cases b <;> rfl
theorem eO {α:Type} [DecidableEq α] (a b:α):(a != b) = !decide (a=b):=by
 by_cases h:a=b <;> simp[h]
theorem kl {α:Type} [DecidableEq α] (a b:α):(a==b)=decide (a=b):=by
 by_cases h:a=b <;> simp[h]
theorem cD {i n:Nat} (h:i<n):(decide ((0:Int)≤(i:Int))&&decide ((i:Int)<(n:Int)))=true:=by rw[au (by omega),au (by omega)]; rfl
theorem gT (i:Nat):(decide ((0:Int)≤(i:Int))&&true)=true:=by rw[au (by omega)]; rfl
theorem dU {i n:Nat} (h:i<n) (hn:n≤4000000000000):IntKind.i64.wrap ((i:Int)+1)=((i+1:Nat):Int):=by rw[eH (by omega) (by omega)]; omega

theorem topicName_ok {R:Type} (s:aA) (k:Bool→Option R):topic_Name s k=k (nc s):=by
 unfold topic_Name topic_Name_X
 rw[aJ (by decide +kernel),←VU s]
 show (bif (og s HP==([]:aA))then (bif (!(s==([]:aA)))then k (decide ((s.length:Int)≤16))else k false)else k false)=_
 cases (og s HP==([]:aA)) <;> cases (s==([]:aA)) <;> rfl

theorem num1_ok {R:Type} (n:Int) (k:Bool→Option R):di n k=k (!bA n):=by
 unfold di yU bA
 by_cases h:n<0
 ·rw[au h,cond_true,az (show ¬(0:Int)≤n by omega)]; rfl
 ·rw[az h,cond_false,au (show (0:Int)≤n by omega)]
  by_cases h2:n>1000000000
  ·rw[au h2,az (show ¬n≤1000000000 by omega)]; rfl
  ·rw[az h2,au (show n≤1000000000 by omega)]; rfl
theorem YH {R:Type} (l:List Int) (hl:l.length≤1000000) (e0 X:Option R) (e1:Int→Option R) (h1:∀j:Nat,e1 (j:Int)=X):∀(F i:Nat),i≤l.length→l.length - i<F →
  ao F l (l.length:Int) (i:Int) e0 e1=if (l.drop i).all bA then e0 else X:=by
 intro F
 induction F with
 | zero=>intro i _ hF; omega
 | succ F ih =>
  intro i hi hF
  show dE di (fun x0 x1 x2=>ao F x0 x1 x2 e0 e1) l (l.length:Int) (i:Int) e0 e1=_
  unfold dE
  by_cases h:i<l.length
  ·have hg:l.getD (i:Int).toNat (Ty.aC (.int .i64))=l[i]:=getD_at h _
   rw[au (show (i:Int)<(l.length:Int) by omega),cond_true,aJ (gT i),hg,num1_ok,ff,dU h (by omega)]
   dsimp only
   rw[ih (i+1) (by omega) (by omega),h1,List.drop_eq_getElem_cons h,List.all_cons]
   cases bA l[i] <;> rfl
  ·rw[az (show ¬(i:Int)<(l.length:Int) by omega),cond_false,List.drop_eq_nil_of_le (by omega)]
   rfl
theorem Tq {R:Type} (l:List Int) (hl:l.length≤1000000) (k:Bool→Option R):dw l k=k (l.all bA):=by
 unfold dw Ed bk fj bJ fX
 refine (YH l hl _ (k false) _ (fun j => ?_) _ 0 (by omega) (by omega)).trans ?_
 ·show k (!decide ((j:Int)≥0))=_
  rw[au (by omega)]; rfl
 ·rw[List.drop_zero]
  cases l.all bA <;> rfl

theorem Tr {R:Type} (o:Order) (hn:o.nodes.length≤64) (he:o.af.length+1=o.nodes.length) (k:Bool→Option R):∀(F i:Nat),i≤o.af.length→o.af.length - i<F→bA (o.nodes.getD i Stop.z).seq=true →
  bK F o.af (o.af.length:Int) (i:Int) o (k true) (fun y=>k y)=k (nd (o.nodes.getD i Stop.z) (o.af.drop i) (o.nodes.drop (i+1))):=by
 intro F
 induction F with
 | zero=>intro i _ hF; omega
 | succ F ih =>
  intro i hi hF hs
  show mM dw (fun x0 x1 x2 x3=>bK F x0 x1 x2 x3 (k true) (fun y=>k y)) o.af (o.af.length:Int) (i:Int) o (k true) (fun y=>k y)=_
  unfold mM
  by_cases h:i<o.af.length
  ·have h':i+1<o.nodes.length:=by omega
   have hge:o.af.getD (i:Int).toNat (Ty.aC .dt)=o.af[i]:=getD_at h _
   have hgf:o.nodes.getD (i:Int).toNat (Ty.aC .stop)=o.nodes[i]:=getD_at (by omega) _
   have hgf':o.nodes.getD i Stop.z=o.nodes[i]:=getD_at (by omega) _
   have hgt:o.nodes.getD ((i+1:Nat):Int).toNat (Ty.aC .stop)=o.nodes[i+1]:=getD_at h' _
   have hgt':o.nodes.getD (i+1) Stop.z=o.nodes[i+1]:=getD_at h' _
   have ih:=ih (i+1) (by omega) (by omega)
   rw[au (show (i:Int)<(o.af.length:Int) by omega),cond_true,aJ (gT i),aJ (cD (show i<o.nodes.length by omega)),dU h (by omega),aJ (cD h'),hge,hgf,hgt,Tq _ (by simp)]
   rw[List.drop_eq_getElem_cons h,List.drop_eq_getElem_cons h',hgf']
   rw[hgt']at ih
   rw[hgf']at hs
   generalize o.af[i]=e at *
   generalize o.nodes[i]=f at *
   generalize o.nodes[i+1]=t at *
   have eA:([e.fk,e.seq,t.node,t.seq]:List Int).all bA=(bA e.fk&&bA e.seq&&bA t.node&&bA t.seq):=by simp only[List.all_cons,List.all_nil,Bool.and_true,Bool.and_assoc]
   simp only[nd,eA]
   cases hA:(bA e.fk&&bA e.seq&&bA t.node&&bA t.seq)with
   | false=>rfl
   | true =>
    simp only[Bool.and_eq_true]at hA
    have b1:=wj.1 hs
    have b2:=wj.1 hA.1.1.2
    rw[Bool.not_true,cond_false,eH (n:=f.seq+1) (by omega) (by omega),eH (n:=e.seq+1) (by omega) (by omega),eO,ff,eO,ff,ff,ff]
    rw[show (fun y:Bool=>k y)=k from rfl]at ih ⊢
    rw[ih hA.2]
    cases decide (e.seq=f.seq+1) <;> cases decide (t.seq=e.seq+1) <;> cases (e.ax==t.ax) <;> cases t.ax <;> cases f.ax <;> rfl
  ·rw[az (show ¬(i:Int)<(o.af.length:Int) by omega),cond_false,List.drop_eq_nil_of_le (by omega),List.drop_eq_nil_of_le (by omega)]
   rfl
theorem Of {R:Type} (o:Order) (hn:o.nodes.length≤4000000000000) (k:Bool→Option R):dJ o k=k (wQ o):=by
 unfold dJ yX
 rw[topicName_ok,Tq _ (by simp)]
 have e3:([o.header,o.order,o.update]:List Int).all bA=(bA o.header&&bA o.order&&bA o.update):=by simp only[List.all_cons,List.all_nil,Bool.and_true,Bool.and_assoc]
 have hr:wQ o=(nc o.ae&&(bA o.header&&bA o.order&&bA o.update)&&(match o.nodes with
  | []=>false
  | f::ns=>decide (ns.length<64)&&(decide (Int.tmod f.seq 2=0)&&f.ax)&&(bA f.node&&bA f.seq)&&nd f o.af ns)):=rfl
 rw[hr,e3]
 cases nc o.ae with
 | false=>rfl
 | true =>
 cases (bA o.header&&bA o.order&&bA o.update)with
 | false=>rfl
 | true =>
 simp only[Bool.not_true,cond_false,Bool.true_and]
 cases hs:o.nodes with
 | nil=>rfl
 | cons f ns =>
  rw[hs]at hn
  simp only[List.length_cons]at hn ⊢
  rw[az (show ¬((ns.length+1:Nat):Int)<1 by omega),cond_false]
  by_cases h64:ns.length<64
  rotate_left
  ·rw[au (show ((ns.length+1:Nat):Int)>64 by omega),az h64]
   rfl
  rw[az (show ¬((ns.length+1:Nat):Int)>64 by omega),cond_false,au h64,eH (n:=((ns.length+1:Nat):Int) - 1) (by omega) (by omega),eO,ff]
  by_cases hl:o.af.length=ns.length
  rotate_left
  ·rw[az (show ¬(o.af.length:Int)=((ns.length+1:Nat):Int) - 1 by omega),cond_false]
   have:nd f o.af ns=false:=by
    cases hq:nd f o.af ns with
    | false=>rfl
    | true=>exact (hl (RE _ _ _ hq).1).elim
   rw[this,Bool.and_false]
  rw[au (show (o.af.length:Int)=((ns.length+1:Nat):Int) - 1 by omega),cond_true,aJ (au (by omega)),eO,ff,ff]
  have hg:(f::ns).getD 0 (Ty.aC .stop)=f:=rfl
  rw[hg,Tq _ (by simp)]
  have e2:([f.node,f.seq]:List Int).all bA=(bA f.node&&bA f.seq):=by simp only[List.all_cons,List.all_nil,Bool.and_true]
  rw[e2]
  cases hN:(bA f.node&&bA f.seq)with
  | false=>cases decide (Int.tmod f.seq 2=0) <;> cases f.ax <;> rfl
  | true =>
   simp only[Bool.and_eq_true]at hN
   have hL:=Tr o (by rw[hs]; simp; omega) (by rw[hs]; simp; omega) k (List.length o.af+Int.natAbs (o.af.length:Int)+Int.natAbs 0+Order.fu o+64) 0 (by omega) (by omega) (by rw[hs]; exact hN.2)
   rw[hs]at hL
   have hL':=hL
   simp only[List.drop_zero,List.drop_succ_cons]at hL'
   rw[Bool.not_true,cond_false]
   have hL2:bK (List.length o.af+Int.natAbs (o.af.length:Int)+Int.natAbs 0+Order.fu o+64) o.af (o.af.length:Int) 0 o (k true) (fun pH=>k pH)=k (nd f o.af ns):=hL'
   rw[hL2]
   cases decide (Int.tmod f.seq 2=0) <;> cases f.ax <;> cases nd f o.af ns <;> rfl

def R6:List Stop→List Stop→Bool
 | [], []=>true
 | x::l,y::m=>(x.node==y.node&&(x.seq==y.seq&&(x.ax==y.ax&&true)))&&R6 l m
 | _,_=>false
def Ts:List ad.Way→List ad.Way→Bool
 | [], []=>true
 | x::l,y::m=>(x.fk==y.fk&&(x.seq==y.seq&&(x.ax==y.ax&&true)))&&Ts l m
 | _,_=>false
theorem P9:∀ {a b:List Stop},R6 a b=true↔a=b
 | [], []=>by simp[R6]
 | x::l,y::m=>by
  obtain ⟨a1,a2,a3⟩:=x
  obtain ⟨b1,b2,b3⟩:=y
  simp[R6,P9 (a:=l) (b:=m),and_assoc]
 | [],_::_=>by simp[R6]
 | _::_, []=>by simp[R6]
theorem Qa:∀ {a b:List ad.Way},Ts a b=true↔a=b
 | [], []=>by simp[Ts]
 | x::l,y::m=>by
  obtain ⟨a1,a2,a3⟩:=x
  obtain ⟨b1,b2,b3⟩:=y
  simp[Ts,Qa (a:=l) (b:=m),and_assoc]
 | [],_::_=>by simp[Ts]
 | _::_, []=>by simp[Ts]
theorem Ut {a b:List Stop} (h:a.length≠b.length):R6 a b=false:=Bool.eq_false_iff.2 fun e=>h (by rw[P9.1 e])
theorem Uu {a b:List ad.Way} (h:a.length≠b.length):Ts a b=false:=Bool.eq_false_iff.2 fun e=>h (by rw[Qa.1 e])
def ES (a b:Order):Bool:=a.header==b.header&&(a.ae==b.ae&&(a.order==b.order&&(a.update==b.update&&(R6 a.nodes b.nodes&&Ts a.af b.af))))
theorem VY {a b:Order}:ES a b=true↔a=b:=by
 obtain ⟨a1,a2,a3,a4,a5,a6⟩:=a
 obtain ⟨b1,b2,b3,b4,b5,b6⟩:=b
 simp[ES,P9,Qa]
theorem Nj (a:Order):ES a a=true:=VY.2 rfl
theorem YI {R:Type} (a b:List Stop) (hl:a.length=b.length) (ha:a.length≤1099511627776) (e0:Option R) (e1:Bool→Option R):∀(F i:Nat),i≤a.length→a.length - i<F →
  ay F a b (a.length:Int) (i:Int) e0 e1=bif R6 (a.drop i) (b.drop i)then e0 else e1 false:=by
 intro F
 induction F with
 | zero=>intro i _ hF; omega
 | succ F ih =>
  intro i hi hF
  show fe (fun x0 x1 x2 x3=>ay F x0 x1 x2 x3 e0 e1) a b (a.length:Int) (i:Int) e0 e1=_
  unfold fe
  by_cases h:i<a.length
  ·have ga:a.getD (i:Int).toNat (Ty.aC .stop)=a[i]:=getD_at h _
   have gb:b.getD (i:Int).toNat (Ty.aC .stop)=b[i]:=getD_at (by omega) _
   rw[au (show (i:Int)<(a.length:Int) by omega),cond_true,aJ (gT i),aJ (cD (show i<b.length by omega)),ga,gb,dU h (by omega)]
   dsimp only
   rw[ih (i+1) (by omega) (by omega),List.drop_eq_getElem_cons h,List.drop_eq_getElem_cons (show i<b.length by omega),ff]
   simp only[R6]
   cases (a[i].node==b[i].node&&(a[i].seq==b[i].seq&&(a[i].ax==b[i].ax&&true))) <;> rfl
  ·rw[az (show ¬(i:Int)<(a.length:Int) by omega),cond_false,List.drop_eq_nil_of_le (by omega),List.drop_eq_nil_of_le (by omega)]
   rfl
theorem YJ {R:Type} (a b:List ad.Way) (hl:a.length=b.length) (ha:a.length≤1099511627776) (e0:Option R) (e1:Bool→Option R):∀(F i:Nat),i≤a.length→a.length - i<F →
  aH F a b (a.length:Int) (i:Int) e0 e1=bif Ts (a.drop i) (b.drop i)then e0 else e1 false:=by
 intro F
 induction F with
 | zero=>intro i _ hF; omega
 | succ F ih =>
  intro i hi hF
  show fN (fun x0 x1 x2 x3=>aH F x0 x1 x2 x3 e0 e1) a b (a.length:Int) (i:Int) e0 e1=_
  unfold fN
  by_cases h:i<a.length
  ·have ga:a.getD (i:Int).toNat (Ty.aC .dt)=a[i]:=getD_at h _
   have gb:b.getD (i:Int).toNat (Ty.aC .dt)=b[i]:=getD_at (by omega) _
   rw[au (show (i:Int)<(a.length:Int) by omega),cond_true,aJ (gT i),aJ (cD (show i<b.length by omega)),ga,gb,dU h (by omega)]
   dsimp only
   rw[ih (i+1) (by omega) (by omega),List.drop_eq_getElem_cons h,List.drop_eq_getElem_cons (show i<b.length by omega),ff]
   simp only[Ts]
   cases (a[i].fk==b[i].fk&&(a[i].seq==b[i].seq&&(a[i].ax==b[i].ax&&true))) <;> rfl
  ·rw[az (show ¬(i:Int)<(a.length:Int) by omega),cond_false,List.drop_eq_nil_of_le (by omega),List.drop_eq_nil_of_le (by omega)]
   rfl
theorem eqS_ok {R:Type} (a b:List Stop) (ha:a.length≤1099511627776) (k:Bool→Option R):cw a b k=k (R6 a b):=by
 unfold cw kO
 rw[eO,ff]
 by_cases hl:a.length=b.length
 ·rw[au (show (a.length:Int)=(b.length:Int) by omega),cond_true]
  refine (YI a b hl ha _ _ _ 0 (by omega) (by omega)).trans ?_
  rw[List.drop_zero,List.drop_zero]
  cases R6 a b <;> rfl
 ·rw[az (show ¬(a.length:Int)=(b.length:Int) by omega),Ut hl]
  rfl
theorem eqW_ok {R:Type} (a b:List ad.Way) (ha:a.length≤1099511627776) (k:Bool→Option R):cP a b k=k (Ts a b):=by
 unfold cP mD
 rw[eO,ff]
 by_cases hl:a.length=b.length
 ·rw[au (show (a.length:Int)=(b.length:Int) by omega),cond_true]
  refine (YJ a b hl ha _ _ _ 0 (by omega) (by omega)).trans ?_
  rw[List.drop_zero,List.drop_zero]
  cases Ts a b <;> rfl
 ·rw[az (show ¬(a.length:Int)=(b.length:Int) by omega),Uu hl]
  rfl
theorem Qb {R:Type} (a b:Order) (ha:a.nodes.length≤1099511627776) (he:a.af.length≤1099511627776) (k:Bool→Option R):jr a b k=k (ES a b):=by
 unfold jr CV ES
 simp only[eqS_ok _ _ ha,eqW_ok _ _ he]
 cases (a.header==b.header) <;> cases (a.ae==b.ae) <;> cases (a.order==b.order) <;> cases (a.update==b.update) <;> cases R6 a.nodes b.nodes <;> rfl




theorem RI {R:Type} (a b:Order) (hl:a.nodes.length=b.nodes.length) (ha:a.nodes.length≤1099511627776) (e0:Order→Order→Option R) (e1:Bool→Order→Order→Option R):∀(F i:Nat),i≤a.nodes.length→a.nodes.length - i<F →
  bq F (i:Int) a b e0 e1=bif R6 (a.nodes.drop i) (b.nodes.drop i)then e0 a b else e1 false a b:=by
 intro F
 induction F with
 | zero=>intro i _ hF; omega
 | succ F ih =>
  intro i hi hF
  show nO (fun x0 x1 x2=>bq F x0 x1 x2 e0 e1) (i:Int) a b e0 e1=_
  unfold nO
  by_cases h:i<a.nodes.length
  ·have ga:a.nodes.getD (i:Int).toNat (Ty.aC .stop)=a.nodes[i]:=getD_at h _
   have gb:b.nodes.getD (i:Int).toNat (Ty.aC .stop)=b.nodes[i]:=getD_at (by omega) _
   rw[au (show (i:Int)<(a.nodes.length:Int) by omega),cond_true,aJ (gT i),aJ (cD (show i<b.nodes.length by omega)),ga,gb,dU h (by omega)]
   dsimp only
   rw[ih (i+1) (by omega) (by omega),List.drop_eq_getElem_cons h,List.drop_eq_getElem_cons (show i<b.nodes.length by omega),ff]
   simp only[R6]
   cases (a.nodes[i].node==b.nodes[i].node&&(a.nodes[i].seq==b.nodes[i].seq&&(a.nodes[i].ax==b.nodes[i].ax&&true))) <;> rfl
  ·rw[az (show ¬(i:Int)<(a.nodes.length:Int) by omega),cond_false,List.drop_eq_nil_of_le (by omega),List.drop_eq_nil_of_le (by omega)]
   rfl
theorem RJ {R:Type} (a b:Order) (hl:a.af.length=b.af.length) (ha:a.af.length≤1099511627776) (e0:Option R) (e1:Bool→Option R):∀(F i:Nat),i≤a.af.length→a.af.length - i<F →
  br F (i:Int) a b e0 e1=bif Ts (a.af.drop i) (b.af.drop i)then e0 else e1 false:=by
 intro F
 induction F with
 | zero=>intro i _ hF; omega
 | succ F ih =>
  intro i hi hF
  show nP (fun x0 x1 x2=>br F x0 x1 x2 e0 e1) (i:Int) a b e0 e1=_
  unfold nP
  by_cases h:i<a.af.length
  ·have ga:a.af.getD (i:Int).toNat (Ty.aC .dt)=a.af[i]:=getD_at h _
   have gb:b.af.getD (i:Int).toNat (Ty.aC .dt)=b.af[i]:=getD_at (by omega) _
   rw[au (show (i:Int)<(a.af.length:Int) by omega),cond_true,aJ (gT i),aJ (cD (show i<b.af.length by omega)),ga,gb,dU h (by omega)]
   dsimp only
   rw[ih (i+1) (by omega) (by omega),List.drop_eq_getElem_cons h,List.drop_eq_getElem_cons (show i<b.af.length by omega),ff]
   simp only[Ts]
   cases (a.af[i].fk==b.af[i].fk&&(a.af[i].seq==b.af[i].seq&&(a.af[i].ax==b.af[i].ax&&true))) <;> rfl
  ·rw[az (show ¬(i:Int)<(a.af.length:Int) by omega),cond_false,List.drop_eq_nil_of_le (by omega),List.drop_eq_nil_of_le (by omega)]
   rfl
theorem Nk {R:Type} (a b:Order) (ha:a.nodes.length≤1099511627776) (he:a.af.length≤1099511627776) (k:Bool→Option R):aT a b k=k (ES a b):=by
 unfold aT Cg ES
 have hb:∀(x y:Int),(x != y) = !(x==y):=fun x y=>rfl
 simp only[hb,ff]
 cases (a.header==b.header)with
 | false=>rfl
 | true =>
 cases (a.ae==b.ae)with
 | false=>rfl
 | true =>
 cases (a.order==b.order)with
 | false=>rfl
 | true =>
 cases (a.update==b.update)with
 | false=>rfl
 | true =>
 simp only[cond_true,Bool.true_and]
 by_cases h1:a.nodes.length=b.nodes.length
 rotate_left
 ·have c:((a.nodes.length:Int)==(b.nodes.length:Int))=false:=by rw[kl]; exact az (by omega)
  rw[c,Ut h1]
  rfl
 have c1:((a.nodes.length:Int)==(b.nodes.length:Int))=true:=by rw[kl]; exact au (by omega)
 rw[c1,cond_true]
 by_cases h2:a.af.length=b.af.length
 rotate_left
 ·have c:((a.af.length:Int)==(b.af.length:Int))=false:=by rw[kl]; exact az (by omega)
  rw[c,Uu h2,Bool.and_false]
  rfl
 have c2:((a.af.length:Int)==(b.af.length:Int))=true:=by rw[kl]; exact au (by omega)
 rw[c2,cond_true]
 refine (RI a b h1 ha _ _ _ 0 (by omega) (by unfold Order.fu; omega)).trans ?_
 rw[List.drop_zero,List.drop_zero]
 cases R6 a.nodes b.nodes with
 | false=>rfl
 | true =>
  refine (RJ a b h2 he _ _ _ 0 (by omega) (by unfold Order.fu; omega)).trans ?_
  rw[List.drop_zero,List.drop_zero]
  cases Ts a.af b.af <;> rfl

structure RawO (o:Order):Prop where
 header:D1 o.header
 order:D1 o.order
 update:D1 o.update
 name:o.ae.length≤1099511627776
 many:o.nodes.length≤1099511627776∧o.af.length≤1099511627776
 node:∀x∈o.nodes,D1 x.node∧D1 x.seq


theorem Tt {R:Type} (n:Int) (x y:Option R) :
  (bif decide (n≥97)then (bif decide (n≤122)then x else (bif decide (n≥65)then (bif decide (n≤90)then x else (bif decide (n≥48)then (bif decide (n≤57)then x else (bif n==95 then x else (bif n==46 then x else (bif n==58 then x else (bif !(n==45)then y else x)))))else (bif n==95 then x else (bif n==46 then x else (bif n==58 then x else (bif !(n==45)then y else x))))))else (bif decide (n≥48)then (bif decide (n≤57)then x else (bif n==95 then x else (bif n==46 then x else (bif n==58 then x else (bif !(n==45)then y else x)))))else (bif n==95 then x else (bif n==46 then x else (bif n==58 then x else (bif !(n==45)then y else x)))))))
   else (bif decide (n≥65)then (bif decide (n≤90)then x else (bif decide (n≥48)then (bif decide (n≤57)then x else (bif n==95 then x else (bif n==46 then x else (bif n==58 then x else (bif !(n==45)then y else x)))))else (bif n==95 then x else (bif n==46 then x else (bif n==58 then x else (bif !(n==45)then y else x))))))else (bif decide (n≥48)then (bif decide (n≤57)then x else (bif n==95 then x else (bif n==46 then x else (bif n==58 then x else (bif !(n==45)then y else x)))))else (bif n==95 then x else (bif n==46 then x else (bif n==58 then x else (bif !(n==45)then y else x)))))))
  = bif RF n then x else y:=by
 have hc:RF n=((decide (n≥97)&&decide (n≤122))||(decide (n≥65)&&decide (n≤90))||(decide (n≥48)&&decide (n≤57))||(n==95)||(n==46)||(n==58)||(n==45)):=by
  unfold RF
  simp only[Bool.decide_and,kl,ge_iff_le]
 rw[hc]
 cases decide (n≥97) <;> cases decide (n≤122) <;> cases decide (n≥65) <;> cases decide (n≤90) <;> cases decide (n≥48) <;> cases decide (n≤57) <;> (try rfl) <;> cases (n==95) <;> (try rfl) <;> cases (n==46) <;> (try rfl) <;> cases (n==58) <;> (try rfl) <;> cases (n==45) <;> rfl
theorem Tu {R:Type} (s:aA) (hs:s.length≤1099511627776) (e0:aA→Option R) (e1:aA→Bool→Option R):∀(F i:Nat),i≤s.length→s.length - i<F →
  bZ F s (i:Int) e0 e1=bif (s.drop i).all (HP.contains ·)then e0 s else e1 s false:=by
 intro F
 induction F with
 | zero=>intro i _ hF; omega
 | succ F ih =>
  intro i hi hF
  show n7 (fun x0 x1=>bZ F x0 x1 e0 e1) s (i:Int) e0 e1=_
  unfold n7
  by_cases h:i<s.length
  ·have hg:s.getD (i:Int).toNat 0=s[i]:=getD_at h _
   rw[au (show (i:Int)<(s.length:Int) by omega),cond_true,aJ (gT i),hg,dU h (by omega)]
   dsimp only
   rw[ih (i+1) (by omega) (by omega)]
   refine (Tt (s[i].toNat:Int) _ _).trans ?_
   rw[Yz,List.drop_eq_getElem_cons h,List.all_cons]
   cases HP.contains s[i] <;> rfl
  ·rw[az (show ¬(i:Int)<(s.length:Int) by omega),cond_false,List.drop_eq_nil_of_le (by omega)]
   rfl
theorem RL {R:Type} (s:aA) (hs:s.length≤1099511627776) (k:Bool→Option R):cp s k=k (nc s):=by
 unfold cp CM
 refine (Tu s hs _ _ _ 0 (by omega) (by omega)).trans ?_
 rw[List.drop_zero]
 unfold nc
 cases s.all (HP.contains ·)with
 | false=>rfl
 | true =>
  rw[cond_true,Bool.true_and]
  cases s with
  | nil=>rfl
  | cons b l =>
   rw[au (show (((b::l).length:Nat):Int)≥1 by simp only[List.length_cons]; omega),cond_true]
   have e:decide ((((b::l).length:Nat):Int)≤16)=decide ((b::l).length≤16):=decide_eq_decide.2 (by omega)
   rw[e]
   rfl
theorem C2 {R:Type} (n:Int) (k:Bool→Option R):cb n k=k (bA n):=by
 unfold cb EB bA
 by_cases h:0≤n
 ·rw[au (show n≥0 from h)]; rfl
 ·rw[az (show ¬n≥0 from h)]; rfl

theorem RM {R:Type} (o:Order) (hn:o.nodes.length≤64) (e0:Int→Order→Option R) (e1:Bool→Int→Order→Option R):∀(F i:Nat),i≤o.nodes.length→o.nodes.length - i<F→(0<i→bA (o.nodes.getD 0 Stop.z).seq=true) →
  aZ F (o.nodes.length:Int) (i:Int) o e0 e1=bif ur ((o.nodes.getD 0 Stop.z).seq+2*i) (if i=0 then true else (o.nodes.getD (i - 1) Stop.z).ax) (o.nodes.drop i)then e0 (o.nodes.length:Int) o else e1 false (o.nodes.length:Int) o:=by
 intro F
 induction F with
 | zero=>intro i _ hF; omega
 | succ F ih =>
  intro i hi hF h0
  show mS _ (fun x0 x1 x2=>aZ F x0 x1 x2 e0 e1) (o.nodes.length:Int) (i:Int) o e0 e1=_
  unfold mS
  by_cases h:i<o.nodes.length
  rotate_left
  ·rw[az (show ¬(i:Int)<(o.nodes.length:Int) by omega),cond_false,List.drop_eq_nil_of_le (by omega)]
   rfl
  have hg:o.nodes.getD (i:Int).toNat (Ty.aC .stop)=o.nodes[i]:=getD_at h _
  have hg0:o.nodes.getD 0 (Ty.aC .stop)=o.nodes.getD 0 Stop.z:=rfl
  rw[au (show (i:Int)<(o.nodes.length:Int) by omega),cond_true,aJ (gT i),hg,C2,C2,hg0,dU h (by omega)]
  dsimp only
  rw[List.drop_eq_getElem_cons h]
  simp only[ur]
  cases hN:bA o.nodes[i].node with
  | false=>rfl
  | true =>
  cases hS:bA o.nodes[i].seq with
  | false=>rfl
  | true =>
  have hz:bA (o.nodes.getD 0 Stop.z).seq=true:=by
   by_cases hi0:0<i
   ·exact h0 hi0
   ·have:i=0:=by omega
    subst this
    rw[getD_at h]; exact hS
  have bz:=wj.1 hz
  have w1:IntKind.i64.wrap (2*(i:Int))=2*(i:Int):=eH (by omega) (by omega)
  have w2:IntKind.i64.wrap ((o.nodes.getD 0 Stop.z).seq+2*(i:Int))=(o.nodes.getD 0 Stop.z).seq+2*(i:Int):=eH (by omega) (by omega)
  rw[Bool.not_true,cond_false,cond_false,aJ (au (by omega)),w1,w2,eO,ff]
  have ih:=ih (i+1) (by omega) (by omega) (fun _=>hz)
  have hs2:(o.nodes.getD 0 Stop.z).seq+2*((i+1:Nat):Int)=(o.nodes.getD 0 Stop.z).seq+2*(i:Int)+2:=by omega
  rw[hs2,if_neg (by omega),show i+1 - 1=i by omega,show o.nodes.getD i Stop.z=o.nodes[i]from getD_at h _]at ih
  rw[ih]
  have Hf:decide ((i:Int)>0)=decide (0<i):=decide_eq_decide.2 (by omega)
  rw[Hf]
  by_cases hi0:0<i
  ·have w3:IntKind.i64.wrap ((i:Int) - 1)=((i - 1:Nat):Int):=by rw[eH (by omega) (by omega)]; omega
   have hg2:o.nodes.getD ((i - 1:Nat):Int).toNat (Ty.aC .stop)=o.nodes.getD (i - 1) Stop.z:=rfl
   rw[au hi0,cond_true,w3,aJ (cD (show i - 1<o.nodes.length by omega)),hg2,if_neg (by omega),ff]
   cases decide (o.nodes[i].seq=(o.nodes.getD 0 Stop.z).seq+2*(i:Int)) <;> cases o.nodes[i].ax <;> cases (o.nodes.getD (i - 1) Stop.z).ax <;> simp
  ·rw[az hi0,cond_false,if_pos (by omega)]
   cases decide (o.nodes[i].seq=(o.nodes.getD 0 Stop.z).seq+2*(i:Int)) <;> cases o.nodes[i].ax <;> simp
theorem Kl:∀(l:List Stop) (s:Int) (p:Bool),ur s p l=true→∀x∈l,bA x.seq=true
 | [],_,_,_=>by simp
 | x::l,s,p,h=>by
  simp only[ur,Bool.and_eq_true]at h
  intro y hy
  rcases List.mem_cons.1 hy with e|hy
  ·rw[e]; exact h.1.1.2
  ·exact Kl l _ _ h.2 y hy
theorem RN {R:Type} (o:Order) (hn:o.nodes.length≤64) (he:o.af.length+1=o.nodes.length) (hs:∀x∈o.nodes,bA x.seq=true) (e0:Option R) (e1:Bool→Option R):∀(F i:Nat),i≤o.af.length→o.af.length - i<F →
  aR F (o.nodes.length:Int) (i:Int) o e0 e1=bif qe (o.nodes.getD i Stop.z) (o.af.drop i) (o.nodes.drop (i+1))then e0 else e1 false:=by
 intro F
 induction F with
 | zero=>intro i _ hF; omega
 | succ F ih =>
  intro i hi hF
  show lx _ (fun x0 x1 x2=>aR F x0 x1 x2 e0 e1) (o.nodes.length:Int) (i:Int) o e0 e1=_
  unfold lx
  have w0:IntKind.i64.wrap ((o.nodes.length:Int) - 1)=(o.af.length:Int):=by rw[eH (by omega) (by omega)]; omega
  rw[w0]
  by_cases h:i<o.af.length
  rotate_left
  ·rw[az (show ¬(i:Int)<(o.af.length:Int) by omega),cond_false,List.drop_eq_nil_of_le (by omega),List.drop_eq_nil_of_le (by omega)]
   rfl
  have h':i+1<o.nodes.length:=by omega
  have hge:o.af.getD (i:Int).toNat (Ty.aC .dt)=o.af[i]:=getD_at h _
  have hgf:o.nodes.getD (i:Int).toNat (Ty.aC .stop)=o.nodes[i]:=getD_at (by omega) _
  have hgf':o.nodes.getD i Stop.z=o.nodes[i]:=getD_at (by omega) _
  have hgt:o.nodes.getD ((i+1:Nat):Int).toNat (Ty.aC .stop)=o.nodes[i+1]:=getD_at h' _
  have hgt':o.nodes.getD (i+1) Stop.z=o.nodes[i+1]:=getD_at h' _
  have bz:=wj.1 (hs o.nodes[i] (List.getElem_mem _))
  have ih:=ih (i+1) (by omega) (by omega)
  rw[hgt']at ih
  rw[au (show (i:Int)<(o.af.length:Int) by omega),cond_true,aJ (gT i),hge,C2,C2,aJ (cD (show i<o.nodes.length by omega)),hgf,dU h (by omega),aJ (cD h'),hgt,eH (n:=o.nodes[i].seq+1) (by omega) (by omega),eO,ff,ff,ff,ff]
  dsimp only
  rw[ih,List.drop_eq_getElem_cons h,List.drop_eq_getElem_cons h',hgf']
  simp only[qe]
  cases bA o.af[i].fk <;> cases bA o.af[i].seq <;> cases decide (o.af[i].seq=o.nodes[i].seq+1) <;> cases (o.af[i].ax==o.nodes[i+1].ax) <;> simp
theorem rright8 {R:Type} (o:Order) (hn:o.nodes.length≤4000000000000) (hv:o.ae.length≤1099511627776) (k:Bool→Option R):cZ o k=k (wQ o):=by
 rw[←VV]
 unfold cZ zA
 rw[RL _ hv,C2,C2,C2]
 have hr:P1 o=(nc o.ae&&(bA o.header&&(bA o.order&&bA o.update))&&(match o.nodes with
  | []=>false
  | f::ns=>(decide (ns.length<64)&&decide (o.af.length=ns.length))&&(decide (Int.tmod f.seq 2=0)&&f.ax)&&ur f.seq true (f::ns)&&qe f o.af ns)):=rfl
 rw[hr]
 cases nc o.ae with
 | false=>rfl
 | true =>
 cases bA o.header with
 | false=>rfl
 | true =>
 cases bA o.order with
 | false=>rfl
 | true =>
 cases bA o.update with
 | false=>rfl
 | true =>
 simp only[Bool.not_true,cond_false,Bool.true_and]
 cases hs:o.nodes with
 | nil=>rfl
 | cons f ns =>
  rw[hs]at hn
  simp only[List.length_cons]at hn ⊢
  rw[az (show ¬((ns.length+1:Nat):Int)<1 by omega),cond_false]
  by_cases h64:ns.length<64
  rotate_left
  ·rw[au (show ((ns.length+1:Nat):Int)>64 by omega),az h64]
   rfl
  rw[az (show ¬((ns.length+1:Nat):Int)>64 by omega),cond_false,au h64,eH (n:=((ns.length+1:Nat):Int) - 1) (by omega) (by omega),eO,ff]
  by_cases hl:o.af.length=ns.length
  rotate_left
  ·rw[az (show ¬(o.af.length:Int)=((ns.length+1:Nat):Int) - 1 by omega),cond_false,az hl]
   rfl
  rw[au (show (o.af.length:Int)=((ns.length+1:Nat):Int) - 1 by omega),cond_true,au hl,aJ (au (by omega)),aJ (au (by omega)),eO,ff,ff]
  have hg:(f::ns).getD 0 (Ty.aC .stop)=f:=rfl
  rw[hg]
  have hL:∀(F:Nat) (e0:Int→Order→Option R) (e1:Bool→Int→Order→Option R),ns.length+1<F→aZ F ((ns.length+1:Nat):Int) 0 o e0 e1=bif ur f.seq true (f::ns)then e0 ((ns.length+1:Nat):Int) o else e1 false ((ns.length+1:Nat):Int) o:=fun F e0 e1 hF=>by
   have:=RM o (by rw[hs]; simp only[List.length_cons]; omega) e0 e1 F 0 (by omega) (by rw[hs]; simp only[List.length_cons]; omega) (fun h=>by omega)
   rw[hs]at this
   have e:((f::ns).getD 0 Stop.z).seq+2*((0:Nat):Int)=f.seq:=by
    show f.seq+2*((0:Nat):Int)=f.seq
    omega
   rw[e,if_pos rfl,List.drop_zero]at this
   exact this
  rw[hL _ _ _ (by unfold Order.fu; rw[hs]; simp only[List.length_cons]; omega)]
  cases hN:ur f.seq true (f::ns)with
  | false=>cases decide (Int.tmod f.seq 2=0) <;> cases f.ax <;> rfl
  | true =>
   have hE:∀(F:Nat) (e0:Option R) (e1:Bool→Option R),ns.length<F→aR F ((ns.length+1:Nat):Int) 0 o e0 e1=bif qe f o.af ns then e0 else e1 false:=fun F e0 e1 hF=>by
    have:=RN o (by rw[hs]; simp only[List.length_cons]; omega) (by rw[hs]; simp only[List.length_cons]; omega) (by rw[hs]; exact Kl _ _ _ hN) e0 e1 F 0 (by omega) (by omega)
    rw[hs]at this
    exact this
   rw[cond_true,hE _ _ _ (by omega)]
   cases decide (Int.tmod f.seq 2=0) <;> cases f.ax <;> cases qe f o.af ns <;> rfl






theorem Tv (a b:cv):Eo a b=true↔b.aX<a.aX∨(a.aX=b.aX∧b.header<a.header):=by
 unfold Eo
 rw[Bool.or_eq_true,Bool.and_eq_true,decide_eq_true_eq,decide_eq_true_eq,decide_eq_true_eq]

theorem YK {R:Type} (l:List Int) (hl:l.length≤1000) (e0:Int→Option R):∀(F i:Nat) (m:Int),i≤l.length→l.length - i<F →
  aN F l m (i:Int) e0=e0 ((l.drop i).foldl min m):=by
 intro F
 induction F with
 | zero=>intro i m _ hF; omega
 | succ F ih =>
  intro i m hi hF
  show gC (fun x0 x1 x2=>aN F x0 x1 x2 e0) l m (i:Int) e0=_
  unfold gC
  by_cases h:i<l.length
  ·have hg:l.getD (i:Int).toNat (Ty.aC (.int .i64))=l[i]:=getD_at h _
   rw[au (show (i:Int)<(l.length:Int) by omega),cond_true,aJ (gT i),hg,dU h (by omega)]
   dsimp only
   rw[ih (i+1) _ (by omega) (by omega),List.drop_eq_getElem_cons h]
   rfl
  ·rw[az (show ¬(i:Int)<(l.length:Int) by omega),cond_false,List.drop_eq_nil_of_le (by omega)]
   rfl
theorem min_ok {R:Type} (a:Int) (l:List Int) (hl:l.length≤100) (k:Int→Option R):dj (a::l) k=k (l.foldl min a):=by
 unfold dj oQ
 rw[az (show ¬(((a::l).length:Nat):Int)<1 by simp only[List.length_cons]; omega),cond_false,aJ (au (by simp only[List.length_cons]; omega))]
 have hg:(a::l).getD 0 (Ty.aC (.int .i64))=a:=rfl
 rw[hg]
 refine (YK (a::l) (by simp only[List.length_cons]; omega) _ _ 1 a (by simp) (by simp only[List.length_cons]; omega)).trans ?_
 rfl
theorem YL {R:Type} (l:List Int) (hl:l.length≤1000) (e0:Int→Option R):∀(F i:Nat) (m:Int),i≤l.length→l.length - i<F →
  aO F l m (i:Int) e0=e0 ((l.drop i).foldl max m):=by
 intro F
 induction F with
 | zero=>intro i m _ hF; omega
 | succ F ih =>
  intro i m hi hF
  show gE (fun x0 x1 x2=>aO F x0 x1 x2 e0) l m (i:Int) e0=_
  unfold gE
  by_cases h:i<l.length
  ·have hg:l.getD (i:Int).toNat (Ty.aC (.int .i64))=l[i]:=getD_at h _
   rw[au (show (i:Int)<(l.length:Int) by omega),cond_true,aJ (gT i),hg,dU h (by omega)]
   dsimp only
   rw[ih (i+1) _ (by omega) (by omega),List.drop_eq_getElem_cons h]
   rfl
  ·rw[az (show ¬(i:Int)<(l.length:Int) by omega),cond_false,List.drop_eq_nil_of_le (by omega)]
   rfl
theorem max_ok {R:Type} (a:Int) (l:List Int) (hl:l.length≤100) (k:Int→Option R):dk (a::l) k=k (l.foldl max a):=by
 unfold dk oT
 rw[az (show ¬(((a::l).length:Nat):Int)<1 by simp only[List.length_cons]; omega),cond_false,aJ (au (by simp only[List.length_cons]; omega))]
 have hg:(a::l).getD 0 (Ty.aC (.int .i64))=a:=rfl
 rw[hg]
 refine (YL (a::l) (by simp only[List.length_cons]; omega) _ _ 1 a (by simp) (by simp only[List.length_cons]; omega)).trans ?_
 rfl
theorem YM:∀(l:List Int) (a x:Int),x≤l.foldl min a↔x≤a∧∀y∈l,x≤y
 | [],a,x=>by simp
 | b::l,a,x=>by
  rw[List.foldl_cons,YM l]
  simp only[List.mem_cons,forall_eq_or_imp]
  constructor
  ·rintro ⟨h1,h2⟩; exact ⟨by omega,by omega,h2⟩
  ·rintro ⟨h1,h2,h3⟩; exact ⟨by omega,h3⟩
theorem max_le:∀(l:List Int) (a x:Int),l.foldl max a≤x↔a≤x∧∀y∈l,y≤x
 | [],a,x=>by simp
 | b::l,a,x=>by
  rw[List.foldl_cons,max_le l]
  simp only[List.mem_cons,forall_eq_or_imp]
  constructor
  ·rintro ⟨h1,h2⟩; exact ⟨by omega,by omega,h2⟩
  ·rintro ⟨h1,h2,h3⟩; exact ⟨by omega,h3⟩
theorem YN (a:Int) (l:List Int):(decide (l.foldl min a≥0)&&decide (l.foldl max a≤1000000000))=(a::l).all bA:=by
 rw[Bool.eq_iff_iff,Bool.and_eq_true,decide_eq_true_eq,decide_eq_true_eq,ge_iff_le,YM,max_le,List.all_eq_true]
 simp only[List.mem_cons,forall_eq_or_imp,wj]
 constructor
 ·rintro ⟨⟨h1,h2⟩,h3,h4⟩; exact ⟨⟨h1,h3⟩,fun y hy=>⟨h2 y hy,h4 y hy⟩⟩
 ·rintro ⟨⟨h1,h3⟩,h2⟩; exact ⟨⟨h1,fun y hy=>(h2 y hy).1⟩,h3,fun y hy=>(h2 y hy).2⟩

theorem RO {R:Type} (s:cv) (k:Bool→Option R):gn s k=k (B9 s):=by
 unfold gn zg
 rw[topicName_ok,min_ok _ _ (by simp),max_ok _ _ (by simp)]
 have hb:=YN s.header [s.aX,s.order,s.update,s.node,s.seq,s.accepted]
 have hr:B9 s=(nc s.ae&&(([s.header,s.aX,s.order,s.update,s.node,s.seq,s.accepted]:List Int).all bA&&(decide (Int.tmod s.seq 2=0)&&(s.live || !s.dW)))):=by
  unfold B9
  simp only[List.all_cons,List.all_nil,Bool.and_true]
 rw[hr,←hb,kl]
 cases nc s.ae <;> cases decide (List.foldl min s.header [s.aX,s.order,s.update,s.node,s.seq,s.accepted]≥0) <;> cases decide (List.foldl max s.header [s.aX,s.order,s.update,s.node,s.seq,s.accepted]≤1000000000) <;> cases decide (Int.tmod s.seq 2=0) <;> cases s.live <;> rfl
def cmpI (x y:Int):Int:=if x<y then -1 else if x>y then 1 else 0
theorem Uv {R:Type} (x y:Int) (k:Int→Option R):dq x y k=k (cmpI x y):=by
 unfold dq rR eN vl cmpI
 have hx:(x != x)=false:=by simp
 have hy:(y != y)=false:=by simp
 rw[hx,hy]
 dsimp only
 rw[cond_false,cond_false]
 by_cases h1:x<y
 ·rw[au h1,if_pos h1]; rfl
 ·rw[az h1,if_neg h1,cond_false]
  by_cases h2:x>y
  ·rw[au h2,if_pos h2]; rfl
  ·rw[az h2,if_neg h2]; rfl
theorem or_loop {R:Type} (l:List Int) (hl:l.length≤1000) (e0:Int→Option R) (e1:Int→Int→Option R):∀(F i:Nat),i≤l.length→l.length - i<F →
  bV F 0 l (l.length:Int) (i:Int) e0 e1=match (l.drop i).find? (· != 0)with|some x=>e1 x 0|none=>e0 0:=by
 intro F
 induction F with
 | zero=>intro i _ hF; omega
 | succ F ih =>
  intro i hi hF
  show nL (fun x0 x1 x2 x3=>bV F x0 x1 x2 x3 e0 e1) 0 l (l.length:Int) (i:Int) e0 e1=_
  unfold nL
  by_cases h:i<l.length
  ·have hg:l.getD (i:Int).toNat (Ty.aC (.int .i64))=l[i]:=getD_at h _
   rw[au (show (i:Int)<(l.length:Int) by omega),cond_true,aJ (gT i),hg,dU h (by omega)]
   dsimp only
   rw[ih (i+1) (by omega) (by omega),List.drop_eq_getElem_cons h,List.find?_cons]
   cases l[i] != 0 <;> rfl
  ·rw[az (show ¬(i:Int)<(l.length:Int) by omega),cond_false,List.drop_eq_nil_of_le (by omega)]
   rfl
theorem or_ok {R:Type} (a b:Int) (k:Int→Option R):iW [a,b] k=k (if a≠0 then a else b):=by
 unfold iW B3
 refine (or_loop [a,b] (by simp) _ _ _ 0 (by simp) (by simp only[List.length_cons,List.length_nil]; omega)).trans ?_
 rw[List.drop_zero,List.find?_cons,List.find?_cons,eO,eO]
 by_cases h1:a=0
 ·rw[au h1,if_neg (by simp[h1])]
  by_cases h2:b=0
  ·rw[au h2,h2]; rfl
  ·rw[az h2]; rfl
 ·rw[az h1,if_pos h1]; rfl
theorem RP {R:Type} (a b:cv) (k:Bool→Option R):gp a b k=k (Eo a b):=by
 unfold gp zj
 rw[Uv,Uv,or_ok]
 congr 1
 rw[Bool.eq_iff_iff,Tv,decide_eq_true_eq]
 unfold cmpI
 split <;> split <;> (try split) <;> (try split) <;> omega

structure RawA (s:cv):Prop where
 header:D1 s.header
 aX:D1 s.aX
 order:D1 s.order
 update:D1 s.update
 node:D1 s.node
 seq:D1 s.seq
 accepted:D1 s.accepted
 name:s.ae.length≤1099511627776


theorem YO {R:Type} (n:Int) (k:Bool→Option R):eZ n k=k (bA n):=by
 unfold eZ EL bA
 by_cases h:0≤n
 ·rw[au (show n≥0 from h)]; rfl
 ·rw[az (show ¬n≥0 from h)]; rfl
theorem rright9 {R:Type} (s:cv) (hv:s.ae.length≤1099511627776) (k:Bool→Option R):c4 s k=k (B9 s):=by
 unfold c4 zI B9
 simp only[RL _ hv,YO,kl]
 cases nc s.ae <;> (try rfl) <;> cases bA s.header <;> (try rfl) <;> cases bA s.aX <;> (try rfl) <;> cases bA s.order <;> (try rfl) <;> cases bA s.update <;> (try rfl) <;> cases bA s.node <;> (try rfl) <;> cases bA s.seq <;> (try rfl) <;> cases bA s.accepted <;> (try rfl) <;> cases decide (Int.tmod s.seq 2=0) <;> (try rfl) <;> cases s.live <;> rfl
theorem rnewer9 {R:Type} (a b:cv) (k:Bool→Option R):c6 a b k=k (Eo a b):=by
 unfold c6 zL Eo
 rw[kl]
 cases decide (a.aX>b.aX) <;> cases decide (a.aX=b.aX) <;> rfl

abbrev bD:=ad.bN
theorem Ff {R:Type} (a:Option R):IU a a=a:=by unfold IU; exact if_pos rfl
theorem YP {R:Type} (l:List Int) (h:l.length≤1099511627776) (k:List Int→Option R):bj l k=k l:=by
 show (bif l.isEmpty then (IU (k ([]:List Int)) (cC (decide ((0+l.length)*8≤140737488355328)) (k (([]:List Int)++l))))else (cC (decide ((0+l.length)*8≤140737488355328)) (k (([]:List Int)++l))))=_
 rw[au (by omega),aJ rfl,List.nil_append]
 cases l with
 | nil=>exact Ff _
 | cons x l=>rfl
theorem cloneS {R:Type} (l:List Stop) (h:l.length≤1099511627776) (k:List Stop→Option R):cK l k=k l:=by
 show (bif l.isEmpty then (IU (k ([]:List Stop)) (cC (decide ((0+l.length)*24≤140737488355328)) (k (([]:List Stop)++l))))else (cC (decide ((0+l.length)*24≤140737488355328)) (k (([]:List Stop)++l))))=_
 rw[au (by omega),aJ rfl,List.nil_append]
 cases l with
 | nil=>exact Ff _
 | cons x l=>rfl
theorem cloneW {R:Type} (l:List ad.Way) (h:l.length≤1099511627776) (k:List ad.Way→Option R):c7 l k=k l:=by
 show (bif l.isEmpty then (IU (k ([]:List ad.Way)) (cC (decide ((0+l.length)*24≤140737488355328)) (k (([]:List ad.Way)++l))))else (cC (decide ((0+l.length)*24≤140737488355328)) (k (([]:List ad.Way)++l))))=_
 rw[au (by omega),aJ rfl,List.nil_append]
 cases l with
 | nil=>exact Ff _
 | cons x l=>rfl
structure mE (o:Order):Prop where
 nodes:o.nodes.length≤1099511627776
 af:o.af.length≤1099511627776
 name:o.ae.length≤1099511627776
structure dm (c:bD):Prop where
 path:c.path.length≤1099511627776
 name:c.ae.length≤1099511627776
 Iz:mE c.pending
theorem IA {R:Type} (o:Order) (h:mE o) (k:Order→Option R):cS o k=k o:=by
 unfold cS yK
 rw[cloneS _ h.nodes,cloneW _ h.af]
theorem Qc {R:Type} (c:bD) (h:dm c) (k:bD→Option R):bP c k=k c:=by
 unfold bP D6
 rw[YP _ h.path,IA _ h.Iz]

def vJ:Nat→List Int→Bool
 | _, []=>true
 | i,x::r=>decide (0≤x)&&(decide (1000≤x)==decide (i % 2=1))&&vJ (i+1) r
theorem lA (i:Nat) (x:Int) (r:List Int):vJ i (x::r)=(decide (0≤x)&&(decide (1000≤x)==decide (i % 2=1))&&vJ (i+1) r):=rfl
def gH (l:List Int):Bool:=vJ 0 l&&decide (l.length % 2=1)
theorem Km (i:Nat):(Int.tmod (i:Int) 2==1)=decide (i % 2=1):=by
 rw[show Int.tmod (i:Int) 2=((i % 2:Nat):Int)from rfl,kl]
 by_cases h:i % 2=1
 ·rw[au h,au (by omega)]
 ·rw[az h,az (by omega)]
theorem Qd (i:Nat):(Int.tmod (i:Int) 2==0)=decide (i % 2=0):=by
 rw[show Int.tmod (i:Int) 2=((i % 2:Nat):Int)from rfl,kl]
 by_cases h:i % 2=0
 ·rw[au h,au (by omega)]
 ·rw[az h,az (by omega)]
theorem VZ {R:Type} (l:List Int) (hl:l.length≤1099511627776) (e0:List Int→Option R) (e1:List Int→Bool→Option R):∀(F i:Nat),i≤l.length→l.length - i<F →
  bH F l l (l.length:Int) (i:Int) e0 e1=bif vJ i (l.drop i)then e0 l else e1 l false:=by
 intro F
 induction F with
 | zero=>intro i _ h; omega
 | succ F ih =>
  intro i hi hF
  show ln (fun a b c d=>bH F a b c d e0 e1) l l (l.length:Int) (i:Int) e0 e1=_
  unfold ln
  by_cases h:i<l.length
  ·have hg:l.getD (i:Int).toNat (Ty.aC (.int .i64))=l[i]:=getD_at h _
   rw[cD h,aJ rfl,au (show (i:Int)<(l.length:Int) by omega),cond_true,hg,dU h (by omega),Km,List.drop_eq_getElem_cons h]
   dsimp only
   rw[ih (i+1) (by omega) (by omega)]
   rw[lA]
   by_cases h1:l[i]<0
   ·rw[au h1,az (show ¬0≤l[i] by omega)]; rfl
   ·rw[az h1,au (show 0≤l[i] by omega),cond_false]
    have e2:decide (l[i]≥1000)=decide (1000≤l[i]):=rfl
    rw[e2]
    cases decide (1000≤l[i])==decide (i % 2=1) <;> rfl
  ·rw[az (show ¬(i:Int)<(l.length:Int) by omega),cond_false,List.drop_eq_nil_of_le (by omega)]
   rfl
theorem O1 {R:Type} (l:List Int) (hl:l.length≤1099511627776) (k:Bool→Option R):cR l k=k (gH l):=by
 unfold cR wH gH
 refine (VZ l hl _ _ _ 0 (by omega) (by omega)).trans ?_
 rw[List.drop_zero,Km]
 cases vJ 0 l <;> rfl
def vz (c:bD):Bool:=gH c.path&&decide (c.rel≥0)
theorem O2 {R:Type} (c:bD) (h:dm c) (k:Bool→Option R):dh c k=k (vz c):=by
 unfold dh yO vz
 rw[O1 _ h.path]
 cases gH c.path <;> rfl

def Nl:List Int→List Int→Bool
 | [], []=>true
 | x::l,y::m=>decide (x=y)&&Nl l m
 | _,_=>false
theorem Nn (x y:Int) (l m:List Int):Nl (x::l) (y::m)=(decide (x=y)&&Nl l m):=rfl
theorem Lo:∀ {a b:List Int},Nl a b=true↔a=b
 | [], []=>by simp[Nl]
 | [],_::_=>by simp[Nl]
 | _::_, []=>by simp[Nl]
 | x::l,y::m=>by simp[Nl,Lo (a:=l) (b:=m)]
theorem Qe {a b:List Int} (h:a.length≠b.length):Nl a b=false:=Bool.eq_false_iff.2 fun e=>h (by rw[Lo.1 e])
theorem YQ {R:Type} (a b:List Int) (hl:a.length=b.length) (ha:a.length≤1099511627776) (e0:Option R) (e1:Bool→Option R):∀(F i:Nat),i≤a.length→a.length - i<F →
  aG F a b (a.length:Int) (i:Int) e0 e1=bif Nl (a.drop i) (b.drop i)then e0 else e1 false:=by
 intro F
 induction F with
 | zero=>intro i _ hF; omega
 | succ F ih =>
  intro i hi hF
  show fL (fun x0 x1 x2 x3=>aG F x0 x1 x2 x3 e0 e1) a b (a.length:Int) (i:Int) e0 e1=_
  unfold fL
  by_cases h:i<a.length
  ·have h':i<b.length:=by omega
   have hg:a.getD (i:Int).toNat (Ty.aC (.int .i64))=a[i]:=getD_at h _
   have hg':b.getD (i:Int).toNat (Ty.aC (.int .i64))=b[i]:=getD_at h' _
   rw[cD h,cD h',aJ rfl,aJ rfl,au (show (i:Int)<(a.length:Int) by omega),cond_true,hg,hg',dU h (by omega),List.drop_eq_getElem_cons h,List.drop_eq_getElem_cons h',eO]
   dsimp only
   rw[ih (i+1) (by omega) (by omega)]
   rw[Nn]
   cases decide (a[i]=b[i]) <;> rfl
  ·rw[az (show ¬(i:Int)<(a.length:Int) by omega),cond_false,List.drop_eq_nil_of_le (by omega),List.drop_eq_nil_of_le (by omega)]
   rfl
theorem eqN_ok {R:Type} (a b:List Int) (ha:a.length≤1099511627776) (k:Bool→Option R):cO a b k=k (Nl a b):=by
 unfold cO mA
 by_cases h:a.length=b.length
 ·rw[eO,au (show (a.length:Int)=(b.length:Int) by omega),Bool.not_true,cond_false]
  refine (YQ a b h ha _ _ _ 0 (by omega) (by omega)).trans ?_
  rw[List.drop_zero,List.drop_zero]
  cases Nl a b <;> rfl
 ·rw[eO,az (show ¬(a.length:Int)=(b.length:Int) by omega),Bool.not_false,cond_true,Qe h]
theorem V0 {R:Type} (a b:List Int) (hl:a.length=b.length) (ha:a.length≤1099511627776) (e0:Option R) (e1:Bool→Option R):∀(F i:Nat),i≤a.length→a.length - i<F →
  bW F a b (i:Int) e0 e1=bif Nl (a.drop i) (b.drop i)then e0 else e1 false:=by
 intro F
 induction F with
 | zero=>intro i _ hF; omega
 | succ F ih =>
  intro i hi hF
  show nR (fun x0 x1 x2=>bW F x0 x1 x2 e0 e1) a b (i:Int) e0 e1=_
  unfold nR
  by_cases h:i<a.length
  ·have h':i<b.length:=by omega
   have hg:a.getD (i:Int).toNat (Ty.aC (.int .i64))=a[i]:=getD_at h _
   have hg':b.getD (i:Int).toNat (Ty.aC (.int .i64))=b[i]:=getD_at h' _
   rw[cD h,cD h',aJ rfl,aJ rfl,au (show (i:Int)<(a.length:Int) by omega),cond_true,hg,hg',dU h (by omega),List.drop_eq_getElem_cons h,List.drop_eq_getElem_cons h',eO]
   dsimp only
   rw[ih (i+1) (by omega) (by omega)]
   rw[Nn]
   cases decide (a[i]=b[i]) <;> rfl
  ·rw[az (show ¬(i:Int)<(a.length:Int) by omega),cond_false,List.drop_eq_nil_of_le (by omega),List.drop_eq_nil_of_le (by omega)]
   rfl
theorem Qf {R:Type} (a b:List Int) (ha:a.length≤1099511627776) (k:Bool→Option R):bp a b k=k (Nl a b):=by
 unfold bp Ck
 by_cases h:a.length=b.length
 ·rw[eO,au (show (a.length:Int)=(b.length:Int) by omega),Bool.not_true,cond_false]
  refine (V0 a b h ha _ _ _ 0 (by omega) (by omega)).trans ?_
  rw[List.drop_zero,List.drop_zero]
  cases Nl a b <;> rfl
 ·rw[eO,az (show ¬(a.length:Int)=(b.length:Int) by omega),Bool.not_false,cond_true,Qe h]
def O3 (a b:bD):Bool:=Nl a.path b.path&&(ES a.pending b.pending&&((a.ae==b.ae)&&((a.header==b.header&&(a.order==b.order&&(a.update==b.update&&(a.aX==b.aX&&(a.seen==b.seen&&(a.seq==b.seq&&(a.rel==b.rel&&true)))))))&&((a.open_==b.open_)&&(a.wait==b.wait)))))
theorem uC (a:bD):O3 a a=true:=by
 unfold O3
 rw[Nj,Lo.2 rfl]
 simp
theorem RQ {R:Type} (a b:bD) (h:dm a) (k:Bool→Option R):cq a b k=k (O3 a b):=by
 unfold cq CY fv xi O3
 rw[eqN_ok _ _ h.path,Qb _ _ h.Iz.nodes h.Iz.af]
 cases Nl a.path b.path <;> cases ES a.pending b.pending <;> cases a.ae==b.ae <;> try rfl
 dsimp only
 cases (a.header==b.header&&(a.order==b.order&&(a.update==b.update&&(a.aX==b.aX&&(a.seen==b.seen&&(a.seq==b.seq&&(a.rel==b.rel&&true))))))) <;> cases a.open_==b.open_ <;> rfl

def vA (seq rel:Int):Nat→List Int→List Stop
 | _, [] => []
 | i,x::r=>bif decide (i % 2=1)then vA seq rel (i+1) r else ⟨x,IntKind.i64.wrap (seq+(i:Int)),decide (((i - i / 2:Nat):Int)<rel)⟩::vA seq rel (i+1) r
def Gs (seq rel:Int):Nat→List Int→List ad.Way
 | _, [] => []
 | i,x::r=>bif decide (i % 2=1)then ⟨IntKind.i64.wrap (x - 1000),IntKind.i64.wrap (seq+(i:Int)),decide (((i - i / 2:Nat):Int)<rel)⟩::Gs seq rel (i+1) r else Gs seq rel (i+1) r
theorem ET (seq rel:Int) (i:Nat) (x:Int) (r:List Int):vA seq rel i (x::r)=bif decide (i % 2=1)then vA seq rel (i+1) r else ⟨x,IntKind.i64.wrap (seq+(i:Int)),decide (((i - i / 2:Nat):Int)<rel)⟩::vA seq rel (i+1) r:=rfl
theorem G6 (seq rel:Int) (i:Nat) (x:Int) (r:List Int):Gs seq rel i (x::r)=bif decide (i % 2=1)then ⟨IntKind.i64.wrap (x - 1000),IntKind.i64.wrap (seq+(i:Int)),decide (((i - i / 2:Nat):Int)<rel)⟩::Gs seq rel (i+1) r else Gs seq rel (i+1) r:=rfl
theorem C3 (seq rel:Int):∀(l:List Int) (i:Nat),(vA seq rel i l).length≤l.length
 | [],_=>Nat.le_refl _
 | x::r,i=>by
  have:=C3 seq rel r (i+1)
  rw[ET]
  cases decide (i % 2=1) <;> simp only[cond_true,cond_false,List.length_cons] <;> omega
theorem O4 (seq rel:Int):∀(l:List Int) (i:Nat),(Gs seq rel i l).length≤l.length
 | [],_=>Nat.le_refl _
 | x::r,i=>by
  have:=O4 seq rel r (i+1)
  rw[G6]
  cases decide (i % 2=1) <;> simp only[cond_true,cond_false,List.length_cons] <;> omega
def C4 (h:Order) (l:List Int) (seq rel:Int):Order:=⟨h.header,h.ae,h.order,h.update,vA seq rel 0 (l.take 127),Gs seq rel 0 (l.take 127)⟩
def ir:Order:=⟨0, [],0,0, [], []⟩
def A5 (h:Order) (l:List Int) (seq rel:Int):Order×Bool:=bif gH l&&wQ (C4 h l seq rel)then (C4 h l seq rel,true)else (ir,false)
theorem Qg (h:Order) (hv:h.ae.length≤1099511627776) (l:List Int) (seq rel:Int):mE (C4 h l seq rel):=by
 have h1:=C3 seq rel (l.take 127) 0
 have h2:=O4 seq rel (l.take 127) 0
 rw[List.length_take]at h1 h2
 exact ⟨by show (vA seq rel 0 (l.take 127)).length≤_; omega,by show (Gs seq rel 0 (l.take 127)).length≤_; omega,hv⟩
theorem EU:mE ir:=⟨Nat.zero_le _,Nat.zero_le _,Nat.zero_le _⟩
theorem nr (h:Order) (hv:h.ae.length≤1099511627776) (l:List Int) (seq rel:Int):mE (A5 h l seq rel).1:=by
 unfold A5
 cases gH l&&wQ (C4 h l seq rel)
 ·exact EU
 ·exact Qg h hv l seq rel

theorem Tw {R:Type} (l:List Int) (hl:l.length≤1099511627776) (e0:List Int→Option R) (e1:List Int→Bool→Option R):∀(F i:Nat),i≤l.length→l.length - i<F →
  bR F l l (l.length:Int) (i:Int) e0 e1=bif vJ i (l.drop i)then e0 l else e1 l false:=by
 intro F
 induction F with
 | zero=>intro i _ h; omega
 | succ F ih =>
  intro i hi hF
  show mK (fun a b c d=>bR F a b c d e0 e1) l l (l.length:Int) (i:Int) e0 e1=_
  unfold mK
  by_cases h:i<l.length
  ·have hg:l.getD (i:Int).toNat (Ty.aC (.int .i64))=l[i]:=getD_at h _
   rw[cD h,aJ rfl,au (show (i:Int)<(l.length:Int) by omega),cond_true,hg,dU h (by omega),Km,List.drop_eq_getElem_cons h]
   dsimp only
   rw[ih (i+1) (by omega) (by omega)]
   rw[lA]
   by_cases h1:l[i]<0
   ·rw[au h1,az (show ¬0≤l[i] by omega)]; rfl
   ·rw[az h1,au (show 0≤l[i] by omega),cond_false]
    have e2:decide (l[i]≥1000)=decide (1000≤l[i]):=rfl
    rw[e2]
    cases decide (1000≤l[i])==decide (i % 2=1) <;> rfl
  ·rw[az (show ¬(i:Int)<(l.length:Int) by omega),cond_false,List.drop_eq_nil_of_le (by omega)]
   rfl
theorem YR {R:Type} (l:List Int) (hl:l.length≤1099511627776) (k:Bool→Option R):dI l k=k (gH l):=by
 unfold dI yR gH
 refine (Tw l hl _ _ _ 0 (by omega) (by omega)).trans ?_
 rw[List.drop_zero,Km]
 cases vJ 0 l <;> rfl

theorem half_i {i:Nat} (h:i<200):IntKind.i64.wrap ((i:Int) - IntKind.i64.wrap (Int.tdiv (i:Int) 2))=((i - i / 2:Nat):Int):=by
 have e:Int.tdiv (i:Int) 2=((i / 2:Nat):Int):=rfl
 rw[e,eH (n:=((i / 2:Nat):Int)) (by omega) (by omega),eH (by omega) (by omega)]
 omega
theorem V1 {R:Type} (seq rel:Int) (m:List Int) (hm:m.length≤127) (a1:Int) (s1:aA) (a2 a3 h:Int) (v:aA) (o u:Int) (e0:Int→aA→Int→Int→Int→aA→Int→Int→List Stop→List ad.Way→Option R):∀(F i:Nat) (ns:List Stop) (es:List ad.Way),i≤m.length→m.length - i<F→ns.length≤i→es.length≤i →
  bU F seq rel m (m.length:Int) (i:Int) a1 s1 a2 a3 h v o u ns es e0=e0 a1 s1 a2 a3 h v o u (ns++vA seq rel i (m.drop i)) (es++Gs seq rel i (m.drop i)):=by
 intro F
 induction F with
 | zero=>intro i _ _ _ hF; omega
 | succ F ih =>
  intro i ns es hi hF PO hes
  show nI (fun a b c d g b1 b2 b3 b4 b5 b6 b7 b8 b9 Uw=>bU F a b c d g b1 b2 b3 b4 b5 b6 b7 b8 b9 Uw e0) seq rel m (m.length:Int) (i:Int) a1 s1 a2 a3 h v o u ns es e0=_
  unfold nI
  by_cases dH:i<m.length
  ·have hg:m.getD (i:Int).toNat (Ty.aC (.int .i64))=m[i]:=getD_at dH _
   rw[cD dH,aJ rfl,au (show (i:Int)<(m.length:Int) by omega),cond_true,hg,dU dH (by omega),Km,half_i (by omega),List.drop_eq_getElem_cons dH,ET,G6]
   cases decide (i % 2=1)with
   | true =>
    rw[cond_true,cond_true,cond_true,au (by omega),aJ rfl]
    refine (ih (i+1) _ _ (by omega) (by omega) (by omega) (by rw[List.length_append]; simp only[List.length_cons,List.length_nil]; omega)).trans ?_
    rw[List.append_assoc]; rfl
   | false =>
    rw[cond_false,cond_false,cond_false,au (by omega),aJ rfl]
    refine (ih (i+1) _ _ (by omega) (by omega) (by rw[List.length_append]; simp only[List.length_cons,List.length_nil]; omega) (by omega)).trans ?_
    rw[List.append_assoc]; rfl
  ·rw[az (show ¬(i:Int)<(m.length:Int) by omega),cond_false,List.drop_eq_nil_of_le (by omega)]
   show _=e0 a1 s1 a2 a3 h v o u (ns ++ []) (es ++ [])
   rw[List.append_nil,List.append_nil]
theorem IB {R:Type} (h:Order) (l:List Int) (hl:l.length≤1099511627776) (seq rel:Int) (k:Order→Bool→Option R):iV h l seq rel k=k (A5 h l seq rel).1 (A5 h l seq rel).2:=by
 unfold iV BS A5
 rw[YR l hl]
 cases gH l with
 | false=>rfl
 | true =>
  have e1:min (l.length:Int) 127=((min l.length 127:Nat):Int):=by omega
  have e2:List.take ((min (l.length:Int) 127).toNat - 0) (List.drop 0 l)=l.take 127:=by
   rw[e1,List.drop_zero,Nat.sub_zero,Int.toNat_natCast]
   by_cases hc:l.length≤127
   ·rw[Nat.min_eq_left hc,List.take_of_length_le (Nat.le_refl _),List.take_of_length_le hc]
   ·rw[Nat.min_eq_right (by omega)]
  rw[Bool.not_true,cond_false,Bool.true_and,e2,e1,au (by omega),au (by omega),aJ rfl,Bool.and_self,aJ rfl]
  have hm:(l.take 127).length≤127:=by rw[List.length_take]; omega
  refine (V1 seq rel (l.take 127) hm _ _ _ _ _ _ _ _ _ _ 0 [] [] (by omega) (by omega) (Nat.le_refl _) (Nat.le_refl _)).trans ?_
  rw[List.drop_zero,List.nil_append,List.nil_append]
  have hs:=C3 seq rel (l.take 127) 0
  refine (Of (C4 h l seq rel) (by show (vA seq rel 0 (l.take 127)).length≤_; omega) _).trans ?_
  cases wQ (C4 h l seq rel) <;> rfl

theorem Tx {R:Type} (l:List Int) (hl:l.length≤1099511627776) (seq rel:Int) (h:Order) (a1:Int) (s1:aA) (a2 a3:Int) (e0:List Int→Int→Int→Order→Int→aA→Int→Int→Option R) (e1:List Int→Int→Int→Bool→Order→Int→aA→Int→Int→Option R):∀(F i:Nat),i≤l.length→l.length - i<F →
  bf F l seq rel (i:Int) h a1 s1 a2 a3 e0 e1=bif vJ i (l.drop i)then e0 l seq rel h a1 s1 a2 a3 else e1 l seq rel false h 0 [] 0 0:=by
 intro F
 induction F with
 | zero=>intro i _ hF; omega
 | succ F ih =>
  intro i hi hF
  show mU (fun a b c d g b1 b2 b3 b4=>bf F a b c d g b1 b2 b3 b4 e0 e1) l seq rel (i:Int) h a1 s1 a2 a3 e0 e1=_
  unfold mU
  by_cases dH:i<l.length
  ·have hg:l.getD (i:Int).toNat (Ty.aC (.int .i64))=l[i]:=getD_at dH _
   have ct:∀a:Option R,cC true a=a:=fun _=>rfl
   rw[cD dH]
   simp only[ct]
   rw[au (show (i:Int)<(l.length:Int) by omega),cond_true,hg,dU dH (by omega),Km,Qd,List.drop_eq_getElem_cons dH,lA]
   rw[ih (i+1) (by omega) (by omega)]
   by_cases ho:i % 2=1
   ·rw[au ho,az (show ¬i % 2=0 by omega),cond_false,cond_true]
    by_cases h1:l[i]<1000
    ·rw[au h1,az (show ¬1000≤l[i] by omega)]
     cases decide (0≤l[i]) <;> rfl
    ·rw[az h1,au (show 1000≤l[i] by omega),au (show 0≤l[i] by omega)]; rfl
   ·rw[az ho,au (show i % 2=0 by omega),cond_true]
    by_cases h1:l[i]<0
    ·rw[au h1,az (show ¬0≤l[i] by omega)]; rfl
    ·rw[az h1,au (show 0≤l[i] by omega)]
     by_cases h2:1000≤l[i]
     ·rw[au (show l[i]≥1000 from h2)]; rfl
     ·rw[az (show ¬l[i]≥1000 from h2)]; rfl
  ·rw[az (show ¬(i:Int)<(l.length:Int) by omega),cond_false,List.drop_eq_nil_of_le (by omega)]
   rfl
theorem half_e {i:Nat} (h:i<200) (he:i % 2=0):IntKind.i64.wrap (Int.tdiv (i:Int) 2)=((i - i / 2:Nat):Int):=by
 have e:Int.tdiv (i:Int) 2=((i / 2:Nat):Int):=rfl
 rw[e,eH (by omega) (by omega)]
 omega
theorem half_o {i:Nat} (h:i<200) (he:i % 2=1):IntKind.i64.wrap (Int.tdiv ((i+1:Nat):Int) 2)=((i - i / 2:Nat):Int):=by
 have e:Int.tdiv ((i+1:Nat):Int) 2=(((i+1) / 2:Nat):Int):=rfl
 rw[e,eH (by omega) (by omega)]
 omega
theorem Tz {R:Type} (seq rel:Int) (l:List Int) (hl:l.length≤1099511627776) (a1:Int) (s1:aA) (a2 a3 h:Int) (v:aA) (o u:Int) (e0:Int→aA→Int→Int→Int→aA→Int→Int→List Stop→List ad.Way→Option R):∀(F i:Nat) (ns:List Stop) (es:List ad.Way),i≤(l.take 127).length→(l.take 127).length - i<F→ns.length≤i→es.length≤i →
  aW F l seq rel (i:Int) a1 s1 a2 a3 h v o u ns es e0=e0 a1 s1 a2 a3 h v o u (ns++vA seq rel i ((l.take 127).drop i)) (es++Gs seq rel i ((l.take 127).drop i)):=by
 intro F
 induction F with
 | zero=>intro i _ _ _ hF; omega
 | succ F ih =>
  intro i ns es hi hF PO hes
  show lz (fun a b c d b1 b2 b3 b4 b5 b6 b7 b8 b9 Uw=>aW F a b c d b1 b2 b3 b4 b5 b6 b7 b8 b9 Uw e0) l seq rel (i:Int) a1 s1 a2 a3 h v o u ns es e0=_
  unfold lz
  have hlen:(l.take 127).length=min 127 l.length:=List.length_take
  by_cases dH:i<(l.take 127).length
  ·have hll:i<l.length:=by omega
   have hg:l.getD (i:Int).toNat (Ty.aC (.int .i64))=l[i]:=getD_at hll _
   have hm:(l.take 127)[i]=l[i]:=List.getElem_take ..
   rw[cD hll,au (show (i:Int)<(l.length:Int) by omega),cond_true,au (show (i:Int)<127 by omega),cond_true,hg,dU hll (by omega),Qd,List.drop_eq_getElem_cons dH,ET,G6,hm]
   by_cases ho:i % 2=1
   ·rw[au ho,az (show ¬i % 2=0 by omega),cond_false,cond_true,cond_true,half_o (by omega) ho,aJ rfl,au (by omega),aJ rfl]
    refine (ih (i+1) _ _ (by omega) (by omega) (by omega) (by rw[List.length_append]; simp only[List.length_cons,List.length_nil]; omega)).trans ?_
    rw[List.append_assoc]; rfl
   ·rw[az ho,au (show i % 2=0 by omega),cond_true,cond_false,cond_false,half_e (by omega) (by omega),aJ rfl,au (by omega),aJ rfl]
    refine (ih (i+1) _ _ (by omega) (by omega) (by rw[List.length_append]; simp only[List.length_cons,List.length_nil]; omega) (by omega)).trans ?_
    rw[List.append_assoc]; rfl
  ·rw[List.drop_eq_nil_of_le (by omega)]
   show _=e0 a1 s1 a2 a3 h v o u (ns ++ []) (es ++ [])
   rw[List.append_nil,List.append_nil]
   by_cases h1:(i:Int)<(l.length:Int)
   ·rw[au h1,cond_true,az (show ¬(i:Int)<127 by omega),cond_false]
   ·rw[az h1,cond_false]
theorem Np {R:Type} (h:Order) (hv:h.ae.length≤1099511627776) (l:List Int) (hl:l.length≤1099511627776) (seq rel:Int) (k:Order→Bool→Option R):cy h l seq rel k=k (A5 h l seq rel).1 (A5 h l seq rel).2:=by
 unfold cy zE A5
 rw[Qd]
 unfold gH
 by_cases ho:l.length % 2=0
 ·rw[au ho,cond_true,az (show ¬l.length % 2=1 by omega),Bool.and_false]
  rfl
 ·rw[az ho,cond_false,au (show l.length % 2=1 by omega),Bool.and_true]
  refine (Tx l hl seq rel h _ _ _ _ _ _ _ 0 (by omega) (by omega)).trans ?_
  rw[List.drop_zero]
  cases vJ 0 l with
  | false=>rfl
  | true =>
   rw[cond_true,Bool.true_and]
   have hm:(l.take 127).length≤l.length:=by rw[List.length_take]; omega
   refine (Tz seq rel l hl _ _ _ _ _ _ _ _ _ _ 0 [] [] (by omega) (by omega) (Nat.le_refl _) (Nat.le_refl _)).trans ?_
   rw[List.drop_zero,List.nil_append,List.nil_append]
   have hs:=C3 seq rel (l.take 127) 0
   refine (rright8 (C4 h l seq rel) (by show (vA seq rel 0 (l.take 127)).length≤_; omega) hv _).trans ?_
   cases wQ (C4 h l seq rel) <;> rfl

theorem s9 {R:Type} (c n:Int) (hc:(-9223372036854775808:Int)≤c∧c≤9223372036854775807) (h0:0<n) (hn:n≤9223372036854775807):∃r:Nat,(r:Int)<n∧(∀k:Int→Option R,cn c n k=k (r:Int))∧(∀k:Int→Option R,aK c n k=k (r:Int))∧(∀k:Int→Option R,av c n k=k (r:Int)):=by
 have hz:(!decide (n=0))=true:=by rw[az (show ¬n=0 by omega)]; rfl
 by_cases h:c<0
 ·have hp:=Int.tmod_nonneg n (a := -(c+1)) (by omega)
  have dH:=Int.tmod_lt_of_pos (-(c+1)) h0
  have key:∀k:Int→Option R,(bif decide (c<0)then cC (!decide (n=0)) (k (Int.tmod (IntKind.i64.wrap (0 - IntKind.i64.wrap (c+1))) n))else cC (!decide (n=0)) (k (Int.tmod c n)))=k ((((-(c+1)).tmod n).toNat:Nat):Int):=fun k=>by
   rw[au h,cond_true,hz,aJ rfl,eH (n:=c+1) (by omega) (by omega),eH (by omega) (by omega),show (0:Int) - (c+1) = -(c+1) by omega,Int.toNat_of_nonneg hp]
  exact ⟨_,by omega,key,key,key⟩
 ·have hp:=Int.tmod_nonneg n (a:=c) (by omega)
  have dH:=Int.tmod_lt_of_pos c h0
  have key:∀k:Int→Option R,(bif decide (c<0)then cC (!decide (n=0)) (k (Int.tmod (IntKind.i64.wrap (0 - IntKind.i64.wrap (c+1))) n))else cC (!decide (n=0)) (k (Int.tmod c n)))=k (((c.tmod n).toNat:Nat):Int):=fun k=>by
   rw[az h,cond_false,hz,aJ rfl,Int.toNat_of_nonneg hp]
  exact ⟨_,by omega,key,key,key⟩

structure Kn (y:ad.cf):Prop where
 nodes:1≤y.nodes∧y.nodes≤8
 many:y.af.length≤24
 dst:∀e∈y.af,0≤e.dst∧e.dst<y.nodes

theorem V2 {R:Type} (raw:List oD) (i n0 nn:Int) (es:List ad.Edge) (hes:es.length≤24) (e:ad.Edge) (e0:List oD→Int→Bool→Int→Int→List ad.Edge→ad.Edge→Option R):∀(F j:Nat) (b:Bool),j≤es.length→es.length - j<F →
  ∃b':Bool,bg F raw i b (j:Int) n0 nn es e e0=e0 raw i b' n0 nn es e:=by
 intro F
 induction F with
 | zero=>intro j _ _ hF; omega
 | succ F ih =>
  intro j b hj hF
  show ∃b':Bool,pK (fun a b c d g h k l=>bg F a b c d g h k l e0) raw i b (j:Int) n0 nn es e e0=_
  unfold pK
  by_cases dH:j<es.length
  ·rw[cD dH,au (show (j:Int)<(es.length:Int) by omega),cond_true,dU dH (by omega)]
   cases b with
   | false=>exact ih (j+1) false (by omega) (by omega)
   | true =>
    rw[cond_true,aJ rfl]
    cases hb:((es.getD (j:Int).toNat (Ty.aC .fk)).src != e.src)with
    | true =>
     obtain ⟨b',h⟩:=ih (j+1) true (by omega) (by omega)
     exact ⟨b',h⟩
    | false =>
     obtain ⟨b',h⟩:=ih (j+1) ((es.getD (j:Int).toNat (Ty.aC .fk)).dst != e.dst) (by omega) (by omega)
     exact ⟨b',h⟩
  ·refine ⟨b,?_⟩
   rw[az (show ¬(j:Int)<(es.length:Int) by omega),cond_false]

theorem V3 {R:Type} (raw:List oD) (hraw:raw.length≤1048576) (hr:∀x∈raw,((-9223372036854775808:Int)≤x.a∧x.a≤9223372036854775807)∧((-9223372036854775808:Int)≤x.b∧x.b≤9223372036854775807)∧((-9223372036854775808:Int)≤x.c∧x.c≤9223372036854775807)) (n0 nn:Int) (hn:1≤nn∧nn≤8) (e0:Int→Int→List ad.Edge→Option R) :
  ∀(F i:Nat) (es:List ad.Edge),i≤raw.length→raw.length - i<F→es.length≤24→(∀e∈es,0≤e.dst∧e.dst<nn) →
   ∃Qh:List ad.Edge,Qh.length≤24∧(∀e∈Qh,0≤e.dst∧e.dst<nn)∧bh F raw (i:Int) n0 nn es e0=e0 n0 nn Qh:=by
 intro F
 induction F with
 | zero=>intro i _ _ hF; omega
 | succ F ih =>
  intro i es hi hF hes WN
  show ∃Qh:List ad.Edge,Qh.length≤24∧(∀e∈Qh,0≤e.dst∧e.dst<nn)∧pL cn bg (fun a b c d g=>bh F a b c d g e0) raw (i:Int) n0 nn es e0=_
  unfold pL
  by_cases dH:i<raw.length
  rotate_left
  ·exact ⟨es,hes,WN,by rw[az (show ¬(i:Int)<(raw.length:Int) by omega),cond_false]⟩
  by_cases h24:es.length<24
  rotate_left
  ·exact ⟨es,hes,WN,by rw[au (show (i:Int)<(raw.length:Int) by omega),cond_true,az (show ¬(es.length:Int)<24 by omega),cond_false]⟩
  have hg:raw.getD (i:Int).toNat (Ty.aC .u7)=raw[i]:=getD_at dH _
  obtain ⟨ha,hb,hc⟩:=hr raw[i] (List.getElem_mem dH)
  obtain ⟨ra,ra1,ra2,_⟩:=s9 (R:=R) raw[i].a nn ha (by omega) (by omega)
  obtain ⟨rb,rb1,rb2,_⟩:=s9 (R:=R) raw[i].b nn hb (by omega) (by omega)
  obtain ⟨rc,rc1,rc2,_⟩:=s9 (R:=R) raw[i].c 9 hc (by omega) (by omega)
  rw[cD dH,au (show (i:Int)<(raw.length:Int) by omega),cond_true,au (show (es.length:Int)<24 by omega),cond_true,hg,aJ rfl,ra2,aJ rfl,rb2,aJ rfl,rc2]
  obtain ⟨b',h8⟩:=V2 (R:=R) raw (i:Int) n0 nn es (by omega) ⟨(ra:Int),(rb:Int),IntKind.i64.wrap (1+(rc:Int))⟩ (fun J9 Ka Rs Jg Nw Fp Qn=>bif Rs then (cC (decide ((Fp.length+1)*24≤140737488355328)) (bh F J9 (IntKind.i64.wrap (Ka+1)) Jg Nw (Fp++([Qn]:List ad.Edge)) e0))else (bh F J9 (IntKind.i64.wrap (Ka+1)) Jg Nw Fp e0))
   (List.length raw+Int.natAbs (i:Int)+Int.natAbs 0+Int.natAbs n0+Int.natAbs nn+List.length es+ad.Edge.fu (⟨(ra:Int),(rb:Int),IntKind.i64.wrap (1+(rc:Int))⟩:ad.Edge)+64) 0 ((ra:Int) != (rb:Int)) (by omega) (by omega)
  have h8':=fun (Qh:List ad.Edge) (hx:Qh.length≤24∧(∀e∈Qh,0≤e.dst∧e.dst<nn)∧_=e0 n0 nn Qh)=>(⟨Qh,hx.1,hx.2.1,h8.trans hx.2.2⟩:∃Qh:List ad.Edge,Qh.length≤24∧(∀e∈Qh,0≤e.dst∧e.dst<nn)∧_=e0 n0 nn Qh)
  cases b' with
  | true =>
   obtain ⟨Qh,h1,h2,h3⟩:=ih (i+1) (es ++ [⟨(ra:Int),(rb:Int),IntKind.i64.wrap (1+(rc:Int))⟩]) (by omega) (by omega) (by rw[List.length_append]; simp only[List.length_cons,List.length_nil]; omega) (fun e he=>by
    rcases List.mem_append.1 he with h|h
    ·exact WN e h
    ·rw[List.mem_singleton.1 h]; exact ⟨Int.natCast_nonneg _,rb1⟩)
   refine h8' Qh ⟨h1,h2,?_⟩
   rw[cond_true,au (by omega),aJ rfl,dU dH (by omega)]
   exact h3
  | false =>
   obtain ⟨Qh,h1,h2,h3⟩:=ih (i+1) es (by omega) (by omega) hes WN
   refine h8' Qh ⟨h1,h2,?_⟩
   rw[cond_false,dU dH (by omega)]
   exact h3
theorem layFit {R:Type} (n:Int) (raw:List oD) (hn:(-9223372036854775808:Int)≤n∧n≤9223372036854775807) (hraw:raw.length≤1048576) (hr:∀x∈raw,((-9223372036854775808:Int)≤x.a∧x.a≤9223372036854775807)∧((-9223372036854775808:Int)≤x.b∧x.b≤9223372036854775807)∧((-9223372036854775808:Int)≤x.c∧x.c≤9223372036854775807)) (k:ad.cf→Option R) :
  ∃y:ad.cf,Kn y∧db n raw k=k y:=by
 obtain ⟨r,r1,r2,_⟩:=s9 (R:=R) n 8 hn (by omega) (by omega)
 have e:db n raw k=cn n 8 (fun y3=>bh (List.length raw+Int.natAbs 0+Int.natAbs 0+Int.natAbs (IntKind.i64.wrap (1+y3))+List.length ([]:List ad.Edge)+64) raw 0 0 (IntKind.i64.wrap (1+y3)) ([]:List ad.Edge) (fun y29 Wm Yf=>k (⟨Wm,Yf⟩:ad.cf))):=rfl
 have hw:IntKind.i64.wrap (1+(r:Int))=1+(r:Int):=eH (by omega) (by omega)
 rw[e,r2,hw]
 obtain ⟨es,h1,h2,h3⟩:=V3 (R:=R) raw hraw hr 0 (1+(r:Int)) (by omega) (fun y29 Wm Yf=>k (⟨Wm,Yf⟩:ad.cf)) (List.length raw+Int.natAbs 0+Int.natAbs 0+Int.natAbs (1+(r:Int))+List.length ([]:List ad.Edge)+64) 0 [] (by omega) (by omega) (by simp) (fun e he=>by cases he)
 exact ⟨⟨1+(r:Int),es⟩,⟨by show (1:Int)≤1+(r:Int)∧1+(r:Int)≤8; omega,h1,h2⟩,h3⟩

abbrev i64 (n:Int):Prop:=(-9223372036854775808:Int)≤n∧n≤9223372036854775807
theorem O5:∀(l m:List Int) (i:Nat),vJ i (l++m)=(vJ i l&&vJ (i+l.length) m)
 | [],m,i=>by simp[vJ]
 | x::l,m,i=>by
  rw[List.cons_append,lA,lA,O5 l m (i+1),List.length_cons,show i+1+l.length=i+(l.length+1) by omega]
  simp only[Bool.and_assoc]

theorem TA {R:Type} (y:ad.cf) (hy:Kn y) (turns:List Int) (most n:Int) (out:List Int) (i:Int) (e0:List Int→Int→List Int→Int→List Int→ad.cf→Option R):∀(F j:Nat) (o:List Int),j≤y.af.length→y.af.length - j<F→o.length≤j→(∀x∈o,∃z:Nat,x=z∧z<y.af.length) →
  ∃o':List Int,o'.length≤24∧(∀x∈o',∃z:Nat,x=z∧z<y.af.length)∧aY F turns most n out i o (j:Int) y e0=e0 turns most out i o' y:=by
 have hm:=hy.many
 intro F
 induction F with
 | zero=>intro j _ _ hF; omega
 | succ F ih =>
  intro j o hj hF ho hz
  show ∃o':List Int,o'.length≤24∧(∀x∈o',∃z:Nat,x=z∧z<y.af.length)∧nY (fun a b c d g h k l=>aY F a b c d g h k l e0) turns most n out i o (j:Int) y e0=_
  unfold nY
  by_cases dH:j<y.af.length
  rotate_left
  ·exact ⟨o,by omega,hz,by rw[az (show ¬(j:Int)<(y.af.length:Int) by omega),cond_false]⟩
  rw[cD dH,aJ rfl,au (show (j:Int)<(y.af.length:Int) by omega),cond_true,dU dH (by omega)]
  cases hb:((y.af.getD (j:Int).toNat (Ty.aC .fk)).src==n)with
  | false=>exact ih (j+1) o (by omega) (by omega) (by omega) hz
  | true =>
   rw[cond_true,au (by omega),aJ rfl]
   exact ih (j+1) (o ++ [(j:Int)]) (by omega) (by omega) (by rw[List.length_append]; simp only[List.length_cons,List.length_nil]; omega) (fun x hx=>by
    rcases List.mem_append.1 hx with h|h
    ·exact hz x h
    ·exact ⟨j,List.mem_singleton.1 h,dH⟩)

theorem TB {R:Type} (y:ad.cf) (hy:Kn y) (turns:List Int) (ht:turns.length≤1048576) (ZL:∀x∈turns,i64 x) (most:Nat) (hmost:most≤20) (e0:List Int→Option R):∀(F i:Nat) (n:Int) (out:List Int),i≤turns.length→i≤most→turns.length - i<F→out.length≤2*i+1→gH out=true →
  ∃p:List Int,gH p=true∧p.length≤41∧bc F turns (most:Int) n out (i:Int) y e0=e0 p:=by
 intro F
 induction F with
 | zero=>intro i _ _ _ _ hF; omega
 | succ F ih =>
  intro i n out hi hm hF ho hp
  show ∃p:List Int,gH p=true∧p.length≤41∧nZ aK aY (fun a b c d g h=>bc F a b c d g h e0) turns (most:Int) n out (i:Int) y e0=_
  unfold nZ
  by_cases dH:i<turns.length
  rotate_left
  ·exact ⟨out,hp,by omega,by rw[az (show ¬(i:Int)<(turns.length:Int) by omega),cond_false]⟩
  by_cases hlm:i<most
  rotate_left
  ·exact ⟨out,hp,by omega,by rw[au (show (i:Int)<(turns.length:Int) by omega),cond_true,az (show ¬(i:Int)<(most:Int) by omega),cond_false]⟩
  rw[au (show (i:Int)<(turns.length:Int) by omega),cond_true,au (show (i:Int)<(most:Int) by omega),cond_true]
  have hfu:y.af.length<List.length turns+Int.natAbs (most:Int)+Int.natAbs n+List.length out+Int.natAbs (i:Int)+List.length ([]:List Int)+Int.natAbs 0+ad.cf.fu y+64:=by have:=hy.many; omega
  obtain ⟨o,o1,o2,o3⟩:=TA (R:=R) y hy turns (most:Int) n out (i:Int) (fun Lm J9 Ka Rs Jg Nw=>bif ((Jg.length:Int)==0)then (e0 Ka)else (cC (decide ((0:Int)≤Rs)&&decide (Rs<(Lm.length:Int))) (aK (Lm.getD Rs.toNat (Ty.aC (.int .i64))) (Jg.length:Int) (fun Fp=>cC (decide ((0:Int)≤Fp)&&decide (Fp<(Jg.length:Int))) (cC (decide ((0:Int)≤(Jg.getD Fp.toNat (Ty.aC (.int .i64))))&&decide ((Jg.getD Fp.toNat (Ty.aC (.int .i64)))<(Nw.af.length:Int))) (cC (decide ((Ka.length+2)*8≤140737488355328)) (bc F Lm J9 ((Nw.af.getD (Jg.getD Fp.toNat (Ty.aC (.int .i64))).toNat (Ty.aC .fk)).dst) ((Ka:List Int)++(([(IntKind.i64.wrap (1000+(Jg.getD Fp.toNat (Ty.aC (.int .i64))))),(Nw.af.getD (Jg.getD Fp.toNat (Ty.aC (.int .i64))).toNat (Ty.aC .fk)).dst]:List Int):List Int)) (IntKind.i64.wrap (Rs+1)) Nw e0))))))) _ 0 [] (Nat.zero_le _) (by omega) (Nat.le_refl _) (fun x hx=>by cases hx)
  have o3':=fun (p:List Int) (hx:gH p=true∧p.length≤41∧_=e0 p)=>(⟨p,hx.1,hx.2.1,o3.trans hx.2.2⟩:∃p:List Int,gH p=true∧p.length≤41∧_=e0 p)
  by_cases hz:o.length=0
  ·refine o3' out ⟨hp,by omega,?_⟩
   rw[kl,au (show (o.length:Int)=0 by omega),cond_true]
  have hg:turns.getD (i:Int).toNat (Ty.aC (.int .i64))=turns[i]:=getD_at dH _
  obtain ⟨r,r1,_,r2,_⟩:=s9 (R:=R) turns[i] (o.length:Int) (ZL _ (List.getElem_mem dH)) (by omega) (by omega)
  have hro:r<o.length:=by omega
  have hg2:o.getD (r:Int).toNat (Ty.aC (.int .i64))=o[r]:=getD_at hro _
  obtain ⟨z,z1,z2⟩:=o2 o[r] (List.getElem_mem hro)
  have hg3:y.af.getD (z:Int).toNat (Ty.aC .fk)=y.af[z]:=getD_at z2 _
  obtain ⟨d1,d2⟩:=hy.dst y.af[z] (List.getElem_mem z2)
  have hyn:=hy.nodes
  have ZI:=hy.many
  have hw:IntKind.i64.wrap (1000+(z:Int))=1000+(z:Int):=eH (by omega) (by omega)
  unfold gH at hp
  rw[Bool.and_eq_true,decide_eq_true_eq]at hp
  have hp2:gH (out ++ [1000+(z:Int),y.af[z].dst])=true:=by
   unfold gH
   rw[O5,hp.1,Bool.true_and,List.length_append,lA,lA,Nat.zero_add]
   rw[au (show (0:Int)≤1000+(z:Int) by omega),au (show (1000:Int)≤1000+(z:Int) by omega),au hp.2,au d1,az (show ¬(1000:Int)≤y.af[z].dst by omega),az (show ¬(out.length+1) % 2=1 by omega),au (by simp only[List.length_cons,List.length_nil]; omega)]
   rfl
  obtain ⟨p,p1,p2,p3⟩:=ih (i+1) y.af[z].dst (out ++ [1000+(z:Int),y.af[z].dst]) (by omega) (by omega) (by omega) (by rw[List.length_append]; simp only[List.length_cons,List.length_nil]; omega) hp2
  refine o3' p ⟨p1,p2,?_⟩
  rw[kl,az (show ¬(o.length:Int)=0 by omega),cond_false,cD dH,aJ rfl,hg,r2,cD hro,aJ rfl,hg2,z1,cD z2,aJ rfl,au (by omega),aJ rfl,hg3,hw,dU dH (by omega)]
  exact p3
theorem V4 {R:Type} (y:ad.cf) (hy:Kn y) (from_:Int) (hf:i64 from_) (turns:List Int) (ht:turns.length≤1048576) (ZL:∀x∈turns,i64 x) (k:List Int→Option R) :
  ∃p:List Int,gH p=true∧p.length≤41∧gR y from_ turns 20 k=k p:=by
 have hyn:=hy.nodes
 obtain ⟨r,r1,_,r2,_⟩:=s9 (R:=R) from_ y.nodes hf (by omega) (by omega)
 have e:gR y from_ turns 20 k=aK from_ y.nodes (fun y5=>bc (List.length turns+Int.natAbs 20+Int.natAbs y5+List.length ([y5]:List Int)+Int.natAbs 0+ad.cf.fu y+64) turns 20 y5 ([y5]:List Int) 0 y (fun Qn=>k Qn)):=rfl
 rw[e,r2]
 refine TB y hy turns ht ZL 20 (Nat.le_refl _) k (List.length turns+Int.natAbs 20+Int.natAbs (r:Int)+List.length ([(r:Int)]:List Int)+Int.natAbs 0+ad.cf.fu y+64) 0 (r:Int) [(r:Int)] (by omega) (by omega) (by omega) (Nat.le_refl _) ?_
 unfold gH
 rw[lA,au (show (0:Int)≤(r:Int) by omega),az (show ¬(1000:Int)≤(r:Int) by omega)]
 rfl

structure RawK (x:kh):Prop where
 header:i64 x.header
 order:i64 x.order
 update:i64 x.update
 seq:i64 x.seq
 from_:i64 x.from_
 ax:i64 x.ax
 many:x.turns.length≤1048576
 turns:∀z∈x.turns,i64 z
theorem YS:([118]:aA).length≤1099511627776:=by decide
theorem made13 {R:Type} (y:ad.cf) (hy:Kn y) (x:kh) (hx:RawK x) (k:Order→List Int→Option R) :
  ∃(p:List Int) (o:Order),gH p=true∧p.length≤41∧mE o∧(0≤o.header∧o.header≤50)∧gS y x k=k o p:=by
 have e:∀k:Order→List Int→Option R,gS y x k=gR y x.from_ x.turns 20 (fun y3=>aK x.header 50 (fun y4=>aK x.order 3 (fun y5=>aK x.update 4 (fun y6=>aK x.seq 20 (fun y7=>aK x.ax (IntKind.i64.wrap (Int.tdiv (IntKind.i64.wrap ((y3.length:Int)+1)) 2)) (fun y8=>cy (⟨y4,([118]:aA),y5,y6,([]:List Stop),([]:List ad.Way)⟩:Order) y3 (IntKind.i64.wrap (2*y7)) (IntKind.i64.wrap (1+y8)) (fun y9 vD=>k y9 y3))))))):=fun _=>rfl
 rw[e]
 obtain ⟨p,p1,p2,p3⟩:=V4 (R:=R) y hy x.from_ hx.from_ x.turns hx.many hx.turns (fun y3=>aK x.header 50 (fun y4=>aK x.order 3 (fun y5=>aK x.update 4 (fun y6=>aK x.seq 20 (fun y7=>aK x.ax (IntKind.i64.wrap (Int.tdiv (IntKind.i64.wrap ((y3.length:Int)+1)) 2)) (fun y8=>cy (⟨y4,([118]:aA),y5,y6,([]:List Stop),([]:List ad.Way)⟩:Order) y3 (IntKind.i64.wrap (2*y7)) (IntKind.i64.wrap (1+y8)) (fun y9 vD=>k y9 y3)))))))
 rw[p3]
 obtain ⟨a,a1,_,a2,_⟩:=s9 (R:=R) x.header 50 hx.header (by omega) (by omega)
 obtain ⟨b,b1,_,b2,_⟩:=s9 (R:=R) x.order 3 hx.order (by omega) (by omega)
 obtain ⟨c,c1,_,c2,_⟩:=s9 (R:=R) x.update 4 hx.update (by omega) (by omega)
 obtain ⟨d,d1,_,d2,_⟩:=s9 (R:=R) x.seq 20 hx.seq (by omega) (by omega)
 have hodd:p.length % 2=1:=by
  unfold gH at p1
  rw[Bool.and_eq_true,decide_eq_true_eq]at p1
  exact p1.2
 have hn:IntKind.i64.wrap (Int.tdiv (IntKind.i64.wrap ((p.length:Int)+1)) 2)=(((p.length+1) / 2:Nat):Int):=by
  rw[eH (n:=(p.length:Int)+1) (by omega) (by omega),show (p.length:Int)+1=((p.length+1:Nat):Int) by omega,show Int.tdiv ((p.length+1:Nat):Int) 2=(((p.length+1) / 2:Nat):Int)from rfl,eH (by omega) (by omega)]
 obtain ⟨g,g1,_,g2,_⟩:=s9 (R:=R) x.ax (((p.length+1) / 2:Nat):Int) hx.ax (by omega) (by omega)
 rw[a2,b2,c2,d2,hn,g2,Np _ YS _ (by omega)]
 refine ⟨p,_,p1,p2,nr _ YS _ _ _,?_,rfl⟩
 unfold A5
 cases gH p&&wQ (C4 ⟨(a:Int), [118],(b:Int),(c:Int), [], []⟩ p (IntKind.i64.wrap (2*(d:Int))) (IntKind.i64.wrap (1+(g:Int))))
 ·exact ⟨Int.le_refl _,by show (0:Int)≤50; omega⟩
 ·exact ⟨Int.natCast_nonneg _,Int.le_of_lt a1⟩

structure Ux (d:bD):Prop where
 ae:d.ae = [118]
 header:0≤d.header∧d.header≤1000000000
 order:0≤d.order∧d.order≤8
 update:0≤d.update∧d.update≤8
 aX:0≤d.aX∧d.aX≤3
 seen:0≤d.seen∧d.seen≤8
 path:gH d.path=true∧d.path.length≤41
 seq:∃q:Nat,d.seq=2*(q:Int)∧q≤8
 rel:0≤d.rel∧d.rel≤20
 Iz:mE d.pending∧0≤d.pending.header∧d.pending.header≤50
theorem Ux.short {d:bD} (h:Ux d):dm d:=⟨by have:=h.path.2; omega,by rw[h.ae]; decide,h.Iz.1⟩
structure NumC (c:bD):Prop where
 header:i64 c.header
 order:i64 c.order
 update:i64 c.update
 aX:i64 c.aX
 seen:i64 c.seen
 seq:i64 c.seq
 rel:i64 c.rel
theorem fit18 {R:Type} (y:ad.cf) (hy:Kn y) (c:bD) (hc:NumC c) (x:kh) (hx:RawK x) (k:bD→Option R):∃d:bD,Ux d∧dc y c x k=k d:=by
 have e:∀k:bD→Option R,dc y c x k=gS y x (fun y4 y5=>av c.header 1000000001 (fun y6=>av c.order 9 (fun y7=>av c.update 9 (fun y8=>av c.aX 4 (fun y9=>av c.seen 9 (fun vD=>av c.seq 9 (fun uJ=>av c.rel (IntKind.i64.wrap ((IntKind.i64.wrap (Int.tdiv (y5.length:Int) 2))+1)) (fun pH=>bif c.wait then (k (⟨([118]:aA),y6,y7,y8,y9,vD,y5,(IntKind.i64.wrap (2*uJ)),c.open_,pH,c.wait,⟨y4.header,y4.ae,y4.order,y4.update,y4.nodes,y4.af⟩⟩:bD))else (k (⟨([118]:aA),y6,y7,y8,y9,vD,y5,(IntKind.i64.wrap (2*uJ)),c.open_,pH,c.wait,⟨0,([]:aA),0,0,([]:List Stop),([]:List ad.Way)⟩⟩:bD)))))))))):=fun _=>rfl
 rw[e]
 obtain ⟨p,o,p1,p2,o1,o2,h⟩:=made13 (R:=R) y hy x hx (fun y4 y5=>av c.header 1000000001 (fun y6=>av c.order 9 (fun y7=>av c.update 9 (fun y8=>av c.aX 4 (fun y9=>av c.seen 9 (fun vD=>av c.seq 9 (fun uJ=>av c.rel (IntKind.i64.wrap ((IntKind.i64.wrap (Int.tdiv (y5.length:Int) 2))+1)) (fun pH=>bif c.wait then (k (⟨([118]:aA),y6,y7,y8,y9,vD,y5,(IntKind.i64.wrap (2*uJ)),c.open_,pH,c.wait,⟨y4.header,y4.ae,y4.order,y4.update,y4.nodes,y4.af⟩⟩:bD))else (k (⟨([118]:aA),y6,y7,y8,y9,vD,y5,(IntKind.i64.wrap (2*uJ)),c.open_,pH,c.wait,⟨0,([]:aA),0,0,([]:List Stop),([]:List ad.Way)⟩⟩:bD))))))))))
 rw[h]
 obtain ⟨a,a1,_,_,a2⟩:=s9 (R:=R) c.header 1000000001 hc.header (by omega) (by omega)
 obtain ⟨b,b1,_,_,b2⟩:=s9 (R:=R) c.order 9 hc.order (by omega) (by omega)
 obtain ⟨u,u1,_,_,u2⟩:=s9 (R:=R) c.update 9 hc.update (by omega) (by omega)
 obtain ⟨t,t1,_,_,t2⟩:=s9 (R:=R) c.aX 4 hc.aX (by omega) (by omega)
 obtain ⟨s,s1,_,_,s2⟩:=s9 (R:=R) c.seen 9 hc.seen (by omega) (by omega)
 obtain ⟨q,q1,_,_,q2⟩:=s9 (R:=R) c.seq 9 hc.seq (by omega) (by omega)
 have hn:IntKind.i64.wrap ((IntKind.i64.wrap (Int.tdiv (p.length:Int) 2))+1)=((p.length / 2+1:Nat):Int):=by
  rw[show Int.tdiv (p.length:Int) 2=((p.length / 2:Nat):Int)from rfl,eH (n:=((p.length / 2:Nat):Int)) (by omega) (by omega),eH (by omega) (by omega)]
  omega
 obtain ⟨g,g1,_,_,g2⟩:=s9 (R:=R) c.rel ((p.length / 2+1:Nat):Int) hc.rel (by omega) (by omega)
 have hw:IntKind.i64.wrap (2*(q:Int))=2*(q:Int):=eH (by omega) (by omega)
 rw[a2,b2,u2,t2,s2,q2,hn,g2,hw]
 cases c.wait with
 | true=>exact ⟨_,⟨rfl,⟨by show (0:Int)≤(a:Int); omega,by show (a:Int)≤_; omega⟩,⟨by show (0:Int)≤(b:Int); omega,by show (b:Int)≤_; omega⟩,⟨by show (0:Int)≤(u:Int); omega,by show (u:Int)≤_; omega⟩,⟨by show (0:Int)≤(t:Int); omega,by show (t:Int)≤_; omega⟩,⟨by show (0:Int)≤(s:Int); omega,by show (s:Int)≤_; omega⟩,⟨p1,p2⟩,⟨q,rfl,by omega⟩,⟨by show (0:Int)≤(g:Int); omega,by show (g:Int)≤_; omega⟩,⟨⟨o1.nodes,o1.af,o1.name⟩,o2⟩⟩,rfl⟩
 | false=>exact ⟨_,⟨rfl,⟨by show (0:Int)≤(a:Int); omega,by show (a:Int)≤_; omega⟩,⟨by show (0:Int)≤(b:Int); omega,by show (b:Int)≤_; omega⟩,⟨by show (0:Int)≤(u:Int); omega,by show (u:Int)≤_; omega⟩,⟨by show (0:Int)≤(t:Int); omega,by show (t:Int)≤_; omega⟩,⟨by show (0:Int)≤(s:Int); omega,by show (s:Int)≤_; omega⟩,⟨p1,p2⟩,⟨q,rfl,by omega⟩,⟨by show (0:Int)≤(g:Int); omega,by show (g:Int)≤_; omega⟩,⟨EU,⟨Int.le_refl _,by show (0:Int)≤50; omega⟩⟩⟩,rfl⟩

theorem RR {R:Type} (l:List Int) (hl:l.length≤1099511627776) (x:Int) (X e0:Option R) (e1:Int→Option R) (h1:∀j:Nat,e1 (j:Int)=X):∀(F i:Nat),i≤l.length→l.length - i<F →
  aD F l x (l.length:Int) (i:Int) e0 e1=bif (l.drop i).contains x then X else e0:=by
 intro F
 induction F with
 | zero=>intro i _ hF; omega
 | succ F ih =>
  intro i hi hF
  show fF (fun a b c d=>aD F a b c d e0 e1) l x (l.length:Int) (i:Int) e0 e1=_
  unfold fF
  by_cases h:i<l.length
  ·have hg:l.getD (i:Int).toNat (Ty.aC (.int .i64))=l[i]:=getD_at h _
   rw[cD h,aJ rfl,au (show (i:Int)<(l.length:Int) by omega),cond_true,hg,dU h (by omega),List.drop_eq_getElem_cons h,List.contains_cons,h1]
   dsimp only
   rw[ih (i+1) (by omega) (by omega)]
   cases x==l[i] <;> rfl
  ·rw[az (show ¬(i:Int)<(l.length:Int) by omega),cond_false,List.drop_eq_nil_of_le (by omega)]
   rfl
theorem wb {R:Type} (l:List Int) (hl:l.length≤1099511627776) (x:Int) (k:Bool→Option R):ag l x k=k (l.contains x):=by
 unfold ag j7 c8 ml
 refine (RR l hl x (k true) _ _ (fun j => ?_) _ 0 (by omega) (by omega)).trans ?_
 ·show k (decide ((j:Int)≥0))=k true
  rw[au (show (j:Int)≥0 by omega)]
 ·rw[List.drop_zero]
  cases l.contains x <;> rfl
theorem V5 {R:Type} (l:List Int) (hl:l.length≤1099511627776) (x:Int) (e0:Option R) (e1:Bool→Option R):∀(F i:Nat),i≤l.length→l.length - i<F →
  cm F l x (i:Int) e0 e1=bif (l.drop i).contains x then e1 true else e0:=by
 intro F
 induction F with
 | zero=>intro i _ hF; omega
 | succ F ih =>
  intro i hi hF
  show pO (fun a b c=>cm F a b c e0 e1) l x (i:Int) e0 e1=_
  unfold pO
  by_cases h:i<l.length
  ·have hg:l.getD (i:Int).toNat (Ty.aC (.int .i64))=l[i]:=getD_at h _
   rw[cD h,aJ rfl,au (show (i:Int)<(l.length:Int) by omega),cond_true,hg,dU h (by omega),List.drop_eq_getElem_cons h,List.contains_cons]
   dsimp only
   rw[ih (i+1) (by omega) (by omega),show (l[i]==x)=(x==l[i])from by rw[kl,kl]; congr 1; exact propext ⟨Eq.symm,Eq.symm⟩]
   cases x==l[i] <;> rfl
  ·rw[az (show ¬(i:Int)<(l.length:Int) by omega),cond_false,List.drop_eq_nil_of_le (by omega)]
   rfl
theorem Lp {R:Type} (l:List Int) (hl:l.length≤1099511627776) (x:Int) (k:Bool→Option R):cB l x k=k (l.contains x):=by
 unfold cB ER
 refine (V5 l hl x _ _ _ 0 (by omega) (by omega)).trans ?_
 rw[List.drop_zero]
 cases l.contains x <;> rfl

def u6 (rest:List Int):List Int→List Int→List Int
 | left, []=>left
 | left,x::g=>bif rest.contains x then u6 rest left g else bif left.contains x then u6 rest left g else u6 rest (left ++ [x]) g
theorem xj (rest left:List Int) (x:Int) (g:List Int):u6 rest left (x::g)=bif rest.contains x then u6 rest left g else bif left.contains x then u6 rest left g else u6 rest (left ++ [x]) g:=rfl
theorem JK (rest:List Int):∀(g left:List Int),(u6 rest left g).length≤left.length+g.length
 | [],left=>by simp[u6]
 | x::g,left=>by
  rw[xj]
  have h1:=JK rest g left
  have h2:=JK rest g (left ++ [x])
  rw[List.length_append]at h2
  simp only[List.length_cons,List.length_nil]at h2 ⊢
  cases rest.contains x <;> cases left.contains x <;> simp only[cond_true,cond_false] <;> omega

theorem TC {R:Type} (n:Int) (gone:List Int) (hg:gone.length≤1099511627776) (c:bD) (hc:c.path.length≤1099511627776) (e0:Int→List Int→bD→Option R):∀(F i:Nat) (left:List Int),i≤gone.length→gone.length - i<F→left.length≤i →
  aF F n left gone (gone.length:Int) (i:Int) c e0=e0 n (u6 c.path left (gone.drop i)) c:=by
 intro F
 induction F with
 | zero=>intro i _ _ hF; omega
 | succ F ih =>
  intro i left hi hF hl
  show fJ ag (fun a b c d g h=>aF F a b c d g h e0) n left gone (gone.length:Int) (i:Int) c e0=_
  unfold fJ
  by_cases h:i<gone.length
  ·have hg:gone.getD (i:Int).toNat (Ty.aC (.int .i64))=gone[i]:=getD_at h _
   rw[cD h,aJ rfl,au (show (i:Int)<(gone.length:Int) by omega),cond_true,hg,dU h (by omega),List.drop_eq_getElem_cons h,xj,wb _ hc]
   cases c.path.contains gone[i]with
   | true=>rw[Bool.not_true,cond_false,cond_true]; exact ih (i+1) left (by omega) (by omega) (by omega)
   | false =>
    rw[Bool.not_false,cond_false,cond_true,wb _ (by omega)]
    cases left.contains gone[i]with
    | true=>rw[Bool.not_true,cond_false,cond_true]; exact ih (i+1) left (by omega) (by omega) (by omega)
    | false =>
     rw[Bool.not_false,cond_false,cond_true,au (by omega),aJ rfl]
     exact ih (i+1) (left ++ [gone[i]]) (by omega) (by omega) (by rw[List.length_append]; simp only[List.length_cons,List.length_nil]; omega)
  ·rw[az (show ¬(i:Int)<(gone.length:Int) by omega),cond_false,List.drop_eq_nil_of_le (by omega)]
   rfl
theorem TE {R:Type} (n:Int) (gone:List Int) (hg:gone.length≤1099511627776) (a1:aA) (a2 a3 a4 a5 a6:Int) (pa:List Int) (hc:pa.length≤1099511627776) (a8:Int) (a9:Bool) (Sc:Int) (TH:Bool) (a12:Int) (Sd:aA) (TJ TK:Int) (e0:Int→List Int→aA→Int→Int→Int→Int→Int→List Int→Int→Bool→Int→Bool→Int→aA→Int→Int→Option R):∀(F i:Nat) (left:List Int),i≤gone.length→gone.length - i<F→left.length≤i →
  aE F n left gone (gone.length:Int) (i:Int) a1 a2 a3 a4 a5 a6 pa a8 a9 Sc TH a12 Sd TJ TK e0=e0 n (u6 pa left (gone.drop i)) a1 a2 a3 a4 a5 a6 pa a8 a9 Sc TH a12 Sd TJ TK:=by
 intro F
 induction F with
 | zero=>intro i _ _ hF; omega
 | succ F ih =>
  intro i left hi hF hl
  show fH ag (fun a b c d g b1 b2 b3 b4 b5 b6 b7 b8 b9 Uw Zo Zp b13 b14 b15=>aE F a b c d g b1 b2 b3 b4 b5 b6 b7 b8 b9 Uw Zo Zp b13 b14 b15 e0) n left gone (gone.length:Int) (i:Int) a1 a2 a3 a4 a5 a6 pa a8 a9 Sc TH a12 Sd TJ TK e0=_
  unfold fH
  by_cases h:i<gone.length
  ·have hg:gone.getD (i:Int).toNat (Ty.aC (.int .i64))=gone[i]:=getD_at h _
   rw[cD h,aJ rfl,au (show (i:Int)<(gone.length:Int) by omega),cond_true,hg,dU h (by omega),List.drop_eq_getElem_cons h,xj,wb _ hc]
   cases pa.contains gone[i]with
   | true=>rw[Bool.not_true,cond_false,cond_true]; exact ih (i+1) left (by omega) (by omega) (by omega)
   | false =>
    rw[Bool.not_false,cond_false,cond_true,wb _ (by omega)]
    cases left.contains gone[i]with
    | true=>rw[Bool.not_true,cond_false,cond_true]; exact ih (i+1) left (by omega) (by omega) (by omega)
    | false =>
     rw[Bool.not_false,cond_false,cond_true,au (by omega),aJ rfl]
     exact ih (i+1) (left ++ [gone[i]]) (by omega) (by omega) (by rw[List.length_append]; simp only[List.length_cons,List.length_nil]; omega)
  ·rw[az (show ¬(i:Int)<(gone.length:Int) by omega),cond_false,List.drop_eq_nil_of_le (by omega)]
   rfl

def YT:Order:=⟨0, [],0,0, [], []⟩
def doneC (c:bD):bD:=⟨c.ae,c.header,c.order,c.update,c.aX,c.seen,c.path,c.seq,c.open_,c.rel,false,YT⟩
def goC (c:bD) (n:Int):bD:=⟨c.ae,c.header,c.order,c.update,c.aX,c.seen,c.path.drop n.toNat,IntKind.i64.wrap (c.seq+n),c.open_,max (IntKind.i64.wrap (c.rel - IntKind.i64.wrap (Int.tdiv n 2))) 0,c.wait,c.pending⟩
theorem YU {R:Type} (n:Int) (c:bD) (hp:c.path.length≤1099511627776) (h0:0≤n) (h1:n≤c.path.length) (k:List Int→bD→Option R) :
  cN n c k=k (u6 (c.path.drop n.toNat) [] (c.path.take n.toNat)) (goC c n):=by
 unfold cN mw
 have ct:∀a:Option R,cC true a=a:=fun _=>rfl
 rw[au h0,au h1]
 simp only[Bool.and_self,ct,List.drop_zero,Nat.sub_zero]
 have hl:(c.path.take n.toNat).length≤1099511627776:=by rw[List.length_take]; omega
 refine (TC n (c.path.take n.toNat) hl _ (by rw[List.length_drop]; omega) _ _ 0 [] (by omega) (by omega) (Nat.le_refl _)).trans ?_
 rfl
theorem IC (u z l b0 b1 b2 b3 b4 b5 b6 b7 b8 b9 Uw Zo Zp b13 b14:Nat):l - 0<u+z+l+b0+b1+b2+b3+b4+b5+b6+b7+b8+b9+Uw+Zo+Zp+b13+b14+64:=by omega
theorem goes2 {R:Type} (n:Int) (a1:aA) (a2 a3 a4 a5 a6:Int) (pa:List Int) (hp:pa.length≤1099511627776) (a8:Int) (a9:Bool) (Sc:Int) (TH:Bool) (a12:Int) (Sd:aA) (TJ TK:Int) (h0:0≤n) (h1:n≤pa.length) (k:List Int→aA→Int→Int→Int→Int→Int→List Int→Int→Bool→Int→Bool→Int→aA→Int→Int→Option R) :
  cM n a1 a2 a3 a4 a5 a6 pa a8 a9 Sc TH a12 Sd TJ TK k=k (u6 (pa.drop n.toNat) [] (pa.take n.toNat)) a1 a2 a3 a4 a5 a6 (pa.drop n.toNat) (IntKind.i64.wrap (a8+n)) a9 (max (IntKind.i64.wrap (Sc - IntKind.i64.wrap (Int.tdiv n 2))) 0) TH a12 Sd TJ TK:=by
 unfold cM mo
 have ct:∀a:Option R,cC true a=a:=fun _=>rfl
 rw[au h0,au h1]
 simp only[Bool.and_self,ct,List.drop_zero,Nat.sub_zero]
 have hl:(pa.take n.toNat).length≤1099511627776:=by rw[List.length_take]; omega
 have R2:(pa.drop n.toNat).length≤1099511627776:=by rw[List.length_drop]; omega
 refine (TE n (pa.take n.toNat) hl a1 a2 a3 a4 a5 a6 (pa.drop n.toNat) R2 a8 a9 Sc TH a12 Sd TJ TK _ _ 0 [] (Nat.zero_le _) (IC ..) (Nat.le_refl _)).trans ?_
 rw[List.drop_zero]

def Qi (c:bD) (s:cv):Bool:=vz c&&(B9 s&&((s.ae==c.ae)&&Eo s ⟨c.seen,c.aX, [],0,0,false,0,0,false,0⟩))
def A6 (c:bD) (s:cv):Int:=IntKind.i64.wrap (s.seq - c.seq)
def Nq (c:bD) (s:cv):Bool:=decide (A6 c s>0)&&((Int.tmod (A6 c s) 2==0)&&decide (A6 c s<(c.path.length:Int)))
def oldC (c:bD) (s:cv):bD:=⟨c.ae,c.header,c.order,c.update,s.aX,s.header,c.path,c.seq,c.open_,c.rel,c.wait,c.pending⟩
def EV (c:bD) (s:cv):bD:=bif c.wait&&decide (s.accepted≥c.pending.header)then doneC (oldC c s)else oldC c s
def shutC (c:bD):bD:=⟨c.ae,c.header,c.order,c.update,c.aX,c.seen,c.path,c.seq,false,0,false,YT⟩
def ID (c:bD) (s:cv):bD :=
 bif (s.order==0)||(s.order != c.order)then EV c s
 else bif c.open_ && !s.live then shutC (bif Nq c s then goC (EV c s) (A6 c s)else EV c s)else bif Nq c s then goC (EV c s) (A6 c s)else EV c s
def Ko (c:bD) (s:cv):List Int :=
 bif (s.order==0)||(s.order != c.order)then []else bif Nq c s then u6 (c.path.drop (A6 c s).toNat) [] (c.path.take (A6 c s).toNat)else []
theorem YV {R:Type} (c:bD) (s:cv) (h:dm c) (k:bD→List Int→Bool→Option R) :
  bT c s k=bif Qi c s then k (ID c s) (Ko c s) true else k c [] false:=by
 unfold bT Et Qi
 rw[Qc c h,O2 c h,RO,RP]
 cases vz c with
 | false=>rfl
 | true =>
 cases B9 s with
 | false=>rfl
 | true =>
 cases s.ae==c.ae with
 | false=>rfl
 | true =>
 cases Eo s ⟨c.seen,c.aX, [],0,0,false,0,0,false,0⟩with
 | false=>rfl
 | true =>
 have hp:=h.path
 obtain ⟨ve,hd,od,up,bo,se,pa,sq,op,re,wa,⟨ph,pv,po,pu,pn,pe⟩⟩:=c
 unfold ID Ko EV Nq A6
 dsimp only at hp ⊢
 generalize IntKind.i64.wrap (s.seq - sq)=n
 have hgo:decide (n>0)=true→decide (n<(pa.length:Int))=true→0≤n∧n≤pa.length:=fun h1 h2=>by
  rw[decide_eq_true_eq]at h1 h2
  omega
 generalize decide (n>0)=b1 at *
 generalize (Int.tmod n 2==0)=b2 at *
 generalize decide (n<(pa.length:Int))=b3 at *
 generalize (s.order==0)=b4
 generalize (s.order != od)=b5
 generalize decide (s.accepted≥ph)=b6
 generalize s.live=b7
 cases b4 with
 | true=>cases wa <;> cases b6 <;> rfl
 | false =>
 cases b5 with
 | true=>cases wa <;> cases b6 <;> rfl
 | false =>
 by_cases hb:b1=true∧b2=true∧b3=true
 ·obtain ⟨rfl,rfl,rfl⟩:=hb
  obtain ⟨g1,g2⟩:=hgo rfl rfl
  cases wa <;> cases b6 <;> simp only[cond_true,cond_false,Bool.not_true,Bool.not_false,Bool.or_self,Bool.and_self,Bool.and_true,Bool.and_false,Bool.true_and,Bool.false_and]
  ·rw[YU n ⟨ve,hd,od,up,s.aX,s.header,pa,sq,op,re,false,⟨ph,pv,po,pu,pn,pe⟩⟩ hp g1 g2]
   cases op <;> cases b7 <;> rfl
  ·rw[YU n ⟨ve,hd,od,up,s.aX,s.header,pa,sq,op,re,false,⟨ph,pv,po,pu,pn,pe⟩⟩ hp g1 g2]
   cases op <;> cases b7 <;> rfl
  ·rw[YU n ⟨ve,hd,od,up,s.aX,s.header,pa,sq,op,re,true,⟨ph,pv,po,pu,pn,pe⟩⟩ hp g1 g2]
   cases op <;> cases b7 <;> rfl
  ·unfold cF mh
   dsimp only
   rw[goes2 n ve hd od up s.aX s.header pa hp sq op re false 0 [] 0 0 g1 g2]
   cases op <;> cases b7 <;> rfl
 ·have k9:(b1&&(b2&&b3))=false:=by
   cases b1 <;> cases b2 <;> cases b3 <;> first|rfl|exact (hb ⟨rfl,rfl,rfl⟩).elim
  cases wa <;> cases b6 <;> cases op <;> cases b7 <;> cases b1 <;> cases b2 <;> cases b3 <;> first|rfl|cases k9

def DA (c:bD):Bool:=decide ((c.path.length:Int)=1) && !c.wait
theorem IE {R:Type} (c:bD) (k:Bool→Option R):aM c k=k (DA c):=by
 unfold aM BL DA
 rw[kl]
 cases decide ((c.path.length:Int)=1) <;> rfl
theorem RS {R:Type} (c:bD) (k:Bool→Option R):bI c k=k (DA c):=by
 unfold bI Cq DA
 rw[kl]
 cases decide ((c.path.length:Int)=1) <;> rfl
theorem A7 {R:Type} (c:bD) (h:dm c) (k:bD→Option R):aB c k=k c:=by
 have h1:=h.path
 have h2:=h.Iz.nodes
 have h3:=h.Iz.af
 unfold aB wX
 rw[au (by omega),au (by omega),au (by omega),aJ rfl,aJ rfl,aJ rfl]
theorem RT {R:Type} (l:List Int) (hl:l.length≤1099511627776) (e0:List Int→Option R) (e1:List Int→Bool→Option R):∀(F i:Nat),i≤l.length→l.length - i<F →
  bX F l (i:Int) e0 e1=bif vJ i (l.drop i)then e0 l else e1 l false:=by
 intro F
 induction F with
 | zero=>intro i _ hF; omega
 | succ F ih =>
  intro i hi hF
  show nT (fun a b=>bX F a b e0 e1) l (i:Int) e0 e1=_
  unfold nT
  by_cases dH:i<l.length
  ·have hg:l.getD (i:Int).toNat (Ty.aC (.int .i64))=l[i]:=getD_at dH _
   have ct:∀a:Option R,cC true a=a:=fun _=>rfl
   rw[cD dH]
   simp only[ct]
   rw[au (show (i:Int)<(l.length:Int) by omega),cond_true,hg,dU dH (by omega),Km,Qd,List.drop_eq_getElem_cons dH,lA]
   rw[ih (i+1) (by omega) (by omega)]
   by_cases ho:i % 2=1
   ·rw[au ho,az (show ¬i % 2=0 by omega),cond_false,cond_true]
    by_cases h1:l[i]<1000
    ·rw[au h1,az (show ¬1000≤l[i] by omega)]
     cases decide (0≤l[i]) <;> rfl
    ·rw[az h1,au (show 1000≤l[i] by omega),au (show 0≤l[i] by omega)]; rfl
   ·rw[az ho,au (show i % 2=0 by omega),cond_true]
    by_cases h1:l[i]<0
    ·rw[au h1,az (show ¬0≤l[i] by omega)]; rfl
    ·rw[az h1,au (show 0≤l[i] by omega)]
     by_cases h2:1000≤l[i]
     ·rw[au (show l[i]≥1000 from h2)]; rfl
     ·rw[az (show ¬l[i]≥1000 from h2)]; rfl
  ·rw[az (show ¬(i:Int)<(l.length:Int) by omega),cond_false,List.drop_eq_nil_of_le (by omega)]
   rfl
theorem JL {R:Type} (l:List Int) (hl:l.length≤1099511627776) (k:Bool→Option R):bC l k=k (gH l):=by
 unfold bC Ct gH
 refine (RT l hl _ _ _ 0 (by omega) (by omega)).trans ?_
 rw[List.drop_zero,Km]
 cases vJ 0 l <;> rfl

def IF (c:bD) (l:List Int):Bool:=DA c&&(gH l&&(!decide ((l.length:Int)<3)&&(l.getD 0 0==c.path.getD 0 0)))
def Kp (c:bD) (l:List Int):bD:=⟨c.ae,c.header,c.order,c.update,c.aX,c.seen,l,c.seq,false,0,c.wait,c.pending⟩
theorem Uy {R:Type} (c:bD) (h:dm c) (l:List Int) (hl:l.length≤1099511627776) (k:bD→Bool→Option R):bn c l k=bif IF c l then k (Kp c l) true else k c false:=by
 unfold bn BP IF
 rw[Qc c h,IE]
 cases hi:DA c with
 | false=>rfl
 | true =>
  have h1:c.path.length=1:=by
   unfold DA at hi
   rw[Bool.and_eq_true,decide_eq_true_eq]at hi
   omega
  by_cases h3:(l.length:Int)<3
  ·rw[au h3]
   cases gH l <;> rfl
  ·rw[az h3,O1 l hl]
   cases gH l with
   | false=>rfl
   | true =>
    rw[au (show (0:Int)<(l.length:Int) by omega),au (show (0:Int)<(c.path.length:Int) by omega),aJ rfl,aJ rfl,YP l hl]
    have e:(l.getD 0 (Ty.aC (.int .i64)) != c.path.getD 0 (Ty.aC (.int .i64))) = !(l.getD 0 0==c.path.getD 0 0):=rfl
    rw[e]
    cases l.getD 0 0==c.path.getD 0 0 <;> rfl
theorem YW {R:Type} (c:bD) (h:dm c) (l:List Int) (hl:l.length≤1099511627776) (k:bD→Bool→Option R):cg c l k=bif IF c l then k (Kp c l) true else k c false:=by
 unfold cg Cw IF
 rw[A7 c h,RS,JL l hl]
 cases hi:DA c with
 | false=>rfl
 | true =>
  have h1:c.path.length=1:=by
   unfold DA at hi
   rw[Bool.and_eq_true,decide_eq_true_eq]at hi
   omega
  cases gH l with
  | false=>rfl
  | true =>
   by_cases h3:(l.length:Int)<3
   ·rw[au h3]; rfl
   ·rw[az h3,au (show (0:Int)<(l.length:Int) by omega),au (show (0:Int)<(c.path.length:Int) by omega),aJ rfl,aJ rfl,au (show (0+l.length)*8≤140737488355328 by omega),aJ rfl]
    have e:(l.getD 0 (Ty.aC (.int .i64)) != c.path.getD 0 (Ty.aC (.int .i64))) = !(l.getD 0 0==c.path.getD 0 0):=rfl
    rw[e]
    cases l.getD 0 0==c.path.getD 0 0 <;> rfl
theorem RU {c:bD} (h:dm c) {l:List Int} (hl:l.length≤1099511627776):dm (Kp c l):=⟨hl,h.name,h.Iz⟩

def nt (c:bD):Int:=IntKind.i64.wrap (Int.tdiv (c.path.length:Int) 2)
def jy (c:bD) (w:Int):Int:=bif decide (w>0)then min w (nt c)else nt c
def eS (c:bD) (g:Int):Order×Bool:=A5 ⟨IntKind.i64.wrap (c.header+1),c.ae,IntKind.i64.wrap (c.order+1),0, [], []⟩ c.path 0 (IntKind.i64.wrap (min g 63+1))
def iu (c:bD) (g:Int):Order×Bool:=A5 ⟨IntKind.i64.wrap (c.header+1),c.ae,c.order,IntKind.i64.wrap (c.update+1), [], []⟩ (c.path.drop (IntKind.i64.wrap (2*c.rel)).toNat) (IntKind.i64.wrap (c.seq+IntKind.i64.wrap (2*c.rel))) (IntKind.i64.wrap (IntKind.i64.wrap (min g (IntKind.i64.wrap (c.rel+63)) - c.rel)+1))
def C5 (c:bD) (g:Int) (o:Order):bD:=⟨c.ae,IntKind.i64.wrap (c.header+1),IntKind.i64.wrap (c.order+1),0,c.aX,c.seen,c.path,0,true,min g 63,true,o⟩
def IG (c:bD) (g:Int) (o:Order):bD:=⟨c.ae,IntKind.i64.wrap (c.header+1),c.order,IntKind.i64.wrap (c.update+1),c.aX,c.seen,c.path,c.seq,true,min g (IntKind.i64.wrap (c.rel+63)),true,o⟩
def A8 (c:bD) (w:Int):bD×Order×Bool :=
 bif !vz c then (c,ir,false)
 else bif c.wait then (c,c.pending,true)
 else bif !c.open_&&(decide (nt c>0)&&(!decide (c.header≥1000000000)&&decide (c.order<1000000000)))then (bif (eS c (jy c w)).2 then (C5 c (jy c w) (eS c (jy c w)).1,(eS c (jy c w)).1,true)else (c,ir,false))
 else bif c.open_&&(decide (c.rel<jy c w)&&(!decide (c.header≥1000000000)&&decide (c.update<1000000000)))then (bif (iu c (jy c w)).2 then (IG c (jy c w) (iu c (jy c w)).1,(iu c (jy c w)).1,true)else (c,ir,false))
 else (c,ir,false)
theorem O6 {c:bD} {w:Int}:jy c w≤nt c:=by
 unfold jy
 cases decide (w>0)
 ·exact Int.le_refl _
 ·exact Int.min_le_right _ _
theorem RV {c:bD} (h:c.path.length≤1099511627776):nt c=((c.path.length / 2:Nat):Int):=by
 unfold nt
 rw[show Int.tdiv (c.path.length:Int) 2=((c.path.length / 2:Nat):Int)from rfl,eH (by omega) (by omega)]
theorem YX {R:Type} (c:bD) (h:dm c) (g:Int) (k:Order→Bool→bD→Option R):ck g c k=k (eS c g).1 (eS c g).2 ⟨c.ae,IntKind.i64.wrap (c.header+1),IntKind.i64.wrap (c.order+1),0,c.aX,c.seen,c.path,0,c.open_,min g 63,c.wait,c.pending⟩:=by
 unfold ck lr bb ju
 have hp:=h.path
 have e0:IntKind.i64.wrap (2*0)=0:=rfl
 have e1:IntKind.i64.wrap (0+0)=0:=rfl
 dsimp only
 rw[e0,au (show (0:Int)≤0 by omega),au (show (0:Int)≤(c.path.length:Int) by omega),Bool.and_self,aJ rfl,e1,IB _ _ (by show (List.drop 0 c.path).length≤_; rw[List.drop_zero]; exact hp)]
 rfl
theorem more_ok {R:Type} (c:bD) (h:dm c) (g:Int) (h0:0≤c.rel) (h1:2*c.rel≤c.path.length) (k:Order→Bool→bD→Option R):cE g c k=k (iu c g).1 (iu c g).2 ⟨c.ae,IntKind.i64.wrap (c.header+1),c.order,IntKind.i64.wrap (c.update+1),c.aX,c.seen,c.path,c.seq,c.open_,min g (IntKind.i64.wrap (c.rel+63)),c.wait,c.pending⟩:=by
 unfold cE me bb ju
 have hp:=h.path
 have e0:IntKind.i64.wrap (2*c.rel)=2*c.rel:=eH (by omega) (by omega)
 dsimp only
 rw[e0,au (show (0:Int)≤2*c.rel by omega),au h1,Bool.and_self,aJ rfl,IB _ _ (by rw[List.length_drop]; omega)]
 unfold iu
 rw[e0]
theorem RW {R:Type} (c:bD) (h:dm c) (w:Int) (k:bD→Order→Bool→Option R):bB c w k=k (A8 c w).1 (A8 c w).2.1 (A8 c w).2.2:=by
 unfold bB BY A8
 rw[Qc c h,O2 c h]
 cases hr:vz c with
 | false=>rfl
 | true =>
 rw[Bool.not_true,cond_false,cond_false]
 cases hw:c.wait with
 | true=>rw[cond_true,cond_true,IA _ h.Iz]
 | false =>
 rw[cond_false,cond_false]
 have hrel:0≤c.rel:=by
  unfold vz at hr
  rw[Bool.and_eq_true,decide_eq_true_eq]at hr
  exact hr.2
 have hp:=h.path
 have hhalf:=RV hp
 have key:∀g:Int,g≤nt c→(bif decide (c.header≥1000000000)then (bP c (fun VK=>k VK ir false))else (let j29:=fun (z24:Bool) (NS:bD) (Rt:Order)=>bif (!z24)then (bP c (fun Fp=>k Fp ir false))else (cS Rt (fun Qn=>k (⟨NS.ae,NS.header,NS.order,NS.update,NS.aX,NS.seen,NS.path,NS.seq,true,NS.rel,true,⟨Rt.header,Rt.ae,Rt.order,Rt.update,Rt.nodes,Rt.af⟩⟩:bD) Qn true)); let Zj:=fun (z7:Bool)=>bif z7 then (ck g c (fun y8 y9 vD=>j29 y9 vD y8))else (bif c.open_ then (bif (decide (c.rel<g))then (bif (decide (c.update<(1000000000:Int)))then (cE g c (fun Kb OS OT=>j29 OS OT Kb))else (bP c (fun Lm=>k Lm ir false)))else (bP c (fun J9=>k J9 ir false)))else (bP c (fun Ka=>k Ka ir false))); bif (!c.open_)then (bif (decide (nt c>(0:Int)))then (Zj (decide (c.order<(1000000000:Int))))else (Zj false))else (Zj false)))
   = k (bif !c.open_&&(decide (nt c>0)&&(!decide (c.header≥1000000000)&&decide (c.order<1000000000)))then (bif (eS c g).2 then (C5 c g (eS c g).1,(eS c g).1,true)else (c,ir,false))
 else bif c.open_&&(decide (c.rel<g)&&(!decide (c.header≥1000000000)&&decide (c.update<1000000000)))then (bif (iu c g).2 then (IG c g (iu c g).1,(iu c g).1,true)else (c,ir,false))
 else (c,ir,false)).1 (bif !c.open_&&(decide (nt c>0)&&(!decide (c.header≥1000000000)&&decide (c.order<1000000000)))then (bif (eS c g).2 then (C5 c g (eS c g).1,(eS c g).1,true)else (c,ir,false))
 else bif c.open_&&(decide (c.rel<g)&&(!decide (c.header≥1000000000)&&decide (c.update<1000000000)))then (bif (iu c g).2 then (IG c g (iu c g).1,(iu c g).1,true)else (c,ir,false))
 else (c,ir,false)).2.1 (bif !c.open_&&(decide (nt c>0)&&(!decide (c.header≥1000000000)&&decide (c.order<1000000000)))then (bif (eS c g).2 then (C5 c g (eS c g).1,(eS c g).1,true)else (c,ir,false))
 else bif c.open_&&(decide (c.rel<g)&&(!decide (c.header≥1000000000)&&decide (c.update<1000000000)))then (bif (iu c g).2 then (IG c g (iu c g).1,(iu c g).1,true)else (c,ir,false))
 else (c,ir,false)).2.2:=by
  intro g hg
  have hs1:mE (eS c g).1:=nr _ h.name _ _ _
  have hs2:mE (iu c g).1:=nr _ h.name _ _ _
  have YY:decide (c.rel<g)=true→2*c.rel≤c.path.length:=fun hd=>by
   rw[decide_eq_true_eq]at hd
   omega
  have fA:∀k:bD→Option R,bP c k=k c:=fun k=>Qc c h k
  generalize decide (c.header≥1000000000)=b0
  generalize decide (nt c>0)=b1
  generalize decide (c.order<1000000000)=b2
  generalize decide (c.rel<g)=b3 at *
  generalize decide (c.update<1000000000)=b4
  dsimp only
  cases b0 with
  | true =>
   rw[cond_true,fA]
   cases c.open_ <;> cases b1 <;> cases b3 <;> simp only[Bool.not_false,Bool.not_true,cond_true,cond_false,Bool.and_self,Bool.false_and,Bool.true_and,Bool.and_false]
  | false =>
   rw[cond_false]
   cases c.open_ with
   | false =>
    cases b1 with
    | false=>simp only[Bool.not_false,Bool.not_true,cond_true,cond_false,Bool.and_self,Bool.false_and,Bool.true_and,Bool.and_false]; rw[fA]
    | true =>
     cases b2 with
     | false=>simp only[Bool.not_false,Bool.not_true,cond_true,cond_false,Bool.and_self,Bool.false_and,Bool.true_and,Bool.and_false]; rw[fA]
     | true =>
      simp only[Bool.not_false,Bool.not_true,cond_true,cond_false,Bool.and_self,Bool.false_and,Bool.true_and,Bool.and_false]
      rw[YX c h g]
      cases (eS c g).2 with
      | false=>simp only[Bool.not_false,Bool.not_true,cond_true,cond_false,Bool.and_self,Bool.false_and,Bool.true_and,Bool.and_false]; rw[fA]
      | true=>simp only[Bool.not_false,Bool.not_true,cond_true,cond_false,Bool.and_self,Bool.false_and,Bool.true_and,Bool.and_false]; rw[IA _ hs1]; rfl
   | true =>
    cases b3 with
    | false=>simp only[Bool.not_false,Bool.not_true,cond_true,cond_false,Bool.and_self,Bool.false_and,Bool.true_and,Bool.and_false]; rw[fA]
    | true =>
     cases b4 with
     | false=>simp only[Bool.not_false,Bool.not_true,cond_true,cond_false,Bool.and_self,Bool.false_and,Bool.true_and,Bool.and_false]; rw[fA]
     | true =>
      simp only[Bool.not_false,Bool.not_true,cond_true,cond_false,Bool.and_self,Bool.false_and,Bool.true_and,Bool.and_false]
      rw[more_ok c h g hrel (YY rfl)]
      cases (iu c g).2 with
      | false=>simp only[Bool.not_false,Bool.not_true,cond_true,cond_false,Bool.and_self,Bool.false_and,Bool.true_and,Bool.and_false]; rw[fA]
      | true=>simp only[Bool.not_false,Bool.not_true,cond_true,cond_false,Bool.and_self,Bool.false_and,Bool.true_and,Bool.and_false]; rw[IA _ hs2]; rfl
 have:=key (jy c w) O6
 by_cases hw0:w>0
 ·have eg:jy c w=min w (nt c):=by unfold jy; rw[au hw0,cond_true]
  rw[eg]at this ⊢
  rw[au hw0,cond_true]
  exact this
 ·have eg:jy c w=nt c:=by unfold jy; rw[az hw0,cond_false]
  rw[eg]at this ⊢
  rw[az hw0,cond_false]
  exact this

theorem V6 {R:Type} (c:bD) (h:dm c) (w:Int) (k:bD→Order→Bool→Option R):cA c w k=k (A8 c w).1 (A8 c w).2.1 (A8 c w).2.2:=by
 unfold cA C1 A8
 have hp:=h.path
 rw[A7 c h,JL _ hp]
 have hr:vz c=(gH c.path && !decide (c.rel<0)):=by
  unfold vz
  by_cases h0:c.rel<0
  ·rw[au h0,az (show ¬c.rel≥0 by omega)]; rfl
  ·rw[az h0,au (show c.rel≥0 by omega)]; rfl
 rw[hr]
 cases gH c.path with
 | false=>rfl
 | true =>
 rw[Bool.not_true,cond_false,Bool.true_and]
 by_cases h0:c.rel<0
 ·rw[au h0]; rfl
 rw[az h0,cond_false,Bool.not_false,Bool.not_true,cond_false]
 cases hw:c.wait with
 | true=>rw[cond_true,cond_true,A7 c h]
 | false =>
 rw[cond_false,cond_false]
 have hhalf:=RV hp
 have hs:∀(d:bD),d.path=c.path→d.ae=c.ae→mE d.pending→∀q:bD→Option R,aB d q=q d:=fun d h1 h2 h3 q=>A7 d ⟨by rw[h1]; exact hp,by rw[h2]; exact h.name,h3⟩ q
 have h63:decide (c.header<1000000000) = !decide (c.header≥1000000000):=by
  by_cases hh:c.header<1000000000
  ·rw[au hh,az (show ¬c.header≥1000000000 by omega)]; rfl
  ·rw[az hh,au (show c.header≥1000000000 by omega)]; rfl
 have hge:decide (c.rel≥0)=true:=au (by omega)
 have key:∀g:Int,g≤nt c→(let j15:=fun (z8:Bool)=>bif z8 then (cy (⟨IntKind.i64.wrap (c.header+1),c.ae,IntKind.i64.wrap (c.order+1),0, [], []⟩:Order) c.path 0 (IntKind.i64.wrap ((min g 63)+1)) (fun y9 vD=>bif (!vD)then (k c ir false)else (aB (⟨c.ae,IntKind.i64.wrap (c.header+1),IntKind.i64.wrap (c.order+1),0,c.aX,c.seen,c.path,0,true,(min g 63),true,⟨y9.header,y9.ae,y9.order,y9.update,y9.nodes,y9.af⟩⟩:bD) (fun OS=>k (⟨c.ae,IntKind.i64.wrap (c.header+1),IntKind.i64.wrap (c.order+1),0,c.aX,c.seen,c.path,0,true,(min g 63),true,⟨y9.header,y9.ae,y9.order,y9.update,y9.nodes,y9.af⟩⟩:bD) OS.pending true))))else (let YG:=fun (KD:Bool)=>bif KD then (cC (decide ((0:Int)≤(IntKind.i64.wrap (2*c.rel)))&&decide ((IntKind.i64.wrap (2*c.rel))≤(c.path.length:Int))) (cy (⟨IntKind.i64.wrap (c.header+1),c.ae,c.order,IntKind.i64.wrap (c.update+1), [], []⟩:Order) (c.path.drop (IntKind.i64.wrap (2*c.rel)).toNat) (IntKind.i64.wrap (c.seq+(IntKind.i64.wrap (2*c.rel)))) (IntKind.i64.wrap ((IntKind.i64.wrap ((min g (IntKind.i64.wrap (c.rel+63))) - c.rel))+1)) (fun pH IL=>bif (!IL)then (k c ir false)else (aB (⟨c.ae,IntKind.i64.wrap (c.header+1),c.order,IntKind.i64.wrap (c.update+1),c.aX,c.seen,c.path,c.seq,true,(min g (IntKind.i64.wrap (c.rel+63))),true,⟨pH.header,pH.ae,pH.order,pH.update,pH.nodes,pH.af⟩⟩:bD) (fun OT=>k (⟨c.ae,IntKind.i64.wrap (c.header+1),c.order,IntKind.i64.wrap (c.update+1),c.aX,c.seen,c.path,c.seq,true,(min g (IntKind.i64.wrap (c.rel+63))),true,⟨pH.header,pH.ae,pH.order,pH.update,pH.nodes,pH.af⟩⟩:bD) OT.pending true)))))else (k c ir false); bif c.open_ then (bif (decide (c.rel≥(0:Int)))then (bif (decide (c.rel<g))then (bif (decide (c.header<(1000000000:Int)))then (YG (decide (c.update<(1000000000:Int))))else (YG false))else (YG false))else (YG false))else (YG false)); bif (!c.open_)then (bif (decide (nt c>(0:Int)))then (bif (decide (c.header<(1000000000:Int)))then (j15 (decide (c.order<(1000000000:Int))))else (j15 false))else (j15 false))else (j15 false))
   = k (bif !c.open_&&(decide (nt c>0)&&(!decide (c.header≥1000000000)&&decide (c.order<1000000000)))then (bif (eS c g).2 then (C5 c g (eS c g).1,(eS c g).1,true)else (c,ir,false))
 else bif c.open_&&(decide (c.rel<g)&&(!decide (c.header≥1000000000)&&decide (c.update<1000000000)))then (bif (iu c g).2 then (IG c g (iu c g).1,(iu c g).1,true)else (c,ir,false))
 else (c,ir,false)).1 (bif !c.open_&&(decide (nt c>0)&&(!decide (c.header≥1000000000)&&decide (c.order<1000000000)))then (bif (eS c g).2 then (C5 c g (eS c g).1,(eS c g).1,true)else (c,ir,false))
 else bif c.open_&&(decide (c.rel<g)&&(!decide (c.header≥1000000000)&&decide (c.update<1000000000)))then (bif (iu c g).2 then (IG c g (iu c g).1,(iu c g).1,true)else (c,ir,false))
 else (c,ir,false)).2.1 (bif !c.open_&&(decide (nt c>0)&&(!decide (c.header≥1000000000)&&decide (c.order<1000000000)))then (bif (eS c g).2 then (C5 c g (eS c g).1,(eS c g).1,true)else (c,ir,false))
 else bif c.open_&&(decide (c.rel<g)&&(!decide (c.header≥1000000000)&&decide (c.update<1000000000)))then (bif (iu c g).2 then (IG c g (iu c g).1,(iu c g).1,true)else (c,ir,false))
 else (c,ir,false)).2.2:=by
  intro g hg
  have hs1:mE (eS c g).1:=nr _ h.name _ _ _
  have hs2:mE (iu c g).1:=nr _ h.name _ _ _
  have YY:decide (c.rel<g)=true→2*c.rel≤c.path.length:=fun hd=>by
   rw[decide_eq_true_eq]at hd
   omega
  have hdl:((c.path.drop (IntKind.i64.wrap (2*c.rel)).toNat)).length≤1099511627776:=by rw[List.length_drop]; omega
  have ko:decide (c.rel<g)=true→(decide ((0:Int)≤(IntKind.i64.wrap (2*c.rel)))&&decide ((IntKind.i64.wrap (2*c.rel))≤(c.path.length:Int)))=true:=fun hd=>by
   have:=YY hd
   rw[eH (n:=2*c.rel) (by omega) (by omega),au (by omega),au this]; rfl
  rw[h63,hge]
  generalize decide (c.header≥1000000000)=b0
  generalize decide (nt c>0)=b1
  generalize decide (c.order<1000000000)=b2
  generalize decide (c.rel<g)=b3 at *
  generalize decide (c.update<1000000000)=b4
  dsimp only
  cases c.open_ with
  | false =>
   cases b1 with
   | false=>rfl
   | true =>
    cases b0 with
    | true=>rfl
    | false =>
    cases b2 with
    | false=>rfl
    | true =>
     simp only[Bool.not_false,Bool.not_true,cond_true,cond_false,Bool.and_self,Bool.false_and]
     refine (Np ⟨IntKind.i64.wrap (c.header+1),c.ae,IntKind.i64.wrap (c.order+1),0, [], []⟩ h.name c.path hp 0 (IntKind.i64.wrap (min g 63+1)) _).trans ?_
     have ew:A5 ⟨IntKind.i64.wrap (c.header+1),c.ae,IntKind.i64.wrap (c.order+1),0, [], []⟩ c.path 0 (IntKind.i64.wrap (min g 63+1))=eS c g:=rfl
     rw[ew]
     cases hf:(eS c g).2 with
     | false=>rfl
     | true =>
      simp only[Bool.not_true,cond_true,cond_false]
      exact hs (C5 c g (eS c g).1) rfl rfl hs1 _
  | true =>
   cases b3 with
   | false=>rfl
   | true =>
    cases b0 with
    | true=>rfl
    | false =>
    cases b4 with
    | false=>rfl
    | true =>
     simp only[Bool.not_false,Bool.not_true,cond_true,cond_false,Bool.and_self,Bool.false_and]
     rw[ko rfl,aJ rfl]
     refine (Np ⟨IntKind.i64.wrap (c.header+1),c.ae,c.order,IntKind.i64.wrap (c.update+1), [], []⟩ h.name _ hdl (IntKind.i64.wrap (c.seq+IntKind.i64.wrap (2*c.rel))) (IntKind.i64.wrap (IntKind.i64.wrap (min g (IntKind.i64.wrap (c.rel+63)) - c.rel)+1)) _).trans ?_
     have ew:A5 ⟨IntKind.i64.wrap (c.header+1),c.ae,c.order,IntKind.i64.wrap (c.update+1), [], []⟩ (c.path.drop (IntKind.i64.wrap (2*c.rel)).toNat) (IntKind.i64.wrap (c.seq+IntKind.i64.wrap (2*c.rel))) (IntKind.i64.wrap (IntKind.i64.wrap (min g (IntKind.i64.wrap (c.rel+63)) - c.rel)+1))=iu c g:=rfl
     rw[ew]
     cases hf:(iu c g).2 with
     | false=>rfl
     | true =>
      simp only[Bool.not_true,cond_true,cond_false]
      exact hs (IG c g (iu c g).1) rfl rfl hs2 _
 have:=key (jy c w) O6
 by_cases hw0:w>0
 ·have eg:jy c w=min w (nt c):=by unfold jy; rw[au hw0,cond_true]
  rw[eg]at this ⊢
  rw[au hw0,cond_true]
  exact this
 ·have eg:jy c w=nt c:=by unfold jy; rw[az hw0,cond_false]
  rw[eg]at this ⊢
  rw[az hw0,cond_false]
  exact this
end Go.Proofs.YtolnaonmpohciaaDoor

/-
 Functions of the program as pure Lean functions, and the ties; printed by wip/tools/emit.py.
-/
set_option maxRecDepth 100000
namespace Go.Proofs.YtolnaonmpohciaaDoor
open Go Go.ad
variable {R:Type}

end Go.Proofs.YtolnaonmpohciaaDoor

set_option maxRecDepth 100000
namespace Go.Proofs.YtolnaonmpohciaaDoor
open Go Go.ad Go.Lib

def Zq:bD:=⟨[118],0,0,0,0,0, [0],0,false,0,false,⟨0, [],0,0, [], []⟩⟩
def s18:cv:=⟨1,0, [118],1,0,true,1,2,false,1⟩
def Zr:bD×Order×Bool:=A8 (Kp Zq [0,1000,1]) 0
theorem V7:dm Zq:=⟨by decide,by decide,⟨by decide,by decide,by decide⟩⟩
theorem TF:Zr=(⟨[118],1,1,0,0,0, [0,1000,1],0,true,1,true,⟨1, [118],1,0, [⟨0,0,true⟩,⟨1,2,true⟩], [⟨0,1,true⟩]⟩⟩,⟨1, [118],1,0, [⟨0,0,true⟩,⟨1,2,true⟩], [⟨0,1,true⟩]⟩,true):=by kernel_rfl
theorem awake18 {R:Type} (k:Bool→Option R):cx k=k true:=by
 have e0:cx k=bn Zq ([0,1000,1]:List Int) (fun y2 y3=>bB y2 0 (fun y4 y5 y6=>bT y4 s18 (fun y7 y8 y9=>aM Zq (fun vD=>bif vD then (bif y3 then (aM y2 (fun uJ=>bif (!uJ)then (bif y6 then (aT y5 (⟨1,([118]:aA),1,0,([(⟨0,0,true⟩:Stop),(⟨1,2,true⟩:Stop)]:List Stop),([(⟨0,1,true⟩:ad.Way)]:List ad.Way)⟩:Order) (fun pH=>bif pH then (bif y4.wait then (bif y9 then (bp y8 ([0,1000]:List Int) (fun IL=>bif IL then (aM y7 (fun Bk=>bif Bk then (bp y7.path ([1]:List Int) (fun Kb=>k Kb))else (k false)))else (k false)))else (k false))else (k false))else (k false)))else (k false))else (k false)))else (k false))else (k false))))):=rfl
 have hp:IF Zq [0,1000,1]=true:=by kernel_rfl
 have h2:dm (Kp Zq [0,1000,1]):=⟨by show (3:Nat)≤_; decide,by show (1:Nat)≤_; decide,⟨by show (0:Nat)≤_; decide,by show (0:Nat)≤_; decide,by show (0:Nat)≤_; decide⟩⟩
 have h3:dm Zr.1:=by
  rw[TF]
  exact ⟨by show (3:Nat)≤_; decide,by show (1:Nat)≤_; decide,⟨by show (2:Nat)≤_; decide,by show (1:Nat)≤_; decide,by show (1:Nat)≤_; decide⟩⟩
 rw[e0,Uy Zq V7 _ (by decide),hp,cond_true,RW _ h2]
 have en:A8 (Kp Zq [0,1000,1]) 0=Zr:=rfl
 rw[en,YV _ _ h3]
 have hm:Qi Zr.1 s18=true:=by kernel_rfl
 rw[hm,cond_true,IE,IE]
 have i1:DA Zq=true:=by kernel_rfl
 have i2:DA (Kp Zq [0,1000,1])=false:=by kernel_rfl
 have i3:Zr.2.2=true:=by kernel_rfl
 have i4:Zr.1.wait=true:=by kernel_rfl
 rw[i1,i2,i3,cond_true,cond_true,Bool.not_false,cond_true,cond_true,Nk _ _ (by rw[TF]; decide) (by rw[TF]; decide)]
 have i5:ES Zr.2.1 ⟨1, [118],1,0, [⟨0,0,true⟩,⟨1,2,true⟩], [⟨0,1,true⟩]⟩=true:=by kernel_rfl
 have i6:Ko Zr.1 s18 = [0,1000]:=by kernel_rfl
 have i7:DA (ID Zr.1 s18)=true:=by kernel_rfl
 have i8:(ID Zr.1 s18).path = [1]:=by kernel_rfl
 rw[i5,cond_true,i4,cond_true,cond_true,i6,Qf _ _ (by decide)]
 have i9:Nl [0,1000] [0,1000]=true:=by kernel_rfl
 have i10:Nl [1] [1]=true:=by kernel_rfl
 rw[i9,cond_true,IE,i7,cond_true,i8,Qf _ _ (by decide),i10]

theorem RX {c:bD} (h:dm c) (s:cv):dm (ID c s):=by
 have hz:mE YT:=⟨Nat.zero_le _,Nat.zero_le _,Nat.zero_le _⟩
 have hw:dm (EV c s):=by
  unfold EV
  cases c.wait&&decide (s.accepted≥c.pending.header)
  ·exact ⟨h.path,h.name,h.Iz⟩
  ·exact ⟨h.path,h.name,hz⟩
 have hg:∀n,dm (goC (EV c s) n):=fun n=>⟨by show ((EV c s).path.drop n.toNat).length≤_; rw[List.length_drop]; have:=hw.path; omega,hw.name,hw.Iz⟩
 unfold ID
 cases (s.order==0||s.order != c.order)
 ·cases c.open_ && !s.live <;> cases Nq c s
  ·exact hw
  ·exact hg _
  ·exact ⟨hw.path,hw.name,hz⟩
  ·exact ⟨(hg _).path,hw.name,hz⟩
 ·exact hw

theorem fw {n:Int} (h:Small 1048576 (.int .i64 n)):i64 n:=by cases h with|int h=>exact h
theorem V8 {raw:List oD} (h:Small 1048576 (.sl .u7 raw .no)):raw.length≤1048576∧∀x∈raw,i64 x.a∧i64 x.b∧i64 x.c:=by
 cases h with
 | sl h he=>exact ⟨h,fun x hx=>⟨fw (he x hx (.int .i64 x.a) (by simp[Ty.cells])),fw (he x hx (.int .i64 x.b) (by simp[Ty.cells])),fw (he x hx (.int .i64 x.c) (by simp[Ty.cells]))⟩⟩
theorem G7 {l:List Int} (h:Small 1048576 (.sl (.int .i64) l .no)):l.length≤1048576∧∀x∈l,i64 x:=by
 cases h with
 | sl h he=>exact ⟨h,fun x hx=>fw (he x hx (.int .i64 x) (by simp[Ty.cells]))⟩
theorem RY {T:Ty} {l:List T.den} (h:Small 1048576 (.sl T l .no)):l.length≤1048576:=by cases h with|sl h he=>exact h
theorem Qj {s:aA} (h:Small 1048576 (.str s)):s.length≤1048576:=by cases h with|str h=>exact h
theorem V9 {x:kh} (h:∀v∈Ty.cells .C9 x,Small 1048576 v):RawK x:=by
 simp only[Ty.cells,List.mem_cons,List.not_mem_nil,or_false,forall_eq_or_imp,forall_eq]at h
 obtain ⟨h1,h2,h3,h4,h5,h6,h7⟩:=h
 have h8:=G7 h7
 exact ⟨fw h1,fw h2,fw h3,fw h4,fw h5,fw h6,h8.1,h8.2⟩
theorem Wa {c:bD} (h:∀v∈Ty.cells .C8 c,Small 1048576 v):NumC c∧dm c:=by
 simp only[Ty.cells,List.mem_cons,List.not_mem_nil,or_false,forall_eq_or_imp,forall_eq]at h
 obtain ⟨a1,a2,a3,a4,a5,a6,a7,a8,a9,Sc,TH,a12,Sd,TJ,TK,a16,a17⟩:=h
 have b1:=Qj a1
 have b2:=(G7 a7).1
 have b3:=Qj Sd
 have b4:=RY a16
 have b5:=RY a17
 exact ⟨⟨fw a2,fw a3,fw a4,fw a5,fw a6,fw a8,fw Sc⟩,⟨Nat.le_trans b2 (by decide),Nat.le_trans b1 (by decide),⟨Nat.le_trans b4 (by decide),Nat.le_trans b5 (by decide),Nat.le_trans b3 (by decide)⟩⟩⟩
theorem layFit' {R:Type} (n:Int) (raw:List oD) (hn:i64 n) (hr:raw.length≤1048576∧∀x∈raw,i64 x.a∧i64 x.b∧i64 x.c) (K:ad.cf→Option R) (r:Option R) (h:∀y,Kn y→K y=r):db n raw K=r:=by
 obtain ⟨y,hy,e⟩:=layFit (R:=R) n raw hn hr.1 hr.2 K
 rw[e]
 exact h y hy
theorem fit18' {R:Type} (y:ad.cf) (hy:Kn y) (c:bD) (hc:NumC c) (x:kh) (hx:RawK x) (K:bD→Option R) (r:Option R) (h:∀d,Ux d→K d=r):dc y c x K=r:=by
 obtain ⟨d,hd,e⟩:=fit18 (R:=R) y hy c hc x hx K
 rw[e]
 exact h d hd
theorem IH {R:Type} (c n:Int) (hc:i64 c) (h0:0<n) (hn:n≤9223372036854775807) (K:Int→Option R) (r:Option R) (h:∀z:Nat,(z:Int)<n→K (z:Int)=r):av c n K=r:=by
 obtain ⟨z,h1,_,_,h2⟩:=s9 (R:=R) c n hc h0 hn
 rw[h2]
 exact h z h1

end Go.Proofs.YtolnaonmpohciaaDoor

/-
 Functions of the program as pure Lean functions, and the ties; printed by wip/tools/emit.py.
-/
set_option maxRecDepth 100000
namespace Go.Proofs.YtolnaonmpohciaaDoor
open Go Go.ad
variable {R:Type}

/-! ### humpyard/humpyardref18.See -/
abbrev wc (R:Type):Type:=ad.bN→ad.State→(ad.bN→(List Int)→Bool→Option R)→Option R
abbrev EW:List cu := [.agg [.str, .int .i64, .int .i64, .int .i64, .int .i64, .int .i64, .sl (.int .i64), .int .i64, .bool, .int .i64, .bool, .int .i64, .str, .int .i64, .int .i64, .sl .stop, .sl .dt], .agg [.int .i64, .int .i64, .str, .int .i64, .int .i64, .bool, .int .i64, .int .i64, .bool, .int .i64]]
abbrev EX:List aw := []
def II (fn:wc R):mY R EW EX:=fun x y k=>fn (⟨x.1.1,x.1.2.1,x.1.2.2.1,x.1.2.2.2.1,x.1.2.2.2.2.1,x.1.2.2.2.2.2.1,x.1.2.2.2.2.2.2.1,x.1.2.2.2.2.2.2.2.1,(t8 x.1).1,(t8 x.1).2.1,(t8 x.1).2.2.1,⟨(t8 x.1).2.2.2.1,(t8 x.1).2.2.2.2.1,(t8 x.1).2.2.2.2.2.1,(t8 x.1).2.2.2.2.2.2.1,(t8 x.1).2.2.2.2.2.2.2.1,(t8 (t8 x.1)).1⟩⟩:ad.bN) (⟨x.2.1.1,x.2.1.2.1,x.2.1.2.2.1,x.2.1.2.2.2.1,x.2.1.2.2.2.2.1,x.2.1.2.2.2.2.2.1,x.2.1.2.2.2.2.2.2.1,x.2.1.2.2.2.2.2.2.2.1,(t8 x.2.1).1,(t8 x.2.1).2.1⟩:ad.State) (fun q0 q1 q2=>k (.tuple [.agg [.str q0.ae, .int .i64 q0.header, .int .i64 q0.order, .int .i64 q0.update, .int .i64 q0.aX, .int .i64 q0.seen, .sl (.int .i64) q0.path .no, .int .i64 q0.seq, .bool q0.open_, .int .i64 q0.rel, .bool q0.wait, .int .i64 q0.pending.header, .str q0.pending.ae, .int .i64 q0.pending.order, .int .i64 q0.pending.update, .sl .stop q0.pending.nodes .no, .sl .dt q0.pending.af .no], .sl (.int .i64) q1 .no, .bool q2]) [])
def Kq (fn:wc R):=bx EW EX (II fn)
abbrev ta (R:Type):Type:=Nat→(List Int)→Int→(List Int)→Int→aA→Int→Int→Int→Int→Int→(List Int)→Int→Bool→Int→Bool→Int→aA→Int→Int→ad.State→aA→Int→Int→Int→Int→Int→Int→Bool→Int→Bool→Int→aA→Int→Int→((List Int)→Int→aA→Int→Int→Int→Int→Int→(List Int)→Int→Bool→Int→Bool→Int→aA→Int→Int→ad.State→aA→Int→Int→Int→Int→Int→Int→Bool→Int→Bool→Int→aA→Int→Int→Option R)→Option R
abbrev td (R:Type):Type:=Nat→(List Int)→Int→(List Int)→Int→ad.bN→ad.State→aA→Int→Int→Int→Int→Int→Int→Bool→Int→Bool→Int→aA→Int→Int→((List Int)→Int→ad.bN→ad.State→aA→Int→Int→Int→Int→Int→Int→Bool→Int→Bool→Int→aA→Int→Int→Option R)→Option R
def n8:Hint := { live := [2,3,4,10,11,12,13],own := [(10,(.int .i64))],rows := [],cells := [],drop := [],out := [2,3,4,5,6,10,11] }
abbrev iJ:Type:=(List Int)×Int×(List Int)×Int×aA×Int×Int×Int×Int×Int×(List Int)×Int×Bool×Int×Bool×Int×aA×Int×Int×ad.State×aA×Int×Int×Int×Int×Int×Int×Bool×Int×Bool×Int×aA×Int×Int
def qu:iJ→St:=fun d=>⟨U 2 (.ptr 0 0 :: .ptr 1 0 :: .ptr 2 0::U 5 (.sl (.int .i64) d.1 (.own 3) :: .int .i64 d.2.1 :: .sl (.int .i64) d.2.2.1 .no :: .int .i64 d.2.2.2.1::U 153 ([]))), [.cells [.str d.2.2.2.2.1, .int .i64 d.2.2.2.2.2.1, .int .i64 d.2.2.2.2.2.2.1, .int .i64 d.2.2.2.2.2.2.2.1, .int .i64 d.2.2.2.2.2.2.2.2.1, .int .i64 d.2.2.2.2.2.2.2.2.2.1, .sl (.int .i64) d.2.2.2.2.2.2.2.2.2.2.1 .no, .int .i64 d.2.2.2.2.2.2.2.2.2.2.2.1, .bool d.2.2.2.2.2.2.2.2.2.2.2.2.1, .int .i64 d.2.2.2.2.2.2.2.2.2.2.2.2.2.1, .bool d.2.2.2.2.2.2.2.2.2.2.2.2.2.2.1, .int .i64 d.2.2.2.2.2.2.2.2.2.2.2.2.2.2.2.1, .str d.2.2.2.2.2.2.2.2.2.2.2.2.2.2.2.2.1, .int .i64 d.2.2.2.2.2.2.2.2.2.2.2.2.2.2.2.2.2.1, .int .i64 d.2.2.2.2.2.2.2.2.2.2.2.2.2.2.2.2.2.2.1, .aI, .aI], .cells [.int .i64 d.2.2.2.2.2.2.2.2.2.2.2.2.2.2.2.2.2.2.2.1.header, .int .i64 d.2.2.2.2.2.2.2.2.2.2.2.2.2.2.2.2.2.2.2.1.aX, .str d.2.2.2.2.2.2.2.2.2.2.2.2.2.2.2.2.2.2.2.1.ae, .int .i64 d.2.2.2.2.2.2.2.2.2.2.2.2.2.2.2.2.2.2.2.1.order, .int .i64 d.2.2.2.2.2.2.2.2.2.2.2.2.2.2.2.2.2.2.2.1.update, .bool d.2.2.2.2.2.2.2.2.2.2.2.2.2.2.2.2.2.2.2.1.live, .int .i64 d.2.2.2.2.2.2.2.2.2.2.2.2.2.2.2.2.2.2.2.1.node, .int .i64 d.2.2.2.2.2.2.2.2.2.2.2.2.2.2.2.2.2.2.2.1.seq, .bool d.2.2.2.2.2.2.2.2.2.2.2.2.2.2.2.2.2.2.2.1.dW, .int .i64 d.2.2.2.2.2.2.2.2.2.2.2.2.2.2.2.2.2.2.2.1.accepted], .cells [.str d.2.2.2.2.2.2.2.2.2.2.2.2.2.2.2.2.2.2.2.2.1, .int .i64 d.2.2.2.2.2.2.2.2.2.2.2.2.2.2.2.2.2.2.2.2.2.1, .int .i64 d.2.2.2.2.2.2.2.2.2.2.2.2.2.2.2.2.2.2.2.2.2.2.1, .int .i64 d.2.2.2.2.2.2.2.2.2.2.2.2.2.2.2.2.2.2.2.2.2.2.2.1, .int .i64 d.2.2.2.2.2.2.2.2.2.2.2.2.2.2.2.2.2.2.2.2.2.2.2.2.1, .int .i64 d.2.2.2.2.2.2.2.2.2.2.2.2.2.2.2.2.2.2.2.2.2.2.2.2.2.1, .aI, .int .i64 d.2.2.2.2.2.2.2.2.2.2.2.2.2.2.2.2.2.2.2.2.2.2.2.2.2.2.1, .bool d.2.2.2.2.2.2.2.2.2.2.2.2.2.2.2.2.2.2.2.2.2.2.2.2.2.2.2.1, .int .i64 d.2.2.2.2.2.2.2.2.2.2.2.2.2.2.2.2.2.2.2.2.2.2.2.2.2.2.2.2.1, .bool d.2.2.2.2.2.2.2.2.2.2.2.2.2.2.2.2.2.2.2.2.2.2.2.2.2.2.2.2.2.1, .int .i64 d.2.2.2.2.2.2.2.2.2.2.2.2.2.2.2.2.2.2.2.2.2.2.2.2.2.2.2.2.2.2.1, .str d.2.2.2.2.2.2.2.2.2.2.2.2.2.2.2.2.2.2.2.2.2.2.2.2.2.2.2.2.2.2.2.1, .int .i64 d.2.2.2.2.2.2.2.2.2.2.2.2.2.2.2.2.2.2.2.2.2.2.2.2.2.2.2.2.2.2.2.2.1, .int .i64 d.2.2.2.2.2.2.2.2.2.2.2.2.2.2.2.2.2.2.2.2.2.2.2.2.2.2.2.2.2.2.2.2.2, .aI, .aI], .tok]⟩
def te (K:Ex→St→Option R) (q0:List Int) (q1:Int) (q2:aA) (q3:Int) (q4:Int) (q5:Int) (q6:Int) (q7:Int) (q8:List Int) (q9:Int) (vm:Bool) (HO:Int) (Yg:Bool) (Yh:Int) (Yi:aA) (q15:Int) (q16:Int) (Wv:ad.State) (q18:aA) (q19:Int) (q20:Int) (q21:Int) (q22:Int) (q23:Int) (q24:Int) (q25:Bool) (q26:Int) (q27:Bool) (q28:Int) (q29:aA) (q30:Int) (q31:Int):Option R:=K (.exit 0) ⟨U 2 (.ptr 0 0 :: .ptr 1 0 :: .ptr 2 0::U 5 (.sl (.int .i64) q0 (.own 3) :: .int .i64 q1::U 155 ([]))), [.cells [.str q2, .int .i64 q3, .int .i64 q4, .int .i64 q5, .int .i64 q6, .int .i64 q7, .sl (.int .i64) q8 .no, .int .i64 q9, .bool vm, .int .i64 HO, .bool Yg, .int .i64 Yh, .str Yi, .int .i64 q15, .int .i64 q16, .aI, .aI], .cells [.int .i64 Wv.header, .int .i64 Wv.aX, .str Wv.ae, .int .i64 Wv.order, .int .i64 Wv.update, .bool Wv.live, .int .i64 Wv.node, .int .i64 Wv.seq, .bool Wv.dW, .int .i64 Wv.accepted], .cells [.str q18, .int .i64 q19, .int .i64 q20, .int .i64 q21, .int .i64 q22, .int .i64 q23, .aI, .int .i64 q24, .bool q25, .int .i64 q26, .bool q27, .int .i64 q28, .str q29, .int .i64 q30, .int .i64 q31, .aI, .aI], .tok]⟩
abbrev kV:List cu:=PU 2 (.leaf (.ptr 0 0) :: .leaf (.ptr 1 0) :: .leaf (.ptr 2 0)::PU 5 (.leaf (.Li (.int .i64) 3) :: .leaf (.int .i64) :: .leaf (.sl (.int .i64)) :: .leaf (.int .i64)::PU 153 ([])))
abbrev kW:List aw := [.cells [.str, .int .i64, .int .i64, .int .i64, .int .i64, .int .i64, .sl (.int .i64), .int .i64, .bool, .int .i64, .bool, .int .i64, .str, .int .i64, .int .i64, .aI, .aI], .cells [.int .i64, .int .i64, .str, .int .i64, .int .i64, .bool, .int .i64, .int .i64, .bool, .int .i64], .cells [.str, .int .i64, .int .i64, .int .i64, .int .i64, .int .i64, .aI, .int .i64, .bool, .int .i64, .bool, .int .i64, .str, .int .i64, .int .i64, .aI, .aI], .tok]
def A9 (x:cu.aQ kV) (y:aw.aQ kW):Nat:=(List.length ((t8 x).2.2.1)+Int.natAbs ((t8 x).2.2.2.1)+List.length ((t8 x).2.2.2.2.1)+Int.natAbs ((t8 x).2.2.2.2.2.1)+List.length y.1.1+Int.natAbs y.1.2.1+Int.natAbs y.1.2.2.1+Int.natAbs y.1.2.2.2.1+Int.natAbs y.1.2.2.2.2.1+Int.natAbs y.1.2.2.2.2.2.1+List.length y.1.2.2.2.2.2.2.1+Int.natAbs y.1.2.2.2.2.2.2.2.1+Int.natAbs ((t8 y.1).2.1)+Int.natAbs ((t8 y.1).2.2.2.1)+List.length ((t8 y.1).2.2.2.2.1)+Int.natAbs ((t8 y.1).2.2.2.2.2.1)+Int.natAbs ((t8 y.1).2.2.2.2.2.2.1)+ad.State.fu (⟨y.2.1.1,y.2.1.2.1,y.2.1.2.2.1,y.2.1.2.2.2.1,y.2.1.2.2.2.2.1,y.2.1.2.2.2.2.2.1,y.2.1.2.2.2.2.2.2.1,y.2.1.2.2.2.2.2.2.2.1,(t8 y.2.1).1,(t8 y.2.1).2.1⟩:ad.State)+List.length y.2.2.1.1+Int.natAbs y.2.2.1.2.1+Int.natAbs y.2.2.1.2.2.1+Int.natAbs y.2.2.1.2.2.2.1+Int.natAbs y.2.2.1.2.2.2.2.1+Int.natAbs y.2.2.1.2.2.2.2.2.1+Int.natAbs y.2.2.1.2.2.2.2.2.2.2.1+Int.natAbs ((t8 y.2.2.1).2.1)+Int.natAbs ((t8 y.2.2.1).2.2.2.1)+List.length ((t8 y.2.2.1).2.2.2.2.1)+Int.natAbs ((t8 y.2.2.1).2.2.2.2.2.1)+Int.natAbs ((t8 y.2.2.1).2.2.2.2.2.2.1)+64)
def JM (x:cu.aQ kV) (y:aw.aQ kW):iJ:=((t8 x).2.2.1,(t8 x).2.2.2.1,(t8 x).2.2.2.2.1,(t8 x).2.2.2.2.2.1,y.1.1,y.1.2.1,y.1.2.2.1,y.1.2.2.2.1,y.1.2.2.2.2.1,y.1.2.2.2.2.2.1,y.1.2.2.2.2.2.2.1,y.1.2.2.2.2.2.2.2.1,(t8 y.1).1,(t8 y.1).2.1,(t8 y.1).2.2.1,(t8 y.1).2.2.2.1,(t8 y.1).2.2.2.2.1,(t8 y.1).2.2.2.2.2.1,(t8 y.1).2.2.2.2.2.2.1,(⟨y.2.1.1,y.2.1.2.1,y.2.1.2.2.1,y.2.1.2.2.2.1,y.2.1.2.2.2.2.1,y.2.1.2.2.2.2.2.1,y.2.1.2.2.2.2.2.2.1,y.2.1.2.2.2.2.2.2.2.1,(t8 y.2.1).1,(t8 y.2.1).2.1⟩:ad.State),y.2.2.1.1,y.2.2.1.2.1,y.2.2.1.2.2.1,y.2.2.1.2.2.2.1,y.2.2.1.2.2.2.2.1,y.2.2.1.2.2.2.2.2.1,y.2.2.1.2.2.2.2.2.2.2.1,(t8 y.2.2.1).1,(t8 y.2.2.1).2.1,(t8 y.2.2.1).2.2.1,(t8 y.2.2.1).2.2.2.1,(t8 y.2.2.1).2.2.2.2.1,(t8 y.2.2.1).2.2.2.2.2.1,(t8 y.2.2.1).2.2.2.2.2.2.1)
def yq (L:ta R):nD R kV kW:=fun x y K=>L (A9 x y) ((t8 x).2.2.1) ((t8 x).2.2.2.1) ((t8 x).2.2.2.2.1) ((t8 x).2.2.2.2.2.1) y.1.1 y.1.2.1 y.1.2.2.1 y.1.2.2.2.1 y.1.2.2.2.2.1 y.1.2.2.2.2.2.1 y.1.2.2.2.2.2.2.1 y.1.2.2.2.2.2.2.2.1 ((t8 y.1).1) ((t8 y.1).2.1) ((t8 y.1).2.2.1) ((t8 y.1).2.2.2.1) ((t8 y.1).2.2.2.2.1) ((t8 y.1).2.2.2.2.2.1) ((t8 y.1).2.2.2.2.2.2.1) (⟨y.2.1.1,y.2.1.2.1,y.2.1.2.2.1,y.2.1.2.2.2.1,y.2.1.2.2.2.2.1,y.2.1.2.2.2.2.2.1,y.2.1.2.2.2.2.2.2.1,y.2.1.2.2.2.2.2.2.2.1,(t8 y.2.1).1,(t8 y.2.1).2.1⟩:ad.State) y.2.2.1.1 y.2.2.1.2.1 y.2.2.1.2.2.1 y.2.2.1.2.2.2.1 y.2.2.1.2.2.2.2.1 y.2.2.1.2.2.2.2.2.1 y.2.2.1.2.2.2.2.2.2.2.1 ((t8 y.2.2.1).1) ((t8 y.2.2.1).2.1) ((t8 y.2.2.1).2.2.1) ((t8 y.2.2.1).2.2.2.1) ((t8 y.2.2.1).2.2.2.2.1) ((t8 y.2.2.1).2.2.2.2.2.1) ((t8 y.2.2.1).2.2.2.2.2.2.1) (te K)
def uD:Hint := { live := [2,3,4,10,11,12,13],own := [(10,(.int .i64))],rows := [],cells := [],drop := [],out := [2,3,4,5,6,10,11] }
abbrev iK:Type:=(List Int)×Int×(List Int)×Int×ad.bN×ad.State×aA×Int×Int×Int×Int×Int×Int×Bool×Int×Bool×Int×aA×Int×Int
def qv:iK→St:=fun d=>⟨U 2 (.ptr 0 0 :: .ptr 1 0 :: .ptr 2 0::U 5 (.sl (.int .i64) d.1 (.own 3) :: .int .i64 d.2.1 :: .sl (.int .i64) d.2.2.1 .no :: .int .i64 d.2.2.2.1::U 153 ([]))), [.cells [.str d.2.2.2.2.1.ae, .int .i64 d.2.2.2.2.1.header, .int .i64 d.2.2.2.2.1.order, .int .i64 d.2.2.2.2.1.update, .int .i64 d.2.2.2.2.1.aX, .int .i64 d.2.2.2.2.1.seen, .sl (.int .i64) d.2.2.2.2.1.path .no, .int .i64 d.2.2.2.2.1.seq, .bool d.2.2.2.2.1.open_, .int .i64 d.2.2.2.2.1.rel, .bool d.2.2.2.2.1.wait, .int .i64 d.2.2.2.2.1.pending.header, .str d.2.2.2.2.1.pending.ae, .int .i64 d.2.2.2.2.1.pending.order, .int .i64 d.2.2.2.2.1.pending.update, .sl .stop d.2.2.2.2.1.pending.nodes .no, .sl .dt d.2.2.2.2.1.pending.af .no], .cells [.int .i64 d.2.2.2.2.2.1.header, .int .i64 d.2.2.2.2.2.1.aX, .str d.2.2.2.2.2.1.ae, .int .i64 d.2.2.2.2.2.1.order, .int .i64 d.2.2.2.2.2.1.update, .bool d.2.2.2.2.2.1.live, .int .i64 d.2.2.2.2.2.1.node, .int .i64 d.2.2.2.2.2.1.seq, .bool d.2.2.2.2.2.1.dW, .int .i64 d.2.2.2.2.2.1.accepted], .cells [.str d.2.2.2.2.2.2.1, .int .i64 d.2.2.2.2.2.2.2.1, .int .i64 d.2.2.2.2.2.2.2.2.1, .int .i64 d.2.2.2.2.2.2.2.2.2.1, .int .i64 d.2.2.2.2.2.2.2.2.2.2.1, .int .i64 d.2.2.2.2.2.2.2.2.2.2.2.1, .aI, .int .i64 d.2.2.2.2.2.2.2.2.2.2.2.2.1, .bool d.2.2.2.2.2.2.2.2.2.2.2.2.2.1, .int .i64 d.2.2.2.2.2.2.2.2.2.2.2.2.2.2.1, .bool d.2.2.2.2.2.2.2.2.2.2.2.2.2.2.2.1, .int .i64 d.2.2.2.2.2.2.2.2.2.2.2.2.2.2.2.2.1, .str d.2.2.2.2.2.2.2.2.2.2.2.2.2.2.2.2.2.1, .int .i64 d.2.2.2.2.2.2.2.2.2.2.2.2.2.2.2.2.2.2.1, .int .i64 d.2.2.2.2.2.2.2.2.2.2.2.2.2.2.2.2.2.2.2, .aI, .aI], .tok]⟩
def tf (K:Ex→St→Option R) (q0:List Int) (q1:Int) (q2:ad.bN) (q3:ad.State) (q4:aA) (q5:Int) (q6:Int) (q7:Int) (q8:Int) (q9:Int) (vm:Int) (HO:Bool) (Yg:Int) (Yh:Bool) (Yi:Int) (q15:aA) (q16:Int) (Wv:Int):Option R:=K (.exit 0) ⟨U 2 (.ptr 0 0 :: .ptr 1 0 :: .ptr 2 0::U 5 (.sl (.int .i64) q0 (.own 3) :: .int .i64 q1::U 155 ([]))), [.cells [.str q2.ae, .int .i64 q2.header, .int .i64 q2.order, .int .i64 q2.update, .int .i64 q2.aX, .int .i64 q2.seen, .sl (.int .i64) q2.path .no, .int .i64 q2.seq, .bool q2.open_, .int .i64 q2.rel, .bool q2.wait, .int .i64 q2.pending.header, .str q2.pending.ae, .int .i64 q2.pending.order, .int .i64 q2.pending.update, .sl .stop q2.pending.nodes .no, .sl .dt q2.pending.af .no], .cells [.int .i64 q3.header, .int .i64 q3.aX, .str q3.ae, .int .i64 q3.order, .int .i64 q3.update, .bool q3.live, .int .i64 q3.node, .int .i64 q3.seq, .bool q3.dW, .int .i64 q3.accepted], .cells [.str q4, .int .i64 q5, .int .i64 q6, .int .i64 q7, .int .i64 q8, .int .i64 q9, .aI, .int .i64 vm, .bool HO, .int .i64 Yg, .bool Yh, .int .i64 Yi, .str q15, .int .i64 q16, .int .i64 Wv, .aI, .aI], .tok]⟩
abbrev kX:List cu:=PU 2 (.leaf (.ptr 0 0) :: .leaf (.ptr 1 0) :: .leaf (.ptr 2 0)::PU 5 (.leaf (.Li (.int .i64) 3) :: .leaf (.int .i64) :: .leaf (.sl (.int .i64)) :: .leaf (.int .i64)::PU 153 ([])))
abbrev kY:List aw := [.cells [.str, .int .i64, .int .i64, .int .i64, .int .i64, .int .i64, .sl (.int .i64), .int .i64, .bool, .int .i64, .bool, .int .i64, .str, .int .i64, .int .i64, .sl .stop, .sl .dt], .cells [.int .i64, .int .i64, .str, .int .i64, .int .i64, .bool, .int .i64, .int .i64, .bool, .int .i64], .cells [.str, .int .i64, .int .i64, .int .i64, .int .i64, .int .i64, .aI, .int .i64, .bool, .int .i64, .bool, .int .i64, .str, .int .i64, .int .i64, .aI, .aI], .tok]
def Ba (x:cu.aQ kX) (y:aw.aQ kY):Nat:=(List.length ((t8 x).2.2.1)+Int.natAbs ((t8 x).2.2.2.1)+List.length ((t8 x).2.2.2.2.1)+Int.natAbs ((t8 x).2.2.2.2.2.1)+ad.bN.fu (⟨y.1.1,y.1.2.1,y.1.2.2.1,y.1.2.2.2.1,y.1.2.2.2.2.1,y.1.2.2.2.2.2.1,y.1.2.2.2.2.2.2.1,y.1.2.2.2.2.2.2.2.1,(t8 y.1).1,(t8 y.1).2.1,(t8 y.1).2.2.1,⟨(t8 y.1).2.2.2.1,(t8 y.1).2.2.2.2.1,(t8 y.1).2.2.2.2.2.1,(t8 y.1).2.2.2.2.2.2.1,(t8 y.1).2.2.2.2.2.2.2.1,(t8 (t8 y.1)).1⟩⟩:ad.bN)+ad.State.fu (⟨y.2.1.1,y.2.1.2.1,y.2.1.2.2.1,y.2.1.2.2.2.1,y.2.1.2.2.2.2.1,y.2.1.2.2.2.2.2.1,y.2.1.2.2.2.2.2.2.1,y.2.1.2.2.2.2.2.2.2.1,(t8 y.2.1).1,(t8 y.2.1).2.1⟩:ad.State)+List.length y.2.2.1.1+Int.natAbs y.2.2.1.2.1+Int.natAbs y.2.2.1.2.2.1+Int.natAbs y.2.2.1.2.2.2.1+Int.natAbs y.2.2.1.2.2.2.2.1+Int.natAbs y.2.2.1.2.2.2.2.2.1+Int.natAbs y.2.2.1.2.2.2.2.2.2.2.1+Int.natAbs ((t8 y.2.2.1).2.1)+Int.natAbs ((t8 y.2.2.1).2.2.2.1)+List.length ((t8 y.2.2.1).2.2.2.2.1)+Int.natAbs ((t8 y.2.2.1).2.2.2.2.2.1)+Int.natAbs ((t8 y.2.2.1).2.2.2.2.2.2.1)+64)
def JN (x:cu.aQ kX) (y:aw.aQ kY):iK:=((t8 x).2.2.1,(t8 x).2.2.2.1,(t8 x).2.2.2.2.1,(t8 x).2.2.2.2.2.1,(⟨y.1.1,y.1.2.1,y.1.2.2.1,y.1.2.2.2.1,y.1.2.2.2.2.1,y.1.2.2.2.2.2.1,y.1.2.2.2.2.2.2.1,y.1.2.2.2.2.2.2.2.1,(t8 y.1).1,(t8 y.1).2.1,(t8 y.1).2.2.1,⟨(t8 y.1).2.2.2.1,(t8 y.1).2.2.2.2.1,(t8 y.1).2.2.2.2.2.1,(t8 y.1).2.2.2.2.2.2.1,(t8 y.1).2.2.2.2.2.2.2.1,(t8 (t8 y.1)).1⟩⟩:ad.bN),(⟨y.2.1.1,y.2.1.2.1,y.2.1.2.2.1,y.2.1.2.2.2.1,y.2.1.2.2.2.2.1,y.2.1.2.2.2.2.2.1,y.2.1.2.2.2.2.2.2.1,y.2.1.2.2.2.2.2.2.2.1,(t8 y.2.1).1,(t8 y.2.1).2.1⟩:ad.State),y.2.2.1.1,y.2.2.1.2.1,y.2.2.1.2.2.1,y.2.2.1.2.2.2.1,y.2.2.1.2.2.2.2.1,y.2.2.1.2.2.2.2.2.1,y.2.2.1.2.2.2.2.2.2.2.1,(t8 y.2.2.1).1,(t8 y.2.2.1).2.1,(t8 y.2.2.1).2.2.1,(t8 y.2.2.1).2.2.2.1,(t8 y.2.2.1).2.2.2.2.1,(t8 y.2.2.1).2.2.2.2.2.1,(t8 y.2.2.1).2.2.2.2.2.2.1)
def yr (L:td R):nD R kX kY:=fun x y K=>L (Ba x y) ((t8 x).2.2.1) ((t8 x).2.2.2.1) ((t8 x).2.2.2.2.1) ((t8 x).2.2.2.2.2.1) (⟨y.1.1,y.1.2.1,y.1.2.2.1,y.1.2.2.2.1,y.1.2.2.2.2.1,y.1.2.2.2.2.2.1,y.1.2.2.2.2.2.2.1,y.1.2.2.2.2.2.2.2.1,(t8 y.1).1,(t8 y.1).2.1,(t8 y.1).2.2.1,⟨(t8 y.1).2.2.2.1,(t8 y.1).2.2.2.2.1,(t8 y.1).2.2.2.2.2.1,(t8 y.1).2.2.2.2.2.2.1,(t8 y.1).2.2.2.2.2.2.2.1,(t8 (t8 y.1)).1⟩⟩:ad.bN) (⟨y.2.1.1,y.2.1.2.1,y.2.1.2.2.1,y.2.1.2.2.2.1,y.2.1.2.2.2.2.1,y.2.1.2.2.2.2.2.1,y.2.1.2.2.2.2.2.2.1,y.2.1.2.2.2.2.2.2.2.1,(t8 y.2.1).1,(t8 y.2.1).2.1⟩:ad.State) y.2.2.1.1 y.2.2.1.2.1 y.2.2.1.2.2.1 y.2.2.1.2.2.2.1 y.2.2.1.2.2.2.2.1 y.2.2.1.2.2.2.2.2.1 y.2.2.1.2.2.2.2.2.2.2.1 ((t8 y.2.2.1).1) ((t8 y.2.2.1).2.1) ((t8 y.2.2.1).2.2.1) ((t8 y.2.2.1).2.2.2.1) ((t8 y.2.2.1).2.2.2.2.1) ((t8 y.2.2.1).2.2.2.2.2.1) ((t8 y.2.2.1).2.2.2.2.2.2.1) (tf K)
section
variable (c6:sZ R) (c4:sY R) (aB:jE R) (cB:v8 R) (bC:lW R) (bt:ta R) (bu:td R)
def jX:List (xm R) := [(44,true,(Gr c6 aL)),(43,true,(Gp c4 aL)),(28,true,(sB aB aL)),(45,true,(Kk cB aL)),(29,true,(vT bC aL))]
def n9 (bS:(List Int)→Int→(List Int)→Int→aA→Int→Int→Int→Int→Int→(List Int)→Int→Bool→Int→Bool→Int→aA→Int→Int→ad.State→aA→Int→Int→Int→Int→Int→Int→Bool→Int→Bool→Int→aA→Int→Int→Option R) (Jf:List Int) (Fg:Int) (xY:List Int) (Bj:Int) (MD:aA) (Fl:Int) (DJ:Int) (Dg:Int) (uc:Int) (uf:Int) (P2:List Int) (Jo:Int) (Up:Bool) (O0:Int) (Wn:Bool) (x26:Int) (x27:aA) (Zl:Int) (x29:Int) (x30:ad.State) (x31:aA) (RG:Int) (Uq:Int) (Ur:Int) (KI:Int) (Us:Int) (x37:Int) (x38:Bool) (x39:Int) (x40:Bool) (x41:Int) (x42:aA) (Tp:Int) (R5:Int) (e0:(List Int)→Int→aA→Int→Int→Int→Int→Int→(List Int)→Int→Bool→Int→Bool→Int→aA→Int→Int→ad.State→aA→Int→Int→Int→Int→Int→Int→Bool→Int→Bool→Int→aA→Int→Int→Option R):Option R :=
 bif (decide (Bj<(xY.length:Int)))then (cC (decide ((0:Int)≤Bj)&&decide (Bj<xY.length)) (cB P2 (xY.getD Bj.toNat (Ty.aC (.int .i64))) (fun y45=>cC (decide ((0:Int)≤Bj)&&decide (Bj<xY.length)) (cB Jf (xY.getD Bj.toNat (Ty.aC (.int .i64))) (fun y46=>bif (!y45)then (bif (!y46)then (cC (decide ((0:Int)≤Bj)&&decide (Bj<xY.length)) (cC (decide ((Jf.length+1)*8≤140737488355328)) (bS ((Jf:List Int)++(([(xY.getD Bj.toNat (Ty.aC (.int .i64)))]:List Int):List Int)) Fg xY (IntKind.i64.wrap (Bj+1)) MD Fl DJ Dg uc uf P2 Jo Up O0 Wn x26 x27 Zl x29 x30 x31 RG Uq Ur KI Us x37 x38 x39 x40 x41 x42 Tp R5)))else (bS Jf Fg xY (IntKind.i64.wrap (Bj+1)) MD Fl DJ Dg uc uf P2 Jo Up O0 Wn x26 x27 Zl x29 x30 x31 RG Uq Ur KI Us x37 x38 x39 x40 x41 x42 Tp R5))else (bS Jf Fg xY (IntKind.i64.wrap (Bj+1)) MD Fl DJ Dg uc uf P2 Jo Up O0 Wn x26 x27 Zl x29 x30 x31 RG Uq Ur KI Us x37 x38 x39 x40 x41 x42 Tp R5))))))else (e0 Jf Fg MD Fl DJ Dg uc uf P2 Jo Up O0 Wn x26 x27 Zl x29 x30 x31 RG Uq Ur KI Us x37 x38 x39 x40 x41 x42 Tp R5)
def Bb (K:Ex→St→Option R) (rc:iJ→Option R) (d:iJ):Option R:=n9 cB (fun z0 z1 z2 z3 z4 z5 z6 z7 z8 z9 ME KD z12 NQ Th z15 z16 z17 z18 z19 z20 z21 z22 z23 z24 NS Rt z27 z28 z29 z30 z31 z32 z33=>rc (z0,z1,z2,z3,z4,z5,z6,z7,z8,z9,ME,KD,z12,NQ,Th,z15,z16,z17,z18,z19,z20,z21,z22,z23,z24,NS,Rt,z27,z28,z29,z30,z31,z32,z33)) d.1 d.2.1 d.2.2.1 d.2.2.2.1 d.2.2.2.2.1 d.2.2.2.2.2.1 d.2.2.2.2.2.2.1 d.2.2.2.2.2.2.2.1 d.2.2.2.2.2.2.2.2.1 d.2.2.2.2.2.2.2.2.2.1 d.2.2.2.2.2.2.2.2.2.2.1 d.2.2.2.2.2.2.2.2.2.2.2.1 d.2.2.2.2.2.2.2.2.2.2.2.2.1 d.2.2.2.2.2.2.2.2.2.2.2.2.2.1 d.2.2.2.2.2.2.2.2.2.2.2.2.2.2.1 d.2.2.2.2.2.2.2.2.2.2.2.2.2.2.2.1 d.2.2.2.2.2.2.2.2.2.2.2.2.2.2.2.2.1 d.2.2.2.2.2.2.2.2.2.2.2.2.2.2.2.2.2.1 d.2.2.2.2.2.2.2.2.2.2.2.2.2.2.2.2.2.2.1 d.2.2.2.2.2.2.2.2.2.2.2.2.2.2.2.2.2.2.2.1 d.2.2.2.2.2.2.2.2.2.2.2.2.2.2.2.2.2.2.2.2.1 d.2.2.2.2.2.2.2.2.2.2.2.2.2.2.2.2.2.2.2.2.2.1 d.2.2.2.2.2.2.2.2.2.2.2.2.2.2.2.2.2.2.2.2.2.2.1 d.2.2.2.2.2.2.2.2.2.2.2.2.2.2.2.2.2.2.2.2.2.2.2.1 d.2.2.2.2.2.2.2.2.2.2.2.2.2.2.2.2.2.2.2.2.2.2.2.2.1 d.2.2.2.2.2.2.2.2.2.2.2.2.2.2.2.2.2.2.2.2.2.2.2.2.2.1 d.2.2.2.2.2.2.2.2.2.2.2.2.2.2.2.2.2.2.2.2.2.2.2.2.2.2.1 d.2.2.2.2.2.2.2.2.2.2.2.2.2.2.2.2.2.2.2.2.2.2.2.2.2.2.2.1 d.2.2.2.2.2.2.2.2.2.2.2.2.2.2.2.2.2.2.2.2.2.2.2.2.2.2.2.2.1 d.2.2.2.2.2.2.2.2.2.2.2.2.2.2.2.2.2.2.2.2.2.2.2.2.2.2.2.2.2.1 d.2.2.2.2.2.2.2.2.2.2.2.2.2.2.2.2.2.2.2.2.2.2.2.2.2.2.2.2.2.2.1 d.2.2.2.2.2.2.2.2.2.2.2.2.2.2.2.2.2.2.2.2.2.2.2.2.2.2.2.2.2.2.2.1 d.2.2.2.2.2.2.2.2.2.2.2.2.2.2.2.2.2.2.2.2.2.2.2.2.2.2.2.2.2.2.2.2.1 d.2.2.2.2.2.2.2.2.2.2.2.2.2.2.2.2.2.2.2.2.2.2.2.2.2.2.2.2.2.2.2.2.2 (te K)
def oa (bS:(List Int)→Int→(List Int)→Int→ad.bN→ad.State→aA→Int→Int→Int→Int→Int→Int→Bool→Int→Bool→Int→aA→Int→Int→Option R) (x86:List Int) (x87:Int) (Zs:List Int) (Qk:Int) (YZ:ad.bN) (Zt:ad.State) (Zu:aA) (Zv:Int) (Zw:Int) (Zx:Int) (x96:Int) (x97:Int) (Y0:Int) (Zy:Bool) (Og:Int) (Oh:Bool) (RZ:Int) (x103:aA) (x104:Int) (x105:Int) (e0:(List Int)→Int→ad.bN→ad.State→aA→Int→Int→Int→Int→Int→Int→Bool→Int→Bool→Int→aA→Int→Int→Option R):Option R :=
 bif (decide (Qk<(Zs.length:Int)))then (cC (decide ((0:Int)≤Qk)&&decide (Qk<Zs.length)) (cB YZ.path (Zs.getD Qk.toNat (Ty.aC (.int .i64))) (fun YB=>cC (decide ((0:Int)≤Qk)&&decide (Qk<Zs.length)) (cB x86 (Zs.getD Qk.toNat (Ty.aC (.int .i64))) (fun YC=>bif (!YB)then (bif (!YC)then (cC (decide ((0:Int)≤Qk)&&decide (Qk<Zs.length)) (cC (decide ((x86.length+1)*8≤140737488355328)) (bS ((x86:List Int)++(([(Zs.getD Qk.toNat (Ty.aC (.int .i64)))]:List Int):List Int)) x87 Zs (IntKind.i64.wrap (Qk+1)) YZ Zt Zu Zv Zw Zx x96 x97 Y0 Zy Og Oh RZ x103 x104 x105)))else (bS x86 x87 Zs (IntKind.i64.wrap (Qk+1)) YZ Zt Zu Zv Zw Zx x96 x97 Y0 Zy Og Oh RZ x103 x104 x105))else (bS x86 x87 Zs (IntKind.i64.wrap (Qk+1)) YZ Zt Zu Zv Zw Zx x96 x97 Y0 Zy Og Oh RZ x103 x104 x105))))))else (e0 x86 x87 YZ Zt Zu Zv Zw Zx x96 x97 Y0 Zy Og Oh RZ x103 x104 x105)
def Bc (K:Ex→St→Option R) (rc:iK→Option R) (d:iK):Option R:=oa cB (fun z0 z1 z2 z3 z4 z5 z6 z7 z8 z9 ME KD z12 NQ Th z15 z16 z17 z18 z19=>rc (z0,z1,z2,z3,z4,z5,z6,z7,z8,z9,ME,KD,z12,NQ,Th,z15,z16,z17,z18,z19)) d.1 d.2.1 d.2.2.1 d.2.2.2.1 d.2.2.2.2.1 d.2.2.2.2.2.1 d.2.2.2.2.2.2.1 d.2.2.2.2.2.2.2.1 d.2.2.2.2.2.2.2.2.1 d.2.2.2.2.2.2.2.2.2.1 d.2.2.2.2.2.2.2.2.2.2.1 d.2.2.2.2.2.2.2.2.2.2.2.1 d.2.2.2.2.2.2.2.2.2.2.2.2.1 d.2.2.2.2.2.2.2.2.2.2.2.2.2.1 d.2.2.2.2.2.2.2.2.2.2.2.2.2.2.1 d.2.2.2.2.2.2.2.2.2.2.2.2.2.2.2.1 d.2.2.2.2.2.2.2.2.2.2.2.2.2.2.2.2.1 d.2.2.2.2.2.2.2.2.2.2.2.2.2.2.2.2.2.1 d.2.2.2.2.2.2.2.2.2.2.2.2.2.2.2.2.2.2.1 d.2.2.2.2.2.2.2.2.2.2.2.2.2.2.2.2.2.2.2 (tf K)
def lg:Nat→Option (Hint×bO R):=fun i=>match i with
 | 20=>some (n8,(bF kV kW (yq bt) (bF kX kY (yr bu) dZ)))
 | _=>none
theorem FD (K:Ex→St→Option R) (rc:St→Option R) (d:iJ):roundOf tt (bQ (jX c6 c4 aB cB bC)) (lg bt bu) 0 ((ah (ar Tryd.f19)).getD 0 .skip) n8 (qu d) rc K=Bb cB K (fun d=>rc (qu d)) d:=by kernel_rfl
theorem FE (K:Ex→St→Option R) (rc:St→Option R) (d:iK):roundOf tt (bQ (jX c6 c4 aB cB bC)) (lg bt bu) 0 ((ah (ar Tryd.f19)).getD 0 .skip) uD (qv d) rc K=Bc cB K (fun d=>rc (qv d)) d:=by kernel_rfl
def EY (x1:ad.bN) (x2:ad.State) (k0:ad.bN→(List Int)→Bool→Option R):Option R :=
 aB x1 (fun y3=>bC y3.path (fun y4=>c4 x2 (fun y5=>c6 x2 (⟨y3.seen,y3.aX,([]:aA),0,0,false,0,0,false,0⟩:ad.State) (fun y6=>bif (!y4)then (k0 y3 ([]:List Int) false)else (bif (decide (y3.rel<(0:Int)))then (k0 y3 ([]:List Int) false)else (bif (!y5)then (k0 y3 ([]:List Int) false)else (bif (!(x2.ae==y3.ae))then (k0 y3 ([]:List Int) false)else (bif (!y6)then (k0 y3 ([]:List Int) false)else (let j132:=let j84:=fun (z83:Bool)=>bif z83 then (k0 (⟨y3.ae,y3.header,y3.order,y3.update,x2.aX,x2.header,y3.path,y3.seq,y3.open_,y3.rel,y3.wait,⟨y3.pending.header,y3.pending.ae,y3.pending.order,y3.pending.update,y3.pending.nodes,y3.pending.af⟩⟩:ad.bN) ([]:List Int) true)else (let To:=fun (z85:Bool)=>bif z85 then (cC (decide ((0:Int)≤(IntKind.i64.wrap (x2.seq - y3.seq)))&&decide ((IntKind.i64.wrap (x2.seq - y3.seq))≤y3.path.length)) (cC (decide ((0:Int)≤(IntKind.i64.wrap (x2.seq - y3.seq)))) (cC (decide ((0:Int)≤(IntKind.i64.wrap (x2.seq - y3.seq)))&&decide ((IntKind.i64.wrap (x2.seq - y3.seq))≤y3.path.length)) (bu (List.length ([]:List Int)+Int.natAbs (IntKind.i64.wrap (x2.seq - y3.seq))+List.length ((y3.path.drop 0).take ((IntKind.i64.wrap (x2.seq - y3.seq)).toNat - 0))+Int.natAbs 0+ad.bN.fu (⟨y3.ae,y3.header,y3.order,y3.update,x2.aX,x2.header,(y3.path.drop (IntKind.i64.wrap (x2.seq - y3.seq)).toNat),y3.seq,y3.open_,y3.rel,y3.wait,⟨y3.pending.header,y3.pending.ae,y3.pending.order,y3.pending.update,y3.pending.nodes,y3.pending.af⟩⟩:ad.bN)+ad.State.fu x2+List.length ([]:aA)+Int.natAbs 0+Int.natAbs 0+Int.natAbs 0+Int.natAbs 0+Int.natAbs 0+Int.natAbs 0+Int.natAbs 0+Int.natAbs 0+List.length ([]:aA)+Int.natAbs 0+Int.natAbs 0+64) ([]:List Int) (IntKind.i64.wrap (x2.seq - y3.seq)) ((y3.path.drop 0).take ((IntKind.i64.wrap (x2.seq - y3.seq)).toNat - 0)) 0 (⟨y3.ae,y3.header,y3.order,y3.update,x2.aX,x2.header,(y3.path.drop (IntKind.i64.wrap (x2.seq - y3.seq)).toNat),y3.seq,y3.open_,y3.rel,y3.wait,⟨y3.pending.header,y3.pending.ae,y3.pending.order,y3.pending.update,y3.pending.nodes,y3.pending.af⟩⟩:ad.bN) x2 ([]:aA) 0 0 0 0 0 0 false 0 false 0 ([]:aA) 0 0 (fun VW YD u4 Tn y113 y114 y115 y116 y117 y118 y119 y120 y121 y122 y123 y124 VX YE=>let j129:=k0 (⟨u4.ae,u4.header,u4.order,u4.update,u4.aX,u4.seen,u4.path,Tn.seq,u4.open_,(max (IntKind.i64.wrap (u4.rel - (IntKind.i64.wrap (Int.tdiv YD 2)))) 0),u4.wait,⟨u4.pending.header,u4.pending.ae,u4.pending.order,u4.pending.update,u4.pending.nodes,u4.pending.af⟩⟩:ad.bN) VW true; bif u4.open_ then (bif (!Tn.live)then (k0 (⟨u4.ae,u4.header,u4.order,u4.update,u4.aX,u4.seen,u4.path,Tn.seq,false,0,false,⟨0,([]:aA),0,0,([]:List Stop),([]:List ad.Way)⟩⟩:ad.bN) VW true)else (j129))else (j129))))))else (let j131:=k0 (⟨y3.ae,y3.header,y3.order,y3.update,x2.aX,x2.header,y3.path,y3.seq,y3.open_,y3.rel,y3.wait,⟨y3.pending.header,y3.pending.ae,y3.pending.order,y3.pending.update,y3.pending.nodes,y3.pending.af⟩⟩:ad.bN) ([]:List Int) true; bif y3.open_ then (bif (!x2.live)then (k0 (⟨y3.ae,y3.header,y3.order,y3.update,x2.aX,x2.header,y3.path,y3.seq,false,0,false,⟨0,([]:aA),0,0,([]:List Stop),([]:List ad.Way)⟩⟩:ad.bN) ([]:List Int) true)else (j131))else (j131)); bif (decide ((IntKind.i64.wrap (x2.seq - y3.seq))>(0:Int)))then (bif ((Int.tmod (IntKind.i64.wrap (x2.seq - y3.seq)) 2)==0)then (To (decide ((IntKind.i64.wrap (x2.seq - y3.seq))<(y3.path.length:Int))))else (To false))else (To false)); bif (x2.order != y3.order)then (j84 true)else (j84 (x2.order==0)); bif y3.wait then (bif (decide (x2.accepted≥y3.pending.header))then (bif (x2.order != y3.order)then (k0 (⟨y3.ae,y3.header,y3.order,y3.update,x2.aX,x2.header,y3.path,y3.seq,y3.open_,y3.rel,false,⟨0,([]:aA),0,0,([]:List Stop),([]:List ad.Way)⟩⟩:ad.bN) ([]:List Int) true)else (bif (x2.order==0)then (k0 (⟨y3.ae,y3.header,y3.order,y3.update,x2.aX,x2.header,y3.path,y3.seq,y3.open_,y3.rel,false,⟨0,([]:aA),0,0,([]:List Stop),([]:List ad.Way)⟩⟩:ad.bN) ([]:List Int) true)else (let j80:=fun (ME:Bool)=>bif ME then (cC (decide ((0:Int)≤(IntKind.i64.wrap (x2.seq - y3.seq)))&&decide ((IntKind.i64.wrap (x2.seq - y3.seq))≤y3.path.length)) (cC (decide ((0:Int)≤(IntKind.i64.wrap (x2.seq - y3.seq)))) (cC (decide ((0:Int)≤(IntKind.i64.wrap (x2.seq - y3.seq)))&&decide ((IntKind.i64.wrap (x2.seq - y3.seq))≤y3.path.length)) (bt (List.length ([]:List Int)+Int.natAbs (IntKind.i64.wrap (x2.seq - y3.seq))+List.length ((y3.path.drop 0).take ((IntKind.i64.wrap (x2.seq - y3.seq)).toNat - 0))+Int.natAbs 0+List.length y3.ae+Int.natAbs y3.header+Int.natAbs y3.order+Int.natAbs y3.update+Int.natAbs x2.aX+Int.natAbs x2.header+List.length (y3.path.drop (IntKind.i64.wrap (x2.seq - y3.seq)).toNat)+Int.natAbs y3.seq+Int.natAbs y3.rel+Int.natAbs 0+List.length ([]:aA)+Int.natAbs 0+Int.natAbs 0+ad.State.fu x2+List.length ([]:aA)+Int.natAbs 0+Int.natAbs 0+Int.natAbs 0+Int.natAbs 0+Int.natAbs 0+Int.natAbs 0+Int.natAbs 0+Int.natAbs 0+List.length ([]:aA)+Int.natAbs 0+Int.natAbs 0+64) ([]:List Int) (IntKind.i64.wrap (x2.seq - y3.seq)) ((y3.path.drop 0).take ((IntKind.i64.wrap (x2.seq - y3.seq)).toNat - 0)) 0 y3.ae y3.header y3.order y3.update x2.aX x2.header (y3.path.drop (IntKind.i64.wrap (x2.seq - y3.seq)).toNat) y3.seq y3.open_ y3.rel false 0 ([]:aA) 0 0 x2 ([]:aA) 0 0 0 0 0 0 false 0 false 0 ([]:aA) 0 0 (fun Zm y49 Zn Wo Wp Wq Wr Ws Wu y57 y58 y59 y60 y61 y62 y63 y64 y65 y66 y67 y68 y69 y70 y71 y72 y73 y74 y75 y76 y77 y78 y79=>bif y58 then (bif (!y65.live)then (k0 (⟨Zn,Wo,Wp,Wq,Wr,Ws,Wu,y65.seq,false,0,false,⟨0,([]:aA),0,0,([]:List Stop),([]:List ad.Way)⟩⟩:ad.bN) Zm true)else (k0 (⟨Zn,Wo,Wp,Wq,Wr,Ws,Wu,y65.seq,y58,(max (IntKind.i64.wrap (y59 - (IntKind.i64.wrap (Int.tdiv y49 2)))) 0),y60,⟨y61,y62,y63,y64,([]:List Stop),([]:List ad.Way)⟩⟩:ad.bN) Zm true))else (k0 (⟨Zn,Wo,Wp,Wq,Wr,Ws,Wu,y65.seq,y58,(max (IntKind.i64.wrap (y59 - (IntKind.i64.wrap (Int.tdiv y49 2)))) 0),y60,⟨y61,y62,y63,y64,([]:List Stop),([]:List ad.Way)⟩⟩:ad.bN) Zm true))))))else (bif y3.open_ then (bif (!x2.live)then (k0 (⟨y3.ae,y3.header,y3.order,y3.update,x2.aX,x2.header,y3.path,y3.seq,false,0,false,⟨0,([]:aA),0,0,([]:List Stop),([]:List ad.Way)⟩⟩:ad.bN) ([]:List Int) true)else (k0 (⟨y3.ae,y3.header,y3.order,y3.update,x2.aX,x2.header,y3.path,y3.seq,y3.open_,y3.rel,false,⟨0,([]:aA),0,0,([]:List Stop),([]:List ad.Way)⟩⟩:ad.bN) ([]:List Int) true))else (k0 (⟨y3.ae,y3.header,y3.order,y3.update,x2.aX,x2.header,y3.path,y3.seq,y3.open_,y3.rel,false,⟨0,([]:aA),0,0,([]:List Stop),([]:List ad.Way)⟩⟩:ad.bN) ([]:List Int) true)); bif (decide ((IntKind.i64.wrap (x2.seq - y3.seq))>(0:Int)))then (bif ((Int.tmod (IntKind.i64.wrap (x2.seq - y3.seq)) 2)==0)then (j80 (decide ((IntKind.i64.wrap (x2.seq - y3.seq))<(y3.path.length:Int))))else (j80 false))else (j80 false))))else (j132))else (j132))))))))))
theorem Ql:dT (R:=R) tt (jX c6 c4 aB cB bC) (lg bt bu) false Tryd.f19 EW EX (II (EY c6 c4 aB bC bt bu)):=fun x y k=>by kernel_rfl
end
theorem Oi:dG (R:=R) Tryd.prog (jX (R:=R) c6 c4 aB cB bC) := .c (JI R) <| .c (JH R) <| .c (sC R) <| .c (Ni R) <| .c (vu R) <| .n
def bt:ta R
 | 0,_,_,_,_,_,_,_,_,_,_,_,_,_,_,_,_,_,_,_,_,_,_,_,_,_,_,_,_,_,_,_,_,_,_,_=>none
 | n+1,eE,eF,eR,jZ,ug,vi,yY,yZ,Eg,GV,uh,ui,uj,uk,GW,MV,MW,MX,MY,MZ,x20',x21',x22',x23',x24',x25',x26',x27',x28',x29',x30',x31',x32',x33',e0=>n9 cB (fun eE eF eR jZ ug vi yY yZ Eg GV uh ui uj uk GW MV MW MX MY MZ x20' x21' x22' x23' x24' x25' x26' x27' x28' x29' x30' x31' x32' x33'=>bt n eE eF eR jZ ug vi yY yZ Eg GV uh ui uj uk GW MV MW MX MY MZ x20' x21' x22' x23' x24' x25' x26' x27' x28' x29' x30' x31' x32' x33' e0) eE eF eR jZ ug vi yY yZ Eg GV uh ui uj uk GW MV MW MX MY MZ x20' x21' x22' x23' x24' x25' x26' x27' x28' x29' x30' x31' x32' x33' e0
def Bd (K:Ex→St→Option R) (n:Nat) (d:iJ):Option R:=bt n d.1 d.2.1 d.2.2.1 d.2.2.2.1 d.2.2.2.2.1 d.2.2.2.2.2.1 d.2.2.2.2.2.2.1 d.2.2.2.2.2.2.2.1 d.2.2.2.2.2.2.2.2.1 d.2.2.2.2.2.2.2.2.2.1 d.2.2.2.2.2.2.2.2.2.2.1 d.2.2.2.2.2.2.2.2.2.2.2.1 d.2.2.2.2.2.2.2.2.2.2.2.2.1 d.2.2.2.2.2.2.2.2.2.2.2.2.2.1 d.2.2.2.2.2.2.2.2.2.2.2.2.2.2.1 d.2.2.2.2.2.2.2.2.2.2.2.2.2.2.2.1 d.2.2.2.2.2.2.2.2.2.2.2.2.2.2.2.2.1 d.2.2.2.2.2.2.2.2.2.2.2.2.2.2.2.2.2.1 d.2.2.2.2.2.2.2.2.2.2.2.2.2.2.2.2.2.2.1 d.2.2.2.2.2.2.2.2.2.2.2.2.2.2.2.2.2.2.2.1 d.2.2.2.2.2.2.2.2.2.2.2.2.2.2.2.2.2.2.2.2.1 d.2.2.2.2.2.2.2.2.2.2.2.2.2.2.2.2.2.2.2.2.2.1 d.2.2.2.2.2.2.2.2.2.2.2.2.2.2.2.2.2.2.2.2.2.2.1 d.2.2.2.2.2.2.2.2.2.2.2.2.2.2.2.2.2.2.2.2.2.2.2.1 d.2.2.2.2.2.2.2.2.2.2.2.2.2.2.2.2.2.2.2.2.2.2.2.2.1 d.2.2.2.2.2.2.2.2.2.2.2.2.2.2.2.2.2.2.2.2.2.2.2.2.2.1 d.2.2.2.2.2.2.2.2.2.2.2.2.2.2.2.2.2.2.2.2.2.2.2.2.2.2.1 d.2.2.2.2.2.2.2.2.2.2.2.2.2.2.2.2.2.2.2.2.2.2.2.2.2.2.2.1 d.2.2.2.2.2.2.2.2.2.2.2.2.2.2.2.2.2.2.2.2.2.2.2.2.2.2.2.2.1 d.2.2.2.2.2.2.2.2.2.2.2.2.2.2.2.2.2.2.2.2.2.2.2.2.2.2.2.2.2.1 d.2.2.2.2.2.2.2.2.2.2.2.2.2.2.2.2.2.2.2.2.2.2.2.2.2.2.2.2.2.2.1 d.2.2.2.2.2.2.2.2.2.2.2.2.2.2.2.2.2.2.2.2.2.2.2.2.2.2.2.2.2.2.2.1 d.2.2.2.2.2.2.2.2.2.2.2.2.2.2.2.2.2.2.2.2.2.2.2.2.2.2.2.2.2.2.2.2.1 d.2.2.2.2.2.2.2.2.2.2.2.2.2.2.2.2.2.2.2.2.2.2.2.2.2.2.2.2.2.2.2.2.2 (te K)
def bu:td R
 | 0,_,_,_,_,_,_,_,_,_,_,_,_,_,_,_,_,_,_,_,_,_=>none
 | n+1,eE,eF,eR,jZ,ug,vi,yY,yZ,Eg,GV,uh,ui,uj,uk,GW,MV,MW,MX,MY,MZ,e0=>oa cB (fun eE eF eR jZ ug vi yY yZ Eg GV uh ui uj uk GW MV MW MX MY MZ=>bu n eE eF eR jZ ug vi yY yZ Eg GV uh ui uj uk GW MV MW MX MY MZ e0) eE eF eR jZ ug vi yY yZ Eg GV uh ui uj uk GW MV MW MX MY MZ e0
def Be (K:Ex→St→Option R) (n:Nat) (d:iK):Option R:=bu n d.1 d.2.1 d.2.2.1 d.2.2.2.1 d.2.2.2.2.1 d.2.2.2.2.2.1 d.2.2.2.2.2.2.1 d.2.2.2.2.2.2.2.1 d.2.2.2.2.2.2.2.2.1 d.2.2.2.2.2.2.2.2.2.1 d.2.2.2.2.2.2.2.2.2.2.1 d.2.2.2.2.2.2.2.2.2.2.2.1 d.2.2.2.2.2.2.2.2.2.2.2.2.1 d.2.2.2.2.2.2.2.2.2.2.2.2.2.1 d.2.2.2.2.2.2.2.2.2.2.2.2.2.2.1 d.2.2.2.2.2.2.2.2.2.2.2.2.2.2.2.1 d.2.2.2.2.2.2.2.2.2.2.2.2.2.2.2.2.1 d.2.2.2.2.2.2.2.2.2.2.2.2.2.2.2.2.2.1 d.2.2.2.2.2.2.2.2.2.2.2.2.2.2.2.2.2.2.1 d.2.2.2.2.2.2.2.2.2.2.2.2.2.2.2.2.2.2.2 (tf K)
theorem IJ (other:bO R) (ho:dK tt (bQ (jX (R:=R) c6 c4 aB cB bC)) (lg (R:=R) bt bu) 0 ((ah (ar Tryd.f19)).getD 0 .skip) n8 other):dK tt (bQ (jX (R:=R) c6 c4 aB cB bC)) (lg (R:=R) bt bu) 0 ((ah (ar Tryd.f19)).getD 0 .skip) n8 (bF kV kW (yq (bt)) other) :=
 bM (A:=Bd) ho (cI qu (Bb cB) (Bd) (fun _ _=>by kernel_rfl) (FD c6 c4 aB cB bC bt bu) (fun _ _ _=>by kernel_rfl)) A9 JM (fun _ _=>by kernel_rfl) (fun _ _ _=>by kernel_rfl)
theorem IK (other:bO R) (ho:dK tt (bQ (jX (R:=R) c6 c4 aB cB bC)) (lg (R:=R) bt bu) 0 ((ah (ar Tryd.f19)).getD 0 .skip) uD other):dK tt (bQ (jX (R:=R) c6 c4 aB cB bC)) (lg (R:=R) bt bu) 0 ((ah (ar Tryd.f19)).getD 0 .skip) uD (bF kX kY (yr (bu)) other) :=
 bM (A:=Be) ho (cI qv (Bc cB) (Be) (fun _ _=>by kernel_rfl) (FE c6 c4 aB cB bC bt bu) (fun _ _ _=>by kernel_rfl)) Ba JN (fun _ _=>by kernel_rfl) (fun _ _ _=>by kernel_rfl)
def cQ:wc R:=fun x1 x2 k0=>EY c6 c4 aB bC bt bu x1 x2 k0
theorem K3 (R:Type):∀a∈ah (ar Tryd.f19),dY tt (bQ (jX (R:=R) c6 c4 aB cB bC)) (lg (R:=R) bt bu) 0 a:=by
 refine dx 1 (by kernel_rfl) fun i hi => ?_
 match i,hi with
 | 0,_=>exact bw (by kernel_rfl) (IJ _ (IK _ cj))
 | n+1,hi=>omega
theorem Nr (R:Type):mW Tryd.prog 19 (Kq (cQ (R:=R))):=bL TT mixed (Oi (R:=R)) rfl rfl rfl rfl (K3 R) (Ql c6 c4 aB cB bC bt bu)

end Go.Proofs.YtolnaonmpohciaaDoor
end
