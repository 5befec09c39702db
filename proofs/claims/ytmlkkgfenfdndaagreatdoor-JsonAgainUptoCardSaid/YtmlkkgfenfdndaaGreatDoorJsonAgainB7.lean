/-
  JsonAgain: for every input whose bulk is at most 1048576 the law returns true, and each argument reads behind the call as it read before; part 7 of 9 of the proof: an interpreter of the model's code over typed data, proved sound; the functions that the law reaches, printed as Lean functions and tied; the plain law. Own texts laid one behind the other.
-/
import Derived.Test.YtmlkkgfenfdndaaGreatDoorJsonAgainB6
set_option linter.unusedSimpArgs false
set_option linter.unnecessarySimpa false
set_option linter.unusedVariables false
set_option linter.unusedSectionVars false
/-
  Functions of the program as pure Lean functions, and the ties; printed by wip/tools/emit.py.
-/
set_option maxRecDepth 100000
namespace Go.Proofs.YtmlkkgfenfdndaaGreatDoor
open Go Go.ay

/-! ### internal/strconv.underscoreOK -/
abbrev eI (R:Type):Type:=aj→(Bool→Option R)→Option R
abbrev iJ:List bN := [.leaf (.str)]
abbrev iK:List aH := []
noncomputable def po {R:Type} (fn:eI R):bN.av iJ→aH.av iK→(V→az→Option R)→Option R:=fun x y k=>fn x.1 (fun q0=>k (.bool q0) [])
abbrev dM (R:Type):Type:=Nat→aj→Int→Int→Bool→(Int→Option R)→(Bool→Int→Option R)→Option R
noncomputable def dV (R:Type) (internal_strconv_lower:ct R):Env R:=fun i=>match i with
  | 176=>some (true,(aA j8 j9 (oR internal_strconv_lower) bg))
  | _=>none
theorem wU (R:Type):p6 Tryz.prog (dV R internal_strconv_lower):=by
  intro i b sp h
  unfold dV at h
  split at h
  · cases h; exact ⟨(sJ R _ (aO _)),fun h=>nomatch h⟩
  · cases h

noncomputable def nT {R:Type} (internal_strconv_lower:ct R) (fy:aj→Int→Int→Bool→Option R) (pX:aj) (tG:Int) (nj:Int) (tH:Bool) (e0:Int→Option R) (e1:Bool→Int→Option R):Option R :=
  bif (decide (nj<(pX.length:Int)))then (cU (decide ((0:Int)≤nj)&&decide (nj<pX.length)) (bif (decide ((48:Int)≤((pX.getD nj.toNat 0).toNat:Int)))then (cU (decide ((0:Int)≤nj)&&decide (nj<pX.length)) (bif (decide (((pX.getD nj.toNat 0).toNat:Int)≤(57:Int)))then (fy pX 48 (IntKind.i64.wrap (nj+1)) tH)else (bif tH then (cU (decide ((0:Int)≤nj)&&decide (nj<pX.length)) (internal_strconv_lower ((pX.getD nj.toNat 0).toNat:Int) (fun KR=>bif (decide ((97:Int)≤KR))then (cU (decide ((0:Int)≤nj)&&decide (nj<pX.length)) (internal_strconv_lower ((pX.getD nj.toNat 0).toNat:Int) (fun LK=>bif (decide (LK≤(102:Int)))then (fy pX 48 (IntKind.i64.wrap (nj+1)) tH)else (cU (decide ((0:Int)≤nj)&&decide (nj<pX.length)) (bif (((pX.getD nj.toNat 0).toNat:Int)==95)then (bif (tG != 48)then (e1 false tG)else (fy pX 95 (IntKind.i64.wrap (nj+1)) tH))else (bif (tG==95)then (e1 false tG)else (fy pX 33 (IntKind.i64.wrap (nj+1)) tH)))))))else (cU (decide ((0:Int)≤nj)&&decide (nj<pX.length)) (bif (((pX.getD nj.toNat 0).toNat:Int)==95)then (bif (tG != 48)then (e1 false tG)else (fy pX 95 (IntKind.i64.wrap (nj+1)) tH))else (bif (tG==95)then (e1 false tG)else (fy pX 33 (IntKind.i64.wrap (nj+1)) tH)))))))else (cU (decide ((0:Int)≤nj)&&decide (nj<pX.length)) (bif (((pX.getD nj.toNat 0).toNat:Int)==95)then (bif (tG != 48)then (e1 false tG)else (fy pX 95 (IntKind.i64.wrap (nj+1)) tH))else (bif (tG==95)then (e1 false tG)else (fy pX 33 (IntKind.i64.wrap (nj+1)) tH)))))))else (bif tH then (cU (decide ((0:Int)≤nj)&&decide (nj<pX.length)) (internal_strconv_lower ((pX.getD nj.toNat 0).toNat:Int) (fun Cp=>bif (decide ((97:Int)≤Cp))then (cU (decide ((0:Int)≤nj)&&decide (nj<pX.length)) (internal_strconv_lower ((pX.getD nj.toNat 0).toNat:Int) (fun Sg=>bif (decide (Sg≤(102:Int)))then (fy pX 48 (IntKind.i64.wrap (nj+1)) tH)else (cU (decide ((0:Int)≤nj)&&decide (nj<pX.length)) (bif (((pX.getD nj.toNat 0).toNat:Int)==95)then (bif (tG != 48)then (e1 false tG)else (fy pX 95 (IntKind.i64.wrap (nj+1)) tH))else (bif (tG==95)then (e1 false tG)else (fy pX 33 (IntKind.i64.wrap (nj+1)) tH)))))))else (cU (decide ((0:Int)≤nj)&&decide (nj<pX.length)) (bif (((pX.getD nj.toNat 0).toNat:Int)==95)then (bif (tG != 48)then (e1 false tG)else (fy pX 95 (IntKind.i64.wrap (nj+1)) tH))else (bif (tG==95)then (e1 false tG)else (fy pX 33 (IntKind.i64.wrap (nj+1)) tH)))))))else (cU (decide ((0:Int)≤nj)&&decide (nj<pX.length)) (bif (((pX.getD nj.toNat 0).toNat:Int)==95)then (bif (tG != 48)then (e1 false tG)else (fy pX 95 (IntKind.i64.wrap (nj+1)) tH))else (bif (tG==95)then (e1 false tG)else (fy pX 33 (IntKind.i64.wrap (nj+1)) tH)))))))else (e0 tG)
noncomputable def aC {R:Type}:dM R
  | 0,_,_,_,_,_,_=>none
  | n+1,lY,lZ,mF,tQ,e0,e1=>nT internal_strconv_lower (fun lY lZ mF tQ=>aC n lY lZ mF tQ e0 e1) lY lZ mF tQ e0 e1
noncomputable def gq:Hint := { live := [0,3,4,5],own := [],rows := [],cells := [],drop := [],out := [2,3] }
abbrev cO:Type:=aj × Int × Int × Bool
noncomputable def fT:cO→St:=fun d=>⟨[.str d.1, .undef, .undef, .int .i32 d.2.1, .int .i64 d.2.2.1, .bool d.2.2.2, .undef, .undef, .undef, .undef, .undef, .undef, .undef, .undef, .undef, .undef, .undef, .undef, .undef, .undef, .undef, .undef, .undef, .undef, .undef, .undef, .undef, .undef, .undef, .undef, .undef, .undef, .undef, .undef, .undef, .undef, .undef, .undef, .undef, .undef, .undef, .undef, .undef, .undef, .undef, .undef, .undef, .undef, .undef, .undef, .undef, .undef, .undef, .undef, .undef, .undef, .undef, .undef, .undef, .undef, .undef, .undef, .undef, .undef, .undef, .undef, .undef, .undef, .undef, .undef, .undef, .undef, .undef, .undef, .undef, .undef, .undef, .undef, .undef, .undef, .undef, .undef, .undef, .undef, .undef, .undef, .undef, .undef, .undef, .undef, .undef, .undef, .undef, .undef], []⟩
noncomputable def ju {R:Type} (K:Ex→St→Option R) (q0:Int):Option R:=K (.exit 0) ⟨[.undef, .undef, .undef, .int .i32 q0, .undef, .undef, .undef, .undef, .undef, .undef, .undef, .undef, .undef, .undef, .undef, .undef, .undef, .undef, .undef, .undef, .undef, .undef, .undef, .undef, .undef, .undef, .undef, .undef, .undef, .undef, .undef, .undef, .undef, .undef, .undef, .undef, .undef, .undef, .undef, .undef, .undef, .undef, .undef, .undef, .undef, .undef, .undef, .undef, .undef, .undef, .undef, .undef, .undef, .undef, .undef, .undef, .undef, .undef, .undef, .undef, .undef, .undef, .undef, .undef, .undef, .undef, .undef, .undef, .undef, .undef, .undef, .undef, .undef, .undef, .undef, .undef, .undef, .undef, .undef, .undef, .undef, .undef, .undef, .undef, .undef, .undef, .undef, .undef, .undef, .undef, .undef, .undef, .undef, .undef], []⟩
noncomputable def jv {R:Type} (K:Ex→St→Option R) (q0:Bool) (q1:Int):Option R:=K (.ret) ⟨[.undef, .undef, .bool q0, .int .i32 q1, .undef, .undef, .undef, .undef, .undef, .undef, .undef, .undef, .undef, .undef, .undef, .undef, .undef, .undef, .undef, .undef, .undef, .undef, .undef, .undef, .undef, .undef, .undef, .undef, .undef, .undef, .undef, .undef, .undef, .undef, .undef, .undef, .undef, .undef, .undef, .undef, .undef, .undef, .undef, .undef, .undef, .undef, .undef, .undef, .undef, .undef, .undef, .undef, .undef, .undef, .undef, .undef, .undef, .undef, .undef, .undef, .undef, .undef, .undef, .undef, .undef, .undef, .undef, .undef, .undef, .undef, .undef, .undef, .undef, .undef, .undef, .undef, .undef, .undef, .undef, .undef, .undef, .undef, .undef, .undef, .undef, .undef, .undef, .undef, .undef, .undef, .undef, .undef, .undef, .undef], []⟩
noncomputable def jJ {R:Type} (internal_strconv_lower:ct R) (K:Ex→St→Option R) (rc:cO→Option R) (d:cO):Option R:=nT internal_strconv_lower (fun z0 z1 z2 z3=>rc (z0,z1,z2,z3)) d.1 d.2.1 d.2.2.1 d.2.2.2 (ju K) (jv K)
noncomputable def dS {R:Type} (K:Ex→St→Option R) (n:Nat) (d:cO):Option R:=aC n d.1 d.2.1 d.2.2.1 d.2.2.2 (ju K) (jv K)
abbrev cP:List bN := [.leaf (.str), .leaf (.undef), .leaf (.undef), .leaf (.int .i32), .leaf (.int .i64), .leaf (.bool), .leaf (.undef), .leaf (.undef), .leaf (.undef), .leaf (.undef), .leaf (.undef), .leaf (.undef), .leaf (.undef), .leaf (.undef), .leaf (.undef), .leaf (.undef), .leaf (.undef), .leaf (.undef), .leaf (.undef), .leaf (.undef), .leaf (.undef), .leaf (.undef), .leaf (.undef), .leaf (.undef), .leaf (.undef), .leaf (.undef), .leaf (.undef), .leaf (.undef), .leaf (.undef), .leaf (.undef), .leaf (.undef), .leaf (.undef), .leaf (.undef), .leaf (.undef), .leaf (.undef), .leaf (.undef), .leaf (.undef), .leaf (.undef), .leaf (.undef), .leaf (.undef), .leaf (.undef), .leaf (.undef), .leaf (.undef), .leaf (.undef), .leaf (.undef), .leaf (.undef), .leaf (.undef), .leaf (.undef), .leaf (.undef), .leaf (.undef), .leaf (.undef), .leaf (.undef), .leaf (.undef), .leaf (.undef), .leaf (.undef), .leaf (.undef), .leaf (.undef), .leaf (.undef), .leaf (.undef), .leaf (.undef), .leaf (.undef), .leaf (.undef), .leaf (.undef), .leaf (.undef), .leaf (.undef), .leaf (.undef), .leaf (.undef), .leaf (.undef), .leaf (.undef), .leaf (.undef), .leaf (.undef), .leaf (.undef), .leaf (.undef), .leaf (.undef), .leaf (.undef), .leaf (.undef), .leaf (.undef), .leaf (.undef), .leaf (.undef), .leaf (.undef), .leaf (.undef), .leaf (.undef), .leaf (.undef), .leaf (.undef), .leaf (.undef), .leaf (.undef), .leaf (.undef), .leaf (.undef), .leaf (.undef), .leaf (.undef), .leaf (.undef), .leaf (.undef), .leaf (.undef), .leaf (.undef)]
abbrev cQ:List aH := []
noncomputable def jK (x:bN.av cP) (y:aH.av cQ):Nat:=(List.length x.1+Int.natAbs x.2.2.2.1+Int.natAbs x.2.2.2.2.1+64)
noncomputable def jL (x:bN.av cP) (y:aH.av cQ):cO:=(x.1,x.2.2.2.1,x.2.2.2.2.1,x.2.2.2.2.2.1)
noncomputable def jx {R:Type} (L:dM R):bN.av cP→aH.av cQ→(Ex→St→Option R)→Option R:=fun x y K=>L (jK x y) x.1 x.2.2.2.1 x.2.2.2.2.1 x.2.2.2.2.2.1 (ju K) (jv K)
noncomputable def gd (R:Type) (aC:dM R):Nat→Option (Hint × cr R):=fun i=>match i with
  | 10=>some (gq,(gu cP cQ (jx aC) qv))
  | _=>none

theorem sY {R:Type} (internal_strconv_lower:ct R) (aC:dM R) (K:Ex→St→Option R) (rc:St→Option R) (d:cO):roundOf tt (dV R internal_strconv_lower) (gd R aC) 0 ((aP (aK Tryz.f177)).getD 0 .skip) gq (fT d) rc K=jJ internal_strconv_lower K (fun d=>rc (fT d)) d:=by kernel_rfl
theorem rX {R:Type} (K:Ex→St→Option R) (n:Nat) (d:cO):dS K (n+1) d=jJ internal_strconv_lower K (dS K n) d:=by kernel_rfl
theorem rY {R:Type} (K:Ex→St→Option R) (d:cO):dS K 0 d=none:=by kernel_rfl
theorem sZ (x:bN.av cP) (y:aH.av cQ):(⟨bN.cV cP x,aH.cV cQ y⟩:St)=fT (jL x y):=by kernel_rfl
theorem s4 {R:Type} (x:bN.av cP) (y:aH.av cQ) (K:Ex→St→Option R):jx (aC) x y K=dS K (jK x y) (jL x y):=by kernel_rfl
theorem tX {R:Type} (other:cr R) (ho:o3 tt (dV R internal_strconv_lower) (gd R aC) 0 ((aP (aK Tryz.f177)).getD 0 .skip) gq other):o3 tt (dV R internal_strconv_lower) (gd R aC) 0 ((aP (aK Tryz.f177)).getD 0 .skip) gq (gu cP cQ (jx (aC)) other) :=
  gN (A:=dS) ho (kB fT (jJ internal_strconv_lower) (dS) (rY) (sY internal_strconv_lower aC) (rX)) jK jL sZ (s4)

noncomputable def pU {R:Type} (internal_strconv_lower:ct R) (aC:dM R) (x1:aj) (k0:Bool→Option R):Option R :=
  let j46:=fun (z3:aj)=>bif (decide ((z3.length:Int)≥(2:Int)))then (cU (decide ((0:Int)<z3.length)) (bif (((z3.getD 0 0).toNat:Int)==48)then (cU (decide ((1:Int)<z3.length)) (internal_strconv_lower ((z3.getD 1 0).toNat:Int) (fun y4=>bif (y4==98)then (cU (decide ((1:Int)<z3.length)) (internal_strconv_lower ((z3.getD 1 0).toNat:Int) (fun y9=>aC (List.length z3+Int.natAbs 48+Int.natAbs 2+64) z3 48 2 (y9==120) (fun JF=>k0 (JF != 95)) (fun OH Ob=>k0 OH))))else (cU (decide ((1:Int)<z3.length)) (internal_strconv_lower ((z3.getD 1 0).toNat:Int) (fun y5=>bif (y5==111)then (cU (decide ((1:Int)<z3.length)) (internal_strconv_lower ((z3.getD 1 0).toNat:Int) (fun yJ=>aC (List.length z3+Int.natAbs 48+Int.natAbs 2+64) z3 48 2 (yJ==120) (fun QJ=>k0 (QJ != 95)) (fun Oc y33=>k0 Oc))))else (cU (decide ((1:Int)<z3.length)) (internal_strconv_lower ((z3.getD 1 0).toNat:Int) (fun y6=>bif (y6==120)then (cU (decide ((1:Int)<z3.length)) (internal_strconv_lower ((z3.getD 1 0).toNat:Int) (fun wL=>aC (List.length z3+Int.natAbs 48+Int.natAbs 2+64) z3 48 2 (wL==120) (fun y34=>k0 (y34 != 95)) (fun y35 XT=>k0 y35))))else (aC (List.length z3+Int.natAbs 94+Int.natAbs 0+64) z3 94 0 false (fun Un=>k0 (Un != 95)) (fun Xc XU=>k0 Xc)))))))))))else (aC (List.length z3+Int.natAbs 94+Int.natAbs 0+64) z3 94 0 false (fun XV=>k0 (XV != 95)) (fun XW Pr=>k0 XW))))else (aC (List.length z3+Int.natAbs 94+Int.natAbs 0+64) z3 94 0 false (fun Sk=>k0 (Sk != 95)) (fun Sl XX=>k0 Sl)); bif (decide ((x1.length:Int)≥(1:Int)))then (cU (decide ((0:Int)<x1.length)) (bif (((x1.getD 0 0).toNat:Int)==45)then (cU (decide ((0:Int)≤(x1.length:Int))&&decide ((x1.length:Int)≤x1.length)) (cU (decide ((1:Int)≤(x1.length:Int))) (j46 ((x1.drop 1).take ((x1.length:Int).toNat - 1)))))else (cU (decide ((0:Int)<x1.length)) (bif (((x1.getD 0 0).toNat:Int)==43)then (cU (decide ((0:Int)≤(x1.length:Int))&&decide ((x1.length:Int)≤x1.length)) (cU (decide ((1:Int)≤(x1.length:Int))) (j46 ((x1.drop 1).take ((x1.length:Int).toNat - 1)))))else (j46 x1)))))else (j46 x1)
noncomputable def bp {R:Type}:eI R:=fun x1 k0=>pU internal_strconv_lower aC x1 k0
theorem xH {R:Type} (internal_strconv_lower:ct R) (aC:dM R) (x1:aj) (k:V→az→Option R):iP tt (dV R internal_strconv_lower) (gd R aC) false Tryz.f177 (aK Tryz.f177) [.str x1] [] k =
    pU internal_strconv_lower aC x1 (fun q0=>k (.bool q0) []):=by kernel_rfl
theorem vh (R:Type):∀a∈aP (aK Tryz.f177),cR tt (dV R internal_strconv_lower) (gd R aC) 0 a:=by
  refine bG 1 (by kernel_rfl) fun i hi => ?_
  match i,hi with
  | 0,_=>exact fC (by kernel_rfl) (tX _ jc)
  | n+1,hi=>omega
theorem wi (R:Type) (other:ay.Spec R) (ho:ay.Spec.Ok Tryz.prog 177 other):ay.Spec.Ok Tryz.prog 177 (aA iJ iK (po bp) other) :=
  bu ho (bj TT mixed (wU R) (keep:=false) rfl rfl rfl rfl 0 (vh R)) fun (x:bN.av iJ) (y:aH.av iK) k=>xH internal_strconv_lower aC x.1 k

end Go.Proofs.YtmlkkgfenfdndaaGreatDoor

/-
  Functions of the program as pure Lean functions, and the ties; printed by wip/tools/emit.py.
-/
set_option maxRecDepth 100000
namespace Go.Proofs.YtmlkkgfenfdndaaGreatDoor
open Go Go.ay

/-! ### internal/strconv.ParseUint -/
abbrev gL (R:Type):Type:=aj→Int→Int→(Int→Option R)→(Int→Option R)→(Int→Option R)→(Int→Option R)→(Int→Option R)→Option R
abbrev kj:List bN := [.leaf (.str), .leaf (.int .i64), .leaf (.int .i64)]
abbrev kk:List aH := []
noncomputable def qQ {R:Type} (fn:gL R):bN.av kj→aH.av kk→(V→az→Option R)→Option R:=fun x y k=>fn x.1 x.2.1 x.2.2.1 (fun q0=>k (.tuple [.int .u64 q0, .FA 184 .i64 2]) []) (fun q0=>k (.tuple [.int .u64 q0, .FA 184 .i64 3]) []) (fun q0=>k (.tuple [.int .u64 q0, .FA 184 .i64 4]) []) (fun q0=>k (.tuple [.int .u64 q0, .FA 184 .i64 1]) []) (fun q0=>k (.tuple [.int .u64 q0, .cX]) [])
abbrev er (R:Type):Type:=Nat→Int→Bool→aj→Int→Int→Bool→Int→Nat→Int→Int→(List Int)→(aj→Bool→Int→Option R)→(Int→aj→Bool→Int→Option R)→(Int→aj→Bool→Int→Option R)→(Int→aj→Bool→Option R)→Option R
noncomputable def eO (R:Type) (internal_strconv_lower:ct R) (bp:eI R):Env R:=fun i=>match i with
  | 176=>some (true,(aA j8 j9 (oR internal_strconv_lower) bg))
  | 177=>some (true,(aA iJ iK (po bp) bg))
  | _=>none
theorem yT (R:Type):p6 Tryz.prog (eO R internal_strconv_lower bp):=by
  intro i b sp h
  unfold eO at h
  split at h
  · cases h; exact ⟨(sJ R _ (aO _)),fun h=>nomatch h⟩
  · cases h; exact ⟨(wi R _ (aO _)),fun h=>nomatch h⟩
  · cases h

noncomputable def dJ {R:Type} (internal_strconv_lower:ct R) (fy:Int→Bool→aj→Int→Int→Bool→Int→Nat→Int→Int→(List Int)→Option R) (AV:Int) (x21:Bool) (x22:aj) (x23:Int) (XY:Int) (XZ:Bool) (Q5:Int) (x27:Nat) (x28:Int) (Ji:Int) (Vw:List Int) (e0:aj→Bool→Int→Option R) (e1:Int→aj→Bool→Int→Option R) (e2:Int→aj→Bool→Int→Option R) (e3:Int→aj→Bool→Option R):Option R :=
  bif (decide (Ji<x28))then (cU (decide ((0:Int)≤Ji)&&decide (Ji<x27)) (cU (decide (Ji.toNat<Vw.length)) (let j42:=fun (z40:Int)=>bif (decide (z40≥(IntKind.u8.wrap AV)))then (e1 0 x22 XZ Q5)else (bif (decide (Q5≥x23))then (e2 XY x22 XZ Q5)else (bif (decide ((IntKind.u64.wrap ((IntKind.u64.wrap (Q5*(IntKind.u64.wrap AV)))+(IntKind.u64.wrap z40)))<(IntKind.u64.wrap (Q5*(IntKind.u64.wrap AV)))))then (e2 XY x22 XZ (IntKind.u64.wrap (Q5*(IntKind.u64.wrap AV))))else (bif (decide ((IntKind.u64.wrap ((IntKind.u64.wrap (Q5*(IntKind.u64.wrap AV)))+(IntKind.u64.wrap z40)))>XY))then (e2 XY x22 XZ (IntKind.u64.wrap (Q5*(IntKind.u64.wrap AV))))else (fy AV x21 x22 x23 XY XZ (IntKind.u64.wrap ((IntKind.u64.wrap (Q5*(IntKind.u64.wrap AV)))+(IntKind.u64.wrap z40))) x27 x28 (IntKind.i64.wrap (Ji+1)) Vw)))); let j39:=fun (z31:Bool)=>bif z31 then (fy AV x21 x22 x23 XY true Q5 x27 x28 (IntKind.i64.wrap (Ji+1)) Vw)else (let j38:=fun (z32:Bool)=>bif z32 then (j42 (IntKind.u8.wrap ((Vw.getD Ji.toNat (Ty.cn (.int .u8))) - 48)))else (internal_strconv_lower (Vw.getD Ji.toNat (Ty.cn (.int .u8))) (fun y33=>bif (decide ((97:Int)≤y33))then (internal_strconv_lower (Vw.getD Ji.toNat (Ty.cn (.int .u8))) (fun y34=>bif (decide (y34≤(122:Int)))then (internal_strconv_lower (Vw.getD Ji.toNat (Ty.cn (.int .u8))) (fun Un=>j42 (IntKind.u8.wrap ((IntKind.u8.wrap (Un - 97))+10))))else (e1 0 x22 XZ Q5)))else (e1 0 x22 XZ Q5))); bif (decide ((48:Int)≤(Vw.getD Ji.toNat (Ty.cn (.int .u8)))))then (j38 (decide ((Vw.getD Ji.toNat (Ty.cn (.int .u8)))≤(57:Int))))else (j38 false)); bif ((Vw.getD Ji.toNat (Ty.cn (.int .u8)))==95)then (j39 x21)else (j39 false))))else (e0 x22 XZ Q5)
noncomputable def aI {R:Type}:er R
  | 0,_,_,_,_,_,_,_,_,_,_,_,_,_,_,_=>none
  | n+1,lY,lZ,mF,tQ,EB,EC,Li,Lj,Lk,Ll,AB,e0,e1,e2,e3=>dJ internal_strconv_lower (fun lY lZ mF tQ EB EC Li Lj Lk Ll AB=>aI n lY lZ mF tQ EB EC Li Lj Lk Ll AB e0 e1 e2 e3) lY lZ mF tQ EB EC Li Lj Lk Ll AB e0 e1 e2 e3
noncomputable def hG:Hint := { live := [1,8,9,10,11,12,13,99,100,101],own := [],rows := [],cells := [],drop := [],out := [6,7,9,12,13] }
abbrev dj:Type:=Int × Bool × aj × Int × Int × Bool × Int × Nat × Int × Int × (List Int)
noncomputable def gK:dj→St:=fun d=>⟨[.undef, .int .i64 d.1, .undef, .undef, .undef, .undef, .undef, .undef, .bool d.2.1, .str d.2.2.1, .int .u64 d.2.2.2.1, .int .u64 d.2.2.2.2.1, .bool d.2.2.2.2.2.1, .int .u64 d.2.2.2.2.2.2.1, .undef, .undef, .undef, .undef, .undef, .undef, .undef, .undef, .undef, .undef, .undef, .undef, .undef, .undef, .undef, .undef, .undef, .undef, .undef, .undef, .undef, .undef, .undef, .undef, .undef, .undef, .undef, .undef, .undef, .undef, .undef, .undef, .undef, .undef, .undef, .undef, .undef, .undef, .undef, .undef, .undef, .undef, .undef, .undef, .undef, .undef, .undef, .undef, .undef, .undef, .undef, .undef, .undef, .undef, .undef, .undef, .undef, .undef, .undef, .undef, .undef, .undef, .undef, .undef, .undef, .undef, .undef, .undef, .undef, .undef, .undef, .undef, .undef, .undef, .undef, .undef, .undef, .undef, .undef, .undef, .undef, .undef, .undef, .undef, .undef, .row 0 d.2.2.2.2.2.2.2.1, .int .i64 d.2.2.2.2.2.2.2.2.1, .int .i64 d.2.2.2.2.2.2.2.2.2.1, .undef, .undef, .undef, .undef, .undef, .undef, .undef, .undef, .undef, .undef, .undef, .undef, .undef, .undef, .undef, .undef, .undef, .undef, .undef, .undef, .undef, .undef, .undef, .undef, .undef, .undef, .undef, .undef, .undef, .undef, .undef, .undef, .undef, .undef, .undef, .undef, .undef, .undef, .undef, .undef, .undef, .undef, .undef, .undef, .undef, .undef, .undef, .undef, .undef, .undef, .undef, .undef, .undef, .undef, .undef, .undef, .undef, .undef, .undef, .undef, .undef, .undef, .undef, .undef, .undef, .undef, .undef, .undef, .undef, .undef], [.row (.int .u8) d.2.2.2.2.2.2.2.2.2.2]⟩
noncomputable def kn {R:Type} (K:Ex→St→Option R) (q0:aj) (q1:Bool) (q2:Int):Option R:=K (.exit 3) ⟨[.undef, .undef, .undef, .undef, .undef, .undef, .undef, .undef, .undef, .str q0, .undef, .undef, .bool q1, .int .u64 q2, .undef, .undef, .undef, .undef, .undef, .undef, .undef, .undef, .undef, .undef, .undef, .undef, .undef, .undef, .undef, .undef, .undef, .undef, .undef, .undef, .undef, .undef, .undef, .undef, .undef, .undef, .undef, .undef, .undef, .undef, .undef, .undef, .undef, .undef, .undef, .undef, .undef, .undef, .undef, .undef, .undef, .undef, .undef, .undef, .undef, .undef, .undef, .undef, .undef, .undef, .undef, .undef, .undef, .undef, .undef, .undef, .undef, .undef, .undef, .undef, .undef, .undef, .undef, .undef, .undef, .undef, .undef, .undef, .undef, .undef, .undef, .undef, .undef, .undef, .undef, .undef, .undef, .undef, .undef, .undef, .undef, .undef, .undef, .undef, .undef, .undef, .undef, .undef, .undef, .undef, .undef, .undef, .undef, .undef, .undef, .undef, .undef, .undef, .undef, .undef, .undef, .undef, .undef, .undef, .undef, .undef, .undef, .undef, .undef, .undef, .undef, .undef, .undef, .undef, .undef, .undef, .undef, .undef, .undef, .undef, .undef, .undef, .undef, .undef, .undef, .undef, .undef, .undef, .undef, .undef, .undef, .undef, .undef, .undef, .undef, .undef, .undef, .undef, .undef, .undef, .undef, .undef, .undef, .undef, .undef, .undef, .undef, .undef, .undef, .undef, .undef, .undef, .undef, .undef, .undef, .undef, .undef, .undef], []⟩
noncomputable def ko {R:Type} (K:Ex→St→Option R) (q0:Int) (q1:aj) (q2:Bool) (q3:Int):Option R:=K (.ret) ⟨[.undef, .undef, .undef, .undef, .undef, .undef, .int .u64 q0, .FA 184 .i64 2, .undef, .str q1, .undef, .undef, .bool q2, .int .u64 q3, .undef, .undef, .undef, .undef, .undef, .undef, .undef, .undef, .undef, .undef, .undef, .undef, .undef, .undef, .undef, .undef, .undef, .undef, .undef, .undef, .undef, .undef, .undef, .undef, .undef, .undef, .undef, .undef, .undef, .undef, .undef, .undef, .undef, .undef, .undef, .undef, .undef, .undef, .undef, .undef, .undef, .undef, .undef, .undef, .undef, .undef, .undef, .undef, .undef, .undef, .undef, .undef, .undef, .undef, .undef, .undef, .undef, .undef, .undef, .undef, .undef, .undef, .undef, .undef, .undef, .undef, .undef, .undef, .undef, .undef, .undef, .undef, .undef, .undef, .undef, .undef, .undef, .undef, .undef, .undef, .undef, .undef, .undef, .undef, .undef, .undef, .undef, .undef, .undef, .undef, .undef, .undef, .undef, .undef, .undef, .undef, .undef, .undef, .undef, .undef, .undef, .undef, .undef, .undef, .undef, .undef, .undef, .undef, .undef, .undef, .undef, .undef, .undef, .undef, .undef, .undef, .undef, .undef, .undef, .undef, .undef, .undef, .undef, .undef, .undef, .undef, .undef, .undef, .undef, .undef, .undef, .undef, .undef, .undef, .undef, .undef, .undef, .undef, .undef, .undef, .undef, .undef, .undef, .undef, .undef, .undef, .undef, .undef, .undef, .undef, .undef, .undef, .undef, .undef, .undef, .undef, .undef, .undef], []⟩
noncomputable def kq {R:Type} (K:Ex→St→Option R) (q0:Int) (q1:aj) (q2:Bool) (q3:Int):Option R:=K (.ret) ⟨[.undef, .undef, .undef, .undef, .undef, .undef, .int .u64 q0, .FA 184 .i64 1, .undef, .str q1, .undef, .undef, .bool q2, .int .u64 q3, .undef, .undef, .undef, .undef, .undef, .undef, .undef, .undef, .undef, .undef, .undef, .undef, .undef, .undef, .undef, .undef, .undef, .undef, .undef, .undef, .undef, .undef, .undef, .undef, .undef, .undef, .undef, .undef, .undef, .undef, .undef, .undef, .undef, .undef, .undef, .undef, .undef, .undef, .undef, .undef, .undef, .undef, .undef, .undef, .undef, .undef, .undef, .undef, .undef, .undef, .undef, .undef, .undef, .undef, .undef, .undef, .undef, .undef, .undef, .undef, .undef, .undef, .undef, .undef, .undef, .undef, .undef, .undef, .undef, .undef, .undef, .undef, .undef, .undef, .undef, .undef, .undef, .undef, .undef, .undef, .undef, .undef, .undef, .undef, .undef, .undef, .undef, .undef, .undef, .undef, .undef, .undef, .undef, .undef, .undef, .undef, .undef, .undef, .undef, .undef, .undef, .undef, .undef, .undef, .undef, .undef, .undef, .undef, .undef, .undef, .undef, .undef, .undef, .undef, .undef, .undef, .undef, .undef, .undef, .undef, .undef, .undef, .undef, .undef, .undef, .undef, .undef, .undef, .undef, .undef, .undef, .undef, .undef, .undef, .undef, .undef, .undef, .undef, .undef, .undef, .undef, .undef, .undef, .undef, .undef, .undef, .undef, .undef, .undef, .undef, .undef, .undef, .undef, .undef, .undef, .undef, .undef, .undef], []⟩
noncomputable def kr {R:Type} (K:Ex→St→Option R) (q0:Int) (q1:aj) (q2:Bool):Option R:=K (.ret) ⟨[.undef, .undef, .undef, .undef, .undef, .undef, .int .u64 q0, .FA 184 .i64 1, .undef, .str q1, .undef, .undef, .bool q2, .undef, .undef, .undef, .undef, .undef, .undef, .undef, .undef, .undef, .undef, .undef, .undef, .undef, .undef, .undef, .undef, .undef, .undef, .undef, .undef, .undef, .undef, .undef, .undef, .undef, .undef, .undef, .undef, .undef, .undef, .undef, .undef, .undef, .undef, .undef, .undef, .undef, .undef, .undef, .undef, .undef, .undef, .undef, .undef, .undef, .undef, .undef, .undef, .undef, .undef, .undef, .undef, .undef, .undef, .undef, .undef, .undef, .undef, .undef, .undef, .undef, .undef, .undef, .undef, .undef, .undef, .undef, .undef, .undef, .undef, .undef, .undef, .undef, .undef, .undef, .undef, .undef, .undef, .undef, .undef, .undef, .undef, .undef, .undef, .undef, .undef, .undef, .undef, .undef, .undef, .undef, .undef, .undef, .undef, .undef, .undef, .undef, .undef, .undef, .undef, .undef, .undef, .undef, .undef, .undef, .undef, .undef, .undef, .undef, .undef, .undef, .undef, .undef, .undef, .undef, .undef, .undef, .undef, .undef, .undef, .undef, .undef, .undef, .undef, .undef, .undef, .undef, .undef, .undef, .undef, .undef, .undef, .undef, .undef, .undef, .undef, .undef, .undef, .undef, .undef, .undef, .undef, .undef, .undef, .undef, .undef, .undef, .undef, .undef, .undef, .undef, .undef, .undef, .undef, .undef, .undef, .undef, .undef, .undef], []⟩
noncomputable def lk {R:Type} (internal_strconv_lower:ct R) (K:Ex→St→Option R) (rc:dj→Option R) (d:dj):Option R:=dJ internal_strconv_lower (fun z0 z1 z2 z3 z4 z5 z6 z7 z8 z9 QL=>rc (z0,z1,z2,z3,z4,z5,z6,z7,z8,z9,QL)) d.1 d.2.1 d.2.2.1 d.2.2.2.1 d.2.2.2.2.1 d.2.2.2.2.2.1 d.2.2.2.2.2.2.1 d.2.2.2.2.2.2.2.1 d.2.2.2.2.2.2.2.2.1 d.2.2.2.2.2.2.2.2.2.1 d.2.2.2.2.2.2.2.2.2.2 (kn K) (ko K) (kq K) (kr K)
noncomputable def eB {R:Type} (K:Ex→St→Option R) (n:Nat) (d:dj):Option R:=aI n d.1 d.2.1 d.2.2.1 d.2.2.2.1 d.2.2.2.2.1 d.2.2.2.2.2.1 d.2.2.2.2.2.2.1 d.2.2.2.2.2.2.2.1 d.2.2.2.2.2.2.2.2.1 d.2.2.2.2.2.2.2.2.2.1 d.2.2.2.2.2.2.2.2.2.2 (kn K) (ko K) (kq K) (kr K)
abbrev dk:List bN := [.leaf (.undef), .leaf (.int .i64), .leaf (.undef), .leaf (.undef), .leaf (.undef), .leaf (.undef), .leaf (.undef), .leaf (.undef), .leaf (.bool), .leaf (.str), .leaf (.int .u64), .leaf (.int .u64), .leaf (.bool), .leaf (.int .u64), .leaf (.undef), .leaf (.undef), .leaf (.undef), .leaf (.undef), .leaf (.undef), .leaf (.undef), .leaf (.undef), .leaf (.undef), .leaf (.undef), .leaf (.undef), .leaf (.undef), .leaf (.undef), .leaf (.undef), .leaf (.undef), .leaf (.undef), .leaf (.undef), .leaf (.undef), .leaf (.undef), .leaf (.undef), .leaf (.undef), .leaf (.undef), .leaf (.undef), .leaf (.undef), .leaf (.undef), .leaf (.undef), .leaf (.undef), .leaf (.undef), .leaf (.undef), .leaf (.undef), .leaf (.undef), .leaf (.undef), .leaf (.undef), .leaf (.undef), .leaf (.undef), .leaf (.undef), .leaf (.undef), .leaf (.undef), .leaf (.undef), .leaf (.undef), .leaf (.undef), .leaf (.undef), .leaf (.undef), .leaf (.undef), .leaf (.undef), .leaf (.undef), .leaf (.undef), .leaf (.undef), .leaf (.undef), .leaf (.undef), .leaf (.undef), .leaf (.undef), .leaf (.undef), .leaf (.undef), .leaf (.undef), .leaf (.undef), .leaf (.undef), .leaf (.undef), .leaf (.undef), .leaf (.undef), .leaf (.undef), .leaf (.undef), .leaf (.undef), .leaf (.undef), .leaf (.undef), .leaf (.undef), .leaf (.undef), .leaf (.undef), .leaf (.undef), .leaf (.undef), .leaf (.undef), .leaf (.undef), .leaf (.undef), .leaf (.undef), .leaf (.undef), .leaf (.undef), .leaf (.undef), .leaf (.undef), .leaf (.undef), .leaf (.undef), .leaf (.undef), .leaf (.undef), .leaf (.undef), .leaf (.undef), .leaf (.undef), .leaf (.undef), .leaf (.row 0), .leaf (.int .i64), .leaf (.int .i64), .leaf (.undef), .leaf (.undef), .leaf (.undef), .leaf (.undef), .leaf (.undef), .leaf (.undef), .leaf (.undef), .leaf (.undef), .leaf (.undef), .leaf (.undef), .leaf (.undef), .leaf (.undef), .leaf (.undef), .leaf (.undef), .leaf (.undef), .leaf (.undef), .leaf (.undef), .leaf (.undef), .leaf (.undef), .leaf (.undef), .leaf (.undef), .leaf (.undef), .leaf (.undef), .leaf (.undef), .leaf (.undef), .leaf (.undef), .leaf (.undef), .leaf (.undef), .leaf (.undef), .leaf (.undef), .leaf (.undef), .leaf (.undef), .leaf (.undef), .leaf (.undef), .leaf (.undef), .leaf (.undef), .leaf (.undef), .leaf (.undef), .leaf (.undef), .leaf (.undef), .leaf (.undef), .leaf (.undef), .leaf (.undef), .leaf (.undef), .leaf (.undef), .leaf (.undef), .leaf (.undef), .leaf (.undef), .leaf (.undef), .leaf (.undef), .leaf (.undef), .leaf (.undef), .leaf (.undef), .leaf (.undef), .leaf (.undef), .leaf (.undef), .leaf (.undef), .leaf (.undef), .leaf (.undef), .leaf (.undef), .leaf (.undef), .leaf (.undef), .leaf (.undef), .leaf (.undef), .leaf (.undef), .leaf (.undef), .leaf (.undef), .leaf (.undef), .leaf (.undef), .leaf (.undef)]
abbrev dm:List aH := [.row (.int .u8)]
noncomputable def ll (x:bN.av dk) (y:aH.av dm):Nat:=(Int.natAbs x.2.1+List.length x.2.2.2.2.2.2.2.2.2.1+Int.natAbs x.2.2.2.2.2.2.2.2.2.2.1+Int.natAbs x.2.2.2.2.2.2.2.2.2.2.2.1+Int.natAbs x.2.2.2.2.2.2.2.2.2.2.2.2.2.1+Int.natAbs x.2.2.2.2.2.2.2.2.2.2.2.2.2.2.2.2.2.2.2.2.2.2.2.2.2.2.2.2.2.2.2.2.2.2.2.2.2.2.2.2.2.2.2.2.2.2.2.2.2.2.2.2.2.2.2.2.2.2.2.2.2.2.2.2.2.2.2.2.2.2.2.2.2.2.2.2.2.2.2.2.2.2.2.2.2.2.2.2.2.2.2.2.2.2.2.2.2.2.2.2.1+Int.natAbs x.2.2.2.2.2.2.2.2.2.2.2.2.2.2.2.2.2.2.2.2.2.2.2.2.2.2.2.2.2.2.2.2.2.2.2.2.2.2.2.2.2.2.2.2.2.2.2.2.2.2.2.2.2.2.2.2.2.2.2.2.2.2.2.2.2.2.2.2.2.2.2.2.2.2.2.2.2.2.2.2.2.2.2.2.2.2.2.2.2.2.2.2.2.2.2.2.2.2.2.2.2.1+List.length y.1+64)
noncomputable def ln (x:bN.av dk) (y:aH.av dm):dj:=(x.2.1,x.2.2.2.2.2.2.2.2.1,x.2.2.2.2.2.2.2.2.2.1,x.2.2.2.2.2.2.2.2.2.2.1,x.2.2.2.2.2.2.2.2.2.2.2.1,x.2.2.2.2.2.2.2.2.2.2.2.2.1,x.2.2.2.2.2.2.2.2.2.2.2.2.2.1,x.2.2.2.2.2.2.2.2.2.2.2.2.2.2.2.2.2.2.2.2.2.2.2.2.2.2.2.2.2.2.2.2.2.2.2.2.2.2.2.2.2.2.2.2.2.2.2.2.2.2.2.2.2.2.2.2.2.2.2.2.2.2.2.2.2.2.2.2.2.2.2.2.2.2.2.2.2.2.2.2.2.2.2.2.2.2.2.2.2.2.2.2.2.2.2.2.2.2.2.1,x.2.2.2.2.2.2.2.2.2.2.2.2.2.2.2.2.2.2.2.2.2.2.2.2.2.2.2.2.2.2.2.2.2.2.2.2.2.2.2.2.2.2.2.2.2.2.2.2.2.2.2.2.2.2.2.2.2.2.2.2.2.2.2.2.2.2.2.2.2.2.2.2.2.2.2.2.2.2.2.2.2.2.2.2.2.2.2.2.2.2.2.2.2.2.2.2.2.2.2.2.1,x.2.2.2.2.2.2.2.2.2.2.2.2.2.2.2.2.2.2.2.2.2.2.2.2.2.2.2.2.2.2.2.2.2.2.2.2.2.2.2.2.2.2.2.2.2.2.2.2.2.2.2.2.2.2.2.2.2.2.2.2.2.2.2.2.2.2.2.2.2.2.2.2.2.2.2.2.2.2.2.2.2.2.2.2.2.2.2.2.2.2.2.2.2.2.2.2.2.2.2.2.2.1,y.1)
noncomputable def ku {R:Type} (L:er R):bN.av dk→aH.av dm→(Ex→St→Option R)→Option R:=fun x y K=>L (ll x y) x.2.1 x.2.2.2.2.2.2.2.2.1 x.2.2.2.2.2.2.2.2.2.1 x.2.2.2.2.2.2.2.2.2.2.1 x.2.2.2.2.2.2.2.2.2.2.2.1 x.2.2.2.2.2.2.2.2.2.2.2.2.1 x.2.2.2.2.2.2.2.2.2.2.2.2.2.1 x.2.2.2.2.2.2.2.2.2.2.2.2.2.2.2.2.2.2.2.2.2.2.2.2.2.2.2.2.2.2.2.2.2.2.2.2.2.2.2.2.2.2.2.2.2.2.2.2.2.2.2.2.2.2.2.2.2.2.2.2.2.2.2.2.2.2.2.2.2.2.2.2.2.2.2.2.2.2.2.2.2.2.2.2.2.2.2.2.2.2.2.2.2.2.2.2.2.2.2.1 x.2.2.2.2.2.2.2.2.2.2.2.2.2.2.2.2.2.2.2.2.2.2.2.2.2.2.2.2.2.2.2.2.2.2.2.2.2.2.2.2.2.2.2.2.2.2.2.2.2.2.2.2.2.2.2.2.2.2.2.2.2.2.2.2.2.2.2.2.2.2.2.2.2.2.2.2.2.2.2.2.2.2.2.2.2.2.2.2.2.2.2.2.2.2.2.2.2.2.2.2.1 x.2.2.2.2.2.2.2.2.2.2.2.2.2.2.2.2.2.2.2.2.2.2.2.2.2.2.2.2.2.2.2.2.2.2.2.2.2.2.2.2.2.2.2.2.2.2.2.2.2.2.2.2.2.2.2.2.2.2.2.2.2.2.2.2.2.2.2.2.2.2.2.2.2.2.2.2.2.2.2.2.2.2.2.2.2.2.2.2.2.2.2.2.2.2.2.2.2.2.2.2.2.1 y.1 (kn K) (ko K) (kq K) (kr K)
noncomputable def gV (R:Type) (aI:er R):Nat→Option (Hint × cr R):=fun i=>match i with
  | 36=>some (hG,(gu dk dm (ku aI) qv))
  | _=>none

theorem uI {R:Type} (internal_strconv_lower:ct R) (bp:eI R) (aI:er R) (K:Ex→St→Option R) (rc:St→Option R) (d:dj):roundOf tt (eO R internal_strconv_lower bp) (gV R aI) 0 ((aP (aK Tryz.f169)).getD 0 .skip) hG (gK d) rc K=lk internal_strconv_lower K (fun d=>rc (gK d)) d:=by kernel_rfl
theorem tw {R:Type} (K:Ex→St→Option R) (n:Nat) (d:dj):eB K (n+1) d=lk internal_strconv_lower K (eB K n) d:=by kernel_rfl
theorem tz {R:Type} (K:Ex→St→Option R) (d:dj):eB K 0 d=none:=by kernel_rfl
theorem uJ (x:bN.av dk) (y:aH.av dm):(⟨bN.cV dk x,aH.cV dm y⟩:St)=gK (ln x y):=by kernel_rfl
theorem uK {R:Type} (x:bN.av dk) (y:aH.av dm) (K:Ex→St→Option R):ku (aI) x y K=eB K (ll x y) (ln x y):=by kernel_rfl
theorem wj {R:Type} (other:cr R) (ho:o3 tt (eO R internal_strconv_lower bp) (gV R aI) 0 ((aP (aK Tryz.f169)).getD 0 .skip) hG other):o3 tt (eO R internal_strconv_lower bp) (gV R aI) 0 ((aP (aK Tryz.f169)).getD 0 .skip) hG (gu dk dm (ku (aI)) other) :=
  gN (A:=eB) ho (kB gK (lk internal_strconv_lower) (eB) (tz) (uI internal_strconv_lower bp aI) (tw)) ll ln uJ (uK)

noncomputable def kl {R:Type} (internal_strconv_lower:ct R) (bp:eI R) (aI:er R) (x1:aj) (x2:Int) (x3:Int) (k0:Int→Option R) (k1:Int→Option R) (k2:Int→Option R) (k3:Int→Option R) (k4:Int→Option R):Option R :=
  bif (x1==([]:aj))then (k0 0)else (let j63:=fun (z15:aj) (z16:Int)=>let j62:=fun (z18:Int)=>let j61:=fun (Q4:Int)=>cU (decide ((0:Int)≤(IntKind.u64.wrap z18))) (aI (Int.natAbs z16+List.length x1+Int.natAbs Q4+Int.natAbs (IntKind.u64.wrap ((IntKind.u64.wrap (1*2 ^ (min ((IntKind.u64.wrap z18).toNat) IntKind.u64.bits))) - 1))+Int.natAbs 0+Int.natAbs (z15.length:Int)+Int.natAbs 0+List.length (oP z15)+64) z16 (x2==0) x1 Q4 (IntKind.u64.wrap ((IntKind.u64.wrap (1*2 ^ (min ((IntKind.u64.wrap z18).toNat) IntKind.u64.bits))) - 1)) false 0 z15.length (z15.length:Int) 0 (oP z15) (fun XX Xd OJ=>bif Xd then (bp XX (fun Uo=>bif (!Uo)then (k0 0)else (k4 OJ)))else (k4 OJ)) (fun X0 Z1 Z2 Z3=>k0 X0) (fun X1 Z4 Z5 y55=>k3 X1) (fun Xe Xf Xg=>k3 Xe)); bif (z16==10)then (j61 1844674407370955162)else (bif (z16==16)then (j61 1152921504606846976)else (cU (!decide ((IntKind.u64.wrap z16)=0)) (j61 (IntKind.u64.wrap ((IntKind.u64.wrap (Int.tdiv 18446744073709551615 (IntKind.u64.wrap z16)))+1))))); bif (x3==0)then (j62 64)else (bif (decide (x3<(0:Int)))then (k2 0)else (bif (decide (x3>(64:Int)))then (k2 0)else (j62 x3))); let j14:=fun (z4:Bool)=>bif z4 then (j63 x1 x2)else (bif (x2==0)then (cU (decide ((0:Int)<x1.length)) (bif (((x1.getD 0 0).toNat:Int)==48)then (let j13:=fun (z6:Bool)=>bif z6 then (cU (decide ((0:Int)≤(x1.length:Int))&&decide ((x1.length:Int)≤x1.length)) (cU (decide ((2:Int)≤(x1.length:Int))) (j63 ((x1.drop 2).take ((x1.length:Int).toNat - 2)) 2)))else (let j12:=fun (z8:Bool)=>bif z8 then (cU (decide ((0:Int)≤(x1.length:Int))&&decide ((x1.length:Int)≤x1.length)) (cU (decide ((2:Int)≤(x1.length:Int))) (j63 ((x1.drop 2).take ((x1.length:Int).toNat - 2)) 8)))else (let j11:=fun (QL:Bool)=>bif QL then (cU (decide ((0:Int)≤(x1.length:Int))&&decide ((x1.length:Int)≤x1.length)) (cU (decide ((2:Int)≤(x1.length:Int))) (j63 ((x1.drop 2).take ((x1.length:Int).toNat - 2)) 16)))else (cU (decide ((0:Int)≤(x1.length:Int))&&decide ((x1.length:Int)≤x1.length)) (cU (decide ((1:Int)≤(x1.length:Int))) (j63 ((x1.drop 1).take ((x1.length:Int).toNat - 1)) 8))); bif (decide ((x1.length:Int)≥(3:Int)))then (cU (decide ((1:Int)<x1.length)) (internal_strconv_lower ((x1.getD 1 0).toNat:Int) (fun y9=>j11 (y9==120))))else (j11 false)); bif (decide ((x1.length:Int)≥(3:Int)))then (cU (decide ((1:Int)<x1.length)) (internal_strconv_lower ((x1.getD 1 0).toNat:Int) (fun y7=>j12 (y7==111))))else (j12 false)); bif (decide ((x1.length:Int)≥(3:Int)))then (cU (decide ((1:Int)<x1.length)) (internal_strconv_lower ((x1.getD 1 0).toNat:Int) (fun y5=>j13 (y5==98))))else (j13 false))else (j63 x1 10)))else (k1 0)); bif (decide ((2:Int)≤x2))then (j14 (decide (x2≤(36:Int))))else (j14 false))
noncomputable def cA {R:Type}:gL R:=fun x1 x2 x3 k0 k1 k2 k3 k4=>kl internal_strconv_lower bp aI x1 x2 x3 k0 k1 k2 k3 k4
theorem Aa {R:Type} (internal_strconv_lower:ct R) (bp:eI R) (aI:er R) (x1:aj) (x2:Int) (x3:Int) (k:V→az→Option R):iP tt (eO R internal_strconv_lower bp) (gV R aI) false Tryz.f169 (aK Tryz.f169) [.str x1, .int .i64 x2, .int .i64 x3] [] k =
    kl internal_strconv_lower bp aI x1 x2 x3 (fun q0=>k (.tuple [.int .u64 q0, .FA 184 .i64 2]) []) (fun q0=>k (.tuple [.int .u64 q0, .FA 184 .i64 3]) []) (fun q0=>k (.tuple [.int .u64 q0, .FA 184 .i64 4]) []) (fun q0=>k (.tuple [.int .u64 q0, .FA 184 .i64 1]) []) (fun q0=>k (.tuple [.int .u64 q0, .cX]) []):=by kernel_rfl
theorem xI (R:Type):∀a∈aP (aK Tryz.f169),cR tt (eO R internal_strconv_lower bp) (gV R aI) 0 a:=by
  refine bG 1 (by kernel_rfl) fun i hi => ?_
  match i,hi with
  | 0,_=>exact fC (by kernel_rfl) (wj _ jc)
  | n+1,hi=>omega
theorem yi (R:Type) (other:ay.Spec R) (ho:ay.Spec.Ok Tryz.prog 169 other):ay.Spec.Ok Tryz.prog 169 (aA kj kk (qQ cA) other) :=
  bu ho (bj TT mixed (yT R) (keep:=false) rfl rfl rfl rfl 0 (xI R)) fun (x:bN.av kj) (y:aH.av kk) k=>Aa internal_strconv_lower bp aI x.1 x.2.1 x.2.2.1 k

end Go.Proofs.YtmlkkgfenfdndaaGreatDoor

/-
  Functions of the program as pure Lean functions, and the ties; printed by wip/tools/emit.py.
-/
set_option maxRecDepth 100000
namespace Go.Proofs.YtmlkkgfenfdndaaGreatDoor
open Go Go.ay

/-! ### strconv.ParseUint -/
abbrev ni (R:Type):Type:=aj→Int→Int→(Int→Option R)→(Int→Option R)→Option R
abbrev qm:List bN := [.leaf (.str), .leaf (.int .i64), .leaf (.int .i64)]
abbrev qo:List aH := []
noncomputable def Ab {R:Type} (fn:ni R):bN.av qm→aH.av qo→(V→az→Option R)→Option R:=fun x y k=>fn x.1 x.2.1 x.2.2.1 (fun q0=>k (.tuple [.int .u64 q0, .iface]) []) (fun q0=>k (.tuple [.int .u64 q0, .cX]) [])
noncomputable def qp (R:Type) (cA:gL R):Env R:=fun i=>match i with
  | 136=>some (true,(toErr_S R 184))
  | 169=>some (true,(aA kj kk (qQ cA) bg))
  | _=>none
theorem Fp (R:Type):p6 Tryz.prog (qp R cA):=by
  intro i b sp h
  unfold qp at h
  split at h
  · cases h; exact ⟨(toErr_ok),fun h=>nomatch h⟩
  · cases h; exact ⟨(yi R _ (aO _)),fun h=>nomatch h⟩
  · cases h

noncomputable def AY (R:Type):Nat→Option (Hint × cr R):=fun i=>match i with
  | _=>none

noncomputable def qq {R:Type} (cA:gL R) (x1:aj) (x2:Int) (x3:Int) (k0:Int→Option R) (k1:Int→Option R):Option R :=
  cA x1 x2 x3 (fun y4=>cU (Nat.beq 184 184&&(2==2||2==1)) (cU (decide (x1.length≤281474976710656)) (k0 y4))) (fun y5=>cU (Nat.beq 184 184&&(3==2||3==1)) (cU (decide (x1.length≤281474976710656)) (k0 y5))) (fun y6=>cU (Nat.beq 184 184&&(4==2||4==1)) (cU (decide (x1.length≤281474976710656)) (k0 y6))) (fun y7=>cU (Nat.beq 184 184&&(1==2||1==1)) (cU (decide (x1.length≤281474976710656)) (k0 y7))) (fun y8=>k1 y8)
noncomputable def dZ {R:Type}:ni R:=fun x1 x2 x3 k0 k1=>qq cA x1 x2 x3 k0 k1
theorem Gc {R:Type} (cA:gL R) (x1:aj) (x2:Int) (x3:Int) (k:V→az→Option R):iP tt (qp R cA) (AY R) false Tryz.f172 (aK Tryz.f172) [.str x1, .int .i64 x2, .int .i64 x3] [] k =
    qq cA x1 x2 x3 (fun q0=>k (.tuple [.int .u64 q0, .iface]) []) (fun q0=>k (.tuple [.int .u64 q0, .cX]) []):=by kernel_rfl
theorem DV (R:Type):∀a∈aP (aK Tryz.f172),cR tt (qp R cA) (AY R) 0 a:=by
  refine bG 0 (by kernel_rfl) fun i hi => ?_
  omega
theorem EF (R:Type) (other:ay.Spec R) (ho:ay.Spec.Ok Tryz.prog 172 other):ay.Spec.Ok Tryz.prog 172 (aA qm qo (Ab dZ) other) :=
  bu ho (bj TT mixed (Fp R) (keep:=false) rfl rfl rfl rfl 0 (DV R)) fun (x:bN.av qm) (y:aH.av qo) k=>Gc cA x.1 x.2.1 x.2.2.1 k

/-! ### (*humpyard/quote.reader).unit -/
abbrev jD (R:Type):Type:=aj→(Int→aj→Option R)→Option R
abbrev mK:List bN := [.leaf (.ptr 0 0)]
abbrev mL:List aH := [.cells [.str]]
noncomputable def ug {R:Type} (fn:jD R):bN.av mK→aH.av mL→(V→az→Option R)→Option R:=fun x y k=>fn y.1.1 (fun q0 q1=>k (.int .i32 q0) [.cells [.str q1]])
noncomputable def mM (R:Type) (dZ:ni R):Env R:=fun i=>match i with
  | 172=>some (true,(aA qm qo (Ab dZ) bg))
  | 173=>some (true,(MV R))
  | _=>none
theorem B9 (R:Type):p6 Tryz.prog (mM R dZ):=by
  intro i b sp h
  unfold mM at h
  split at h
  · cases h; exact ⟨(EF R _ (aO _)),fun h=>nomatch h⟩
  · cases h; exact ⟨(W7),fun h=>nomatch h⟩
  · cases h

noncomputable def vi (R:Type):Nat→Option (Hint × cr R):=fun i=>match i with
  | _=>none

noncomputable def mN {R:Type} (dZ:ni R) (x1:aj) (k0:Int→aj→Option R):Option R :=
  bif (decide ((x1.length:Int)<(4:Int)))then (k0 (-1) x1)else (cU (decide ((4:Int)≤x1.length)) (dZ ((x1.drop 0).take (4 - 0)) 16 16 (fun y2=>k0 (-1) x1) (fun y3=>cU (uf ((x1.drop 0).take (4 - 0))&&uf ([43,45,95]:aj)&&decide (((x1.drop 0).take (4 - 0)).length<4294967281)&&decide (([43,45,95]:aj).length<4294967281)) (bif (MU ((x1.drop 0).take (4 - 0)) ([43,45,95]:aj))then (k0 (-1) x1)else (cU (decide ((0:Int)≤(x1.length:Int))&&decide ((x1.length:Int)≤x1.length)) (cU (decide ((4:Int)≤(x1.length:Int))) (k0 (IntKind.i32.wrap y3) ((x1.drop 4).take ((x1.length:Int).toNat - 4)))))))))
noncomputable def cH {R:Type}:jD R:=fun x1 k0=>mN dZ x1 k0
theorem CD {R:Type} (dZ:ni R) (x1:aj) (k:V→az→Option R):iP tt (mM R dZ) (vi R) false Tryz.f157 (aK Tryz.f157) [.ptr 0 0] [.cells [.str x1]] k =
    mN dZ x1 (fun q0 q1=>k (.int .i32 q0) [.cells [.str q1]]):=by kernel_rfl
theorem AD (R:Type):∀a∈aP (aK Tryz.f157),cR tt (mM R dZ) (vi R) 1 a:=by
  refine bG 0 (by kernel_rfl) fun i hi => ?_
  omega
theorem Bm (R:Type) (other:ay.Spec R) (ho:ay.Spec.Ok Tryz.prog 157 other):ay.Spec.Ok Tryz.prog 157 (aA mK mL (ug cH) other) :=
  bu ho (bj TT mixed (B9 R) (keep:=false) rfl rfl rfl rfl 1 (AD R)) fun (x:bN.av mK) (y:aH.av mL) k=>CD dZ y.1.1 k

/-! ### (*humpyard/quote.reader).long -/
abbrev jE (R:Type):Type:=aj→(Int→aj→Option R)→Option R
abbrev mO:List bN := [.leaf (.ptr 0 0)]
abbrev mP:List aH := [.cells [.str]]
noncomputable def uh {R:Type} (fn:jE R):bN.av mO→aH.av mP→(V→az→Option R)→Option R:=fun x y k=>fn y.1.1 (fun q0 q1=>k (.int .i32 q0) [.cells [.str q1]])
noncomputable def mQ (R:Type) (aD:dn R) (cH:jD R):Env R:=fun i=>match i with
  | 107=>some (false,(aA j4 j7 (oQ aD) bg))
  | 157=>some (false,(aA mK mL (ug cH) bg))
  | _=>none
theorem Ca (R:Type):p6 Tryz.prog (mQ R aD cH):=by
  intro i b sp h
  unfold mQ at h
  split at h
  · cases h; exact ⟨(sI R _ (aO _)),fun _ h=>nomatch h⟩
  · cases h; exact ⟨(Bm R _ (aO _)),fun _ h=>nomatch h⟩
  · cases h

noncomputable def vj (R:Type):Nat→Option (Hint × cr R):=fun i=>match i with
  | _=>none

noncomputable def mR {R:Type} (aD:dn R) (cH:jD R) (x1:aj) (k0:Int→aj→Option R):Option R :=
  cH x1 (fun y2 y3=>bif (decide (y2<(55296:Int)))then (k0 y2 y3)else (bif (decide (y2≥(57344:Int)))then (k0 y2 y3)else (bif (decide (y2≥(56320:Int)))then (k0 (-1) y3)else (aD ([92,117]:aj) y3 (fun y5 y6=>bif (!y5)then (k0 (-1) y6)else (cH y6 (fun y9 yJ=>bif (decide (y9<(56320:Int)))then (k0 (-1) yJ)else (bif (decide (y9≥(57344:Int)))then (k0 (-1) yJ)else (k0 (IntKind.i32.wrap ((IntKind.i32.wrap ((IntKind.i32.wrap (65536+(IntKind.i32.wrap ((IntKind.i32.wrap (y2 - 55296))*2 ^ (min 10 IntKind.i32.bits)))))+y9)) - 56320)) yJ)))))))))
noncomputable def cu {R:Type}:jE R:=fun x1 k0=>mR aD cH x1 k0
theorem CE {R:Type} (aD:dn R) (cH:jD R) (x1:aj) (k:V→az→Option R):iP tt (mQ R aD cH) (vj R) false Tryz.f138 (aK Tryz.f138) [.ptr 0 0] [.cells [.str x1]] k =
    mR aD cH x1 (fun q0 q1=>k (.int .i32 q0) [.cells [.str q1]]):=by kernel_rfl
theorem AE (R:Type):∀a∈aP (aK Tryz.f138),cR tt (mQ R aD cH) (vj R) 1 a:=by
  refine bG 0 (by kernel_rfl) fun i hi => ?_
  omega
theorem Bn (R:Type) (other:ay.Spec R) (ho:ay.Spec.Ok Tryz.prog 138 other):ay.Spec.Ok Tryz.prog 138 (aA mO mP (uh cu) other) :=
  bu ho (bj TT mixed (Ca R) (keep:=false) rfl rfl rfl rfl 1 (AE R)) fun (x:bN.av mO) (y:aH.av mP) k=>CE aD cH y.1.1 k

/-! ### (*humpyard/quote.reader).escaped -/
abbrev eP (R:Type):Type:=aj→(Int→aj→Option R)→Option R
abbrev kY:List bN := [.leaf (.ptr 0 0)]
abbrev kZ:List aH := [.cells [.str]]
noncomputable def rZ {R:Type} (fn:eP R):bN.av kY→aH.av kZ→(V→az→Option R)→Option R:=fun x y k=>fn y.1.1 (fun q0 q1=>k (.int .i32 q0) [.cells [.str q1]])
noncomputable def k6 (R:Type) (cu:jE R):Env R:=fun i=>match i with
  | 138=>some (false,(aA mO mP (uh cu) bg))
  | _=>none
theorem Ac (R:Type):p6 Tryz.prog (k6 R cu):=by
  intro i b sp h
  unfold k6 at h
  split at h
  · cases h; exact ⟨(Bn R _ (aO _)),fun _ h=>nomatch h⟩
  · cases h

noncomputable def sK (R:Type):Nat→Option (Hint × cr R):=fun i=>match i with
  | _=>none

noncomputable def k7 {R:Type} (cu:jE R) (x1:aj) (k0:Int→aj→Option R):Option R :=
  bif (x1==([]:aj))then (k0 (-1) x1)else (cU (decide ((0:Int)<x1.length)) (cU (decide ((0:Int)≤(x1.length:Int))&&decide ((x1.length:Int)≤x1.length)) (cU (decide ((1:Int)≤(x1.length:Int))) (let j5:=fun (z2:Bool)=>bif z2 then (k0 (IntKind.i32.wrap ((x1.getD 0 0).toNat:Int)) ((x1.drop 1).take ((x1.length:Int).toNat - 1)))else (bif (((x1.getD 0 0).toNat:Int)==98)then (k0 8 ((x1.drop 1).take ((x1.length:Int).toNat - 1)))else (bif (((x1.getD 0 0).toNat:Int)==102)then (k0 12 ((x1.drop 1).take ((x1.length:Int).toNat - 1)))else (bif (((x1.getD 0 0).toNat:Int)==110)then (k0 10 ((x1.drop 1).take ((x1.length:Int).toNat - 1)))else (bif (((x1.getD 0 0).toNat:Int)==114)then (k0 13 ((x1.drop 1).take ((x1.length:Int).toNat - 1)))else (bif (((x1.getD 0 0).toNat:Int)==116)then (k0 9 ((x1.drop 1).take ((x1.length:Int).toNat - 1)))else (bif (((x1.getD 0 0).toNat:Int)==117)then (cu ((x1.drop 1).take ((x1.length:Int).toNat - 1)) (fun y3 y4=>k0 y3 y4))else (k0 (-1) ((x1.drop 1).take ((x1.length:Int).toNat - 1))))))))); bif (((x1.getD 0 0).toNat:Int)==34)then (j5 (((x1.getD 0 0).toNat:Int)==34))else (bif (((x1.getD 0 0).toNat:Int)==92)then (j5 (((x1.getD 0 0).toNat:Int)==92))else (j5 (((x1.getD 0 0).toNat:Int)==47)))))))
noncomputable def aZ {R:Type}:eP R:=fun x1 k0=>k7 cu x1 k0
theorem AF {R:Type} (cu:jE R) (x1:aj) (k:V→az→Option R):iP tt (k6 R cu) (sK R) false Tryz.f109 (aK Tryz.f109) [.ptr 0 0] [.cells [.str x1]] k =
    k7 cu x1 (fun q0 q1=>k (.int .i32 q0) [.cells [.str q1]]):=by kernel_rfl
theorem yj (R:Type):∀a∈aP (aK Tryz.f109),cR tt (k6 R cu) (sK R) 1 a:=by
  refine bG 0 (by kernel_rfl) fun i hi => ?_
  omega
theorem yU (R:Type) (other:ay.Spec R) (ho:ay.Spec.Ok Tryz.prog 109 other):ay.Spec.Ok Tryz.prog 109 (aA kY kZ (rZ aZ) other) :=
  bu ho (bj TT mixed (Ac R) (keep:=false) rfl rfl rfl rfl 1 (yj R)) fun (x:bN.av kY) (y:aH.av kZ) k=>AF cu y.1.1 k

/-! ### (*humpyard/quote.reader).plain -/
abbrev fj (R:Type):Type:=aj→(Int→aj→Option R)→Option R
abbrev mo:List bN := [.leaf (.ptr 0 0)]
abbrev mq:List aH := [.cells [.str]]
noncomputable def tA {R:Type} (fn:fj R):bN.av mo→aH.av mq→(V→az→Option R)→Option R:=fun x y k=>fn y.1.1 (fun q0 q1=>k (.int .i32 q0) [.cells [.str q1]])
noncomputable def mr (R:Type):Env R:=fun i=>match i with
  | 130=>some (true,(ZH R))
  | _=>none
theorem Bo (R:Type):p6 Tryz.prog (mr R):=by
  intro i b sp h
  unfold mr at h
  split at h
  · cases h; exact ⟨(dec_ok),fun h=>nomatch h⟩
  · cases h

noncomputable def ui (R:Type):Nat→Option (Hint × cr R):=fun i=>match i with
  | _=>none

noncomputable def mu {R:Type} (x1:aj) (k0:Int→aj→Option R):Option R :=
  let j3:=cU (decide ((0:Int)≤(x1.length:Int))&&decide ((x1.length:Int)≤x1.length)) (cU (decide ((0:Int)≤((oD x1).2:Int))&&decide (((oD x1).2:Int)≤(x1.length:Int))) (k0 ((oD x1).1:Int) ((x1.drop ((oD x1).2:Int).toNat).take ((x1.length:Int).toNat - ((oD x1).2:Int).toNat)))); bif (((oD x1).1:Int)==65533)then (bif (decide (((oD x1).2:Int)<(2:Int)))then (k0 (-1) x1)else (bif (decide (((oD x1).1:Int)<(32:Int)))then (k0 (-1) x1)else (j3)))else (bif (decide (((oD x1).1:Int)<(32:Int)))then (k0 (-1) x1)else (j3))
noncomputable def bt {R:Type}:fj R:=fun x1 k0=>mu x1 k0
theorem Cb {R:Type} (x1:aj) (k:V→az→Option R):iP tt (mr R) (ui R) false Tryz.f108 (aK Tryz.f108) [.ptr 0 0] [.cells [.str x1]] k =
    mu x1 (fun q0 q1=>k (.int .i32 q0) [.cells [.str q1]]):=by kernel_rfl
theorem Ad (R:Type):∀a∈aP (aK Tryz.f108),cR tt (mr R) (ui R) 1 a:=by
  refine bG 0 (by kernel_rfl) fun i hi => ?_
  omega
theorem AG (R:Type) (other:ay.Spec R) (ho:ay.Spec.Ok Tryz.prog 108 other):ay.Spec.Ok Tryz.prog 108 (aA mo mq (tA bt) other) :=
  bu ho (bj TT mixed (Bo R) (keep:=false) rfl rfl rfl rfl 1 (Ad R)) fun (x:bN.av mo) (y:aH.av mq) k=>Cb y.1.1 k

end Go.Proofs.YtmlkkgfenfdndaaGreatDoor

set_option maxRecDepth 100000
namespace Go.Proofs.YtmlkkgfenfdndaaGreatDoor
open Go Go.ay Go.Lib

theorem Vx {p q:Prop} [Decidable p] [Decidable q] (hp:p) (hq:q):(decide p&&decide q)=true:=by rw[bq hp,bq hq]; rfl

theorem Nj:∀(p s:aj),(s.take p.length==p)=p.isPrefixOf s
  | [],s=>by simp
  | a::p, []=>by simp
  | a::p,b::s=>by
    have:=Nj p s
    simp only[List.length_cons,List.take_succ_cons,List.isPrefixOf]
    rw[List.cons_beq_cons,this]
    congr 1
    exact Bool.beq_comm

theorem LL {R:Type} (p s:aj) (hp:p.length≤1000) (hs:s.length≤9000000000000000000) (k:Bool→aj→Option R) :
    aD p s k=if p.isPrefixOf s then k true (s.drop p.length)else k false s:=by
  have e1:∀f:aj→Bool→Option R,dY s p f=bO s p f:=fun _=>rfl
  show dY s p (fun y3 y4=>k y4 y3)=_
  rw[e1]
  show iB bH s p (fun y3 y4=>k y4 y3)=_
  unfold iB
  have e2:∀f:Bool→Option R,bH s p f=f (p.isPrefixOf s):=by
    intro f
    show iv s p f=_
    unfold iv
    by_cases h:p.length≤s.length
    · rw[bq (show (s.length:Int)≥(p.length:Int) by omega),cond_true,aS (by rw[bq (show (0:Int)≤(p.length:Int) by omega)]; rfl),aS (bq (by omega))]
      rw[List.drop_zero,Int.toNat_natCast,Nat.sub_zero,Nj]
    · rw[dd (show ¬(s.length:Int)≥(p.length:Int) by omega),cond_false]
      congr 1
      rw[←Nj]
      symm
      rw[beq_eq_false_iff_ne]
      intro e
      have:=congrArg List.length e
      rw[List.length_take]at this
      omega
  rw[e2]
  cases hp2:p.isPrefixOf s with
  | false=>simp
  | true =>
    have hle:p.length≤s.length:=(List.IsPrefix.length_le (List.isPrefixOf_iff_prefix.1 hp2))
    rw[Bool.not_true,cond_false,aS (Vx (by omega) (by omega)),aS (Vx (by omega) (by omega))]
    simp only[Int.toNat_natCast,if_true]
    rw[List.take_of_length_le (by rw[List.length_drop]; exact Nat.le_refl _)]

theorem Up {s:aj} (h:s ≠ []):oD s=decodeL s:=by
  unfold oD
  have:s.isEmpty=false:=by cases s with|nil=>exact (h rfl).elim|cons _ _=>rfl
  rw[this]
  rfl

def EG (s:aj):Option (Nat × aj) :=
  if s = []then none else if (decodeL s).1=65533∧(decodeL s).2=1 then none else if (decodeL s).1<32 then none else some ((decodeL s).1,s.drop (decodeL s).2)

theorem Z6 {R:Type} (s:aj) (hs:s.length≤9000000000000000000) (k:Int→aj→Option R) :
    bt s k=match EG s with|some (c,r)=>k (c:Int) r|none=>k (-1) s:=by
  show mu s k=_
  unfold mu
  by_cases h0:s = []
  · subst h0; rfl
  rw[Up h0]
  have hw:=decodeL_width s
  have hle:=decodeL_le s h0
  have hj:(cU (decide ((0:Int)≤(s.length:Int))&&decide ((s.length:Int)≤s.length)) (cU (decide ((0:Int)≤((decodeL s).2:Int))&&decide (((decodeL s).2:Int)≤(s.length:Int))) (k ((decodeL s).1:Int) ((s.drop ((decodeL s).2:Int).toNat).take ((s.length:Int).toNat - ((decodeL s).2:Int).toNat)))))=k ((decodeL s).1:Int) (s.drop (decodeL s).2):=by
    rw[aS (Vx (by omega) (by omega)),aS (Vx (by omega) (by omega)),Int.toNat_natCast,Int.toNat_natCast,List.take_of_length_le (by rw[List.length_drop]; exact Nat.le_refl _)]
  simp only[hj]
  unfold EG
  rw[if_neg h0]
  by_cases h1:(decodeL s).1=65533
  · have e1:(((decodeL s).1:Int)==65533)=true:=by rw[h1]; rfl
    rw[e1,cond_true]
    by_cases h2:(decodeL s).2=1
    · rw[bq (show ((decodeL s).2:Int)<2 by omega),cond_true,if_pos ⟨h1,h2⟩]
    · rw[dd (show ¬((decodeL s).2:Int)<2 by omega),cond_false,dd (show ¬((decodeL s).1:Int)<32 by omega),cond_false,if_neg (fun h=>h2 h.2),if_neg (by omega)]
  · have e1:(((decodeL s).1:Int)==65533)=false:=by rw[beq_eq_false_iff_ne]; omega
    rw[e1,cond_false,if_neg (fun h=>h1 h.1)]
    by_cases h3:(decodeL s).1<32
    · rw[bq (show ((decodeL s).1:Int)<32 by omega),cond_true,if_pos h3]
    · rw[dd (show ¬((decodeL s).1:Int)<32 by omega),cond_false,if_neg h3]

def Lm (b:UInt8):Option Nat :=
  let n:=b.toNat
  if 48≤n∧n≤57 then some (n - 48)else if 65≤n∧n≤70 then some (n - 55)else if 97≤n∧n≤102 then some (n - 87)else none
def Jj:aj→Nat→Option Nat
  | [],v=>some v
  | b::t,v=>match Lm b with|some d=>Jj t (16*v+d)|none=>none

def Ae (b:Int):Int:=IntKind.u8.wrap ((BitVec.ofInt IntKind.u8.bits b ||| BitVec.ofInt IntKind.u8.bits 32).toNat:Int)

def hexB (b:Nat):Bool :=
  (!(decide (48≤b)&&decide (b≤57))||decide (IntKind.u8.wrap ((b:Int) - 48)=((b - 48:Nat):Int))) &&
  (!(decide ((97:Int)≤Ae b)&&decide (Ae b≤122))||(!(decide (48≤b)&&decide (b≤57))&&decide (b≠95)&&decide (IntKind.u8.wrap ((IntKind.u8.wrap (Ae b - 97))+10)=Ae b - 87) &&
    (!decide (Ae b - 87<16)||((decide (65≤b)&&decide (b≤70)&&decide (Ae b - 87=((b - 55:Nat):Int)))||(decide (97≤b)&&decide (b≤102)&&decide (Ae b - 87=((b - 87:Nat):Int))))) &&
    (!decide (16≤Ae b - 87)||(!(decide (65≤b)&&decide (b≤70)) && !(decide (97≤b)&&decide (b≤102)))))) &&
  ((decide ((97:Int)≤Ae b)&&decide (Ae b≤122))||(!(decide (65≤b)&&decide (b≤70)) && !(decide (97≤b)&&decide (b≤102))))
theorem Z7:∀b:Fin 256,hexB b.val=true:=by decide +kernel
theorem Z8 (b:Nat) (hb:b<256) :
    ((48≤b∧b≤57)→IntKind.u8.wrap ((b:Int) - 48)=((b - 48:Nat):Int)) ∧
    ((97:Int)≤Ae b→Ae b≤122→¬(48≤b∧b≤57)∧b≠95∧IntKind.u8.wrap ((IntKind.u8.wrap (Ae b - 97))+10)=Ae b - 87 ∧
      (Ae b - 87<16→((65≤b∧b≤70)∧Ae b - 87=((b - 55:Nat):Int))∨((97≤b∧b≤102)∧Ae b - 87=((b - 87:Nat):Int))) ∧
      (16≤Ae b - 87→¬(65≤b∧b≤70)∧¬(97≤b∧b≤102))) ∧
    (¬((97:Int)≤Ae b∧Ae b≤122)→¬(65≤b∧b≤70)∧¬(97≤b∧b≤102)):=by
  have h:=Z7 ⟨b,hb⟩
  unfold hexB at h
  generalize Ae (b:Int)=l at *
  simp only[Bool.and_eq_true,Bool.or_eq_true,Bool.not_eq_true',Bool.and_eq_false_iff,decide_eq_true_eq,decide_eq_false_iff_not]at h
  obtain ⟨⟨h1,h2⟩,h3⟩:=h
  refine ⟨fun q => ?_,fun q1 q2 => ?_,fun q => ?_⟩
  · rcases h1 with h1|h1
    · omega
    · exact h1
  · rcases h2 with h2|⟨⟨⟨⟨g1,g2⟩,g3⟩,g4⟩,g5⟩
    · omega
    · refine ⟨by omega,g2,g3,fun q => ?_,fun q => ?_⟩
      · rcases g4 with g4|g4
        · omega
        · rcases g4 with ⟨⟨k1,k2⟩,k3⟩|⟨⟨k1,k2⟩,k3⟩
          · exact .inl ⟨⟨k1,k2⟩,k3⟩
          · exact .inr ⟨⟨k1,k2⟩,k3⟩
      · rcases g5 with g5|⟨k1,k2⟩
        · omega
        · exact ⟨by omega,by omega⟩
  · rcases h3 with h3|⟨k1,k2⟩
    · omega
    · exact ⟨by omega,by omega⟩

theorem Vy {b:UInt8} {d:Nat} (h:Lm b=some d):d<16:=by
  unfold Lm at h
  simp only at h
  split at h
  · cases h; omega
  · split at h
    · cases h; omega
    · split at h
      · cases h; omega
      · cases h

theorem u64w {n:Int} (h0:0≤n) (h:n≤18446744073709551615):IntKind.u64.wrap n=n:=by
  simp only[IntKind.wrap,IntKind.bits,IntKind.signed]
  simp
  omega

theorem Uq {R:Type} {s x22:aj} {i v:Nat} (hi:i<s.length) (hs:s.length≤1000) (hv:v<4096) (fy:Int→Bool→aj→Int→Int→Bool→Int→Nat→Int→Int→(List Int)→Option R) (e0:aj→Bool→Int→Option R) (e1 e2:Int→aj→Bool→Int→Option R) (e3:Int→aj→Bool→Option R) :
    dJ internal_strconv_lower fy 16 false x22 1152921504606846976 65535 false (v:Int) s.length (s.length:Int) (i:Int) (oP s) e0 e1 e2 e3 =
      match Lm (s[i])with
      | some d=>fy 16 false x22 1152921504606846976 65535 false ((16*v+d:Nat):Int) s.length (s.length:Int) ((i+1:Nat):Int) (oP s)
      | none=>e1 0 x22 false (v:Int):=by
  unfold dJ
  have Qq:∀(n:Int) (f:Int→Option R),internal_strconv_lower n f=f (Ae n):=fun _ _=>rfl
  have C8:(oP s).getD (i:Int).toNat (Ty.cn (.int .u8))=(s[i].toNat:Int):=by
    rw[Int.toNat_natCast]
    show (s.map fun b=>(b.toNat:Int)).getD i _=_
    simp[List.getD,hi]
    rfl
  rw[bq (show (i:Int)<(s.length:Int) by omega),cond_true,aS (by rw[bq (show (0:Int)≤(i:Int) by omega)]; rfl),
    aS (bq (by rw[Int.toNat_natCast,Kj,HZ]; exact hi))]
  simp only[C8,Qq]
  obtain ⟨f1,f2,f3⟩:=Z8 s[i].toNat (UInt8.toNat_lt _)
  have hb:=UInt8.toNat_lt s[i]
  generalize hbn:s[i].toNat=b at *
  have hw16:IntKind.u8.wrap 16=16:=by decide
  have hw64:IntKind.u64.wrap 16=16:=by decide
  have hi1:IntKind.i64.wrap ((i:Int)+1)=((i+1:Nat):Int):=by rw[dB (by omega) (by omega)]; omega
  -- a digit's value, if it is below 16
  have fit:∀d:Nat,d<16→∀z:Int,z=(d:Int)→(bif (decide (z≥(IntKind.u8.wrap 16)))then (e1 0 x22 false (v:Int))else (bif (decide ((v:Int)≥1152921504606846976))then (e2 65535 x22 false (v:Int))else (bif (decide ((IntKind.u64.wrap ((IntKind.u64.wrap ((v:Int)*(IntKind.u64.wrap 16)))+(IntKind.u64.wrap z)))<(IntKind.u64.wrap ((v:Int)*(IntKind.u64.wrap 16)))))then (e2 65535 x22 false (IntKind.u64.wrap ((v:Int)*(IntKind.u64.wrap 16))))else (bif (decide ((IntKind.u64.wrap ((IntKind.u64.wrap ((v:Int)*(IntKind.u64.wrap 16)))+(IntKind.u64.wrap z)))>65535))then (e2 65535 x22 false (IntKind.u64.wrap ((v:Int)*(IntKind.u64.wrap 16))))else (fy 16 false x22 1152921504606846976 65535 false (IntKind.u64.wrap ((IntKind.u64.wrap ((v:Int)*(IntKind.u64.wrap 16)))+(IntKind.u64.wrap z))) s.length (s.length:Int) (IntKind.i64.wrap ((i:Int)+1)) (oP s)))))) =
      fy 16 false x22 1152921504606846976 65535 false ((16*v+d:Nat):Int) s.length (s.length:Int) ((i+1:Nat):Int) (oP s):=by
    intro d hd z hz
    subst hz
    have k1:IntKind.u64.wrap ((v:Int)*16)=(v:Int)*16:=u64w (by omega) (by omega)
    have k2:IntKind.u64.wrap (d:Int)=d:=u64w (by omega) (by omega)
    have k3:IntKind.u64.wrap ((v:Int)*16+(d:Int))=(v:Int)*16+(d:Int):=u64w (by omega) (by omega)
    rw[hw16,hw64,k1,k2,k3,hi1,dd (show ¬(d:Int)≥16 by omega),cond_false,dd (show ¬(v:Int)≥1152921504606846976 by omega),cond_false,dd (show ¬(v:Int)*16+(d:Int)<(v:Int)*16 by omega),cond_false,
      dd (show ¬(v:Int)*16+(d:Int)>65535 by omega),cond_false]
    have:(v:Int)*16+(d:Int)=((16*v+d:Nat):Int):=by omega
    rw[this]
  rw[cond_false,Bool.cond_self]
  unfold Lm
  simp only[hbn]
  by_cases h1:48≤b∧b≤57
  · rw[bq (show (48:Int)≤(b:Int) by omega),cond_true,bq (show (b:Int)≤57 by omega),cond_true,if_pos h1]
    exact fit (b - 48) (by omega) _ (f1 h1)
  · rw[if_neg h1]
    have X2:∀x z:Option R,(bif (decide ((48:Int)≤(b:Int)))then (bif (decide ((b:Int)≤(57:Int)))then x else z)else z)=z:=by
      intro x z
      by_cases h:(48:Int)≤(b:Int)
      · rw[bq h,cond_true,dd (show ¬(b:Int)≤57 by omega),cond_false]
      · rw[dd h,cond_false]
    simp only[cond_false]
    rw[X2]
    by_cases h2:(97:Int)≤Ae b
    · rw[bq h2,cond_true]
      by_cases h3:Ae b≤122
      · rw[bq h3,cond_true]
        obtain ⟨_,_,g1,g2,g3⟩:=f2 h2 h3
        rw[g1]
        by_cases h4:Ae b - 87<16
        · rcases g2 h4 with ⟨q1,q2⟩|⟨q1,q2⟩
          · rw[if_pos q1]
            exact fit (b - 55) (by omega) _ q2
          · rw[if_neg (by omega),if_pos q1]
            exact fit (b - 87) (by omega) _ q2
        · obtain ⟨q1,q2⟩:=g3 (by omega)
          rw[hw16,bq (show Ae b - 87≥16 by omega),cond_true,if_neg q1,if_neg q2]
      · rw[dd h3,cond_false]
        obtain ⟨q1,q2⟩:=f3 (by omega)
        rw[if_neg q1,if_neg q2]
    · rw[dd h2,cond_false]
      obtain ⟨q1,q2⟩:=f3 (by omega)
      rw[if_neg q1,if_neg q2]

theorem Xh (s:aj) (i v:Nat) (hi:i<s.length):Jj (s.drop i) v=match Lm s[i]with|some d=>Jj (s.drop (i+1)) (16*v+d)|none=>none:=by
  rw[List.drop_eq_getElem_cons hi]
  rfl

theorem Xi {R:Type} {s x22:aj} (hs:s.length≤4) (e0:aj→Bool→Int→Option R) (e1 e2:Int→aj→Bool→Int→Option R) (e3:Int→aj→Bool→Option R):∀(n i v:Nat),s.length - i<n→i≤s.length→v<16 ^ i →
    (match Jj (s.drop i) v with
     | some u=>aI n 16 false x22 1152921504606846976 65535 false (v:Int) s.length (s.length:Int) (i:Int) (oP s) e0 e1 e2 e3=e0 x22 false (u:Int)
     | none=>∃w,aI n 16 false x22 1152921504606846976 65535 false (v:Int) s.length (s.length:Int) (i:Int) (oP s) e0 e1 e2 e3=e1 0 x22 false w):=by
  intro n
  induction n with
  | zero=>intro i v h; omega
  | succ n ih =>
    intro i v h hi hv
    by_cases lp:i<s.length
    · have WL:v<4096:=by
        have:16 ^ i≤16 ^ 3:=Nat.pow_le_pow_right (by omega) (by omega)
        have e:(16:Nat) ^ 3=4096:=rfl
        omega
      have hr:=Uq (R:=R) (x22:=x22) lp (by omega) WL (fun lY lZ mF tQ EB EC Li Lj Lk Ll AB=>aI n lY lZ mF tQ EB EC Li Lj Lk Ll AB e0 e1 e2 e3) e0 e1 e2 e3
      have hL:aI (n+1) 16 false x22 1152921504606846976 65535 false (v:Int) s.length (s.length:Int) (i:Int) (oP s) e0 e1 e2 e3 =
        dJ internal_strconv_lower (fun lY lZ mF tQ EB EC Li Lj Lk Ll AB=>aI n lY lZ mF tQ EB EC Li Lj Lk Ll AB e0 e1 e2 e3) 16 false x22 1152921504606846976 65535 false (v:Int) s.length (s.length:Int) (i:Int) (oP s) e0 e1 e2 e3:=rfl
      rw[hL,hr,Xh s i v lp]
      cases hx:Lm s[i]with
      | none=>exact ⟨_,rfl⟩
      | some d =>
        have hd:=Vy hx
        have:(16:Nat) ^ (i+1)=16 ^ i*16:=Nat.pow_succ ..
        exact ih (i+1) (16*v+d) (by omega) (by omega) (by omega)
    · have e:s.drop i = []:=List.drop_eq_nil_of_le (by omega)
      rw[e]
      simp only[Jj]
      show dJ internal_strconv_lower _ 16 false x22 1152921504606846976 65535 false (v:Int) s.length (s.length:Int) (i:Int) (oP s) e0 e1 e2 e3=_
      unfold dJ
      rw[dd (show ¬(i:Int)<(s.length:Int) by omega),cond_false]


theorem parse4 {R:Type} {s:aj} (hs:s.length=4) (k0 k1:Int→Option R):dZ s 16 16 k0 k1=match Jj s 0 with|some u=>k1 (u:Int)|none=>k0 0:=by
  show qq cA s 16 16 k0 k1=_
  unfold qq
  show kl internal_strconv_lower bp aI s 16 16 _ _ _ _ _=_
  unfold kl
  have h1:(s==([]:aj))=false:=by rw[beq_eq_false_iff_ne]; rintro rfl; simp at hs
  rw[h1,cond_false]
  have c1:decide ((2:Int)≤16)=true:=by decide
  have c2:decide ((16:Int)≤36)=true:=by decide
  have c3:((16:Int)==0)=false:=by decide
  have c4:decide ((16:Int)<0)=false:=by decide
  have c5:decide ((16:Int)>64)=false:=by decide
  have c6:((16:Int)==10)=false:=by decide
  have c7:((16:Int)==16)=true:=by decide
  have c8:decide ((0:Int)≤IntKind.u64.wrap 16)=true:=by decide
  have c9:(IntKind.u64.wrap ((IntKind.u64.wrap (1*2 ^ (min ((IntKind.u64.wrap 16).toNat) IntKind.u64.bits))) - 1))=65535:=by decide +kernel
  dsimp only
  rw[c1,cond_true,c2,cond_true,c3,cond_false,c4,cond_false,c5,cond_false,c6,cond_false,c7,cond_true]
  rw[c8,aS rfl,c9]
  have hb:decide (s.length≤281474976710656)=true:=bq (by omega)
  have key:=fun (n:Nat) (hn:4<n) (e0:aj→Bool→Int→Option R) (e1 e2:Int→aj→Bool→Int→Option R) (e3:Int→aj→Bool→Option R)=>Xi (R:=R) (s:=s) (x22:=s) (by omega) e0 e1 e2 e3 n 0 0 (by omega) (by omega) (by omega)
  have z0:(((0:Nat):Int))=0:=rfl
  simp only[List.drop_zero,z0]at key
  cases hx:Jj s 0 with
  | some u =>
    simp only[hx]at key
    rw[key _ (by omega)]
    rfl
  | none =>
    simp only[hx]at key
    generalize hF:(Int.natAbs 16+List.length s+Int.natAbs 1152921504606846976+Int.natAbs 65535+Int.natAbs 0+Int.natAbs (s.length:Int)+Int.natAbs 0+List.length (oP s)+64)=F at *
    obtain ⟨w,hw⟩:=key F (by rw[←hF]; omega) _ _ _ _
    rw[hw,aS (by rfl),hb,aS rfl]
end Go.Proofs.YtmlkkgfenfdndaaGreatDoor

/-
  Functions of the program as pure Lean functions, and the ties; printed by wip/tools/emit.py.
-/
set_option maxRecDepth 100000
namespace Go.Proofs.YtmlkkgfenfdndaaGreatDoor
open Go Go.ay

/-! ### humpyard/quote.Unquote -/
abbrev qE (R:Type):Type:=aj→(aj→Int→Bool→Option R)→Option R
abbrev vI:List bN := [.leaf (.str)]
abbrev vJ:List aH := []
noncomputable def DW {R:Type} (fn:qE R):bN.av vI→aH.av vJ→(V→az→Option R)→Option R:=fun x y k=>fn x.1 (fun q0 q1 q2=>k (.tuple [.str q0, .int .i64 q1, .bool q2]) [])
abbrev kI (R:Type):Type:=Nat→aj→aj→(List Int)→(aj→aj→(List Int)→Option R)→(aj→aj→Int→Bool→aj→(List Int)→Option R)→Option R
noncomputable def nL (R:Type) (ai:bL R) (aD:dn R) (bt:fj R) (aZ:eP R):Env R:=fun i=>match i with
  | 53=>some (false,(aA fL fM (lj ai) bg))
  | 39=>some (false,(Eo R))
  | 107=>some (false,(aA j4 j7 (oQ aD) bg))
  | 108=>some (false,(aA mo mq (tA bt) bg))
  | 109=>some (false,(aA kY kZ (rZ aZ) bg))
  | _=>none
theorem Jk (R:Type):p6 Tryz.prog (nL R ai aD bt aZ):=by
  intro i b sp h
  unfold nL at h
  split at h
  · cases h; exact ⟨(oa R _ (aO _)),fun _ h=>nomatch h⟩
  · cases h; exact ⟨(LJ),fun _ _=>Gz⟩
  · cases h; exact ⟨(sI R _ (aO _)),fun _ h=>nomatch h⟩
  · cases h; exact ⟨(AG R _ (aO _)),fun _ h=>nomatch h⟩
  · cases h; exact ⟨(yU R _ (aO _)),fun _ h=>nomatch h⟩
  · cases h

noncomputable def qs {R:Type} (ai:bL R) (aD:dn R) (bt:fj R) (aZ:eP R) (fy:aj→aj→(List Int)→Option R) (x4:aj) (x5:aj) (x6:List Int) (e0:aj→aj→(List Int)→Option R) (e1:aj→aj→Int→Bool→aj→(List Int)→Option R):Option R :=
  aD ([34]:aj) x5 (fun y7 y8=>bif (!y7)then (aD ([92]:aj) y8 (fun y9 yJ=>bif y9 then (aZ yJ (fun wL Aw=>bif (decide (wL<(0:Int)))then (e1 x4 ([]:aj) 0 false Aw x6)else (ai wL x6 (fun E0 uT=>fy x4 Aw uT))))else (bt yJ (fun F1 GU=>bif (decide (F1<(0:Int)))then (e1 x4 ([]:aj) 0 false GU x6)else (ai F1 x6 (fun JE GA=>fy x4 GU GA))))))else (e0 x4 y8 x6))
noncomputable def bk {R:Type}:kI R
  | 0,_,_,_,_,_=>none
  | n+1,lY,lZ,mF,e0,e1=>qs ai aD bt aZ (fun lY lZ mF=>bk n lY lZ mF e0 e1) lY lZ mF e0 e1
noncomputable def qu:Hint := { live := [0,5,6],own := [],rows := [],cells := [(1,1,(.int .u8),false)],drop := [],out := [0,2,3,4,5,6] }
abbrev hP:Type:=aj × aj × (List Int)
noncomputable def oE:hP→St:=fun d=>⟨[.str d.1, .undef, .undef, .undef, .undef, .ptr 0 0, .ptr 1 0, .undef, .undef, .undef, .undef, .undef, .undef, .undef, .undef, .undef, .undef, .undef, .undef, .undef, .undef, .undef, .undef, .undef, .undef, .undef, .undef, .undef, .undef, .undef, .undef, .undef, .undef, .undef, .undef, .undef, .undef, .undef, .undef], [.cells [.str d.2.1], .kW (.sl (.int .u8) d.2.2 (.own 2)), .tok]⟩
noncomputable def tB {R:Type} (K:Ex→St→Option R) (q0:aj) (q1:aj) (q2:List Int):Option R:=K (.exit 0) ⟨[.str q0, .undef, .undef, .undef, .undef, .ptr 0 0, .ptr 1 0, .undef, .undef, .undef, .undef, .undef, .undef, .undef, .undef, .undef, .undef, .undef, .undef, .undef, .undef, .undef, .undef, .undef, .undef, .undef, .undef, .undef, .undef, .undef, .undef, .undef, .undef, .undef, .undef, .undef, .undef, .undef, .undef], [.cells [.str q1], .kW (.sl (.int .u8) q2 (.own 2)), .tok]⟩
noncomputable def tC {R:Type} (K:Ex→St→Option R) (q0:aj) (q1:aj) (q2:Int) (q3:Bool) (q4:aj) (q5:List Int):Option R:=K (.ret) ⟨[.str q0, .undef, .str q1, .int .i64 q2, .bool q3, .ptr 0 0, .ptr 1 0, .undef, .undef, .undef, .undef, .undef, .undef, .undef, .undef, .undef, .undef, .undef, .undef, .undef, .undef, .undef, .undef, .undef, .undef, .undef, .undef, .undef, .undef, .undef, .undef, .undef, .undef, .undef, .undef, .undef, .undef, .undef, .undef], [.cells [.str q4], .kW (.sl (.int .u8) q5 (.own 2)), .tok]⟩
noncomputable def uL {R:Type} (ai:bL R) (aD:dn R) (bt:fj R) (aZ:eP R) (K:Ex→St→Option R) (rc:hP→Option R) (d:hP):Option R:=qs ai aD bt aZ (fun z0 z1 z2=>rc (z0,z1,z2)) d.1 d.2.1 d.2.2 (tB K) (tC K)
noncomputable def lW {R:Type} (K:Ex→St→Option R) (n:Nat) (d:hP):Option R:=bk n d.1 d.2.1 d.2.2 (tB K) (tC K)
abbrev hQ:List bN := [.leaf (.str), .leaf (.undef), .leaf (.undef), .leaf (.undef), .leaf (.undef), .leaf (.ptr 0 0), .leaf (.ptr 1 0), .leaf (.undef), .leaf (.undef), .leaf (.undef), .leaf (.undef), .leaf (.undef), .leaf (.undef), .leaf (.undef), .leaf (.undef), .leaf (.undef), .leaf (.undef), .leaf (.undef), .leaf (.undef), .leaf (.undef), .leaf (.undef), .leaf (.undef), .leaf (.undef), .leaf (.undef), .leaf (.undef), .leaf (.undef), .leaf (.undef), .leaf (.undef), .leaf (.undef), .leaf (.undef), .leaf (.undef), .leaf (.undef), .leaf (.undef), .leaf (.undef), .leaf (.undef), .leaf (.undef), .leaf (.undef), .leaf (.undef), .leaf (.undef)]
abbrev hU:List aH := [.cells [.str], .kW (.MP (.int .u8) 2), .tok]
noncomputable def uM (x:bN.av hQ) (y:aH.av hU):Nat:=(List.length x.1+List.length y.1.1+List.length y.2.1+64)
noncomputable def uN (x:bN.av hQ) (y:aH.av hU):hP:=(x.1,y.1.1,y.2.1)
noncomputable def tD {R:Type} (L:kI R):bN.av hQ→aH.av hU→(Ex→St→Option R)→Option R:=fun x y K=>L (uM x y) x.1 y.1.1 y.2.1 (tB K) (tC K)
noncomputable def r5 (R:Type) (bk:kI R):Nat→Option (Hint × cr R):=fun i=>match i with
  | 5=>some (qu,(gu hQ hU (tD bk) qv))
  | _=>none

theorem EH {R:Type} (ai:bL R) (aD:dn R) (bt:fj R) (aZ:eP R) (bk:kI R) (K:Ex→St→Option R) (rc:St→Option R) (d:hP):roundOf tt (nL R ai aD bt aZ) (r5 R bk) 0 ((aP (aK Tryz.f70)).getD 0 .skip) qu (oE d) rc K=uL ai aD bt aZ K (fun d=>rc (oE d)) d:=by kernel_rfl
theorem Dg {R:Type} (K:Ex→St→Option R) (n:Nat) (d:hP):lW K (n+1) d=uL ai aD bt aZ K (lW K n) d:=by kernel_rfl
theorem Dh {R:Type} (K:Ex→St→Option R) (d:hP):lW K 0 d=none:=by kernel_rfl
theorem EI (x:bN.av hQ) (y:aH.av hU):(⟨bN.cV hQ x,aH.cV hU y⟩:St)=oE (uN x y):=by kernel_rfl
theorem EJ {R:Type} (x:bN.av hQ) (y:aH.av hU) (K:Ex→St→Option R):tD (bk) x y K=lW K (uM x y) (uN x y):=by kernel_rfl
theorem Gd {R:Type} (other:cr R) (ho:o3 tt (nL R ai aD bt aZ) (r5 R bk) 0 ((aP (aK Tryz.f70)).getD 0 .skip) qu other):o3 tt (nL R ai aD bt aZ) (r5 R bk) 0 ((aP (aK Tryz.f70)).getD 0 .skip) qu (gu hQ hU (tD (bk)) other) :=
  gN (A:=lW) ho (kB oE (uL ai aD bt aZ) (lW) (Dh) (EH ai aD bt aZ bk) (Dg)) uM uN EI (EJ)

noncomputable def vK {R:Type} (aD:dn R) (bk:kI R) (x1:aj) (k0:aj→Int→Bool→Option R):Option R :=
  aD ([34]:aj) x1 (fun y2 y3=>bif (!y2)then (k0 ([]:aj) 0 false)else (bk (List.length x1+List.length y3+List.length ([]:List Int)+64) x1 y3 ([]:List Int) (fun KR LK Cp=>k0 (td Cp) (IntKind.i64.wrap ((KR.length:Int) - (LK.length:Int))) true) (fun Sg QI y24 GB Jb Jc=>k0 QI y24 GB)))
noncomputable def eN {R:Type}:qE R:=fun x1 k0=>vK aD bk x1 k0
theorem Kk {R:Type} (ai:bL R) (aD:dn R) (bt:fj R) (aZ:eP R) (bk:kI R) (x1:aj) (k:V→az→Option R):iP tt (nL R ai aD bt aZ) (r5 R bk) false Tryz.f70 (aK Tryz.f70) [.str x1] [] k =
    vK aD bk x1 (fun q0 q1 q2=>k (.tuple [.str q0, .int .i64 q1, .bool q2]) []):=by kernel_rfl
theorem GZ (R:Type):∀a∈aP (aK Tryz.f70),cR tt (nL R ai aD bt aZ) (r5 R bk) 0 a:=by
  refine bG 1 (by kernel_rfl) fun i hi => ?_
  match i,hi with
  | 0,_=>exact fC (by kernel_rfl) (Gd _ jc)
  | n+1,hi=>omega
theorem H0 (R:Type) (other:ay.Spec R) (ho:ay.Spec.Ok Tryz.prog 70 other):ay.Spec.Ok Tryz.prog 70 (aA vI vJ (DW eN) other) :=
  bu ho (bj TT mixed (Jk R) (keep:=false) rfl rfl rfl rfl 0 (GZ R)) fun (x:bN.av vI) (y:aH.av vJ) k=>Kk ai aD bt aZ bk x.1 k

/-! ### humpyard/lexer.next -/
abbrev pI (R:Type):Type:=aj→(Token→Int→Option R)→Option R
abbrev Bp:List bN := [.leaf (.str)]
abbrev Bq:List aH := []
noncomputable def Ho {R:Type} (fn:pI R):bN.av Bp→aH.av Bq→(V→az→Option R)→Option R:=fun x y k=>fn x.1 (fun q0 q1=>k (.tuple [.agg [.int .i64 q0.kind, .str q0.text, .int .i64 q0.num.aB, .int .i64 q0.num.exp, .int .i64 q0.at_], .int .i64 q1]) [])
noncomputable def Br (R:Type) (eN:qE R) (dG:qC R) (bZ:j0 R):Env R:=fun i=>match i with
  | 70=>some (true,(aA vI vJ (DW eN) bg))
  | 69=>some (true,(aA vF vG (DS dG) bg))
  | 71=>some (true,(Vo R))
  | 47=>some (true,(aA u6 u7 (B6 bZ) bg))
  | _=>none
theorem Nk (R:Type):p6 Tryz.prog (Br R eN dG bZ):=by
  intro i b sp h
  unfold Br at h
  split at h
  · cases h; exact ⟨(H0 R _ (aO _)),fun h=>nomatch h⟩
  · cases h; exact ⟨(HY R _ (aO _)),fun h=>nomatch h⟩
  · cases h; exact ⟨(ZQ),fun h=>nomatch h⟩
  · cases h; exact ⟨(DP R _ (aO _)),fun h=>nomatch h⟩
  · cases h

noncomputable def Jl (R:Type):Nat→Option (Hint × cr R):=fun i=>match i with
  | _=>none

noncomputable def Bs {R:Type} (eN:qE R) (dG:qC R) (bZ:j0 R) (x1:aj) (k0:Token→Int→Option R):Option R :=
  cU (decide ((0:Int)<x1.length)) (let j23:=bZ x1 ([97,98,99,100,101,102,103,104,105,106,107,108,109,110,111,112,113,114,115,116,117,118,119,120,121,122]:aj) (fun Cp=>bif (Cp==([116,114,117,101]:aj))then (k0 (⟨4,Cp,⟨0,0⟩,0⟩:Token) (Cp.length:Int))else (bif (Cp==([102,97,108,115,101]:aj))then (k0 (⟨4,Cp,⟨0,0⟩,0⟩:Token) (Cp.length:Int))else (bif (!(Cp==([110,117,108,108]:aj)))then (k0 (⟨0,([]:aj),⟨0,0⟩,0⟩:Token) 0)else (k0 (⟨4,Cp,⟨0,0⟩,0⟩:Token) (Cp.length:Int))))); bif (((x1.getD 0 0).toNat:Int)==45)then (bZ x1 ([48,49,50,51,52,53,54,55,56,57,43,45,46,101,69]:aj) (fun y6=>dG y6 (fun y7 y8=>bif (!y8)then (k0 (⟨0,([]:aj),⟨0,0⟩,0⟩:Token) 0)else (k0 (⟨3,y6,⟨y7.aB,y7.exp⟩,0⟩:Token) (y6.length:Int)))))else (bif (decide (((x1.getD 0 0).toNat:Int)≥(48:Int)))then (bif (decide (((x1.getD 0 0).toNat:Int)≤(57:Int)))then (bZ x1 ([48,49,50,51,52,53,54,55,56,57,43,45,46,101,69]:aj) (fun y9=>dG y9 (fun yJ wL=>bif (!wL)then (k0 (⟨0,([]:aj),⟨0,0⟩,0⟩:Token) 0)else (k0 (⟨3,y9,⟨yJ.aB,yJ.exp⟩,0⟩:Token) (y9.length:Int)))))else (bif (((x1.getD 0 0).toNat:Int)==34)then (eN x1 (fun F1 GU JE=>bif (!JE)then (k0 (⟨0,([]:aj),⟨0,0⟩,0⟩:Token) 0)else (k0 (⟨2,F1,⟨0,0⟩,0⟩:Token) GU)))else (bif (decide ((zw ([123,125,91,93,44,58]:aj) ((x1.getD 0 0).toNat:Int))≥(0:Int)))then (cU (decide ((1:Int)≤x1.length)) (k0 (⟨1,((x1.drop 0).take (1 - 0)),⟨0,0⟩,0⟩:Token) 1))else (j23))))else (bif (((x1.getD 0 0).toNat:Int)==34)then (eN x1 (fun GA KR LK=>bif (!LK)then (k0 (⟨0,([]:aj),⟨0,0⟩,0⟩:Token) 0)else (k0 (⟨2,GA,⟨0,0⟩,0⟩:Token) KR)))else (bif (decide ((zw ([123,125,91,93,44,58]:aj) ((x1.getD 0 0).toNat:Int))≥(0:Int)))then (cU (decide ((1:Int)≤x1.length)) (k0 (⟨1,((x1.drop 0).take (1 - 0)),⟨0,0⟩,0⟩:Token) 1))else (j23)))))
noncomputable def fk {R:Type}:pI R:=fun x1 k0=>Bs eN dG bZ x1 k0
theorem OK {R:Type} (eN:qE R) (dG:qC R) (bZ:j0 R) (x1:aj) (k:V→az→Option R):iP tt (Br R eN dG bZ) (Jl R) false Tryz.f48 (aK Tryz.f48) [.str x1] [] k =
    Bs eN dG bZ x1 (fun q0 q1=>k (.tuple [.agg [.int .i64 q0.kind, .str q0.text, .int .i64 q0.num.aB, .int .i64 q0.num.exp, .int .i64 q0.at_], .int .i64 q1]) []):=by kernel_rfl
theorem Kl (R:Type):∀a∈aP (aK Tryz.f48),cR tt (Br R eN dG bZ) (Jl R) 0 a:=by
  refine bG 0 (by kernel_rfl) fun i hi => ?_
  omega
theorem Ln (R:Type) (other:ay.Spec R) (ho:ay.Spec.Ok Tryz.prog 48 other):ay.Spec.Ok Tryz.prog 48 (aA Bp Bq (Ho fk) other) :=
  bu ho (bj TT mixed (Nk R) (keep:=false) rfl rfl rfl rfl 0 (Kl R)) fun (x:bN.av Bp) (y:aH.av Bq) k=>OK eN dG bZ x.1 k

/-! ### humpyard/lexer.Scan -/
abbrev vk (R:Type):Type:=aj→((List Token)→Int→Int→Option R)→Option R
abbrev Bt:List bN := [.leaf (.str)]
abbrev Bu:List aH := []
noncomputable def Hp {R:Type} (fn:vk R):bN.av Bt→aH.av Bu→(V→az→Option R)→Option R:=fun x y k=>fn x.1 (fun q0 q1 q2=>k (.tuple [.sl .token q0 .no, .int .i64 q1, .int .i64 q2]) [])
abbrev nA (R:Type):Type:=Nat→aj→(List Token)→Int→((List Token)→Int→Int→Option R)→(Int→Int→Option R)→Option R
noncomputable def rB (R:Type) (fk:pI R) (bZ:j0 R):Env R:=fun i=>match i with
  | 48=>some (true,(aA Bp Bq (Ho fk) bg))
  | 47=>some (true,(aA u6 u7 (B6 bZ) bg))
  | _=>none
theorem Nl (R:Type):p6 Tryz.prog (rB R fk bZ):=by
  intro i b sp h
  unfold rB at h
  split at h
  · cases h; exact ⟨(Ln R _ (aO _)),fun h=>nomatch h⟩
  · cases h; exact ⟨(DP R _ (aO _)),fun h=>nomatch h⟩
  · cases h

noncomputable def yV {R:Type} (fk:pI R) (bZ:j0 R) (fy:aj→(List Token)→Int→Option R) (x2:aj) (x3:List Token) (x4:Int) (e0:(List Token)→Int→Int→Option R) (e1:Int→Int→Option R):Option R :=
  cU (decide ((0:Int)≤(x2.length:Int))&&decide ((x2.length:Int)≤x2.length)) (cU (decide ((0:Int)≤x4)&&decide (x4≤(x2.length:Int))) (bZ ((x2.drop x4.toNat).take ((x2.length:Int).toNat - x4.toNat)) ([32,9,10,13]:aj) (fun y5=>bif ((IntKind.i64.wrap (x4+(y5.length:Int)))==(x2.length:Int))then (cU (decide ((x3.length+1)*48≤140737488355328)) (e0 (x3++([(⟨5,([]:aj),⟨0,0⟩,(IntKind.i64.wrap (x4+(y5.length:Int)))⟩:Token)]:List Token)) 0 0))else (cU (decide ((0:Int)≤(x2.length:Int))&&decide ((x2.length:Int)≤x2.length)) (cU (decide ((0:Int)≤(IntKind.i64.wrap (x4+(y5.length:Int))))&&decide ((IntKind.i64.wrap (x4+(y5.length:Int)))≤(x2.length:Int))) (fk ((x2.drop (IntKind.i64.wrap (x4+(y5.length:Int))).toNat).take ((x2.length:Int).toNat - (IntKind.i64.wrap (x4+(y5.length:Int))).toNat)) (fun y6 y7=>bif (y7==0)then (e1 30 (IntKind.i64.wrap (x4+(y5.length:Int))))else (cU (decide ((x3.length+1)*48≤140737488355328)) (fy x2 (x3++([(⟨y6.kind,y6.text,⟨y6.num.aB,y6.num.exp⟩,(IntKind.i64.wrap (x4+(y5.length:Int)))⟩:Token)]:List Token)) (IntKind.i64.wrap ((IntKind.i64.wrap (x4+(y5.length:Int)))+y7)))))))))))
noncomputable def cG {R:Type}:nA R
  | 0,_,_,_,_,_=>none
  | n+1,lY,lZ,mF,e0,e1=>yV fk bZ (fun lY lZ mF=>cG n lY lZ mF e0 e1) lY lZ mF e0 e1
noncomputable def tY:Hint := { live := [0,2,4],own := [(2, .token)],rows := [],cells := [],drop := [],out := [2,3,4] }
abbrev kJ:Type:=aj × (List Token) × Int
noncomputable def rC:kJ→St:=fun d=>⟨[.str d.1, .undef, .sl .token d.2.1 (.own 0), .undef, .int .i64 d.2.2, .undef, .undef, .undef, .undef, .undef, .undef, .undef, .undef, .undef, .undef, .undef, .undef, .undef, .undef, .undef, .undef, .undef, .undef, .undef, .undef, .undef, .undef, .undef, .undef, .undef, .undef, .undef, .undef, .undef, .undef, .undef, .undef, .undef, .undef, .undef, .undef, .undef, .undef, .undef, .undef], [.tok]⟩
noncomputable def xJ {R:Type} (K:Ex→St→Option R) (q0:List Token) (q1:Int) (q2:Int):Option R:=K (.ret) ⟨[.undef, .undef, .sl .token q0 (.own 0), .int .i64 q1, .int .i64 q2, .undef, .undef, .undef, .undef, .undef, .undef, .undef, .undef, .undef, .undef, .undef, .undef, .undef, .undef, .undef, .undef, .undef, .undef, .undef, .undef, .undef, .undef, .undef, .undef, .undef, .undef, .undef, .undef, .undef, .undef, .undef, .undef, .undef, .undef, .undef, .undef, .undef, .undef, .undef, .undef], [.tok]⟩
noncomputable def xK {R:Type} (K:Ex→St→Option R) (q0:Int) (q1:Int):Option R:=K (.ret) ⟨[.undef, .undef, .cJ, .int .i64 q0, .int .i64 q1, .undef, .undef, .undef, .undef, .undef, .undef, .undef, .undef, .undef, .undef, .undef, .undef, .undef, .undef, .undef, .undef, .undef, .undef, .undef, .undef, .undef, .undef, .undef, .undef, .undef, .undef, .undef, .undef, .undef, .undef, .undef, .undef, .undef, .undef, .undef, .undef, .undef, .undef, .undef, .undef], []⟩
noncomputable def yW {R:Type} (fk:pI R) (bZ:j0 R) (K:Ex→St→Option R) (rc:kJ→Option R) (d:kJ):Option R:=yV fk bZ (fun z0 z1 z2=>rc (z0,z1,z2)) d.1 d.2.1 d.2.2 (xJ K) (xK K)
noncomputable def oi {R:Type} (K:Ex→St→Option R) (n:Nat) (d:kJ):Option R:=cG n d.1 d.2.1 d.2.2 (xJ K) (xK K)
abbrev kK:List bN := [.leaf (.str), .leaf (.undef), .leaf (.MP .token 0), .leaf (.undef), .leaf (.int .i64), .leaf (.undef), .leaf (.undef), .leaf (.undef), .leaf (.undef), .leaf (.undef), .leaf (.undef), .leaf (.undef), .leaf (.undef), .leaf (.undef), .leaf (.undef), .leaf (.undef), .leaf (.undef), .leaf (.undef), .leaf (.undef), .leaf (.undef), .leaf (.undef), .leaf (.undef), .leaf (.undef), .leaf (.undef), .leaf (.undef), .leaf (.undef), .leaf (.undef), .leaf (.undef), .leaf (.undef), .leaf (.undef), .leaf (.undef), .leaf (.undef), .leaf (.undef), .leaf (.undef), .leaf (.undef), .leaf (.undef), .leaf (.undef), .leaf (.undef), .leaf (.undef), .leaf (.undef), .leaf (.undef), .leaf (.undef), .leaf (.undef), .leaf (.undef), .leaf (.undef)]
abbrev kL:List aH := [.tok]
noncomputable def yX (x:bN.av kK) (y:aH.av kL):Nat:=(List.length x.1+List.length x.2.2.1+Int.natAbs x.2.2.2.2.1+64)
noncomputable def yY (x:bN.av kK) (y:aH.av kL):kJ:=(x.1,x.2.2.1,x.2.2.2.2.1)
noncomputable def xL {R:Type} (L:nA R):bN.av kK→aH.av kL→(Ex→St→Option R)→Option R:=fun x y K=>L (yX x y) x.1 x.2.2.1 x.2.2.2.2.1 (xJ K) (xK K)
noncomputable def xM (R:Type) (cG:nA R):Nat→Option (Hint × cr R):=fun i=>match i with
  | 3=>some (tY,(gu kK kL (xL cG) qv))
  | _=>none

theorem G0 {R:Type} (fk:pI R) (bZ:j0 R) (cG:nA R) (K:Ex→St→Option R) (rc:St→Option R) (d:kJ):roundOf tt (rB R fk bZ) (xM R cG) 0 ((aP (aK Tryz.f25)).getD 0 .skip) tY (rC d) rc K=yW fk bZ K (fun d=>rc (rC d)) d:=by kernel_rfl
theorem Fq {R:Type} (K:Ex→St→Option R) (n:Nat) (d:kJ):oi K (n+1) d=yW fk bZ K (oi K n) d:=by kernel_rfl
theorem Fs {R:Type} (K:Ex→St→Option R) (d:kJ):oi K 0 d=none:=by kernel_rfl
theorem G1 (x:bN.av kK) (y:aH.av kL):(⟨bN.cV kK x,aH.cV kL y⟩:St)=rC (yY x y):=by kernel_rfl
theorem G2 {R:Type} (x:bN.av kK) (y:aH.av kL) (K:Ex→St→Option R):xL (cG) x y K=oi K (yX x y) (yY x y):=by kernel_rfl
theorem Jm {R:Type} (other:cr R) (ho:o3 tt (rB R fk bZ) (xM R cG) 0 ((aP (aK Tryz.f25)).getD 0 .skip) tY other):o3 tt (rB R fk bZ) (xM R cG) 0 ((aP (aK Tryz.f25)).getD 0 .skip) tY (gu kK kL (xL (cG)) other) :=
  gN (A:=oi) ho (kB rC (yW fk bZ) (oi) (Fs) (G0 fk bZ cG) (Fq)) yX yY G1 (G2)

noncomputable def Bv {R:Type} (cG:nA R) (x1:aj) (k0:(List Token)→Int→Int→Option R):Option R :=
  bif (decide ((x1.length:Int)>(20000:Int)))then (k0 ([]:List Token) 30 0)else (cG (List.length x1+List.length ([]:List Token)+Int.natAbs 0+64) x1 ([]:List Token) 0 (fun y8 y9 yJ=>k0 y8 y9 yJ) (fun wL Aw=>k0 ([]:List Token) wL Aw))
noncomputable def kv {R:Type}:vk R:=fun x1 k0=>Bv cG x1 k0
theorem OL {R:Type} (fk:pI R) (bZ:j0 R) (cG:nA R) (x1:aj) (k:V→az→Option R):iP tt (rB R fk bZ) (xM R cG) false Tryz.f25 (aK Tryz.f25) [.str x1] [] k =
    Bv cG x1 (fun q0 q1 q2=>k (.tuple [.sl .token q0 .no, .int .i64 q1, .int .i64 q2]) []):=by kernel_rfl
theorem Km (R:Type):∀a∈aP (aK Tryz.f25),cR tt (rB R fk bZ) (xM R cG) 0 a:=by
  refine bG 1 (by kernel_rfl) fun i hi => ?_
  match i,hi with
  | 0,_=>exact fC (by kernel_rfl) (Jm _ jc)
  | n+1,hi=>omega
theorem Lo (R:Type) (other:ay.Spec R) (ho:ay.Spec.Ok Tryz.prog 25 other):ay.Spec.Ok Tryz.prog 25 (aA Bt Bu (Hp kv) other) :=
  bu ho (bj TT mixed (Nl R) (keep:=false) rfl rfl rfl rfl 0 (Km R)) fun (x:bN.av Bt) (y:aH.av Bu) k=>OL fk bZ cG x.1 k

/-! ### humpyard/humpyardlaw03.pick -/
abbrev vl (R:Type):Type:=Int→Int→(Int→Option R)→Option R
abbrev Bw:List bN := [.leaf (.int .i64), .leaf (.int .i64)]
abbrev Bx:List aH := []
noncomputable def Hq {R:Type} (fn:vl R):bN.av Bw→aH.av Bx→(V→az→Option R)→Option R:=fun x y k=>fn x.1 x.2.1 (fun q0=>k (.int .i64 q0) [])
noncomputable def By (R:Type):Env R:=fun i=>match i with
  | _=>none
theorem Nn (R:Type):p6 Tryz.prog (By R):=by
  intro i b sp h
  unfold By at h
  split at h
  · cases h

noncomputable def Jn (R:Type):Nat→Option (Hint × cr R):=fun i=>match i with
  | _=>none

noncomputable def Jo {R:Type} (x1:Int) (x2:Int) (k0:Int→Option R):Option R :=
  bif (decide (x1<(0:Int)))then (cU (!decide (x2=0)) (k0 (Int.tmod (IntKind.i64.wrap (0 - (IntKind.i64.wrap (x1+1)))) x2)))else (cU (!decide (x2=0)) (k0 (Int.tmod x1 x2)))
noncomputable def kz {R:Type}:vl R:=fun x1 x2 k0=>Jo x1 x2 k0
theorem OM {R:Type} (x1:Int) (x2:Int) (k:V→az→Option R):iP tt (By R) (Jn R) false Tryz.f27 (aK Tryz.f27) [.int .i64 x1, .int .i64 x2] [] k =
    Jo x1 x2 (fun q0=>k (.int .i64 q0) []):=by kernel_rfl
theorem Kn (R:Type):∀a∈aP (aK Tryz.f27),cR tt (By R) (Jn R) 0 a:=by
  refine bG 0 (by kernel_rfl) fun i hi => ?_
  omega
theorem Lp (R:Type) (other:ay.Spec R) (ho:ay.Spec.Ok Tryz.prog 27 other):ay.Spec.Ok Tryz.prog 27 (aA Bw Bx (Hq kz) other) :=
  bu ho (bj TT mixed (Nn R) (keep:=false) rfl rfl rfl rfl 0 (Kn R)) fun (x:bN.av Bw) (y:aH.av Bx) k=>OM x.1 x.2.1 k

/-! ### humpyard/humpyardlaw03.Word -/
abbrev Hr (R:Type):Type:=GJ→(aj→Option R)→Option R
abbrev EK:List bN := [.agg [.int .i64, .int .i64, .int .i64, .sl (.int .i64)]]
abbrev EL:List aH := []
noncomputable def ON {R:Type} (fn:Hr R):bN.av EK→aH.av EL→(V→az→Option R)→Option R:=fun x y k=>fn (⟨x.1.1,x.1.2.1,x.1.2.2.1,x.1.2.2.2.1⟩:GJ) (fun q0=>k (.str q0) [])
noncomputable def Bz (R:Type) (cb:ja R) (bU:iT R) (dp:mE R) (bc:fe R) (kz:vl R):Env R:=fun i=>match i with
  | 37=>some (true,(aA xd xe (Dd cb) bg))
  | 26=>some (true,(aA sf si (xo bU) bg))
  | 28=>some (true,(aA zR zS (Ep dp) bg))
  | 46=>some (true,(aA oV oW (tV bc) bg))
  | 27=>some (true,(aA Bw Bx (Hq kz) bg))
  | _=>none
theorem Np (R:Type):p6 Tryz.prog (Bz R cb bU dp bc kz):=by
  intro i b sp h
  unfold Bz at h
  split at h
  · cases h; exact ⟨(EY R _ (aO _)),fun h=>nomatch h⟩
  · cases h; exact ⟨(yP R _ (aO _)),fun h=>nomatch h⟩
  · cases h; exact ⟨(FU R _ (aO _)),fun h=>nomatch h⟩
  · cases h; exact ⟨(vT R _ (aO _)),fun h=>nomatch h⟩
  · cases h; exact ⟨(Lp R _ (aO _)),fun h=>nomatch h⟩
  · cases h

noncomputable def Jp (R:Type):Nat→Option (Hint × cr R):=fun i=>match i with
  | _=>none

noncomputable def Jq {R:Type} (cb:ja R) (bU:iT R) (dp:mE R) (bc:fe R) (kz:vl R) (x1:GJ) (k0:aj→Option R):Option R :=
  kz x1.kind 4 (fun y2=>bif (y2==0)then (kz x1.aB 6 (fun y3=>cU (decide ((0:Int)≤y3)&&decide (y3<(6:Int))) (k0 (([([123]:aj),([125]:aj),([91]:aj),([93]:aj),([44]:aj),([58]:aj)]:List aj).getD y3.toNat (Ty.cn .str)))))else (bif (y2==1)then (cU (decide ((0:Int)≤(min (x1.text.length:Int) 30))&&decide ((min (x1.text.length:Int) 30)≤x1.text.length)) (cU (decide ((0:Int)≤(min (x1.text.length:Int) 30))) (cb ((x1.text.drop 0).take ((min (x1.text.length:Int) 30).toNat - 0)) (fun y4=>bU y4 (fun y5 y6=>k0 y5)))))else (bif (y2==2)then (dp x1.aB x1.exp (fun y7=>bc y7 (fun y8=>k0 y8)))else (kz x1.aB 3 (fun y9=>cU (decide ((0:Int)≤y9)&&decide (y9<(3:Int))) (k0 (([([116,114,117,101]:aj),([102,97,108,115,101]:aj),([110,117,108,108]:aj)]:List aj).getD y9.toNat (Ty.cn .str))))))))
noncomputable def Nq {R:Type}:Hr R:=fun x1 k0=>Jq cb bU dp bc kz x1 k0
theorem OO {R:Type} (cb:ja R) (bU:iT R) (dp:mE R) (bc:fe R) (kz:vl R) (x1:GJ) (k:V→az→Option R):iP tt (Bz R cb bU dp bc kz) (Jp R) false Tryz.f24 (aK Tryz.f24) [.agg [.int .i64 x1.kind, .int .i64 x1.aB, .int .i64 x1.exp, .sl (.int .i64) x1.text .no]] [] k =
    Jq cb bU dp bc kz x1 (fun q0=>k (.str q0) []):=by kernel_rfl
theorem Ko (R:Type):∀a∈aP (aK Tryz.f24),cR tt (Bz R cb bU dp bc kz) (Jp R) 0 a:=by
  refine bG 0 (by kernel_rfl) fun i hi => ?_
  omega
theorem X3 (R:Type) (other:ay.Spec R) (ho:ay.Spec.Ok Tryz.prog 24 other):ay.Spec.Ok Tryz.prog 24 (aA EK EL (ON Nq) other) :=
  bu ho (bj TT mixed (Np R) (keep:=false) rfl rfl rfl rfl 0 (Ko R)) fun (x:bN.av EK) (y:aH.av EL) k=>OO cb bU dp bc kz (⟨x.1.1,x.1.2.1,x.1.2.2.1,x.1.2.2.2.1⟩:GJ) k

end Go.Proofs.YtmlkkgfenfdndaaGreatDoor

set_option maxRecDepth 100000
namespace Go.Proofs.YtmlkkgfenfdndaaGreatDoor
open Go Go.ay Go.Lib

theorem Nr:∀(l:aj) (v u:Nat),Jj l v=some u→u<(v+1)*16 ^ l.length
  | [],v,u,h=>by cases h; simp
  | b::t,v,u,h=>by
    simp only[Jj]at h
    cases hx:Lm b with
    | none=>rw[hx]at h; cases h
    | some d =>
      rw[hx]at h
      have h1:=Nr t _ _ h
      have hd:=Vy hx
      have h2:(16*v+d+1)*16 ^ t.length≤((v+1)*16)*16 ^ t.length:=Nat.mul_le_mul_right _ (by omega)
      rw[List.length_cons,Nat.pow_succ]
      have h3:(v+1)*16*16 ^ t.length=(v+1)*(16 ^ t.length*16):=by rw[Nat.mul_assoc,Nat.mul_comm 16]
      omega
theorem Sm:∀(l:aj) (v u:Nat),Jj l v=some u→∀b∈l,(Lm b).isSome=true
  | [],v,u,h=>by simp
  | b::t,v,u,h=>by
    simp only[Jj]at h
    cases hx:Lm b with
    | none=>rw[hx]at h; cases h
    | some d =>
      rw[hx]at h
      intro c hc
      rcases List.mem_cons.1 hc with rfl|hc
      · rw[hx]; rfl
      · exact Sm t _ _ h c hc
theorem Sn {b:UInt8} (h:(Lm b).isSome=true):b.toNat<128∧b.toNat≠43∧b.toNat≠45∧b.toNat≠95:=by
  unfold Lm at h
  simp only at h
  revert h
  (repeat' split) <;> intro h <;> first|omega|cases h

theorem So (cs:aj):∀s:aj,(∀b∈s,cs.contains b=false)→MU s cs=false:=by
  have key:∀s:aj,(∀b∈s,cs.contains b=false)→indexAny s cs = -1:=by
    intro s
    induction s with
    | nil=>intro _; rfl
    | cons b s ih =>
      intro h
      unfold indexAny
      rw[h b (by simp)]
      have:=ih fun x hx=>h x (by simp[hx])
      simp[this]
  intro s h
  unfold MU containsAny
  rw[key s h]
  rfl

def E5 (s:aj):Option (Nat × aj):=if s.length<4 then none else match Jj (s.take 4) 0 with|some v=>some (v,s.drop 4)|none=>none
theorem Cc {s r:aj} {v:Nat} (h:E5 s=some (v,r)):v<65536∧4≤s.length∧r=s.drop 4:=by
  unfold E5 at h
  split at h
  · cases h
  · rename_i hl
    split at h
    · rename_i u hu
      cases h
      have:=Nr _ _ _ hu
      rw[List.length_take,Nat.min_eq_left (by omega)]at this
      exact ⟨by omega,by omega,rfl⟩
    · cases h

theorem GC {n:Nat} (h:n<1114112):IntKind.i32.wrap (n:Int)=(n:Int):=Pm (by omega) (by omega)

theorem Vz {R:Type} (s:aj) (hs:s.length≤9000000000000000000) (k:Int→aj→Option R) :
    cH s k=match E5 s with|some (v,r)=>k (v:Int) r|none=>k (-1) s:=by
  show mN dZ s k=_
  unfold mN
  by_cases hl:s.length<4
  · rw[bq (show (s.length:Int)<4 by omega),cond_true]
    unfold E5
    rw[if_pos hl]
  · rw[dd (show ¬(s.length:Int)<4 by omega),cond_false,aS (bq (by omega))]
    have h4:(s.drop 0).take (4 - 0)=s.take 4:=rfl
    rw[h4,parse4 (by rw[List.length_take]; omega)]
    unfold E5
    rw[if_neg hl]
    cases hu:Jj (s.take 4) 0 with
    | none=>rfl
    | some v =>
      have yf:=Sm _ _ _ hu
      have Ui:uf (s.take 4)=true:=List.all_eq_true.2 fun b hb=>bq (Sn (yf b hb)).1
      have hno:MU (s.take 4) [43,45,95]=false:=So _ _ fun b hb=>by
        obtain ⟨_,g1,g2,g3⟩:=Sn (yf b hb)
        have e:∀x:UInt8,b.toNat≠x.toNat→(b==x)=false:=fun x hx=>by
          rw[beq_eq_false_iff_ne]; rintro rfl; exact hx rfl
        simp only[List.contains_cons,List.contains_nil,e 43 g1,e 45 g2,e 95 g3]
        rfl
      have hv:=(Cc (s:=s) (r:=s.drop 4) (v:=v) (by unfold E5; rw[if_neg hl,hu])).1
      have Oa:uf ([43,45,95]:aj)=true:=by decide
      simp only
      rw[aS (by rw[Ui,Oa,bq (show (s.take 4).length<4294967281 by rw[List.length_take]; omega)]; rfl),hno,cond_false,aS (by rw[bq (show (0:Int)≤(s.length:Int) by omega),bq (show (s.length:Int)≤s.length by omega)]; rfl),aS (bq (by omega))]
      rw[GC (by omega),Int.toNat_natCast,List.take_of_length_le (by rw[List.length_drop]; exact Nat.le_refl _)]

def Jr (s:aj):Option (Nat × aj) :=
  match E5 s with
  | none=>none
  | some (v,r) =>
    if v<55296∨57344≤v then some (v,r)else if 56320≤v then none
    else if ([92,117]:aj).isPrefixOf r then
      match E5 (r.drop 2)with
      | none=>none
      | some (w,r2)=>if 56320≤w∧w<57344 then some (65536+(v - 55296)*1024+(w - 56320),r2)else none
    else none

theorem shl10 (n:Nat) (h:n<1024):IntKind.i32.wrap ((n:Int)*2 ^ (min 10 IntKind.i32.bits))=((n*1024:Nat):Int):=by
  have e:(n:Int)*2 ^ (min 10 IntKind.i32.bits)=((n*1024:Nat):Int):=by
    show (n:Int)*2 ^ 10=_
    omega
  rw[e,GC (by omega)]

theorem long_ok {R:Type} (s:aj) (hs:s.length≤9000000000000000000) (k:Int→aj→Option R) :
    match Jr s with|some (c,r)=>cu s k=k (c:Int) r|none=>∃r,cu s k=k (-1) r:=by
  have e0:cu s k=mR aD cH s k:=rfl
  rw[e0]
  unfold mR
  rw[Vz s hs]
  unfold Jr
  cases hu:E5 s with
  | none =>
    simp only
    exact ⟨s,by rw[bq (show (-1:Int)<55296 by omega),cond_true]⟩
  | some p =>
    obtain ⟨v,r⟩:=p
    obtain ⟨hv,hl,hr⟩:=Cc hu
    have hrl:r.length≤9000000000000000000:=by rw[hr,List.length_drop]; omega
    simp only
    by_cases h1:v<55296
    · rw[if_pos (.inl h1),bq (show (v:Int)<55296 by omega)]
      simp only[cond_true]
    rw[dd (show ¬(v:Int)<55296 by omega),cond_false]
    by_cases h2:57344≤v
    · rw[if_pos (.inr h2),bq (show (v:Int)≥57344 by omega)]
      simp only[cond_true]
    rw[if_neg (by omega),dd (show ¬(v:Int)≥57344 by omega),cond_false]
    by_cases h3:56320≤v
    · rw[if_pos h3]
      exact ⟨r,by rw[bq (show (v:Int)≥56320 by omega),cond_true]⟩
    rw[if_neg h3,dd (show ¬(v:Int)≥56320 by omega),cond_false,LL _ _ (by simp) hrl]
    cases hp:([92,117]:aj).isPrefixOf r with
    | false =>
      simp only[Bool.false_eq_true,if_false]
      exact ⟨r,rfl⟩
    | true =>
      simp only[if_true]
      have hrl2:(r.drop 2).length≤9000000000000000000:=by rw[List.length_drop]; omega
      have e2:r.drop ([92,117]:aj).length=r.drop 2:=rfl
      rw[Bool.not_true,cond_false,e2,Vz _ hrl2]
      cases UU:E5 (r.drop 2)with
      | none =>
        simp only
        exact ⟨r.drop 2,by rw[bq (show (-1:Int)<56320 by omega),cond_true]⟩
      | some q =>
        obtain ⟨w,r2⟩:=q
        obtain ⟨hw,Q2,hr2⟩:=Cc UU
        simp only
        by_cases h4:56320≤w∧w<57344
        · rw[if_pos h4]
          simp only
          rw[dd (show ¬(w:Int)<56320 by omega),cond_false,dd (show ¬(w:Int)≥57344 by omega),cond_false]
          have k1:IntKind.i32.wrap ((v:Int) - 55296)=((v - 55296:Nat):Int):=by
            have:(v:Int) - 55296=((v - 55296:Nat):Int):=by omega
            rw[this,GC (by omega)]
          rw[k1,shl10 _ (by omega)]
          have k2:IntKind.i32.wrap (65536+(((v - 55296)*1024:Nat):Int))=((65536+(v - 55296)*1024:Nat):Int):=by
            have:65536+(((v - 55296)*1024:Nat):Int)=((65536+(v - 55296)*1024:Nat):Int):=by omega
            rw[this,GC (by omega)]
          have k3:IntKind.i32.wrap (((65536+(v - 55296)*1024:Nat):Int)+(w:Int))=((65536+(v - 55296)*1024+w:Nat):Int):=by
            have:((65536+(v - 55296)*1024:Nat):Int)+(w:Int)=((65536+(v - 55296)*1024+w:Nat):Int):=by omega
            rw[this]
            simp only[IntKind.wrap,IntKind.bits,IntKind.signed]
            simp
            omega
          have k4:IntKind.i32.wrap (((65536+(v - 55296)*1024+w:Nat):Int) - 56320)=((65536+(v - 55296)*1024+(w - 56320):Nat):Int):=by
            have:((65536+(v - 55296)*1024+w:Nat):Int) - 56320=((65536+(v - 55296)*1024+(w - 56320):Nat):Int):=by omega
            rw[this,GC (by omega)]
          rw[k2,k3,k4]
        · rw[if_neg h4]
          refine ⟨r2,?_⟩
          by_cases h5:w<56320
          · rw[bq (show (w:Int)<56320 by omega),cond_true]
          · rw[dd (show ¬(w:Int)<56320 by omega),cond_false,bq (show (w:Int)≥57344 by omega),cond_true]

def Sp:aj→Option (Nat × aj)
  | []=>none
  | b::t =>
    if b.toNat=34∨b.toNat=92∨b.toNat=47 then some (b.toNat,t)else if b.toNat=98 then some (8,t)else if b.toNat=102 then some (12,t)else if b.toNat=110 then some (10,t)
    else if b.toNat=114 then some (13,t)else if b.toNat=116 then some (9,t)else if b.toNat=117 then Jr t else none

theorem esc_ok {R:Type} (s:aj) (hs:s.length≤9000000000000000000) (k:Int→aj→Option R) :
    match Sp s with|some (c,r)=>aZ s k=k (c:Int) r|none=>∃r,aZ s k=k (-1) r:=by
  have e0:aZ s k=k7 cu s k:=rfl
  rw[e0]
  unfold k7
  cases s with
  | nil=>exact ⟨[],rfl⟩
  | cons b t =>
    have km:((b::t:aj)==([]:aj))=false:=rfl
    simp only[List.length_cons]at hs
    have ht:(((b::t:aj).drop 1).take (((b::t:aj).length:Int).toNat - 1))=t:=by
      rw[Int.toNat_natCast,List.drop_succ_cons,List.drop_zero,List.length_cons,Nat.add_sub_cancel,List.take_length]
    have hg:((b::t:aj).getD 0 0).toNat=b.toNat:=rfl
    rw[km,cond_false,aS (bq (show (0:Int)<((b::t:aj).length:Int) by simp only[List.length_cons]; omega)),
      aS (by rw[bq (show (0:Int)≤((b::t:aj).length:Int) by omega),bq (show ((b::t:aj).length:Int)≤(b::t:aj).length by omega)]; rfl),
      aS (bq (show (1:Int)≤((b::t:aj).length:Int) by simp only[List.length_cons]; omega))]
    simp only[ht,hg]
    have hb:=UInt8.toNat_lt b
    simp only[Sp]
    generalize b.toNat=n at *
    have q:∀m:Nat,((n:Int)==(m:Int))=decide (n=m):=fun m=>by
      by_cases h:n=m
      · subst h; simp
      · have:¬((n:Int)=(m:Int)):=by omega
        simp[h,this]
    have q34:((n:Int)==34)=decide (n=34):=q 34
    have q92:((n:Int)==92)=decide (n=92):=q 92
    have q47:((n:Int)==47)=decide (n=47):=q 47
    have q98:((n:Int)==98)=decide (n=98):=q 98
    have q102:((n:Int)==102)=decide (n=102):=q 102
    have q110:((n:Int)==110)=decide (n=110):=q 110
    have q114:((n:Int)==114)=decide (n=114):=q 114
    have q116:((n:Int)==116)=decide (n=116):=q 116
    have q117:((n:Int)==117)=decide (n=117):=q 117
    simp only[q34,q92,q47,q98,q102,q110,q114,q116,q117,GC (show n<1114112 by omega)]
    by_cases Hs:n=34
    · subst Hs; simp
    by_cases QM:n=92
    · subst QM; simp
    by_cases h47:n=47
    · subst h47; simp
    simp only[Hs,QM,h47,decide_false,cond_false,or_self,if_false]
    by_cases h98:n=98
    · subst h98; simp
    by_cases h102:n=102
    · subst h102; simp
    by_cases h110:n=110
    · subst h110; simp
    by_cases h114:n=114
    · subst h114; simp
    by_cases h116:n=116
    · subst h116; simp
    by_cases h117:n=117
    · subst h117
      have:=long_ok (R:=R) t (by omega) k
      simp only[decide_true,decide_false,cond_true,cond_false,if_true,show ¬((117:Nat)=98) by decide,show ¬((117:Nat)=102) by decide,show ¬((117:Nat)=110) by decide,show ¬((117:Nat)=114) by decide,show ¬((117:Nat)=116) by decide,if_false]
      exact this
    simp only[h98,h102,h110,h114,h116,h117,decide_false,cond_false,if_false]
    exact ⟨t,rfl⟩

def Ft:aj := [48,49,50,51,52,53,54,55,56,57,97,98,99,100,101,102]
def pJ (c:Nat):Nat:=if c=34∨c=92 then c else if c=8 then 98 else if c=12 then 102 else if c=10 then 110 else if c=13 then 114 else if c=9 then 116 else 0
def qc (c:Nat):aj:=if pJ c≠0 then [92,UInt8.ofNat (pJ c)]else if c<32 then [92,117,48,48,Ft.getD (c / 16) 0,Ft.getD (c % 16) 0]else enc c
def Js (rs:List Nat):aj:=rs.flatMap qc
def qt (rs:List Nat):aj:=34::(Js rs ++ [34])

theorem Xj (c:Nat):pJ c<256:=by unfold pJ; (repeat' split) <;> omega
theorem Z9 {R:Type} (c:Nat) (k:Int→Option R):dT (c:Int) k=k (pJ c:Int):=by
  show zF (c:Int) k=_
  unfold zF pJ
  have b:∀n:Nat,((c:Int)==(n:Int))=decide (c=n):=fun n=>by
    by_cases h:c=n
    · subst h; simp
    · have:¬((c:Int)=(n:Int)):=by omega
      simp[h,this]
  have b34:((c:Int)==34)=decide (c=34):=b 34
  have b92:((c:Int)==92)=decide (c=92):=b 92
  have b8:((c:Int)==8)=decide (c=8):=b 8
  have b12:((c:Int)==12)=decide (c=12):=b 12
  have b10:((c:Int)==10)=decide (c=10):=b 10
  have b13:((c:Int)==13)=decide (c=13):=b 13
  have b9:((c:Int)==9)=decide (c=9):=b 9
  rw[b34,b92,b8,b12,b10,b13,b9]
  have w:IntKind.u8.wrap (c:Int)=((c % 256:Nat):Int):=ZZ c
  by_cases Hs:c=34
  · subst Hs; rfl
  by_cases QM:c=92
  · subst QM; rfl
  simp only[Hs,QM,decide_false,cond_false,or_self,if_false]
  by_cases h8:c=8
  · subst h8; rfl
  by_cases h12:c=12
  · subst h12; rfl
  by_cases h10:c=10
  · subst h10; rfl
  by_cases h13:c=13
  · subst h13; rfl
  by_cases h9:c=9
  · subst h9; rfl
  simp[h8,h12,h10,h13,h9]

theorem Sq (s:aj) (pos:Nat):mW s pos=decodeL (s.drop pos):=by
  unfold mW
  exact (decodeL_drop ⟨s.toArray⟩ pos).symm

theorem Sr (rs:List Nat) (c:Nat) (t:List Nat):cV (rs++c::t)=cV rs++(enc c++cV t):=by simp[cV]

theorem hexdig:∀c:Fin 32,(Int.fdiv (c.val:Int) (2 ^ (min 4 IntKind.i32.bits)))=((c.val / 16:Nat):Int)∧IntKind.i32.wrap ((BitVec.ofInt IntKind.i32.bits (c.val:Int) &&& BitVec.ofInt IntKind.i32.bits 15).toNat:Int)=((c.val % 16:Nat):Int):=by decide +kernel

theorem aac {c:Nat} (hv:vr c):(qc c).length≤6:=by
  unfold qc
  split
  · simp
  · split
    · simp
    · have:=zx hv; omega

theorem Ss {R:Type} {x:aj} {pos c:Nat} (hp:pos<x.length) {t:aj} (hd:x.drop pos=enc c++t) (hv:vr c) (o:aj) (ho:o.length≤90000000000) (fy:List Int→aj→Nat→Option R) (e0:List Int→Option R) :
    lA ad dT af ai fy (zs o) x pos e0=fy (zs (o++qc c)) x (pos+(enc c).length):=by
  unfold lA
  have hr:mW x pos=(c,(enc c).length):=by rw[Sq,hd,IS hv]
  rw[hr,bq hp,cond_true]
  simp only
  rw[Z9]
  have Qa:∀z:aj,z.length≤10→Jh (o++z):=fun z hz=>by unfold Jh; rw[List.length_append]; omega
  have aad:Jh o:=by unfold Jh; omega
  by_cases hs:pJ c≠0
  · have e:((pJ c:Int) != 0)=true:=by
      exact bne_iff_ne.2 (by omega)
    rw[e,cond_true]
    have QM:(92:Int)=((92:UInt8).toNat:Int):=rfl
    rw[QM,wb _ o aad]
    have h2:(pJ c:Int)=((UInt8.ofNat (pJ c)).toNat:Int):=by rw[hY _ (Xj c)]
    rw[h2,wb _ _ (Qa [92] (by simp))]
    have:qc c = [92,UInt8.ofNat (pJ c)]:=by unfold qc; rw[if_pos hs]
    rw[this,List.append_assoc]
    rfl
  · have hs0:pJ c=0:=by omega
    have e:((pJ c:Int) != 0)=false:=by rw[hs0]; rfl
    rw[e,cond_false]
    by_cases h32:c<32
    · rw[bq (show (c:Int)<32 by omega),cond_true,ws _ o (by simp) aad]
      obtain ⟨k1,k2⟩:=hexdig ⟨c,h32⟩
      simp only at k1 k2
      rw[k1,k2,aS (by rw[bq (by omega),bq (by omega)]; rfl)]
      rw[Int.toNat_natCast,Int.toNat_natCast,wb _ _ (Qa [92,117,48,48] (by simp)),aS (by rw[bq (by omega),bq (by omega)]; rfl)]
      rw[List.append_assoc o,wb _ _ (Qa _ (by simp))]
      have:qc c = [92,117,48,48,Ft.getD (c / 16) 0,Ft.getD (c % 16) 0]:=by unfold qc; rw[if_neg hs,if_pos h32]
      rw[this,List.append_assoc o]
      rfl
    · rw[dd (show ¬(c:Int)<32 by omega),cond_false]
      obtain ⟨n,hn⟩:=wr hv o aad (fun uT F1=>fy F1 x (pos+(enc c).length))
      rw[hn]
      have:qc c=enc c:=by unfold qc; rw[if_neg hs,if_neg h32]
      rw[this]

theorem Ur {R:Type} (rs:List Nat):∀(n:Nat) (done:List Nat) (o:aj),rs.length<n→(∀c∈rs,vr c)→(∀c∈done,vr c)→o.length+6*rs.length≤80000000000→∀e0:List Int→Option R,
    ck n (zs o) (cV (done++rs)) (cV done).length e0=e0 (zs (o++Js rs)):=by
  induction rs with
  | nil =>
    intro n done o hn _ _ _ e0
    obtain ⟨m,rfl⟩:∃m,n=m+1:=⟨n - 1,by simp at hn; omega⟩
    show lA ad dT af ai _ (zs o) (cV (done ++ [])) (cV done).length e0=_
    unfold lA
    rw[List.append_nil,dd (Nat.lt_irrefl _),cond_false]
    simp[Js]
  | cons c rs ih =>
    intro n done o hn hr hd hl e0
    obtain ⟨m,rfl⟩:∃m,n=m+1:=⟨n - 1,by simp at hn; omega⟩
    have hv:=hr c (by simp)
    have he:=zx hv
    have hq:=aac hv
    simp only[List.length_cons]at hn hl
    show lA ad dT af ai (fun lY lZ mF=>ck m lY lZ mF e0) (zs o) (cV (done++c::rs)) (cV done).length e0=_
    rw[Ss (c:=c) (t:=cV rs) (by rw[Sr,List.length_append,List.length_append]; omega) (by rw[Sr,List.drop_left]) hv o (by omega)]
    have e1:done++c::rs=(done ++ [c])++rs:=by simp
    have e2:(cV done).length+(enc c).length=(cV (done ++ [c])).length:=by rw[J8,List.length_append]
    rw[e1,e2,ih m (done ++ [c]) (o++qc c) (by omega) (fun x hx=>hr x (by simp[hx])) (fun x hx=>by
      rcases List.mem_append.1 hx with h|h
      · exact hd x h
      · simp at h; subst h; exact hv) (by rw[List.length_append]; omega)]
    rw[List.append_assoc]
    rfl

theorem H2:∀(rs:List Nat),(∀c∈rs,vr c)→rs.length≤(cV rs).length∧(cV rs).length≤4*rs.length
  | [],_=>by simp[cV]
  | c::rs,h=>by
    have h1:=zx (h c (by simp))
    have h2:=H2 rs (fun x hx=>h x (by simp[hx]))
    have:cV (c::rs)=enc c++cV rs:=by simp[cV]
    rw[this,List.length_append,List.length_cons]
    omega
theorem Ps:∀(rs:List Nat),(∀c∈rs,vr c)→(Js rs).length≤6*rs.length
  | [],_=>by simp[Js]
  | c::rs,h=>by
    have h1:=aac (h c (by simp))
    have h2:=Ps rs (fun x hx=>h x (by simp[hx]))
    have:Js (c::rs)=qc c++Js rs:=by simp[Js]
    rw[this,List.length_append,List.length_cons]
    omega

theorem quote_ok {R:Type} (rs:List Nat) (hr:∀c∈rs,vr c) (hl:rs.length≤10000000000) (k:aj→Bool→Option R):bU (cV rs) k=k (qt rs) true:=by
  have hc:=H2 rs hr
  have hq:=Ps rs hr
  have hw:gO (cV rs)=true:=BS.2 ⟨rs,hr,rfl⟩
  show sj br ah ad ck (cV rs) k=_
  unfold sj
  have q:∀(x:aj) (f:Bool→Option R),br x f=f (gO x):=fun _ _=>rfl
  have q2:∀(x:Int) (f:List Int→Option R),ah x f=f [x]:=fun _ _=>rfl
  rw[q,hw,Bool.not_true,cond_false,q2]
  have e34:([34]:List Int)=zs [34]:=rfl
  rw[e34]
  have:=Ur (R:=R) rs (List.length (zs [34])+List.length (cV rs)+64) [] [34] (by omega) hr (by simp) (by simp; omega)
  rw[List.nil_append]at this
  have e0:(cV []).length=0:=rfl
  rw[e0]at this
  rw[this]
  have Hs:(34:Int)=((34:UInt8).toNat:Int):=rfl
  rw[Hs,wb _ _ (by unfold Jh; rw[List.length_append]; simp; omega),tW]
  rfl

theorem Xk {R:Type} (s:aj) (h:gO s=false) (k:aj→Bool→Option R):bU s k=k [] false:=by
  show sj br ah ad ck s k=_
  unfold sj
  have q:∀(x:aj) (f:Bool→Option R),br x f=f (gO x):=fun _ _=>rfl
  rw[q,h]
  rfl

def Jt (s:aj):Option (Nat × aj):=if ([92]:aj).isPrefixOf s then Sp (s.drop 1)else EG s
def uq:Nat→aj→aj→Option (aj × aj)
  | 0,_,_=>none
  | n+1,s,o=>if ([34]:aj).isPrefixOf s then some (o,s.drop 1)else match Jt s with|none=>none|some (c,r)=>uq n r (o++enc c)

theorem longP_ok {s r:aj} {c:Nat} (h:Jr s=some (c,r)):vr c∧r.length+4≤s.length:=by
  unfold Jr at h
  split at h
  · cases h
  · rename_i v r1 hu
    obtain ⟨hv,hl,hr⟩:=Cc hu
    split at h
    · cases h
      refine ⟨by unfold vr; omega,?_⟩
      rw[hr,List.length_drop]; omega
    · split at h
      · cases h
      · split at h
        · split at h
          · cases h
          · rename_i w r2 UU
            obtain ⟨hw,Q2,hr2⟩:=Cc UU
            split at h
            · simp only[Option.some.injEq,Prod.mk.injEq]at h
              obtain ⟨hc,rfl⟩:=h
              refine ⟨by unfold vr; omega,?_⟩
              rw[hr2,hr]
              simp only[List.length_drop]
              rw[hr]at Q2
              simp only[List.length_drop]at Q2
              omega
            · cases h
        · cases h

theorem VA {s r:aj} {c:Nat} (h:Sp s=some (c,r)):vr c∧r.length<s.length:=by
  cases s with
  | nil=>cases h
  | cons b t =>
    simp only[Sp]at h
    have hb:=UInt8.toNat_lt b
    split at h
    · cases h; exact ⟨by unfold vr; omega,by simp⟩
    split at h
    · cases h; exact ⟨by unfold vr; omega,by simp⟩
    split at h
    · cases h; exact ⟨by unfold vr; omega,by simp⟩
    split at h
    · cases h; exact ⟨by unfold vr; omega,by simp⟩
    split at h
    · cases h; exact ⟨by unfold vr; omega,by simp⟩
    split at h
    · cases h; exact ⟨by unfold vr; omega,by simp⟩
    split at h
    · obtain ⟨h1,h2⟩:=longP_ok h
      exact ⟨h1,by simp only[List.length_cons]; omega⟩
    · cases h

theorem Pt {s r:aj} {c:Nat} (h:EG s=some (c,r)):vr c∧r.length<s.length:=by
  unfold EG at h
  split at h
  · cases h
  · rename_i km
    split at h
    · cases h
    · split at h
      · cases h
      · cases h
        have h1:=decodeL_width s
        have h2:0<s.length:=List.length_pos_iff.2 km
        exact ⟨Uf s,by rw[List.length_drop]; omega⟩

theorem Ns {s r:aj} {c:Nat} (h:Jt s=some (c,r)):vr c∧r.length<s.length:=by
  unfold Jt at h
  split at h
  · obtain ⟨h1,h2⟩:=VA h
    exact ⟨h1,by rw[List.length_drop]at h2; omega⟩
  · exact Pt h

theorem VB:∀(n m:Nat) (s o:aj),s.length<n→s.length<m→uq n s o=uq m s o
  | 0,_,_,_,h,_=>by omega
  | _+1,0,_,_,_,h=>by omega
  | n+1,m+1,s,o,hn,hm=>by
    unfold uq
    split
    · rfl
    · cases hs:Jt s with
      | none=>rfl
      | some p =>
        obtain ⟨c,r⟩:=p
        obtain ⟨_,h2⟩:=Ns hs
        exact VB n m r _ (by omega) (by omega)

theorem unq_loop {R:Type} (x:aj) (e0:aj→aj→List Int→Option R) (e1:aj→aj→Int→Bool→aj→List Int→Option R):∀(n:Nat) (s o:aj),s.length<n→o.length+4*s.length≤90000000000 →
    (match uq n s o with
     | some (o',r)=>bk n x s (zs o) e0 e1=e0 x r (zs o')
     | none=>∃a b,bk n x s (zs o) e0 e1=e1 x [] 0 false a b):=by
  intro n
  induction n with
  | zero=>intro s o h; omega
  | succ n ih =>
    intro s o h hb
    have hL:bk (n+1) x s (zs o) e0 e1=qs ai aD bt aZ (fun lY lZ mF=>bk n lY lZ mF e0 e1) x s (zs o) e0 e1:=rfl
    rw[hL]
    unfold qs
    rw[LL _ _ (by simp) (by omega)]
    simp only[uq]
    have Qa:Jh o:=by unfold Jh; omega
    by_cases Hs:([34]:aj).isPrefixOf s=true
    · rw[if_pos Hs,if_pos Hs]
      rfl
    · rw[if_neg Hs,if_neg Hs,Bool.not_false,cond_true,LL _ _ (by simp) (by omega)]
      have fin:∀(c:Nat) (r:aj),vr c→r.length<s.length →
          (match uq n r (o++enc c)with
           | some (o',r')=>bk n x r (zs (o++enc c)) e0 e1=e0 x r' (zs o')
           | none=>∃a b,bk n x r (zs (o++enc c)) e0 e1=e1 x [] 0 false a b):=fun c r hv hr=>by
        have:=zx hv
        exact ih r (o++enc c) (by omega) (by rw[List.length_append]; omega)
      unfold Jt
      by_cases QM:([92]:aj).isPrefixOf s=true
      · rw[if_pos QM,if_pos QM]
        have U9:s.drop ([92]:aj).length=s.drop 1:=rfl
        rw[U9,cond_true]
        have hk:=esc_ok (R:=R) (s.drop 1) (by rw[List.length_drop]; omega) (fun wL Aw=>bif (decide (wL<(0:Int)))then (e1 x ([]:aj) 0 false Aw (zs o))else (ai wL (zs o) (fun E0 uT=>bk n x Aw uT e0 e1)))
        cases he:Sp (s.drop 1)with
        | none =>
          rw[he]at hk
          obtain ⟨r,hk⟩:=hk
          exact ⟨r,zs o,hk.trans (by rw[bq (show (-1:Int)<0 by omega),cond_true])⟩
        | some p =>
          obtain ⟨c,r⟩:=p
          rw[he]at hk
          obtain ⟨hv,hr⟩:=VA he
          rw[List.length_drop]at hr
          simp only at hk ⊢
          rw[hk,dd (show ¬(c:Int)<0 by omega),cond_false]
          obtain ⟨q,hq⟩:=wr hv o Qa (fun E0 uT=>bk n x r uT e0 e1)
          rw[hq]
          exact fin c r hv (by omega)
      · rw[if_neg QM,if_neg QM,cond_false]
        have hk:=Z6 (R:=R) s (by omega) (fun F1 GU=>bif (decide (F1<(0:Int)))then (e1 x ([]:aj) 0 false GU (zs o))else (ai F1 (zs o) (fun JE GA=>bk n x GU GA e0 e1)))
        cases he:EG s with
        | none =>
          rw[he]at hk
          simp only at hk ⊢
          exact ⟨s,zs o,hk.trans (by rw[bq (show (-1:Int)<0 by omega),cond_true])⟩
        | some p =>
          obtain ⟨c,r⟩:=p
          rw[he]at hk
          obtain ⟨hv,hr⟩:=Pt he
          simp only at hk ⊢
          rw[hk,dd (show ¬(c:Int)<0 by omega),cond_false]
          obtain ⟨q,hq⟩:=wr hv o Qa (fun JE GA=>bk n x r GA e0 e1)
          rw[hq]
          exact fin c r hv (by omega)

def X4 (s:aj):Option (aj × aj):=if ([34]:aj).isPrefixOf s then uq (s.length+1) (s.drop 1) []else none

theorem Us {R:Type} (s:aj) (hs:s.length≤20000000000) (k:aj→Int→Bool→Option R) :
    eN s k=match X4 s with|some (o,r)=>k o (IntKind.i64.wrap ((s.length:Int) - (r.length:Int))) true|none=>k [] 0 false:=by
  have e:eN s k=vK aD bk s k:=rfl
  rw[e]
  unfold vK X4
  rw[LL _ _ (by simp) (by omega)]
  by_cases Hs:([34]:aj).isPrefixOf s=true
  · rw[if_pos Hs,if_pos Hs,Bool.not_true,cond_false]
    have e1:s.drop ([34]:aj).length=s.drop 1:=rfl
    rw[e1]
    have hd:(s.drop 1).length≤s.length:=by rw[List.length_drop]; omega
    have key:=unq_loop (R:=R) s (fun KR LK Cp=>k (td Cp) (IntKind.i64.wrap ((KR.length:Int) - (LK.length:Int))) true) (fun Sg QI y24 GB Jb Jc=>k QI y24 GB) (List.length s+List.length (s.drop 1)+List.length ([]:List Int)+64) (s.drop 1) [] (by omega) (by simp only[List.length_nil]; omega)
    rw[VB _ (s.length+1) (s.drop 1) [] (by omega) (by omega)]at key
    cases hu:uq (s.length+1) (s.drop 1) []with
    | none =>
      rw[hu]at key
      obtain ⟨a,b,key⟩:=key
      exact key
    | some p =>
      obtain ⟨o,r⟩:=p
      rw[hu]at key
      simp only at key ⊢
      refine Eq.trans key ?_
      rw[tW]
  · rw[if_neg Hs,if_neg Hs]
    rfl

theorem Nt (a b:UInt8) (t:aj):([a]:aj).isPrefixOf (b::t)=(a==b):=by
  simp[List.isPrefixOf]

theorem hex_back:∀c:Fin 32,Jj [48,48,Ft.getD (c.val / 16) 0,Ft.getD (c.val % 16) 0] 0=some c.val:=by decide +kernel

theorem u8_ne {b:UInt8} {n:Nat} (hn:n<256) (h:b.toNat≠n):((UInt8.ofNat n)==b)=false:=by
  rw[beq_eq_false_iff_ne]
  rintro rfl
  rw[hY n hn]at h
  exact h rfl

theorem Xl {c:Nat} (hv:vr c) (h:32≤c) (Hs:c≠34) (QM:c≠92):∃b t,enc c=b::t∧b.toNat≠34∧b.toNat≠92:=by
  have lp:=Pl hv
  rcases DJ hv with ⟨h1,e⟩|⟨h0,h1,e⟩|⟨h0,h1,e⟩|⟨h0,e⟩
  · exact ⟨_,_,e,by rw[hY _ (by omega)]; exact Hs,by rw[hY _ (by omega)]; exact QM⟩
  · exact ⟨_,_,e,by rw[hY _ (by omega)]; omega,by rw[hY _ (by omega)]; omega⟩
  · exact ⟨_,_,e,by rw[hY _ (by omega)]; omega,by rw[hY _ (by omega)]; omega⟩
  · exact ⟨_,_,e,by rw[hY _ (by omega)]; omega,by rw[hY _ (by omega)]; omega⟩

theorem QN (c:Nat):(pJ c=0∧c≠34∧c≠92)∨c=34∨c=92∨c=8∨c=12∨c=10∨c=13∨c=9:=by
  unfold pJ
  by_cases h1:c=34 <;> by_cases h2:c=92 <;> by_cases h3:c=8 <;> by_cases h4:c=12 <;> by_cases h5:c=10 <;> by_cases h6:c=13 <;> by_cases h7:c=9 <;> simp[h1,h2,h3,h4,h5,h6,h7]

theorem qc_hex {c:Nat} (h0:pJ c=0) (h:c<32):qc c = [92,117,48,48,Ft.getD (c / 16) 0,Ft.getD (c % 16) 0]:=by unfold qc; rw[if_neg (by omega),if_pos h]
theorem QO {c:Nat} (h0:pJ c=0) (h:¬c<32):qc c=enc c:=by unfold qc; rw[if_neg (by omega),if_neg h]

theorem step_qc {c:Nat} (hv:vr c) (t:aj):([34]:aj).isPrefixOf (qc c++t)=false∧Jt (qc c++t)=some (c,t):=by
  rcases QN c with ⟨h0,Hs,QM⟩|rfl|rfl|rfl|rfl|rfl|rfl|rfl
  · by_cases h32:c<32
    · rw[qc_hex h0 h32]
      refine ⟨rfl,?_⟩
      have hb:=hex_back ⟨c,h32⟩
      simp only at hb
      show Jr (48::48::Ft.getD (c / 16) 0::Ft.getD (c % 16) 0::t)=some (c,t)
      have hu:E5 (48::48::Ft.getD (c / 16) 0::Ft.getD (c % 16) 0::t)=some (c,t):=by
        unfold E5
        rw[if_neg (by simp only[List.length_cons]; omega)]
        have e:List.take 4 (48::48::Ft.getD (c / 16) 0::Ft.getD (c % 16) 0::t) = [48,48,Ft.getD (c / 16) 0,Ft.getD (c % 16) 0]:=rfl
        rw[e,hb]
        rfl
      unfold Jr
      rw[hu]
      simp only
      rw[if_pos (.inl (by omega))]
    · rw[QO h0 h32]
      obtain ⟨b,u,e,g1,g2⟩:=Xl hv (by omega) Hs QM
      have e2:enc c++t=b::(u++t):=by rw[e]; rfl
      refine ⟨?_,?_⟩
      · rw[e2,Nt]
        exact u8_ne (n:=34) (by omega) g1
      · unfold Jt
        have:([92]:aj).isPrefixOf (enc c++t)=false:=by
          rw[e2,Nt]
          exact u8_ne (n:=92) (by omega) g2
        rw[this]
        simp only[Bool.false_eq_true,if_false]
        unfold EG
        rw[if_neg (ZK hv t),IS hv t]
        simp only
        have hg:=R9 hv t
        unfold Ud at hg
        rw[IS hv t]at hg
        simp only at hg
        rw[if_neg hg,if_neg h32,List.drop_left]
  · exact ⟨rfl,rfl⟩
  · exact ⟨rfl,rfl⟩
  · exact ⟨rfl,rfl⟩
  · exact ⟨rfl,rfl⟩
  · exact ⟨rfl,rfl⟩
  · exact ⟨rfl,rfl⟩
  · exact ⟨rfl,rfl⟩

theorem uq_qc:∀(rs:List Nat),(∀c∈rs,vr c)→∀(n:Nat) (o more:aj),rs.length<n→uq n (Js rs++34::more) o=some (o++cV rs,more)
  | [],_,n,o,more,hn=>by
    obtain ⟨m,rfl⟩:∃m,n=m+1:=⟨n - 1,by simp at hn; omega⟩
    have:Js []++34::more=34::more:=rfl
    rw[this]
    simp[uq,List.isPrefixOf,cV]
  | c::rs,hr,n,o,more,hn=>by
    obtain ⟨m,rfl⟩:∃m,n=m+1:=⟨n - 1,by simp at hn; omega⟩
    have hv:=hr c (by simp)
    have e:Js (c::rs)++34::more=qc c++(Js rs++34::more):=by simp[Js]
    obtain ⟨h1,h2⟩:=step_qc hv (Js rs++34::more)
    rw[e]
    simp only[uq,h1,h2,Bool.false_eq_true,if_false]
    rw[uq_qc rs (fun x hx=>hr x (by simp[hx])) m (o++enc c) more (by simp at hn; omega)]
    simp[cV]

theorem qc_pos {c:Nat} (hv:vr c):1≤(qc c).length:=by
  unfold qc
  split
  · simp
  · split
    · simp
    · exact (zx hv).1
theorem VC:∀(rs:List Nat),(∀c∈rs,vr c)→rs.length≤(Js rs).length
  | [],_=>by simp[Js]
  | c::rs,h=>by
    have h1:=qc_pos (h c (by simp))
    have h2:=VC rs (fun x hx=>h x (by simp[hx]))
    have:Js (c::rs)=qc c++Js rs:=by simp[Js]
    rw[this,List.length_append,List.length_cons]
    omega

theorem uqS_qt (rs:List Nat) (hr:∀c∈rs,vr c) (more:aj):X4 (qt rs++more)=some (cV rs,more):=by
  have e:qt rs++more=34::(Js rs++34::more):=by unfold qt; simp
  have hq:=VC rs hr
  rw[e]
  unfold X4
  rw[Nt]
  simp only[BEq.rfl,if_true,List.drop_succ_cons,List.drop_zero]
  have:=uq_qc rs hr ((34::(Js rs++34::more)).length+1) [] more (by simp only[List.length_cons,List.length_append]; omega)
  rw[this]
  rfl

theorem Su {R:Type} (x:aj) (f:Bool→Option R):br x f=f (gO x):=rfl

theorem Pu {R:Type} (s:aj) (hl:s.length≤10000000000):(∃rs:List Nat,(∀c∈rs,vr c)∧rs.length≤s.length∧s=cV rs∧gO s=true∧∀k:aj→Bool→Option R,bU s k=k (qt rs) true) ∨
    (gO s=false∧∀k:aj→Bool→Option R,bU s k=k [] false):=by
  cases h:gO s with
  | true =>
    obtain ⟨rs,hr,rfl⟩:=BS.1 h
    have:=H2 rs hr
    exact .inl ⟨rs,hr,this.1,rfl,rfl,fun k=>quote_ok rs hr (by omega) k⟩
  | false=>exact .inr ⟨rfl,fun k=>Xk s h k⟩


end Go.Proofs.YtmlkkgfenfdndaaGreatDoor

/-
  Functions of the program as pure Lean functions, and the ties; printed by wip/tools/emit.py.
-/
set_option maxRecDepth 100000
namespace Go.Proofs.YtmlkkgfenfdndaaGreatDoor
open Go Go.ay

end Go.Proofs.YtmlkkgfenfdndaaGreatDoor

/-
  Functions of the program as pure Lean functions, and the ties; printed by wip/tools/emit.py.
-/
set_option maxRecDepth 100000
namespace Go.Proofs.YtmlkkgfenfdndaaGreatDoor
open Go Go.ay

end Go.Proofs.YtmlkkgfenfdndaaGreatDoor

/-
  Functions of the program as pure Lean functions, and the ties; printed by wip/tools/emit.py.
-/
set_option maxRecDepth 100000
namespace Go.Proofs.YtmlkkgfenfdndaaGreatDoor
open Go Go.ay

end Go.Proofs.YtmlkkgfenfdndaaGreatDoor

set_option maxRecDepth 100000
namespace Go.Proofs.YtmlkkgfenfdndaaGreatDoor
open Go Go.ay Go.Lib

def tail (low v n:Nat):Nat:=if v<low∨1114111<v∨(55296≤v∧v≤57343)then 0 else n

end Go.Proofs.YtmlkkgfenfdndaaGreatDoor

/-
  Functions of the program as pure Lean functions, and the ties; printed by wip/tools/emit.py.
-/
set_option maxRecDepth 100000
namespace Go.Proofs.YtmlkkgfenfdndaaGreatDoor
open Go Go.ay

end Go.Proofs.YtmlkkgfenfdndaaGreatDoor

set_option maxRecDepth 100000
namespace Go.Proofs.YtmlkkgfenfdndaaGreatDoor
open Go Go.ay Go.Lib

theorem eqI (n m:Nat):((n:Int)==(m:Int))=decide (n=m):=by
  by_cases h:n=m
  · subst h; simp
  · have:¬((n:Int)=(m:Int)):=by omega
    simp[h,this]

def qb (b:UInt8):aj :=
  if b.toNat=34∨b.toNat=92 then [92,b]else if b.toNat=8 then [92,98]else if b.toNat=9 then [92,116]else if b.toNat=10 then [92,110]else if b.toNat=12 then [92,102]else if b.toNat=13 then [92,114]
  else if b.toNat<32 then [92,117,48,48,Ft.getD (b.toNat / 16) 0,Ft.getD (b.toNat % 16) 0]else [b]

theorem qb_len (b:UInt8):(qb b).length≤6:=by unfold qb; (repeat' split) <;> simp

theorem BA {b:UInt8} (h:128≤b.toNat):qb b = [b]:=by
  unfold qb
  rw[if_neg (by omega),if_neg (by omega),if_neg (by omega),if_neg (by omega),if_neg (by omega),if_neg (by omega),if_neg (by omega)]

theorem qb_enc {c:Nat} (hv:vr c):(enc c).flatMap qb=qc c:=by
  have lp:=Pl hv
  rcases DJ hv with ⟨h1,e⟩|⟨h0,h1,e⟩|⟨h0,h1,e⟩|⟨h0,e⟩
  · rw[e]
    simp only[List.flatMap_cons,List.flatMap_nil,List.append_nil]
    have hu:=hY c (by omega)
    unfold qb qc pJ
    rw[hu]
    by_cases Hs:c=34
    · subst Hs; rfl
    by_cases QM:c=92
    · subst QM; rfl
    by_cases h8:c=8
    · subst h8; rfl
    by_cases h9:c=9
    · subst h9; rfl
    by_cases h10:c=10
    · subst h10; rfl
    by_cases h12:c=12
    · subst h12; rfl
    by_cases h13:c=13
    · subst h13; rfl
    simp only[Hs,QM,h8,h9,h10,h12,h13,or_self,if_false,ne_eq,not_true_eq_false]
    by_cases h32:c<32
    · simp only[h32,if_true]
    · simp only[h32,if_false]
      rw[e]
  · have hq:qc c=enc c:=QO (by unfold pJ; rw[if_neg (by omega),if_neg (by omega),if_neg (by omega),if_neg (by omega),if_neg (by omega),if_neg (by omega)]) (by omega)
    rw[hq,e]
    simp only[List.flatMap_cons,List.flatMap_nil,List.append_nil]
    rw[BA (by rw[hY _ (by omega)]; omega),BA (by rw[hY _ (by omega)]; omega)]; rfl
  · have hq:qc c=enc c:=QO (by unfold pJ; rw[if_neg (by omega),if_neg (by omega),if_neg (by omega),if_neg (by omega),if_neg (by omega),if_neg (by omega)]) (by omega)
    rw[hq,e]
    simp only[List.flatMap_cons,List.flatMap_nil,List.append_nil]
    rw[BA (by rw[hY _ (by omega)]; omega),BA (by rw[hY _ (by omega)]; omega),BA (by rw[hY _ (by omega)]; omega)]; rfl
  · have hq:qc c=enc c:=QO (by unfold pJ; rw[if_neg (by omega),if_neg (by omega),if_neg (by omega),if_neg (by omega),if_neg (by omega),if_neg (by omega)]) (by omega)
    rw[hq,e]
    simp only[List.flatMap_cons,List.flatMap_nil,List.append_nil]
    rw[BA (by rw[hY _ (by omega)]; omega),BA (by rw[hY _ (by omega)]; omega),BA (by rw[hY _ (by omega)]; omega),BA (by rw[hY _ (by omega)]; omega)]; rfl

theorem VD:∀(rs:List Nat),(∀c∈rs,vr c)→(cV rs).flatMap qb=Js rs
  | [],_=>rfl
  | c::rs,h=>by
    have e:cV (c::rs)=enc c++cV rs:=by simp[cV]
    have e2:Js (c::rs)=qc c++Js rs:=by simp[Js]
    rw[e,e2,List.flatMap_append,qb_enc (h c (by simp)),VD rs (fun x hx=>h x (by simp[hx]))]




theorem dec_all (u:Nat):∀b∈decDigits u,48≤b.toNat∧b.toNat≤57:=by
  induction u using Nat.strongRecOn with
  | _ u ih =>
    intro b hb
    by_cases h:u<10
    · rw[decDigits,dif_pos h]at hb
      simp only[List.mem_cons,List.not_mem_nil,or_false]at hb
      subst hb
      rw[hY _ (by omega)]; omega
    · rw[decDigits,dif_neg h]at hb
      rcases List.mem_append.1 hb with hb|hb
      · exact ih (u / 10) (by omega) b hb
      · simp only[List.mem_cons,List.not_mem_nil,or_false]at hb
        subst hb
        rw[hY _ (by omega)]; omega
theorem Pv (u:Nat) (hu:0<u):∃b t,decDigits u=b::t∧b.toNat≠48:=by
  induction u using Nat.strongRecOn with
  | _ u ih =>
    by_cases h:u<10
    · exact ⟨_, [],by rw[decDigits,dif_pos h],by rw[hY _ (by omega)]; omega⟩
    · obtain ⟨b,t,e,hb⟩:=ih (u / 10) (by omega) (by omega)
      exact ⟨b,t ++ [UInt8.ofNat (48+u % 10)],by rw[decDigits,dif_neg h,e]; rfl,hb⟩
theorem dec_last (u:Nat):∃l,decDigits u=l ++ [UInt8.ofNat (48+u % 10)]:=by
  by_cases h:u<10
  · exact ⟨[],by rw[decDigits,dif_pos h,Nat.mod_eq_of_lt h]; rfl⟩
  · exact ⟨decDigits (u / 10),by rw[decDigits,dif_neg h]⟩

theorem tmod_abs {m:Int} (h:Int.tmod m 10≠0):m.natAbs % 10≠0:=by
  intro h2
  apply h
  have e:m=(m / 10)*10:=by omega
  rw[e]
  exact Int.mul_tmod_left _ _


theorem LM (c:UInt8):∀l:aj,Go.Lib.indexByte l c<0↔l.contains c=false
  | []=>by simp[Go.Lib.indexByte]
  | x::l=>by
    have ih:=LM c l
    have hg:=Go.Lib.indexByte_ge l c
    unfold Go.Lib.indexByte
    rw[List.contains_cons]
    by_cases h:x=c
    · subst h; simp
    · have h2:(c==x)=false:=by rw[beq_eq_false_iff_ne]; exact fun e=>h e.symm
      rw[h2,Bool.false_or,←ih]
      split
      · rename_i h3; exact (h (beq_iff_eq.1 h3)).elim
      · split
        · rename_i h4
          have:=beq_iff_eq.1 h4
          omega
        · rename_i h4
          have:¬Go.Lib.indexByte l c = -1:=fun e=>h4 (beq_iff_eq.2 e)
          omega

def qF (DX s:aj):Nat × aj:=match s with | []=>(0, [])|b::t=>if DX.contains b then (b.toNat,t)else (0,b::t)

theorem BB {R:Type} (DX s:aj) (hs:s.length≤4000000000) (k:Int→aj→Option R):aR DX s k=k ((qF DX s).1:Int) (qF DX s).2:=by
  have e:aR DX s k=lE DX s k:=rfl
  rw[e]
  unfold lE
  cases s with
  | nil=>rfl
  | cons b t =>
    simp only[List.length_cons]at hs
    have km:((b::t:aj)==([]:aj))=false:=rfl
    have hg:((b::t:aj).getD 0 0)=b:=rfl
    have hd:((b::t:aj).drop 1).take (((b::t:aj).length:Int).toNat - 1)=t:=by
      rw[Int.toNat_natCast,List.drop_succ_cons,List.drop_zero,List.length_cons,Nat.add_sub_cancel,List.take_length]
    have hi:zw DX ((b.toNat:Nat):Int)=Go.Lib.indexByte DX b:=by
      unfold zw
      rw[Int.toNat_natCast]
      simp
    have hl:(b::t:aj).length=t.length+1:=rfl
    rw[km,cond_false,hg,hd,hi,hl,aS (bq (by omega))]
    unfold qF
    cases hc:DX.contains b with
    | false =>
      rw[bq ((LM b DX).2 hc),cond_true]
      simp only[hc,Bool.false_eq_true,if_false]
      rfl
    | true =>
      have:¬Go.Lib.indexByte DX b<0:=fun h=>by rw[(LM b DX).1 h]at hc; cases hc
      rw[dd this,cond_false,aS (bq (by omega)),aS (by rw[bq (show (0:Int)≤((t.length+1:Nat):Int) by omega),bq (by omega)]; rfl),aS (bq (by omega))]
      simp only[hc,if_true]

def digS:aj := [48,49,50,51,52,53,54,55,56,57]
def nU (b:UInt8):Prop:=48≤b.toNat∧b.toNat≤57
theorem digS_all:∀n:Fin 256,digS.contains (UInt8.ofNat n.val)=decide (48≤n.val∧n.val≤57):=by decide +kernel
theorem QP (b:UInt8):digS.contains b=decide (48≤b.toNat∧b.toNat≤57):=by
  have:=digS_all ⟨b.toNat,UInt8.toNat_lt b⟩
  simpa using this

theorem GD (p:UInt8→Bool):∀(a r:aj),(∀x∈a,p x=true)→(a++r).dropWhile p=r.dropWhile p
  | [],r,_=>rfl
  | x::a,r,h=>by
    rw[List.cons_append,List.dropWhile_cons,h x (by simp),if_pos rfl]
    exact GD p a r fun y hy=>h y (by simp[hy])
theorem H3 (p:UInt8→Bool) (r:aj) (h:∀b t,r=b::t→p b=false):r.dropWhile p=r:=by
  cases r with
  | nil=>rfl
  | cons b t=>rw[List.dropWhile_cons,h b t rfl]; rfl

theorem Kp {R:Type} (a r:aj) (ha:∀x∈a,nU x) (hr:∀b t,r=b::t→¬nU b) (hl:(a++r).length≤4000000000) (k:aj→aj→Option R):aN (a++r) k=k a r:=by
  have e:aN (a++r) k=ki (a++r) k:=rfl
  rw[e]
  unfold ki
  have ht:bD (a++r) ([48,49,50,51,52,53,54,55,56,57]:aj)=r:=by
    unfold bD
    have h1:=GD (fun x=>digS.contains x) a r (fun x hx=>by rw[QP]; exact bq (ha x hx))
    have h2:=H3 (fun x=>digS.contains x) r (fun b t hb=>by rw[QP]; exact dd (hr b t hb))
    exact h1.trans h2
  rw[ht]
  have hlen:(a++r).length=a.length+r.length:=List.length_append
  have hw:IntKind.i64.wrap (((a++r).length:Int) - (r.length:Int))=(a.length:Int):=by rw[hlen,dB (by omega) (by omega)]; omega
  rw[hw,aS (by rfl),aS (by rw[bq (by omega),bq (by omega)]; rfl),aS (bq (by omega)),List.drop_zero,Int.toNat_natCast,Nat.sub_zero,List.take_left]

theorem parse_ok {R:Type} (neg:Bool) (I F X:aj) (pt:Bool) (ev:Int) (hI:∀x∈I,nU x) (hI0:I ≠ []) (hI1:1<I.length→(I.getD 0 0).toNat≠48) (hF:∀x∈F,nU x) (hF0:pt=true→F ≠ []) (hF1:pt=false→F = [])
    (hX:(X = []∧ev=0)∨∃b Y,X=b::Y∧(b=101∨b=69)∧∀f:Int→Bool→aj→Option R,bm Y f=f ev true []) (hev : -1000000≤ev∧ev≤1000000)
    (hlen:((if neg then [45]else [])++(I++((if pt then 46::F else [])++X))).length≤400)
    (hsh:(cY (bD (I++F) [48]) [48]).length≤18) (k:iZ→Bool→Option R) :
    dG ((if neg then [45]else [])++(I++((if pt then 46::F else [])++X))) k =
      bM (if neg then IntKind.i64.wrap (0 - eD (48::cY (bD (I++F) [48]) [48]))else eD (48::cY (bD (I++F) [48]) [48])) (-(F.length:Int)+ev+(((bD (I++F) [48]).length:Int) - ((cY (bD (I++F) [48]) [48]).length:Int))) k:=by
  generalize hS:(if neg then [45]else [])++(I++((if pt then 46::F else [])++X))=s at *
  have e:dG s k=oY bM aR aN bm s k:=rfl
  rw[e]
  unfold oY
  -- the pieces
  obtain ⟨i0,It,hIe⟩:∃b t,I=b::t:=by cases I with|nil=>exact (hI0 rfl).elim|cons b t=>exact ⟨b,t,rfl⟩
  have hi0:=hI i0 (by rw[hIe]; simp)
  have hXh:∀b t,X=b::t→¬nU b∧b.toNat≠46:=by
    intro b t hb
    rcases hX with ⟨rfl,_⟩|⟨c,Y,rfl,hc,_⟩
    · cases hb
    · cases hb
      rcases hc with rfl|rfl <;> exact ⟨by unfold nU; decide,by decide⟩
  have hs1:qF [45] s=(if neg then 45 else 0,I++((if pt then 46::F else [])++X)):=by
    rw[←hS]
    cases neg with
    | true=>rfl
    | false =>
      rw[hIe]
      have:([45]:aj).contains i0=false:=by
        have:i0≠45:=by rintro rfl; exact absurd hi0.1 (by decide)
        simp[this]
      simp only[Bool.false_eq_true,if_false,List.nil_append,List.cons_append,qF,this]
  have hsl:s.length≤400:=hlen
  have Ec:s.length=(if neg then 1 else 0)+(I.length+((if pt then F.length+1 else 0)+X.length)):=by
    rw[←hS]
    cases neg <;> cases pt <;> simp <;> omega
  have hFl:F.length≤400:=by
    cases pt with
    | true=>simp at Ec; omega
    | false=>rw[hF1 rfl]; simp
  have hIl:I.length≤400:=by omega
  have hXl:X.length≤400:=by omega
  rw[BB _ _ (by omega),hs1]
  simp only
  have hPh:∀b t,(if pt then 46::F else [])++X=b::t→¬nU b:=by
    intro b t hb
    cases pt with
    | true=>simp at hb; rw[←hb.1]; unfold nU; decide
    | false=>exact (hXh b t (by simpa using hb)).1
  have Q2:(I++((if pt then 46::F else [])++X)).length≤4000000000:=by
    have:(I++((if pt then 46::F else [])++X)).length=I.length+((if pt then F.length+1 else 0)+X.length):=by cases pt <;> simp <;> omega
    omega
  rw[Kp I _ hI hPh Q2]
  have km:(I==([]:aj))=false:=by rw[beq_eq_false_iff_ne]; exact hI0
  rw[dd (show ¬(s.length:Int)>400 by omega),cond_false,km,cond_false]
  have q48:(((I.getD 0 0).toNat:Int)==48)=decide ((I.getD 0 0).toNat=48):=eqI _ 48
  -- the rest, behind the first test
  have drop1:∀x:Option R,(bif (decide ((I.length:Int)>1))then (cU (decide ((0:Int)<I.length)) (bif (((I.getD 0 0).toNat:Int)==48)then (k ⟨0,0⟩ false)else x))else x)=x:=by
    intro x
    by_cases h:1<I.length
    · rw[bq (show (I.length:Int)>1 by omega),cond_true,aS (bq (by omega)),q48,dd (hI1 h),cond_false]
    · rw[dd (show ¬(I.length:Int)>1 by omega),cond_false]
  rw[drop1]
  generalize hA:I++F=all at *
  have yf:all.length≤800:=by rw[←hA,List.length_append]; omega
  have htl:(bD all [48]).length≤all.length:=xa _ _
  have lone:([48]:aj).length=1:=rfl
  have hc:(([48]:aj)++(cY (bD all ([48]:aj)) ([48]:aj)))=48::cY (bD all [48]) [48]:=rfl
  have hbe:((([]:aj)==([]:aj)))=true:=rfl
  have VE:decide ((48::cY (bD all [48]) [48]:aj).length≤281474976710656)=true:=bq (by simp only[List.length_cons]; omega)
  have w0:IntKind.i64.wrap (((bD all [48]).length:Int) - ((cY (bD all [48]) [48]).length:Int))=((bD all [48]).length:Int) - ((cY (bD all [48]) [48]).length:Int):=dB (by omega) (by omega)
  have q1:decide (1+(cY (bD all [48]) [48]).length≤9223372036854775807)=true:=bq (by omega)
  have q2:decide (((cY (bD all [48]) [48]).length:Int)>18)=false:=dd (by omega)
  have q3:(uf ([48]:aj)&&decide (([48]:aj).length<4294967281))=true:=rfl
  have qn:(((if neg then 45 else 0:Nat):Int) != 0)=neg:=by cases neg <;> rfl
  have sX:qF [101,69] X=match X with | []=>(0, [])|b::Y=>(b.toNat,Y):=by
    rcases hX with ⟨rfl,_⟩|⟨b,Y,rfl,hb,_⟩
    · rfl
    · rcases hb with rfl|rfl <;> rfl
  cases pt with
  | false =>
    have hFe:=hF1 rfl
    subst hFe
    rw[List.append_nil]at hA
    subst hA
    have s46:qF [46] X=(0,X):=by
      rcases hX with ⟨rfl,_⟩|⟨b,Y,rfl,hb,_⟩
      · rfl
      · rcases hb with rfl|rfl <;> rfl
    simp only[Bool.false_eq_true,if_false,List.nil_append]
    rw[BB _ _ (by omega),s46]
    have z0:(((0:Nat):Int) != 0)=false:=rfl
    simp only[z0,cond_false]
    rw[BB _ _ (by omega),sX]
    rcases hX with ⟨rfl,rfl⟩|⟨b,Y,rfl,hb,hE⟩
    · simp only[z0,cond_false,q3,aS rfl,hbe,Bool.not_true,q2,q1,hc,VE,Bool.cond_self,w0,qn]
      rw[dB (n:=0+(((bD I [48]).length:Int) - ((cY (bD I [48]) [48]).length:Int))) (by omega) (by omega)]
      have e0 : -((([]:aj).length:Nat):Int)+0=0:=rfl
      rw[e0]
      cases neg <;> rfl
    · have zb:((b.toNat:Int) != 0)=true:=by rcases hb with rfl|rfl <;> rfl
      simp only[zb,cond_true,hE,Bool.not_true,cond_false,q3,aS rfl,hbe,q2,q1,hc,VE,Bool.cond_self,w0,qn]
      rw[dB (n:=0+ev) (by omega) (by omega),dB (n:=0+ev+(((bD I [48]).length:Int) - ((cY (bD I [48]) [48]).length:Int))) (by omega) (by omega)]
      have e0 : -((([]:aj).length:Nat):Int)+ev=0+ev:=rfl
      rw[e0]
      cases neg <;> rfl
  | true =>
    have hFe:=hF0 rfl
    simp only[if_true,List.cons_append,List.nil_append]
    have s46:qF [46] (46::(F++X))=(46,F++X):=rfl
    have lFX:(F++X).length=F.length+X.length:=List.length_append
    rw[BB _ _ (by simp only[List.length_cons]; omega),s46]
    have z46:(((46:Nat):Int) != 0)=true:=rfl
    have z0:(((0:Nat):Int) != 0)=false:=rfl
    simp only[z46,cond_true]
    rw[Kp F X hF (fun b t hb=>(hXh b t hb).1) (by omega)]
    have hFn:(F==([]:aj))=false:=by rw[beq_eq_false_iff_ne]; exact hFe
    rw[hFn,cond_false,aS (bq (by omega)),hA,dB (n:=0 - (F.length:Int)) (by omega) (by omega)]
    rw[BB _ _ (by omega),sX]
    rcases hX with ⟨rfl,rfl⟩|⟨b,Y,rfl,hb,hE⟩
    · simp only[z0,cond_false,q3,aS rfl,hbe,Bool.not_true,q2,q1,hc,VE,Bool.cond_self,w0,qn]
      rw[dB (n:=0 - (F.length:Int)+(((bD all [48]).length:Int) - ((cY (bD all [48]) [48]).length:Int))) (by omega) (by omega)]
      have e0 : -(F.length:Int)+0=0 - (F.length:Int):=by omega
      rw[e0]
      cases neg <;> rfl
    · have zb:((b.toNat:Int) != 0)=true:=by rcases hb with rfl|rfl <;> rfl
      simp only[zb,cond_true,hE,Bool.not_true,cond_false,q3,aS rfl,hbe,q2,q1,hc,VE,Bool.cond_self,w0,qn]
      rw[dB (n:=0 - (F.length:Int)+ev) (by omega) (by omega),dB (n:=0 - (F.length:Int)+ev+(((bD all [48]).length:Int) - ((cY (bD all [48]) [48]).length:Int))) (by omega) (by omega)]
      have e0 : -(F.length:Int)+ev=0 - (F.length:Int)+ev:=by omega
      rw[e0]
      cases neg <;> rfl

theorem Sv:∀(l r:aj) (acc v:Nat),parseUint10 acc l = .ok v→parseUint10 acc (l++r)=parseUint10 v r
  | [],r,acc,v,h=>by
    simp only[parseUint10]at h
    injection h with h
    subst h
    rfl
  | c::l,r,acc,v,h=>by
    simp only[parseUint10,List.cons_append]at h ⊢
    split at h
    · rename_i h1
      rw[if_pos h1]
      split at h
      · cases h
      · rename_i h2
        rw[if_neg h2]
        split at h
        · cases h
        · rename_i h3
          rw[if_neg h3]
          exact Sv l r _ v h
    · cases h

theorem uint_dec (u:Nat) (hu:u<1000000000000000000):parseUint10 0 (decDigits u) = .ok u:=by
  induction u using Nat.strongRecOn with
  | _ u ih =>
    by_cases h:u<10
    · rw[decDigits,dif_pos h]
      simp only[parseUint10,hY (48+u) (by omega)]
      rw[if_pos (by omega),if_neg (by omega),if_neg (by omega)]
      congr 1
      omega
    · rw[decDigits,dif_neg h,Sv _ _ _ _ (ih (u / 10) (by omega) (by omega))]
      simp only[parseUint10,hY (48+u % 10) (by omega)]
      rw[if_pos (by omega),if_neg (by omega),if_neg (by omega)]
      congr 1
      omega

theorem atoi_dec (u:Nat) (hu:u<1000000000000000000):eD (48::decDigits u)=(u:Int):=by
  have h1:parseMag (48::decDigits u) = .ok u:=by
    unfold parseMag
    rw[if_neg (by simp)]
    have:=uint_dec u hu
    simp only[parseUint10]
    exact this
  have h2:atoiAll (48::decDigits u) = .ok (u:Int):=by
    unfold atoiAll
    simp only
    have e:(if (48:UInt8).toNat=43∨(48:UInt8).toNat=45 then decDigits u else 48::decDigits u)=48::decDigits u:=if_neg (by decide)
    rw[e,h1]
    simp only
    rw[if_neg (by omega),if_neg (fun h=>absurd h.1 (by decide)),if_neg (by decide)]
  unfold eD
  rw[h2]

theorem trimL_z (n:Nat) (r:aj) (hr:∀b t,r=b::t→b≠48):bD (ka n++r) [48]=r:=by
  unfold bD
  rw[GD _ _ _ (fun x hx=>by have:=List.eq_of_mem_replicate hx; subst this; rfl)]
  exact H3 _ _ fun b t hb=>by simp[hr b t hb]

theorem trimR_z (l:aj) (n:Nat) (b:UInt8) (hb:b≠48):cY (l ++ [b]++ka n) [48]=l ++ [b]:=by
  unfold cY
  rw[List.reverse_append,List.reverse_append]
  have e:(ka n).reverse=ka n:=List.reverse_replicate
  rw[e,GD _ _ _ (fun x hx=>by have:=List.eq_of_mem_replicate hx; subst this; rfl)]
  have:List.dropWhile (fun x=>([48]:aj).contains x) (([b]:aj).reverse++l.reverse) = [b]++l.reverse:=H3 _ _ fun c t hc=>by
    have:b=c:=by
      have:=congrArg List.head? hc
      simpa using this
    subst this
    simp[hb]
  rw[this,List.reverse_append,List.reverse_reverse]
  rfl

theorem trims {u:Nat} (hu:u % 10≠0) (a b:Nat):bD (ka a++(decDigits u++ka b)) [48]=decDigits u++ka b∧cY (decDigits u++ka b) [48]=decDigits u:=by
  obtain ⟨x,t,e,hx⟩:=Pv u (by omega)
  obtain ⟨l,hl⟩:=dec_last u
  constructor
  · apply trimL_z
    intro c t' hc
    rw[e]at hc
    have:x=c:=by
      have:=congrArg List.head? hc
      simpa using this
    subst this
    rintro rfl
    exact hx rfl
  · rw[hl]
    apply trimR_z
    intro h
    have:=congrArg UInt8.toNat h
    rw[hY _ (by omega)]at this
    have e48:(48:UInt8).toNat=48:=rfl
    omega

theorem Kq (d:iZ) (hd:Fm d) (h0:d.aB≠0):∃(I F:aj) (pt:Bool) (a b:Nat),Od d=(if decide (d.aB<0)then [45]else [])++(I++(if pt then 46::F else [])) ∧
    I++F=ka a++(decDigits d.aB.natAbs++ka b)∧I ≠ []∧(1<I.length→(I.getD 0 0).toNat≠48)∧(pt=true→F ≠ [])∧(pt=false→F = [])∧(F.length:Int)=(b:Int) - d.exp∧I.length+F.length≤40∧(∀x∈I,nU x)∧(∀x∈F,nU x):=by
  have bd:=hd.bounds
  have yf:=dec_all d.aB.natAbs
  have hlen:(decDigits d.aB.natAbs).length≤16:=by rw[decDigits_length]; exact Ni (by omega)
  have Io:1≤(decDigits d.aB.natAbs).length:=by rw[decDigits_length]; exact nDigits_pos _
  obtain ⟨x0,t0,Ut,hx0⟩:=Pv d.aB.natAbs (by omega)
  have hsg:(if d.aB<0 then ([45]:aj)else [])=if decide (d.aB<0)then [45]else []:=by by_cases h:d.aB<0 <;> simp[h]
  unfold Od
  rw[hsg]
  generalize decDigits d.aB.natAbs=L at *
  by_cases he:0≤d.exp
  · refine ⟨L++ka d.exp.toNat, [],false,0,d.exp.toNat,?_,by simp[ka],?_,fun _ => ?_,by simp,by simp,by simp; omega,?_,?_,by simp⟩
    · unfold body; rw[if_pos he]; simp
    · rw[Ut]; simp
    · rw[Ut]; exact hx0
    · rw[List.length_append,qD,List.length_nil]; omega
    · intro x hx
      rcases List.mem_append.1 hx with hx|hx
      · exact yf x hx
      · have:=List.eq_of_mem_replicate hx
        subst this; unfold nU; decide
  · have hz:∃z:Nat,(max 0 (1 - d.exp - (L.length:Int))).toNat=z:=⟨_,rfl⟩
    obtain ⟨z,hz⟩:=hz
    have tl:(ka z++L).length=z+L.length:=by rw[List.length_append,qD]
    have Q3:(((ka z++L).length:Int)+d.exp).toNat=(ka z++L).length - d.exp.natAbs:=by omega
    have h1:d.exp.natAbs+1≤(ka z++L).length:=by omega
    have tdig:∀x∈ka z++L,nU x:=by
      intro x hx
      rcases List.mem_append.1 hx with hx|hx
      · have:=List.eq_of_mem_replicate hx
        subst this; unfold nU; decide
      · exact yf x hx
    have tfirst:z=0→((ka z++L).getD 0 0).toNat≠48:=by
      rintro rfl
      rw[Ut]
      exact hx0
    refine ⟨(ka z++L).take ((ka z++L).length - d.exp.natAbs),(ka z++L).drop ((ka z++L).length - d.exp.natAbs),true,z,0,?_,?_,?_,?_,fun _ => ?_,(fun h=>by cases h),?_,?_,?_,?_⟩
    · unfold body
      rw[if_neg he]
      simp only[hz,Q3,if_true]
      simp
    · rw[List.take_append_drop]; simp[ka]
    · intro e
      have:=congrArg List.length e
      rw[List.length_take,List.length_nil]at this
      omega
    · intro hI
      rw[List.length_take]at hI
      have e:((ka z++L).take ((ka z++L).length - d.exp.natAbs)).getD 0 0=(ka z++L).getD 0 0:=by
        have:=(Sa (s:=(ka z++L).take ((ka z++L).length - d.exp.natAbs)) (t:=(ka z++L).drop ((ka z++L).length - d.exp.natAbs)) (i:=0) (by rw[List.length_take]; omega)).symm
        rw[List.take_append_drop]at this
        exact this
      rw[e]
      exact tfirst (by omega)
    · intro e
      have:=congrArg List.length e
      rw[List.length_drop,List.length_nil]at this
      omega
    · rw[List.length_drop]; omega
    · rw[List.length_take,List.length_drop]; omega
    · intro x hx; exact tdig x (List.mem_of_mem_take hx)
    · intro x hx; exact tdig x (List.mem_of_mem_drop hx)

theorem Uu {R:Type} (k:iZ→Bool→Option R):dG [48] k=k ⟨0,0⟩ true:=by kernel_rfl
theorem Nu:Od ⟨0,0⟩ = [48]:=by
  show []++body (decDigits 0) 0 = [48]
  rw[decDigits_one (by omega)]
  rfl

theorem Xm {R:Type} {d:iZ} (hd:Fm d) (h0:d.aB≠0) (X:aj) (ev:Int) (hX:(X = []∧ev=0)∨∃b Y,X=b::Y∧(b=101∨b=69)∧∀f:Int→Bool→aj→Option R,bm Y f=f ev true [])
    (hev : -1000000≤ev∧ev≤1000000) (hXl:X.length≤100) (k:iZ→Bool→Option R):dG (Od d++X) k=bM d.aB (d.exp+ev) k:=by
  have bd:=hd.bounds
  obtain ⟨I,F,pt,a,b,e1,e2,i0,i1,f0,f1,fl,il,iD,fD⟩:=Kq d hd h0
  obtain ⟨t1,t2⟩:=trims (u:=d.aB.natAbs) (tmod_abs (hd.nz h0)) a b
  have hlen:(decDigits d.aB.natAbs).length≤16:=by rw[decDigits_length]; exact Ni (by omega)
  have key:=parse_ok (R:=R) (decide (d.aB<0)) I F X pt ev iD i0 i1 fD f0 f1 hX hev (by
    cases Yg:decide (d.aB<0) <;> cases pt <;> simp <;> omega) (by rw[e2,t1,t2]; omega) k
  have e3:Od d++X=(if decide (d.aB<0)then [45]else [])++(I++((if pt then 46::F else [])++X)):=by rw[e1]; simp only[List.append_assoc]
  rw[e3,key,e2,t1,t2,atoi_dec _ (by omega)]
  have e4:(if decide (d.aB<0)=true then IntKind.i64.wrap (0 - (d.aB.natAbs:Int))else (d.aB.natAbs:Int))=d.aB:=by
    by_cases h:d.aB<0
    · rw[if_pos (by rw[bq h]),dB (by omega) (by omega)]; omega
    · rw[if_neg (by rw[dd h]; simp)]; omega
  have e5 : -(F.length:Int)+ev+(((decDigits d.aB.natAbs++ka b).length:Int) - ((decDigits d.aB.natAbs).length:Int))=d.exp+ev:=by
    rw[List.length_append,qD]
    omega
  rw[e4,e5]

theorem Xn {R:Type} {d:iZ} (hd:Fm d) (h0:d.aB≠0) (k:iZ→Bool→Option R):bM d.aB d.exp k=k d true:=by
  have bd:=hd.bounds
  obtain ⟨r,hr,hm⟩:=ZX (R:=R) d.aB d.exp (by unfold D3; omega) (by omega) (by omega)
  have e5:d.aB=d.aB*10 ^ 0:=by simp
  rw[e5]at hr
  rw[hm,Xb hd h0 (j:=0) (x:=d.exp) (by omega) hr]



abbrev isD (b:UInt8):Bool:=digS.contains b
theorem isD_ok (b:UInt8):isD b=decide (48≤b.toNat∧b.toNat≤57):=QP b
abbrev takeD (s:aj):aj:=s.takeWhile isD
abbrev Ge (s:aj):aj:=s.dropWhile isD

theorem Cd (s:aj):∀x∈takeD s,nU x:=fun x hx=>by
  have h:=List.all_takeWhile (l:=s) (p:=isD)
  have:=List.all_eq_true.1 h x hx
  rw[isD_ok]at this
  exact of_decide_eq_true (p:=48≤x.toNat∧x.toNat≤57) this
theorem drop_dig (s:aj):∀b t,Ge s=b::t→¬nU b:=fun b t h hb=>by
  have h2:isD b=false:=by
    have:=List.head?_dropWhile_not isD s
    have e:s.dropWhile isD=b::t:=h
    rw[e]at this
    simpa using this
  rw[isD_ok,bq (p:=48≤b.toNat∧b.toNat≤57) hb]at h2
  cases h2
theorem QQ (s:aj):(takeD s).length≤s.length:=by
  have:=congrArg List.length (List.takeWhile_append_dropWhile (p:=isD) (l:=s))
  rw[List.length_append]at this
  unfold takeD
  omega
theorem Sw (s:aj):(Ge s).length≤s.length:=xa _ _
theorem H4 {R:Type} (s:aj) (hl:s.length≤4000000000) (k:aj→aj→Option R):aN s k=k (takeD s) (Ge s):=by
  have e:takeD s++Ge s=s:=List.takeWhile_append_dropWhile
  have h:=Kp (R:=R) (takeD s) (Ge s) (Cd s) (drop_dig s) (by rw[e]; exact hl) k
  rw[e]at h
  exact h
theorem Ju (g s:aj):(qF g s).2.length≤s.length:=by
  unfold qF
  cases s with
  | nil=>simp
  | cons b t=>simp only; split <;> simp

def r6:aj→Nat→Nat
  | [],v=>v
  | b::s,v=>r6 s (10*v+(b.toNat - 48))
theorem Sx:∀(a b:aj) (v:Nat),r6 (a++b) v=r6 b (r6 a v)
  | [],_,_=>rfl
  | x::a,b,v=>Sx a b _
theorem QR:∀(s:aj) (v:Nat),v*10 ^ s.length≤r6 s v
  | [],v=>by simp[r6]
  | b::s,v=>by
    have:=QR s (10*v+(b.toNat - 48))
    have h2:10*v*10 ^ s.length≤(10*v+(b.toNat - 48))*10 ^ s.length:=Nat.mul_le_mul_right _ (by omega)
    have e:v*10 ^ (b::s).length=10*v*10 ^ s.length:=by rw[List.length_cons,Nat.pow_succ,Nat.mul_comm 10,Nat.mul_assoc,Nat.mul_comm 10]
    simp only[r6]
    omega
theorem Xo (s:aj) (v:Nat):v≤r6 s v:=Nat.le_trans (Nat.le_mul_of_pos_right _ (Nat.pos_of_ne_zero (by simp))) (QR s v)
theorem VF:∀(s:aj) (v:Nat),(∀x∈s,nU x)→r6 s v<(v+1)*10 ^ s.length
  | [],v,_=>by simp[r6]
  | b::s,v,h=>by
    have hb:=h b (by simp)
    unfold nU at hb
    have:=VF s (10*v+(b.toNat - 48)) fun x hx=>h x (by simp[hx])
    have h2:(10*v+(b.toNat - 48)+1)*10 ^ s.length≤((v+1)*10)*10 ^ s.length:=Nat.mul_le_mul_right _ (by omega)
    have e:(v+1)*10 ^ (b::s).length=((v+1)*10)*10 ^ s.length:=by rw[List.length_cons,Nat.pow_succ,Nat.mul_assoc,Nat.mul_comm 10]
    simp only[r6]
    omega

theorem Sy:∀(D:aj) (acc:Nat),(∀x∈D,nU x) →
    (r6 D acc<18446744073709551616→parseUint10 acc D = .ok (r6 D acc))∧(acc<18446744073709551616→18446744073709551616≤r6 D acc→parseUint10 acc D = .range)
  | [],acc,_=>⟨fun _=>rfl,fun h1 h2=>by simp only[r6]at h2; omega⟩
  | b::D,acc,h=>by
    have hb:=h b (by simp)
    unfold nU at hb
    obtain ⟨i1,i2⟩:=Sy D (10*acc+(b.toNat - 48)) fun x hx=>h x (by simp[hx])
    have hs:=Xo D (10*acc+(b.toNat - 48))
    have e:acc*10+(b.toNat - 48)=10*acc+(b.toNat - 48):=by omega
    simp only[r6,parseUint10]
    rw[if_pos hb,e]
    refine ⟨fun h1 => ?_,fun h1 h2 => ?_⟩
    · rw[if_neg (by omega),if_neg (by omega)]
      exact i1 h1
    · by_cases g1:1844674407370955162≤acc
      · rw[if_pos g1]
      · rw[if_neg g1]
        by_cases g2:18446744073709551616≤10*acc+(b.toNat - 48)
        · rw[if_pos g2]
        · rw[if_neg g2]
          exact i2 (by omega) h2

theorem Sz (D:aj) (hD:∀x∈D,nU x) (h0:D ≠ []) :
    (r6 D 0<9223372036854775808→atoiAll D = .ok (r6 D 0:Int))∧(9223372036854775808≤r6 D 0→atoiAll D = .range):=by
  obtain ⟨i1,i2⟩:=Sy D 0 hD
  cases D with
  | nil=>exact (h0 rfl).elim
  | cons b D =>
    have hb:=hD b (by simp)
    unfold nU at hb
    have e:(if b.toNat=43∨b.toNat=45 then D else b::D)=b::D:=if_neg (by omega)
    have m:parseMag (b::D)=parseUint10 0 (b::D):=by unfold parseMag; rw[if_neg (by simp)]
    unfold atoiAll
    simp only
    rw[e,m]
    refine ⟨fun h => ?_,fun h => ?_⟩
    · rw[i1 (by omega)]
      simp only
      rw[if_neg (by omega),if_neg (fun h2=>absurd h2.1 (by omega)),if_neg (by omega)]
    · by_cases h2:r6 (b::D) 0<18446744073709551616
      · rw[i1 h2]
        simp only
        rw[if_pos ⟨by omega,h⟩]
      · rw[i2 (by omega) (by omega)]

def Nv (X:aj):Int × Bool × aj :=
  let q:=qF [43,45] X
  let v:Int:=min (r6 (takeD q.2) 0:Int) 1000000
  (if q.1=45 then -v else v, !(takeD q.2 == []),Ge q.2)

theorem exp_any {R:Type} (X:aj) (hl:X.length≤4000000000) (k:Int→Bool→aj→Option R):bm X k=k (Nv X).1 (Nv X).2.1 (Nv X).2.2:=by
  have e:bm X k=jt aR aN X k:=rfl
  rw[e]
  unfold jt
  have h1:=Ju [43,45] X
  rw[BB _ _ hl]
  unfold Nv
  simp only
  generalize qF [43,45] X=q at *
  rw[H4 _ (by omega)]
  have h2:=QQ q.2
  have hD:=Cd q.2
  generalize takeD q.2=D at *
  generalize Ge q.2=r at *
  have q45:((q.1:Int)==45)=decide (q.1=45):=eqI _ 45
  rw[aS (bq (by omega)),q45]
  by_cases h0:D = []
  · subst h0
    have a1:tf []=false:=rfl
    have a2:eD []=0:=rfl
    rw[a1,a2]
    simp only[cond_false,r6]
    by_cases hq:q.1=45
    · rw[bq hq,if_pos hq]; rfl
    · rw[dd hq,if_neg hq]; rfl
  · have km:(D==([]:aj))=false:=by rw[beq_eq_false_iff_ne]; exact h0
    obtain ⟨i1,i2⟩:=Sz D hD h0
    rw[km]
    simp only[Bool.not_false,cond_true]
    by_cases hv:r6 D 0<9223372036854775808
    · have a1:tf D=true:=by unfold tf; rw[i1 hv]
      have a2:eD D=(r6 D 0:Int):=by unfold eD; rw[i1 hv]
      rw[a1,a2,cond_true]
      by_cases hb:(r6 D 0:Int)>1000000
      · rw[bq hb,cond_true,Int.min_eq_right (by omega)]
        by_cases hq:q.1=45
        · rw[bq hq,if_pos hq]; rfl
        · rw[dd hq,if_neg hq]; rfl
      · rw[dd hb,cond_false,Int.min_eq_left (by omega),dB (by omega) (by omega)]
        by_cases hq:q.1=45
        · rw[bq hq,if_pos hq,cond_true]; congr 1; omega
        · rw[dd hq,if_neg hq,cond_false]
    · have a1:tf D=false:=by unfold tf; rw[i2 (by omega)]
      rw[a1,cond_false,Int.min_eq_right (by omega)]
      by_cases hq:q.1=45
      · rw[bq hq,if_pos hq]; rfl
      · rw[dd hq,if_neg hq]; rfl

theorem Uv (a:aj):∀b t,bD a [48]=b::t→b≠48:=fun b t h hb=>by
  have h2:=List.head?_dropWhile_not (([48]:aj).contains ·) a
  have e:a.dropWhile (([48]:aj).contains ·)=b::t:=h
  rw[e]at h2
  subst hb
  exact absurd (show (([48]:aj).contains 48)=false from h2) (by decide)
theorem Xp (a:aj):∀x∈bD a [48],x∈a:=fun x hx=>(List.dropWhile_sublist _).subset hx
theorem SA (a:aj):cY a [48] = []∨∃l b,cY a [48]=l ++ [b]∧b≠48:=by
  unfold cY
  have h2:=List.head?_dropWhile_not (([48]:aj).contains ·) a.reverse
  cases h:a.reverse.dropWhile (([48]:aj).contains ·)with
  | nil=>exact .inl rfl
  | cons b t =>
    rw[h]at h2
    refine .inr ⟨t.reverse,b,by simp,fun hb => ?_⟩
    subst hb
    exact absurd (show (([48]:aj).contains 48)=false from h2) (by decide)
theorem Pw (a:aj):∃n,a=cY a [48]++ka n:=by
  have h:=List.takeWhile_append_dropWhile (p:=(([48]:aj).contains ·)) (l:=a.reverse)
  have h2:=congrArg List.reverse h
  rw[List.reverse_append,List.reverse_reverse]at h2
  refine ⟨(a.reverse.takeWhile (([48]:aj).contains ·)).length,?_⟩
  have hz:(a.reverse.takeWhile (([48]:aj).contains ·)).reverse=ka (a.reverse.takeWhile (([48]:aj).contains ·)).length:=by
    unfold ka
    rw[List.eq_replicate_iff]
    refine ⟨List.length_reverse,fun x hx => ?_⟩
    have h3:=List.all_takeWhile (l:=a.reverse) (p:=(([48]:aj).contains ·))
    have:=List.all_eq_true.1 h3 x (List.mem_reverse.1 hx)
    simpa using this
  rw[←hz]
  exact h2.symm

def SB (neg:Bool) (all:aj) (x:Int):iZ × Bool :=
  if cY (bD all [48]) [48] = []then (⟨0,0⟩,true)
  else S0 (if neg then -(r6 (cY (bD all [48]) [48]) 0:Int)else (r6 (cY (bD all [48]) [48]) 0:Int)) (x+(((bD all [48]).length:Int) - ((cY (bD all [48]) [48]).length:Int)))

theorem make_min {R:Type} (m x:Int) (k:iZ→Bool→Option R):bM m x k=bM m (min x 1000000) k:=by
  have e:∀x,bM m x k=oA aY bx m x k:=fun _=>rfl
  rw[e,e]
  unfold oA
  have:min (min x 1000000) 1000000=min x 1000000:=by omega
  rw[this]
theorem mkD_min (u x:Int):S0 u (min x 1000000)=S0 u x:=by
  unfold S0
  by_cases h:x≤1000000
  · rw[Int.min_eq_left h]
  · rw[if_neg (by omega),if_neg (by omega)]
theorem Px {R:Type} (u x:Int) (hu:Int.tmod u 10≠0) (hb:D3 u) (hx : -9223372036854775808≤x) (k:iZ→Bool→Option R):bM u x k=k (S0 u x).1 (S0 u x).2:=by
  rw[make_min,←mkD_min u x]
  have:=Vu (R:=R) u 0 (min x 1000000) hu (by simpa using hb) (by omega) (by omega) k
  simpa using this

theorem KS (all:aj) (h:∀x∈all,nU x) (h0:cY (bD all [48]) [48] ≠ []) :
    (∀x∈cY (bD all [48]) [48],nU x)∧r6 (cY (bD all [48]) [48]) 0 % 10≠0∧10 ^ ((cY (bD all [48]) [48]).length - 1)≤r6 (cY (bD all [48]) [48]) 0:=by
  obtain ⟨n,hn⟩:=Pw (bD all [48])
  have hd:∀x∈cY (bD all [48]) [48],nU x:=fun x hx=>h x (Xp _ _ (by rw[hn]; simp[hx]))
  refine ⟨hd,?_,?_⟩
  · rcases SA (bD all [48])with e|⟨l,b,e,hb⟩
    · exact (h0 e).elim
    · have hbd:=hd b (by rw[e]; simp)
      rw[e,Sx]
      simp only[r6]
      unfold nU at hbd
      have:b.toNat≠48:=fun h=>hb (UInt8.toNat_inj.1 h)
      omega
  · cases e:cY (bD all [48]) [48]with
    | nil=>exact (h0 e).elim
    | cons b t =>
      have hb:b≠48:=Uv all b (t++ka n) (by rw[hn,e]; rfl)
      have hbd:=hd b (by rw[e]; simp)
      unfold nU at hbd
      have X2:b.toNat≠48:=fun h=>hb (UInt8.toNat_inj.1 h)
      have:=QR t (10*0+(b.toNat - 48))
      have h2:1*10 ^ t.length≤(10*0+(b.toNat - 48))*10 ^ t.length:=Nat.mul_le_mul_right _ (by omega)
      simp only[r6,List.length_cons,Nat.add_sub_cancel]
      omega

theorem mkD_far {u:Int} (x:Int) (h:1000000000000000<u.natAbs):S0 u x=(⟨0,0⟩,false):=by
  unfold S0
  rw[if_neg (by omega)]

theorem fin_ok {R:Type} (y2:Int) (wc:aj) (Q4:Int) (z20:aj) (h:∀x∈wc,nU x) (hl:wc.length≤1000) (hx : -2000000≤Q4∧Q4≤2000000) (k0:iZ→Bool→Option R) :
    (cU (uf ([48]:aj)&&decide (([48]:aj).length<4294967281)) (cU (uf ([48]:aj)&&decide (([48]:aj).length<4294967281)) (bif (!(z20==([]:aj)))then (k0 (⟨0,0⟩:iZ) false)else (bif (decide (((cY (bD wc ([48]:aj)) ([48]:aj)).length:Int)>(18:Int)))then (k0 (⟨0,0⟩:iZ) false)else (cU (decide (1+(cY (bD wc ([48]:aj)) ([48]:aj)).length≤9223372036854775807)) (cU (decide ((([48]:aj)++(cY (bD wc ([48]:aj)) ([48]:aj))).length≤281474976710656)) (bif tf (([48]:aj)++(cY (bD wc ([48]:aj)) ([48]:aj)))then (bif (y2 != 0)then (bM (IntKind.i64.wrap (0 - (eD (([48]:aj)++(cY (bD wc ([48]:aj)) ([48]:aj)))))) (IntKind.i64.wrap (Q4+(IntKind.i64.wrap (((bD wc ([48]:aj)).length:Int) - ((cY (bD wc ([48]:aj)) ([48]:aj)).length:Int))))) (fun GB Jb=>k0 GB Jb))else (bM (eD (([48]:aj)++(cY (bD wc ([48]:aj)) ([48]:aj)))) (IntKind.i64.wrap (Q4+(IntKind.i64.wrap (((bD wc ([48]:aj)).length:Int) - ((cY (bD wc ([48]:aj)) ([48]:aj)).length:Int))))) (fun Jc JF=>k0 Jc JF)))else (bif (y2 != 0)then (bM (IntKind.i64.wrap (0 - (eD (([48]:aj)++(cY (bD wc ([48]:aj)) ([48]:aj)))))) (IntKind.i64.wrap (Q4+(IntKind.i64.wrap (((bD wc ([48]:aj)).length:Int) - ((cY (bD wc ([48]:aj)) ([48]:aj)).length:Int))))) (fun GB Jb=>k0 GB Jb))else (bM (eD (([48]:aj)++(cY (bD wc ([48]:aj)) ([48]:aj)))) (IntKind.i64.wrap (Q4+(IntKind.i64.wrap (((bD wc ([48]:aj)).length:Int) - ((cY (bD wc ([48]:aj)) ([48]:aj)).length:Int))))) (fun Jc JF=>k0 Jc JF)))))))))) =
    if z20 = []then k0 (SB (y2 != 0) wc Q4).1 (SB (y2 != 0) wc Q4).2 else k0 ⟨0,0⟩ false:=by
  have q3:(uf ([48]:aj)&&decide (([48]:aj).length<4294967281))=true:=rfl
  have htl:(bD wc [48]).length≤wc.length:=xa _ _
  obtain ⟨n,hn⟩:=Pw (bD wc [48])
  have htr:(bD wc [48]).length=(cY (bD wc [48]) [48]).length+n:=by have:=congrArg List.length hn; rw[List.length_append,qD]at this; exact this
  rw[q3,aS rfl,aS rfl]
  by_cases hz:z20 = []
  · subst hz
    have hbe:((([]:aj)==([]:aj)))=true:=rfl
    rw[hbe,if_pos rfl]
    simp only[Bool.not_true,cond_false]
    have w0:IntKind.i64.wrap (((bD wc [48]).length:Int) - ((cY (bD wc [48]) [48]).length:Int))=((bD wc [48]).length:Int) - ((cY (bD wc [48]) [48]).length:Int):=dB (by omega) (by omega)
    have w1:IntKind.i64.wrap (Q4+(((bD wc [48]).length:Int) - ((cY (bD wc [48]) [48]).length:Int)))=Q4+(((bD wc [48]).length:Int) - ((cY (bD wc [48]) [48]).length:Int)):=dB (by omega) (by omega)
    rw[w0,w1,aS (bq (by omega)),aS (bq (by simp only[List.length_append,List.length_cons,List.length_nil]; omega)),Bool.cond_self]
    unfold SB
    have hc:(([48]:aj)++(cY (bD wc ([48]:aj)) ([48]:aj)))=48::cY (bD wc [48]) [48]:=rfl
    rw[hc]
    by_cases h0:cY (bD wc [48]) [48] = []
    · rw[h0,if_pos rfl]
      have a0:eD (48::([]:aj))=0:=by decide +kernel
      have a1:decide (((([]:aj)).length:Int)>18)=false:=rfl
      have a2:IntKind.i64.wrap (0 - 0)=0:=by decide
      rw[a0,a1,cond_false,a2,Pq,Bool.cond_self]
    · rw[if_neg h0]
      obtain ⟨f1,f2,f3⟩:=KS wc h h0
      have hX : -3000000≤Q4+(((bD wc [48]).length:Int) - ((cY (bD wc [48]) [48]).length:Int)):=by omega
      generalize cY (bD wc [48]) [48]=sh at *
      generalize (Q4+(((bD wc [48]).length:Int) - (sh.length:Int)))=X at *
      have Io:1≤sh.length:=by cases sh with|nil=>exact (h0 rfl).elim|cons _ _=>simp
      by_cases h18:sh.length≤18
      · rw[dd (show ¬(sh.length:Int)>18 by omega),cond_false]
        have lp:=VF sh 0 f1
        have hp:(10:Nat) ^ sh.length≤10 ^ 18:=Nat.pow_le_pow_right (by omega) h18
        have e18:(10:Nat) ^ 18=1000000000000000000:=rfl
        have v48:r6 (48::sh) 0=r6 sh 0:=rfl
        have ha:eD (48::sh)=(r6 sh 0:Int):=by
          obtain ⟨i1,_⟩:=Sz (48::sh) (fun x hx=>by rcases List.mem_cons.1 hx with rfl|hx; (unfold nU; decide); exact f1 x hx) (by simp)
          unfold eD
          rw[i1 (by rw[v48]; omega),v48]
        rw[ha]
        have hm:Int.tmod (r6 sh 0:Int) 10≠0:=by rw[Int.tmod_eq_emod_of_nonneg (by omega)]; omega
        cases hy:(y2 != 0)with
        | true =>
          rw[cond_true,if_pos rfl,dB (by omega) (by omega)]
          have e0:(0 - (r6 sh 0:Int)) = -(r6 sh 0:Int):=by omega
          rw[e0]
          exact Px _ _ (tmod_neg hm) (by unfold D3; omega) (by omega) _
        | false =>
          rw[cond_false,if_neg (by simp)]
          exact Px _ _ hm (by unfold D3; omega) (by omega) _
      · rw[bq (show (sh.length:Int)>18 by omega),cond_true]
        have hp:(10:Nat) ^ 18≤10 ^ (sh.length - 1):=Nat.pow_le_pow_right (by omega) (by omega)
        have e18:(10:Nat) ^ 18=1000000000000000000:=rfl
        rw[mkD_far _ (by split <;> omega)]
  · have hbe:(z20==([]:aj))=false:=by rw[beq_eq_false_iff_ne]; exact hz
    rw[hbe,if_neg hz]
    rfl

def noD:iZ × Bool:=(⟨0,0⟩,false)
def tailD (neg:Bool) (all:aj) (x:Int) (X:aj):iZ × Bool :=
  if (qF [101,69] X).1=0 then (if (qF [101,69] X).2 = []then SB neg all x else noD)
  else if (Nv (qF [101,69] X).2).2.1=false then noD
  else if (Nv (qF [101,69] X).2).2.2 = []then SB neg all (x+(Nv (qF [101,69] X).2).1)else noD

def xN (s:aj):iZ × Bool :=
  let q:=qF [45] s
  let I:=takeD q.2
  let r:=Ge q.2
  if 400<s.length then noD else if I = []then noD else if 1<I.length∧(I.getD 0 0).toNat=48 then noD
  else if (qF [46] r).1=0 then tailD (q.1 != 0) I 0 (qF [46] r).2
  else if takeD (qF [46] r).2 = []then noD
  else tailD (q.1 != 0) (I++takeD (qF [46] r).2) (-((takeD (qF [46] r).2).length:Int)) (Ge (qF [46] r).2)

theorem expP_lim (X:aj) : -1000000≤(Nv X).1∧(Nv X).1≤1000000:=by
  unfold Nv
  simp only
  split <;> omega

theorem neN (n:Nat):(((n:Nat):Int) != 0)=(n != 0):=by
  cases n with
  | zero=>rfl
  | succ n=>rw[bne_iff_ne.2 (by omega),bne_iff_ne.2 (by omega)]

theorem SC {R:Type} (q:Nat) (all:aj) (x:Int) (X:aj) (ha:∀c∈all,nU c) (hl:all.length≤900) (h1 : -1000≤x) (h2:x≤0) (hX:X.length≤1000) (k:iZ→Bool→Option R) :
    aR ([101,69]:aj) X (fun uT F1=>bif (uT != 0)then (bm F1 (fun GU JE GA=>bif (!JE)then (k (⟨0,0⟩:iZ) false)else (cU (uf ([48]:aj)&&decide (([48]:aj).length<4294967281)) (cU (uf ([48]:aj)&&decide (([48]:aj).length<4294967281)) (bif (!(GA==([]:aj)))then (k (⟨0,0⟩:iZ) false)else (bif (decide (((cY (bD all ([48]:aj)) ([48]:aj)).length:Int)>(18:Int)))then (k (⟨0,0⟩:iZ) false)else (cU (decide (1+(cY (bD all ([48]:aj)) ([48]:aj)).length≤9223372036854775807)) (cU (decide ((([48]:aj)++(cY (bD all ([48]:aj)) ([48]:aj))).length≤281474976710656)) (bif tf (([48]:aj)++(cY (bD all ([48]:aj)) ([48]:aj)))then (bif ((q:Int) != 0)then (bM (IntKind.i64.wrap (0 - (eD (([48]:aj)++(cY (bD all ([48]:aj)) ([48]:aj)))))) (IntKind.i64.wrap ((IntKind.i64.wrap (x+GU))+(IntKind.i64.wrap (((bD all ([48]:aj)).length:Int) - ((cY (bD all ([48]:aj)) ([48]:aj)).length:Int))))) (fun GB Jb=>k GB Jb))else (bM (eD (([48]:aj)++(cY (bD all ([48]:aj)) ([48]:aj)))) (IntKind.i64.wrap ((IntKind.i64.wrap (x+GU))+(IntKind.i64.wrap (((bD all ([48]:aj)).length:Int) - ((cY (bD all ([48]:aj)) ([48]:aj)).length:Int))))) (fun Jc JF=>k Jc JF)))else (bif ((q:Int) != 0)then (bM (IntKind.i64.wrap (0 - (eD (([48]:aj)++(cY (bD all ([48]:aj)) ([48]:aj)))))) (IntKind.i64.wrap ((IntKind.i64.wrap (x+GU))+(IntKind.i64.wrap (((bD all ([48]:aj)).length:Int) - ((cY (bD all ([48]:aj)) ([48]:aj)).length:Int))))) (fun GB Jb=>k GB Jb))else (bM (eD (([48]:aj)++(cY (bD all ([48]:aj)) ([48]:aj)))) (IntKind.i64.wrap ((IntKind.i64.wrap (x+GU))+(IntKind.i64.wrap (((bD all ([48]:aj)).length:Int) - ((cY (bD all ([48]:aj)) ([48]:aj)).length:Int))))) (fun Jc JF=>k Jc JF))))))))))))else (cU (uf ([48]:aj)&&decide (([48]:aj).length<4294967281)) (cU (uf ([48]:aj)&&decide (([48]:aj).length<4294967281)) (bif (!(F1==([]:aj)))then (k (⟨0,0⟩:iZ) false)else (bif (decide (((cY (bD all ([48]:aj)) ([48]:aj)).length:Int)>(18:Int)))then (k (⟨0,0⟩:iZ) false)else (cU (decide (1+(cY (bD all ([48]:aj)) ([48]:aj)).length≤9223372036854775807)) (cU (decide ((([48]:aj)++(cY (bD all ([48]:aj)) ([48]:aj))).length≤281474976710656)) (bif tf (([48]:aj)++(cY (bD all ([48]:aj)) ([48]:aj)))then (bif ((q:Int) != 0)then (bM (IntKind.i64.wrap (0 - (eD (([48]:aj)++(cY (bD all ([48]:aj)) ([48]:aj)))))) (IntKind.i64.wrap (x+(IntKind.i64.wrap (((bD all ([48]:aj)).length:Int) - ((cY (bD all ([48]:aj)) ([48]:aj)).length:Int))))) (fun GB Jb=>k GB Jb))else (bM (eD (([48]:aj)++(cY (bD all ([48]:aj)) ([48]:aj)))) (IntKind.i64.wrap (x+(IntKind.i64.wrap (((bD all ([48]:aj)).length:Int) - ((cY (bD all ([48]:aj)) ([48]:aj)).length:Int))))) (fun Jc JF=>k Jc JF)))else (bif ((q:Int) != 0)then (bM (IntKind.i64.wrap (0 - (eD (([48]:aj)++(cY (bD all ([48]:aj)) ([48]:aj)))))) (IntKind.i64.wrap (x+(IntKind.i64.wrap (((bD all ([48]:aj)).length:Int) - ((cY (bD all ([48]:aj)) ([48]:aj)).length:Int))))) (fun GB Jb=>k GB Jb))else (bM (eD (([48]:aj)++(cY (bD all ([48]:aj)) ([48]:aj)))) (IntKind.i64.wrap (x+(IntKind.i64.wrap (((bD all ([48]:aj)).length:Int) - ((cY (bD all ([48]:aj)) ([48]:aj)).length:Int))))) (fun Jc JF=>k Jc JF)))))))))))=k (tailD (q != 0) all x X).1 (tailD (q != 0) all x X).2:=by
  rw[BB _ _ (by omega)]
  unfold tailD
  have l5:=Ju [101,69] X
  generalize qF [101,69] X=g at *
  rw[neN]
  by_cases hg:g.1=0
  · rw[if_pos hg,hg]
    simp only[bne_self_eq_false,cond_false]
    rw[fin_ok _ _ _ _ ha (by omega) (by omega),neN]
    split <;> rfl
  · rw[if_neg hg,bne_iff_ne.2 hg,cond_true,exp_any _ (by omega)]
    have Qa:=expP_lim g.2
    generalize Nv g.2=z at *
    rw[dB (n:=x+z.1) (by omega) (by omega)]
    cases hz:z.2.1 with
    | false=>rfl
    | true =>
      rw[Bool.not_true,cond_false,fin_ok _ _ _ _ ha (by omega) (by omega),neN,if_neg (show ¬(true=false) by simp)]
      split <;> rfl

theorem Py {R:Type} (s:aj) (hs:s.length≤4000000000) (k:iZ→Bool→Option R):dG s k=k (xN s).1 (xN s).2:=by
  have e:dG s k=oY bM aR aN bm s k:=rfl
  rw[e]
  unfold oY
  have l1:=Ju [45] s
  rw[BB _ _ hs]
  unfold xN
  simp only
  generalize qF [45] s=q at *
  rw[H4 _ (by omega)]
  have l2:=QQ q.2
  have l3:=Sw q.2
  have dI:=Cd q.2
  generalize takeD q.2=I at *
  generalize Ge q.2=r at *
  by_cases h400:400<s.length
  · rw[bq (show (s.length:Int)>400 by omega),cond_true,if_pos h400]
    rfl
  rw[dd (show ¬(s.length:Int)>400 by omega),cond_false,if_neg h400]
  by_cases hI:I = []
  · subst hI
    rw[if_pos rfl]
    rfl
  have km:(I==([]:aj))=false:=by rw[beq_eq_false_iff_ne]; exact hI
  rw[km,cond_false,if_neg hI]
  have Io:1≤I.length:=by cases I with|nil=>exact (hI rfl).elim|cons _ _=>simp
  have q48:(((I.getD 0 0).toNat:Int)==48)=decide ((I.getD 0 0).toNat=48):=eqI _ 48
  rw[aS (bq (show (0:Int)<I.length by omega)),q48]
  by_cases X2:1<I.length∧(I.getD 0 0).toNat=48
  · rw[if_pos X2,bq (show (I.length:Int)>1 by omega),bq X2.2]
    rfl
  rw[if_neg X2]
  have cut:∀x:Option R,(bif decide ((I.length:Int)>1)then (bif decide ((I.getD 0 0).toNat=48)then k ⟨0,0⟩ false else x)else x)=x:=fun x=>by
    by_cases h1:1<I.length
    · rw[bq (show (I.length:Int)>1 by omega),dd (fun h=>X2 ⟨h1,h⟩)]; rfl
    · rw[dd (show ¬(I.length:Int)>1 by omega)]; rfl
  rw[cut]
  rw[BB _ _ (by omega)]
  have l4:=Ju [46] r
  generalize qF [46] r=p at *
  rw[neN]
  by_cases hp:p.1=0
  · rw[if_pos hp,hp]
    simp only[bne_self_eq_false,cond_false]
    exact SC q.1 I 0 p.2 dI (by omega) (by omega) (by omega) (by omega) k
  · rw[if_neg hp,bne_iff_ne.2 hp,cond_true,H4 _ (by omega)]
    have l5:=QQ p.2
    have l6:=Sw p.2
    have dF:=Cd p.2
    generalize takeD p.2=F at *
    generalize Ge p.2=Y at *
    by_cases hF:F = []
    · subst hF
      rw[if_pos rfl]
      rfl
    have km:(F==([]:aj))=false:=by rw[beq_eq_false_iff_ne]; exact hF
    rw[km,cond_false,if_neg hF,aS (bq (by omega)),dB (n:=0 - (F.length:Int)) (by omega) (by omega)]
    have e0:(0:Int) - (F.length:Int) = -(F.length:Int):=by omega
    rw[e0]
    exact SC q.1 (I++F) (-(F.length:Int)) Y (fun c hc=>(List.mem_append.1 hc).elim (dI c) (dF c)) (by rw[List.length_append]; omega) (by omega) (by omega) (by omega) k

theorem Xq {s r:aj} {c:Nat} (h:Jr s=some (c,r)):r <:+ s:=by
  unfold Jr at h
  split at h
  · cases h
  · rename_i v r1 hu
    obtain ⟨_,_,hr⟩:=Cc hu
    have s1:r1 <:+ s:=by rw[hr]; exact List.drop_suffix _ _
    split at h
    · cases h; exact s1
    · split at h
      · cases h
      · split at h
        · split at h
          · cases h
          · rename_i w r2 UU
            obtain ⟨_,_,hr2⟩:=Cc UU
            split at h
            · simp only[Option.some.injEq,Prod.mk.injEq]at h
              obtain ⟨_,rfl⟩:=h
              rw[hr2]
              exact ((List.drop_suffix _ _).trans (List.drop_suffix _ _)).trans s1
            · cases h
        · cases h
theorem escP_sfx {s r:aj} {c:Nat} (h:Sp s=some (c,r)):r <:+ s:=by
  cases s with
  | nil=>cases h
  | cons b t =>
    have st:t <:+ b::t:=List.suffix_cons b t
    simp only[Sp]at h
    split at h
    · cases h; exact st
    split at h
    · cases h; exact st
    split at h
    · cases h; exact st
    split at h
    · cases h; exact st
    split at h
    · cases h; exact st
    split at h
    · cases h; exact st
    split at h
    · exact (Xq h).trans st
    · cases h
theorem Uw {s r:aj} {c:Nat} (h:EG s=some (c,r)):r <:+ s:=by
  unfold EG at h
  split at h
  · cases h
  split at h
  · cases h
  split at h
  · cases h
  simp only[Option.some.injEq,Prod.mk.injEq]at h
  rw[←h.2]
  exact List.drop_suffix _ _
theorem Xr {s r:aj} {c:Nat} (h:Jt s=some (c,r)):r <:+ s:=by
  unfold Jt at h
  split at h
  · exact (escP_sfx h).trans (List.drop_suffix _ _)
  · exact Uw h
theorem uq_sfx:∀(n:Nat) (s o o' r:aj),uq n s o=some (o',r)→r <:+ s∧r.length<s.length∧∃rs:List Nat,(∀c∈rs,vr c)∧o'=o++cV rs
  | 0,_,_,_,_,h=>by cases h
  | n+1,s,o,o',r,h=>by
    simp only[uq]at h
    split at h
    · rename_i Hs
      simp only[Option.some.injEq,Prod.mk.injEq]at h
      obtain ⟨rfl,rfl⟩:=h
      refine ⟨List.drop_suffix _ _,?_, [],by simp,by simp[cV]⟩
      cases s with
      | nil=>cases Hs
      | cons b t=>simp
    · split at h
      · cases h
      · rename_i c r1 hs
        obtain ⟨h1,h2,rs,h3,h4⟩:=uq_sfx n r1 (o++enc c) o' r h
        obtain ⟨hv,hl⟩:=Ns hs
        refine ⟨h1.trans (Xr hs),by omega,c::rs,fun x hx => ?_,?_⟩
        · rcases List.mem_cons.1 hx with rfl|hx
          · exact hv
          · exact h3 x hx
        · rw[h4]; simp[cV]
theorem QS {s o r:aj} (h:X4 s=some (o,r)):r <:+ s∧r.length+1<s.length∧∃rs:List Nat,(∀c∈rs,vr c)∧o=cV rs:=by
  unfold X4 at h
  split at h
  · rename_i Hs
    obtain ⟨h1,h2,rs,h3,h4⟩:=uq_sfx _ _ _ _ _ h
    refine ⟨h1.trans (List.drop_suffix _ _),?_,rs,h3,by simpa using h4⟩
    rw[List.length_drop]at h2
    omega
  · cases h
theorem sfx_drop {s r:aj} (h:r <:+ s):r=s.drop (s.length - r.length):=by
  obtain ⟨t,rfl⟩:=h
  rw[List.length_append,Nat.add_sub_cancel,List.drop_left]

def numS:aj := [48,49,50,51,52,53,54,55,56,57,43,45,46,101,69]
def letS:aj := [97,98,99,100,101,102,103,104,105,106,107,108,109,110,111,112,113,114,115,116,117,118,119,120,121,122]
def blaS:aj := [32,9,10,13]
def Ux:aj := [123,125,91,93,44,58]
def Af (b:UInt8):Bool:=numS.contains b
def yZ (b:UInt8):Bool:=letS.contains b
def qM (b:UInt8):Bool:=blaS.contains b
def H5 (b:UInt8):Bool:=Ux.contains b
def sL:aj := [116,114,117,101]
def lF:aj := [102,97,108,115,101]
def pq:aj := [110,117,108,108]

def tokS (s:aj):Option (Token × aj) :=
  match s with
  | []=>none
  | c::t =>
    if c.toNat=45∨(48≤c.toNat∧c.toNat≤57)then
      (if (xN (s.takeWhile Af)).2 then some (⟨3,s.takeWhile Af,(xN (s.takeWhile Af)).1,0⟩,s.dropWhile Af)else none)
    else if c.toNat=34 then (match X4 s with|some (o,r)=>some (⟨2,o,⟨0,0⟩,0⟩,r)|none=>none)
    else if H5 c then some (⟨1, [c],⟨0,0⟩,0⟩,t)
    else if s.takeWhile yZ=sL∨s.takeWhile yZ=lF∨s.takeWhile yZ=pq then some (⟨4,s.takeWhile yZ,⟨0,0⟩,0⟩,s.dropWhile yZ)
    else none

theorem tw_nil {p:UInt8→Bool} {c:UInt8} {t:aj} (h:p c=true):((c::t).dropWhile p).length<(c::t:aj).length:=by
  rw[List.dropWhile_cons,if_pos h]
  have:=xa p t
  simp only[List.length_cons]
  omega

theorem tokS_sfx {s r:aj} {t:Token} (h:tokS s=some (t,r)):r <:+ s∧r.length<s.length:=by
  cases s with
  | nil=>cases h
  | cons c u =>
    simp only[tokS]at h
    split at h
    · rename_i hc
      split at h
      · simp only[Option.some.injEq,Prod.mk.injEq]at h
        rw[←h.2]
        refine ⟨List.dropWhile_suffix _,tw_nil ?_⟩
        have all:∀n:Fin 256,(n.val=45∨(48≤n.val∧n.val≤57))→Af (UInt8.ofNat n.val)=true:=by decide +kernel
        have:=all ⟨c.toNat,UInt8.toNat_lt c⟩ hc
        simpa using this
      · cases h
    · split at h
      · split at h
        · rename_i o q hq
          simp only[Option.some.injEq,Prod.mk.injEq]at h
          obtain ⟨_,rfl⟩:=h
          obtain ⟨h1,h2,_⟩:=QS hq
          exact ⟨h1,by omega⟩
        · cases h
      · split at h
        · simp only[Option.some.injEq,Prod.mk.injEq]at h
          rw[←h.2]
          exact ⟨List.suffix_cons _ _,by simp⟩
        · split at h
          · rename_i hw
            simp only[Option.some.injEq,Prod.mk.injEq]at h
            rw[←h.2]
            refine ⟨List.dropWhile_suffix _,tw_nil ?_⟩
            cases hl:yZ c with
            | true=>rfl
            | false =>
              have e:(c::u).takeWhile yZ = []:=by rw[List.takeWhile_cons,hl]; rfl
              rw[e]at hw
              rcases hw with hw|hw|hw <;> cases hw
          · cases h

def putT (t:Token) (n:Int):Token:=⟨t.kind,t.text,t.num,n⟩

def uj:Nat→Nat→aj→List Token→List Token × Int × Int
  | 0,_,_,_=>([],0,0)
  | n+1,p,s,out =>
    if s.dropWhile qM = []then (out ++ [⟨5, [],⟨0,0⟩,((p+(s.takeWhile qM).length:Nat):Int)⟩],0,0)
    else match tokS (s.dropWhile qM)with
      | none=>([],30,((p+(s.takeWhile qM).length:Nat):Int))
      | some (t,r)=>uj n (p+(s.length - r.length)) r (out ++ [putT t ((p+(s.takeWhile qM).length:Nat):Int)])

def pV (s:aj):List Token × Int × Int:=if 20000<s.length then ([],30,0)else uj (s.length+1) 0 s []

theorem Nw:∀(n m p:Nat) (s:aj) (out:List Token),s.length<n→s.length<m→uj n p s out=uj m p s out
  | 0,_,_,_,_,h,_=>by omega
  | _,0,_,_,_,_,h=>by omega
  | n+1,m+1,p,s,out,h1,h2=>by
    simp only[uj]
    split
    · rfl
    · split
      · rfl
      · rename_i t r hr
        have h3:=(tokS_sfx hr).2
        have h4:=xa qM s
        exact Nw n m _ r _ (by omega) (by omega)

abbrev pr:=aj × aj × Token
def rD:List pr→aj→aj
  | [],z=>z
  | x::l,z=>x.1++(x.2.1++rD l z)
def okW:List pr→aj→Prop
  | [],_=>True
  | x::l,z=>(∀b∈x.1,qM b=true)∧(∃c u,x.2.1=c::u∧qM c=false)∧tokS (x.2.1++rD l z)=some (x.2.2,rD l z)∧okW l z
def tokW:Nat→List pr→List Token
  | _, [] => []
  | p,x::l=>putT x.2.2 ((p+x.1.length:Nat):Int)::tokW (p+x.1.length+x.2.1.length) l
def Gf:List pr→Nat
  | []=>0
  | x::l=>x.1.length+x.2.1.length+Gf l
theorem Nx:∀(l:List pr) (z:aj),(rD l z).length=Gf l+z.length
  | [],z=>by simp[rD,Gf]
  | x::l,z=>by simp only[rD,Gf,List.length_append,Nx l z]; omega

theorem Uy:∀(g r:aj),(∀b∈g,qM b=true)→(∃c u,r=c::u∧qM c=false)∨r = []→(g++r).takeWhile qM=g∧(g++r).dropWhile qM=r
  | [],r,_,h=>by
    rcases h with ⟨c,u,rfl,hc⟩|rfl
    · exact ⟨by rw[List.nil_append,List.takeWhile_cons,hc]; rfl,by rw[List.nil_append,List.dropWhile_cons,hc]; rfl⟩
    · exact ⟨rfl,rfl⟩
  | b::g,r,hg,h=>by
    have hb:=hg b (by simp)
    obtain ⟨h1,h2⟩:=Uy g r (fun x hx=>hg x (by simp[hx])) h
    refine ⟨?_,?_⟩
    · rw[List.cons_append,List.takeWhile_cons,hb,if_pos rfl,h1]
    · rw[List.cons_append,List.dropWhile_cons,hb,if_pos rfl,h2]

theorem Ny:∀(l:List pr) (z:aj) (n p:Nat) (out:List Token),okW l z→l.length<n→uj n p (rD l z) out=uj (n - l.length) (p+Gf l) z (out++tokW p l)
  | [],z,n,p,out,_,_=>by simp[rD,Gf,tokW]
  | x::l,z,n,p,out,h,hn=>by
    obtain ⟨h1,⟨c,u,h2,h3⟩,h4,h5⟩:=h
    obtain ⟨n,rfl⟩:∃m,n=m+1:=⟨n - 1,by omega⟩
    simp only[List.length_cons]at hn
    obtain ⟨t1,t2⟩:=Uy x.1 (x.2.1++rD l z) h1 (.inl ⟨c,u++rD l z,by rw[h2]; rfl,h3⟩)
    have hlay:rD (x::l) z=x.1++(x.2.1++rD l z):=rfl
    have km:¬(x.2.1++rD l z = []):=by rw[h2]; simp
    have hw:0<x.2.1.length:=by rw[h2]; simp
    simp only[uj]
    rw[hlay,t1,t2,if_neg km,h4]
    simp only
    have e1:(x.1++(x.2.1++rD l z)).length - (rD l z).length=x.1.length+x.2.1.length:=by simp only[List.length_append]; omega
    rw[e1,Ny l z n _ _ h5 (by omega)]
    have e2:n+1 - (x::l).length=n - l.length:=by simp
    have e3:p+(x.1.length+x.2.1.length)+Gf l=p+Gf (x::l):=by simp only[Gf]; omega
    have e4:p+(x.1.length+x.2.1.length)=p+x.1.length+x.2.1.length:=by omega
    rw[e2,e3]
    simp only[tokW,List.append_assoc,List.singleton_append]
    rw[e4]

theorem scan_end {g:aj} (hg:∀b∈g,qM b=true) (n p:Nat) (out:List Token):uj (n+1) p g out=(out ++ [⟨5, [],⟨0,0⟩,((p+g.length:Nat):Int)⟩],0,0):=by
  obtain ⟨t1,t2⟩:=Uy g [] hg (.inr rfl)
  rw[List.append_nil]at t1 t2
  simp only[uj]
  rw[t1,t2,if_pos rfl]
theorem SD (l:List pr) (g:aj) (hg:∀b∈g,qM b=true) (h:okW l g) (hl:Gf l+g.length≤20000):pV (rD l g)=(tokW 0 l ++ [⟨5, [],⟨0,0⟩,((Gf l+g.length:Nat):Int)⟩],0,0):=by
  unfold pV
  have hlen:=Nx l g
  rw[if_neg (by omega)]
  have hcount:l.length≤Gf l:=by
    clear hl hlen
    induction l with
    | nil=>simp[Gf]
    | cons x l ih =>
      obtain ⟨_,⟨c,u,h2,_⟩,_,h5⟩:=h
      have:=ih h5
      have hw:0<x.2.1.length:=by rw[h2]; simp
      simp only[Gf,List.length_cons]
      omega
  rw[Ny l g _ 0 [] h (by omega),hlen]
  obtain ⟨m,hm⟩:∃m,Gf l+g.length+1 - l.length=m+1:=⟨Gf l+g.length - l.length,by omega⟩
  rw[hm,scan_end hg]
  simp

def Ht (r:aj):Prop:=r = []∨∃b u,r=b::u∧Af b=false∧yZ b=false
def Word (w:aj) (t:Token):Prop:=(∃c u,w=c::u∧qM c=false)∧∀r,Ht r→tokS (w++r)=some (t,r)

theorem QT {p:UInt8→Bool}:∀(w r:aj),(∀b∈w,p b=true)→(r = []∨∃b u,r=b::u∧p b=false)→(w++r).takeWhile p=w∧(w++r).dropWhile p=r
  | [],r,_,h=>by
    rcases h with rfl|⟨b,u,rfl,hb⟩
    · exact ⟨rfl,rfl⟩
    · exact ⟨by rw[List.nil_append,List.takeWhile_cons,hb]; rfl,by rw[List.nil_append,List.dropWhile_cons,hb]; rfl⟩
  | b::w,r,hw,h=>by
    have hb:=hw b (by simp)
    obtain ⟨h1,h2⟩:=QT w r (fun x hx=>hw x (by simp[hx])) h
    exact ⟨by rw[List.cons_append,List.takeWhile_cons,hb,if_pos rfl,h1],by rw[List.cons_append,List.dropWhile_cons,hb,if_pos rfl,h2]⟩
theorem stop_num {r:aj} (h:Ht r):r = []∨∃b u,r=b::u∧Af b=false:=h.imp id fun ⟨b,u,e,h1,_⟩=>⟨b,u,e,h1⟩
theorem stop_let {r:aj} (h:Ht r):r = []∨∃b u,r=b::u∧yZ b=false:=h.imp id fun ⟨b,u,e,_,h1⟩=>⟨b,u,e,h1⟩

theorem Xs (c:UInt8) (h:H5 c=true):Word [c] ⟨1, [c],⟨0,0⟩,0⟩:=by
  have all:∀n:Fin 256,H5 (UInt8.ofNat n.val)=true→qM (UInt8.ofNat n.val)=false∧¬(n.val=45∨(48≤n.val∧n.val≤57))∧¬n.val=34:=by decide +kernel
  obtain ⟨h1,h2,h3⟩:=all ⟨c.toNat,UInt8.toNat_lt c⟩ (by simpa using h)
  refine ⟨⟨c, [],rfl,by simpa using h1⟩,fun r _ => ?_⟩
  show tokS (c::r)=_
  simp only[tokS]
  rw[if_neg h2,if_neg h3,if_pos h]

theorem BT {w:aj} (h:w=sL∨w=lF∨w=pq):Word w ⟨4,w,⟨0,0⟩,0⟩:=by
  have hl:∀b∈w,yZ b=true:=by rcases h with rfl|rfl|rfl <;> decide
  have hc:∃c u,w=c::u∧qM c=false∧¬(c.toNat=45∨(48≤c.toNat∧c.toNat≤57))∧¬c.toNat=34∧H5 c=false:=by
    rcases h with rfl|rfl|rfl <;> exact ⟨_,_,rfl,by decide,by decide,by decide,by decide⟩
  obtain ⟨c,u,rfl,h1,h2,h3,h4⟩:=hc
  refine ⟨⟨c,u,rfl,h1⟩,fun r hr => ?_⟩
  obtain ⟨t1,t2⟩:=QT (c::u) r hl (stop_let hr)
  show tokS (c::(u++r))=_
  have e:(c::(u++r):aj)=(c::u)++r:=rfl
  simp only[tokS]
  rw[if_neg h2,if_neg h3,h4,if_neg (by simp),e,t1,t2,if_pos h]

theorem Xt {rs:List Nat} (hr:∀c∈rs,vr c):Word (qt rs) ⟨2,cV rs,⟨0,0⟩,0⟩:=by
  have e:qt rs=34::(Js rs ++ [34]):=by unfold qt; simp
  refine ⟨⟨34,_,e,by decide⟩,fun r _ => ?_⟩
  have hu:=uqS_qt rs hr r
  have e2:qt rs++r=34::(Js rs ++ [34]++r):=by rw[e]; rfl
  rw[e2]at hu ⊢
  simp only[tokS]
  rw[if_neg (by decide),if_pos (by decide),hu]

theorem Uz {d:iZ} (hd:Fm d):xN (Od d)=(d,true):=by
  have key:∀k:iZ→Bool→Option (iZ × Bool),dG (Od d) k=k d true:=fun k=>by
    by_cases h0:d.aB=0
    · rw[hd.zero h0,Nu,Uu]
    · have:=Xm hd h0 [] 0 (.inl ⟨rfl,rfl⟩) (by omega) (by simp) k
      rw[List.append_nil,Int.add_zero,Xn hd h0]at this
      exact this
  have hl:(Od d).length≤4000000000:=by
    by_cases h0:d.aB=0
    · rw[hd.zero h0,Nu]; simp
    · obtain ⟨I,F,pt,a,b,e1,e2,i0,i1,f0,f1,fl,il,iD,fD⟩:=Kq d hd h0
      rw[e1]
      cases hdn:decide (d.aB<0) <;> cases pt <;> simp <;> omega
  have h1:=Py (Od d) hl (fun a b=>some (a,b))
  rw[key]at h1
  simp only[Option.some.injEq]at h1
  rw[h1]

theorem Pz {d:iZ} (hd:Fm d):(∀b∈Od d,Af b=true)∧(∃c u,Od d=c::u∧(c.toNat=45∨(48≤c.toNat∧c.toNat≤57)))∧(Od d).length≤60:=by
  have dig:∀b:UInt8,nU b→Af b=true:=fun b hb=>by
    have all:∀n:Fin 256,(48≤n.val∧n.val≤57)→Af (UInt8.ofNat n.val)=true:=by decide +kernel
    have:=all ⟨b.toNat,UInt8.toNat_lt b⟩ hb
    simpa using this
  by_cases h0:d.aB=0
  · rw[hd.zero h0,Nu]
    exact ⟨by decide,⟨48, [],rfl,by decide⟩,by simp⟩
  · obtain ⟨I,F,pt,a,b,e1,e2,i0,i1,f0,f1,fl,il,iD,fD⟩:=Kq d hd h0
    rw[e1]
    refine ⟨fun x hx => ?_,?_,?_⟩
    · rcases List.mem_append.1 hx with hx|hx
      · split at hx
        · simp at hx; subst hx; decide
        · simp at hx
      · rcases List.mem_append.1 hx with hx|hx
        · exact dig x (iD x hx)
        · split at hx
          · rcases List.mem_cons.1 hx with rfl|hx
            · decide
            · exact dig x (fD x hx)
          · simp at hx
    · cases I with
      | nil=>exact (i0 rfl).elim
      | cons c I =>
        cases decide (d.aB<0)with
        | true=>exact ⟨45,_,rfl,by decide⟩
        | false=>exact ⟨c,_,rfl, .inr (iD c (by simp))⟩
    · cases hdn:decide (d.aB<0) <;> cases pt <;> simp <;> omega

theorem SE {d:iZ} (hd:Fm d):Word (Od d) ⟨3,Od d,d,0⟩:=by
  obtain ⟨h1,⟨c,u,h2,h3⟩,_⟩:=Pz hd
  have hp:=Uz hd
  have hb:qM c=false:=by
    have all:∀n:Fin 256,(n.val=45∨(48≤n.val∧n.val≤57))→qM (UInt8.ofNat n.val)=false:=by decide +kernel
    have:=all ⟨c.toNat,UInt8.toNat_lt c⟩ h3
    simpa using this
  refine ⟨⟨c,u,h2,hb⟩,fun r hr => ?_⟩
  obtain ⟨t1,t2⟩:=QT (Od d) r h1 (stop_num hr)
  have e:Od d++r=c::(u++r):=by rw[h2]; rfl
  rw[e]at t1 t2 ⊢
  simp only[tokS]
  rw[if_pos h3,t1,t2,hp]
  rfl
def sg (c:UInt8):pr:=([], [c],⟨1, [c],⟨0,0⟩,0⟩)
theorem Ag:∀(a b:List pr) (z:aj),rD (a++b) z=rD a (rD b z)
  | [],_,_=>rfl
  | x::a,b,z=>by simp only[List.cons_append,rD,Ag a b z]

theorem xO:∀(a b:List pr) (z:aj),okW (a++b) z↔okW a (rD b z)∧okW b z
  | [],b,z=>by simp[okW]
  | x::a,b,z=>by simp only[List.cons_append,okW,xO a b z,Ag,and_assoc]

theorem Ah {w:aj} {t:Token} (h:Word w t) {z:aj} (hz:Ht z):okW [([],w,t)] z:=⟨by simp,h.1,h.2 z hz,trivial⟩
theorem Ai {c:UInt8} (h:H5 c=true) (z:aj):okW [sg c] z:=by
  refine ⟨by simp[sg],(Xs c h).1,?_,trivial⟩
  have all:∀n:Fin 256,H5 (UInt8.ofNat n.val)=true→¬(n.val=45∨(48≤n.val∧n.val≤57))∧¬n.val=34:=by decide +kernel
  obtain ⟨h2,h3⟩:=all ⟨c.toNat,UInt8.toNat_lt c⟩ (by simpa using h)
  show tokS (c::z)=some (⟨1, [c],⟨0,0⟩,0⟩,z)
  simp only[tokS]
  rw[if_neg h2,if_neg h3,if_pos h]
theorem GF {c:UInt8} (h:H5 c=true) (z:aj):Ht (c::z):=by
  have all:∀n:Fin 256,H5 (UInt8.ofNat n.val)=true→Af (UInt8.ofNat n.val)=false∧yZ (UInt8.ofNat n.val)=false:=by decide +kernel
  obtain ⟨h2,h3⟩:=all ⟨c.toNat,UInt8.toNat_lt c⟩ (by simpa using h)
  exact .inr ⟨c,z,rfl,by simpa using h2,by simpa using h3⟩

end Go.Proofs.YtmlkkgfenfdndaaGreatDoor

/-
  Functions of the program as pure Lean functions, and the ties; printed by wip/tools/emit.py.
-/
set_option maxRecDepth 100000
namespace Go.Proofs.YtmlkkgfenfdndaaGreatDoor
open Go Go.ay

end Go.Proofs.YtmlkkgfenfdndaaGreatDoor

/-
  Functions of the program as pure Lean functions, and the ties; printed by wip/tools/emit.py.
-/
set_option maxRecDepth 100000
namespace Go.Proofs.YtmlkkgfenfdndaaGreatDoor
open Go Go.ay

end Go.Proofs.YtmlkkgfenfdndaaGreatDoor

set_option maxRecDepth 100000
namespace Go.Proofs.YtmlkkgfenfdndaaGreatDoor
open Go Go.ay Go.Lib

section
variable {R:Type} (k:iZ→Bool→Option R) (s:aj) (hs:s.length≤4000000000) (sg:Int) (hsg:sg=1∨sg = -1) (all:aj) (x:Int) (ha:∀c∈all,nU c) (h0:all ≠ []) (hl:all.length≤900) (hx : -1000≤x∧x≤0)
include hs hsg ha h0 hl hx

end


def fmB (d:iZ):Bool:=(d.aB==0&&d.exp==0)||(Int.tmod d.aB 10 != 0&&(decide (-1000000000000000≤d.aB)&&decide (d.aB≤1000000000000000)&&(decide (-9≤d.exp)&&decide (d.exp≤9))))
theorem GG {d:iZ}:fmB d=true↔Fm d:=by
  unfold fmB Fm
  simp[and_assoc]

theorem PA {R:Type} (d:iZ) (k:Bool→Option R):cg d k=k (fmB d):=by
  have e:cg d k=l9 aY d k:=rfl
  rw[e]
  unfold l9 fmB
  by_cases h0:d.aB=0
  · rw[h0]
    have t0:((0:Int)==0)=true:=rfl
    have t1:(Int.tmod 0 10 != 0)=false:=rfl
    rw[t0,t1,cond_true,Bool.true_and,Bool.false_and,Bool.or_false]
  · have e0:(d.aB==0)=false:=by rw[beq_eq_false_iff_ne]; exact h0
    rw[e0,cond_false,Bool.false_and,Bool.false_or]
    cases ht:(Int.tmod d.aB 10 != 0)with
    | false=>rfl
    | true =>
      rw[cond_true,Bool.true_and,DU]
      cases (decide (-1000000000000000≤d.aB)&&decide (d.aB≤1000000000000000))with
      | false=>rfl
      | true=>rw[cond_true,DU,Bool.true_and]


theorem Xu {R:Type} {d:iZ} (hd:fmB d=false) (k:aj→Option R):bc d k=k []:=by
  have e:bc d k=oX cg ah af ag d k:=rfl
  rw[e]
  unfold oX
  rw[PA,hd]
  rfl
def za (d:iZ):aj:=if fmB d then Od d else []
theorem PB {R:Type} (d:iZ) (k:aj→Option R):bc d k=k (za d):=by
  unfold za
  cases h:fmB d with
  | true=>rw[Z0 (GG.1 h)]; rfl
  | false=>rw[Xu h]; rfl

def vm:List aj→List aj→Bool
  | _, []=>true
  | seen,n::l => !seen.contains n&&gO n&&vm (n::seen) l

mutual
def fU:Json→Int→Bool
  | ⟨k,n,t,ns,is⟩,d=>decide (d≤16)&&(decide (1≤k)&&decide (k≤7))&&(k==4||(n.aB==0&&n.exp==0))&&(k==5||t.isEmpty)&&(k==7||ns.isEmpty)&&(k==6||k==7||is.isEmpty) &&
      (if k=4 then fmB n else if k=5 then gO t else if k=7 then decide (ns.length=is.length)&&vm [] ns&&fX is (d+1)else fX is (d+1))
def fX:List Json→Int→Bool
  | [],_=>true
  | x::l,d=>fU x d&&fX l d
end

theorem H6 {d:Int}:∀ {l:List Json} {x:Json},fX l d=true→x∈l→fU x d=true
  | y::l,x,h,hx=>by
    simp only[fX,Bool.and_eq_true]at h
    rcases List.mem_cons.1 hx with rfl|hx
    · exact h.1
    · exact H6 h.2 hx

inductive Kr:Json→Int→Prop where
  | name (k:Int) (d:Int) (hd:d≤16) (hk:k=1∨k=2∨k=3):Kr ⟨k,⟨0,0⟩, [], [], []⟩ d
  | num (n:iZ) (d:Int) (hd:d≤16) (hn:Fm n):Kr ⟨4,n, [], [], []⟩ d
  | text (t:aj) (d:Int) (hd:d≤16) (ht:gO t=true):Kr ⟨5,⟨0,0⟩,t, [], []⟩ d
  | arr (is:List Json) (d:Int) (hd:d≤16) (hi:fX is (d+1)=true):Kr ⟨6,⟨0,0⟩, [], [],is⟩ d
  | obj (ns:List aj) (is:List Json) (d:Int) (hd:d≤16) (hl:ns.length=is.length) (hu:vm [] ns=true) (hi:fX is (d+1)=true):Kr ⟨7,⟨0,0⟩, [],ns,is⟩ d

theorem gw {v:Json} {d:Int}:fU v d=true↔Kr v d:=by
  obtain ⟨k,⟨m,e⟩,t,ns,is⟩:=v
  constructor
  · intro h
    simp only[fU,Bool.and_eq_true,Bool.or_eq_true,decide_eq_true_eq,beq_iff_eq,List.isEmpty_iff]at h
    obtain ⟨⟨⟨⟨⟨⟨hd,WC,GN⟩,hn⟩,ht⟩,Ih⟩,KT⟩,hx⟩:=h
    have hk:k=1∨k=2∨k=3∨k=4∨k=5∨k=6∨k=7:=by omega
    rcases hk with rfl|rfl|rfl|rfl|rfl|rfl|rfl
    · simp at hn ht Ih KT
      obtain ⟨rfl,rfl⟩:=hn
      subst ht Ih KT
      exact .name 1 d hd (by omega)
    · simp at hn ht Ih KT
      obtain ⟨rfl,rfl⟩:=hn
      subst ht Ih KT
      exact .name 2 d hd (by omega)
    · simp at hn ht Ih KT
      obtain ⟨rfl,rfl⟩:=hn
      subst ht Ih KT
      exact .name 3 d hd (by omega)
    · simp at ht Ih KT hx
      subst ht Ih KT
      exact .num _ d hd (GG.1 hx)
    · simp at hn Ih KT hx
      obtain ⟨rfl,rfl⟩:=hn
      subst Ih KT
      exact .text t d hd hx
    · simp at hn ht Ih hx
      obtain ⟨rfl,rfl⟩:=hn
      subst ht Ih
      exact .arr is d hd hx
    · simp at hn ht hx
      obtain ⟨rfl,rfl⟩:=hn
      subst ht
      exact .obj ns is d hd hx.1.1 hx.1.2 hx.2
  · intro h
    cases h with
    | name _ _ hd hk=>rcases hk with rfl|rfl|rfl <;> simp[fU,fX,hd]
    | num _ _ hd hn=>simp[fU,hd,GG.2 hn]
    | text _ _ hd ht=>simp[fU,hd,ht]
    | arr _ _ hd hi=>simp[fU,hd,hi]
    | obj _ _ _ hd hl hu hi=>simp[fU,hd,hl,hu,hi]

def Lq (t:aj):aj:=34::(t.flatMap qb ++ [34])
theorem LN {rs:List Nat} (hr:∀c∈rs,vr c):Lq (cV rs)=qt rs:=by unfold Lq qt; rw[VD rs hr]

mutual
def eT:Json→aj
  | ⟨k,n,t,ns,is⟩=>if k=1 then pq else if k=2 then lF else if k=3 then sL else if k=4 then za n else if k=5 then Lq t else if k=7 then 123::(lG ns is true ++ [125])else 91::(mf is true ++ [93])
def mf:List Json→Bool→aj
  | [],_ => []
  | x::l,first=>(if first then []else [44])++(eT x++mf l false)
def lG:List aj→List Json→Bool→aj
  | _, [],_ => []
  | ns,x::l,first=>(if first then []else [44])++(Lq (ns.headD [])++(58::(eT x++lG ns.tail l false)))
end

def UA (t:aj):pr:=([],Lq t,⟨2,t,⟨0,0⟩,0⟩)
mutual
def rE:Json→List pr
  | ⟨k,n,t,ns,is⟩=>if k=1 then [([],pq,⟨4,pq,⟨0,0⟩,0⟩)]else if k=2 then [([],lF,⟨4,lF,⟨0,0⟩,0⟩)]else if k=3 then [([],sL,⟨4,sL,⟨0,0⟩,0⟩)]
      else if k=4 then [([],za n,⟨3,za n,n,0⟩)]else if k=5 then [UA t]else if k=7 then sg 123::(nM ns is true ++ [sg 125])else sg 91::(pK is true ++ [sg 93])
def pK:List Json→Bool→List pr
  | [],_ => []
  | x::l,first=>(if first then []else [sg 44])++(rE x++pK l false)
def nM:List aj→List Json→Bool→List pr
  | _, [],_ => []
  | ns,x::l,first=>(if first then []else [sg 44])++(UA (ns.headD [])::sg 58::(rE x++nM ns.tail l false))
end

mutual
theorem GH:∀(v:Json) (z:aj),rD (rE v) z=eT v++z
  | ⟨k,n,t,ns,is⟩,z=>by
    have hL:=Nz is true
    have hO:=NA ns is true
    simp only[rE,eT]
    split
    · simp[rD]
    split
    · simp[rD]
    split
    · simp[rD]
    split
    · simp[rD]
    split
    · simp[rD,UA]
    split
    · simp only[rD,sg,Ag,hO]; simp[rD,sg]
    · simp only[rD,sg,Ag,hL]; simp[rD,sg]
theorem Nz:∀(l:List Json) (first:Bool) (z:aj),rD (pK l first) z=mf l first++z
  | [],_,z=>rfl
  | x::l,first,z=>by
    have h1:=GH x
    have h2:=Nz l false
    simp only[pK,mf]
    rw[Ag,Ag,h1,h2]
    cases first <;> simp[rD,sg]
theorem NA:∀(ns:List aj) (l:List Json) (first:Bool) (z:aj),rD (nM ns l first) z=lG ns l first++z
  | ns, [],_,z=>by simp[nM,lG,rD]
  | ns,x::l,first,z=>by
    have h1:=GH x
    have h2:=NA ns.tail l false
    simp only[nM,lG]
    rw[Ag]
    simp only[rD,UA,sg,Ag,h1,h2]
    cases first <;> simp[rD,sg]
end

theorem NB {t:aj} (ht:gO t=true) (z:aj):okW [UA t] z:=by
  obtain ⟨rs,hr,rfl⟩:=BS.1 ht
  have e:=LN hr
  have hw:=Xt hr
  refine ⟨by simp[UA],by simp only[UA,e]; exact hw.1,?_,trivial⟩
  show tokS (Lq (cV rs)++z)=some (⟨2,cV rs,⟨0,0⟩,0⟩,z)
  have e2:qt rs=34::(Js rs ++ [34]):=by unfold qt; simp
  have hu:=uqS_qt rs hr z
  have e3:qt rs++z=34::(Js rs ++ [34]++z):=by rw[e2]; rfl
  rw[e,e3]
  rw[e3]at hu
  simp only[tokS]
  rw[if_neg (by decide),if_pos (by decide),hu]

mutual
theorem Jv:∀(v:Json) (d:Int),fU v d=true→∀z,Ht z→okW (rE v) z
  | ⟨k,n,t,ns,is⟩,d,h,z,hz=>by
    have hL:=PC is
    have hO:=PD ns is
    cases gw.1 h with
    | name _ _ hd hk =>
      rcases hk with rfl|rfl|rfl
      · exact Ah (BT (.inr (.inr rfl))) hz
      · exact Ah (BT (.inr (.inl rfl))) hz
      · exact Ah (BT (.inl rfl)) hz
    | num _ _ hd hn =>
      have e:za n=Od n:=by unfold za; rw[GG.2 hn]; rfl
      show okW [([],za n,⟨3,za n,n,0⟩)] z
      rw[e]
      exact Ah (SE hn) hz
    | text _ _ hd ht=>exact NB ht z
    | arr _ _ hd hi =>
      show okW ([sg 91]++(pK is true ++ [sg 93])) z
      rw[xO,xO]
      exact ⟨Ai (by decide) _,hL true (d+1) hi _ (GF (by decide) _),Ai (by decide) _⟩
    | obj _ _ _ hd hl hu hi =>
      show okW ([sg 123]++(nM ns is true ++ [sg 125])) z
      rw[xO,xO]
      exact ⟨Ai (by decide) _,hO true (d+1) hi hl [] hu _ (GF (by decide) _),Ai (by decide) _⟩
theorem PC:∀(l:List Json) (first:Bool) (d:Int),fX l d=true→∀z,Ht z→okW (pK l first) z
  | [],_,_,_,_,_=>trivial
  | x::l,first,d,h,z,hz=>by
    simp only[fX,Bool.and_eq_true]at h
    have h1:=Jv x d h.1
    have h2:=PC l false d h.2 z hz
    simp only[pK]
    rw[xO,xO]
    refine ⟨?_,h1 _ ?_,h2⟩
    · cases first
      · exact Ai (by decide) _
      · trivial
    · cases l with
      | nil=>exact hz
      | cons y l =>
        simp only[pK]
        exact GF (c:=44) (by decide) _
theorem PD:∀(ns:List aj) (l:List Json) (first:Bool) (d:Int),fX l d=true→ns.length=l.length→∀seen,vm seen ns=true→∀z,Ht z→okW (nM ns l first) z
  | ns, [],_,_,_,_,_,_,_,_=>by simp[nM,okW]
  | [],_::_,_,_,_,hl,_,_,_,_=>by simp at hl
  | n::ns,x::l,first,d,h,hl,seen,hu,z,hz=>by
    simp only[fX,Bool.and_eq_true]at h
    simp only[vm,Bool.and_eq_true]at hu
    have h1:=Jv x d h.1
    have h2:=PD ns l false d h.2 (by simpa using hl) _ hu.2 z hz
    simp only[nM,List.headD_cons,List.tail_cons]
    show okW ((if first=true then []else [sg 44])++([UA n]++([sg 58]++(rE x++nM ns l false)))) z
    rw[xO,xO,xO,xO]
    refine ⟨?_,NB hu.1.2 _,Ai (by decide) _,h1 _ ?_,h2⟩
    · cases first
      · exact Ai (by decide) _
      · trivial
    · cases l with
      | nil=>simp only[nM,rD]; exact hz
      | cons y l =>
        simp only[nM]
        exact GF (c:=44) (by decide) _
end

mutual
def H7:Json→Bool
  | ⟨_,_,t,ns,is⟩=>decide (ns.length≤1099511627776)&&decide (is.length≤1099511627776)&&Jw is&&(decide (t.length≤10000000000)&&ns.all fun n=>decide (n.length≤10000000000))
def Jw:List Json→Bool
  | []=>true
  | x::l=>H7 x&&Jw l
end
theorem Gg:∀ {l:List Json} {x:Json},Jw l=true→x∈l→H7 x=true
  | y::l,x,h,hx=>by
    simp only[Jw,Bool.and_eq_true]at h
    rcases List.mem_cons.1 hx with rfl|hx
    · exact h.1
    · exact Gg h.2 hx
theorem vn {v:Json}:H7 v=true↔v.names.length≤1099511627776∧v.items.length≤1099511627776∧Jw v.items=true∧v.text.length≤10000000000∧∀n∈v.names,n.length≤10000000000:=by
  obtain ⟨k,n,t,ns,is⟩:=v
  simp[H7,and_assoc]

theorem DY (a b:aj):yo .str a b=(a==b):=rfl
def VG (m:List (aj × Bool)) (n:aj):Bool:=nJ .str .bool n m
theorem seen_put (m:List (aj × Bool)) (a b:aj):VG (wW .str .bool a true m) b=((b==a)||VG m b):=by
  induction m with
  | nil =>
    show (bif yo .str b a then true else false)=_
    rw[DY]
    cases b==a <;> rfl
  | cons e m ih =>
    unfold VG at ih ⊢
    show nJ .str .bool b (bif yo .str a e.1 then (a,true)::m else e::wW .str .bool a true m)=((b==a)||(bif yo .str b e.1 then e.2 else nJ .str .bool b m))
    rw[DY,DY]
    by_cases h1:a=e.1
    · have h1':(a==e.1)=true:=by simpa using h1
      rw[h1',cond_true]
      show (bif yo .str b a then true else nJ .str .bool b m)=_
      rw[DY,←h1]
      cases b==a <;> rfl
    · have h1':(a==e.1)=false:=by simpa using h1
      rw[h1',cond_false]
      show (bif yo .str b e.1 then e.2 else nJ .str .bool b (wW .str .bool a true m))=_
      rw[DY,ih]
      by_cases h2:b=a
      · have h3:(b==e.1)=false:=by rw[h2]; exact h1'
        rw[h3]
        rfl
      · have h3:(b==a)=false:=by simpa using h2
        rw[h3]
        rfl

theorem SF {R:Type} (ns:List aj) (hl:ns.length≤1099511627776) (k:Bool→Option R):∀(F i:Nat) (m:List (aj × Bool)) (seen:List aj),i≤ns.length→ns.length - i<F→(∀n,VG m n=seen.contains n) →
    cC F ns (ns.length:Int) (i:Int) m (k true) k=k (vm seen (ns.drop i)):=by
  intro F
  induction F with
  | zero=>intro i m seen _ h; omega
  | succ F ih =>
    intro i m seen hi hF hm
    show sD br (fun x0 x1 x2 x3=>cC F x0 x1 x2 x3 (k true) k) ns (ns.length:Int) (i:Int) m (k true) k=_
    unfold sD
    by_cases h:i<ns.length
    · have h1:decide ((i:Int)<(ns.length:Int))=true:=by simp; omega
      have h2:(decide ((0:Int)≤(i:Int))&&true)=true:=by simp
      have hw:IntKind.i64.wrap ((i:Int)+1)=((i+1:Nat):Int):=by rw[dB (by omega) (by omega)]; omega
      have hg:ns.getD (i:Int).toNat (Ty.cn .str)=ns[i]:=getD_at h _
      have hsn:nJ .str .bool ns[i] m=seen.contains ns[i]:=hm ns[i]
      rw[h1,cond_true,aS h2,hg,hsn,hw,Su,List.drop_eq_getElem_cons h]
      simp only[vm]
      cases seen.contains ns[i]with
      | true=>rfl
      | false =>
        cases gO ns[i]with
        | false=>rfl
        | true =>
          simp only[cond_false,Bool.not_true,Bool.not_false,Bool.true_and]
          refine ih (i+1) _ (ns[i]::seen) (by omega) (by omega) fun n => ?_
          rw[seen_put,hm]
          simp only[List.contains_cons]
    · have h1:decide ((i:Int)<(ns.length:Int))=false:=by simp; omega
      rw[h1,cond_false,List.drop_eq_nil_of_le (by omega)]
      rfl

theorem UB {R:Type} (ns:List aj) (hl:ns.length≤1099511627776) (k:Bool→Option R):iR ns k=k (vm [] ns):=by
  have:=SF ns hl k (List.length ns+Int.natAbs (ns.length:Int)+Int.natAbs 0+List.length ([]:List (aj × Bool))+64) 0 [] [] (by omega) (by omega) fun n=>rfl
  rw[List.drop_zero]at this
  exact this

theorem SG {R:Type} (f:bR R) (is:List Json) (hl:is.length≤1099511627776) (d:Int) (hd:0≤d∧d≤16) (hf:∀x∈is,∀k:Bool→Option R,f x (d+1) k=k (fU x (d+1))) (k:Bool→Int→Option R):∀(F i:Nat),i≤is.length→is.length - i<F →
    aM f F is (is.length:Int) (i:Int) d (fun y=>k (decide ((-1:Int)≥0)) y) (fun x y=>k (decide (x≥0)) y)=k (!fX (is.drop i) (d+1)) d:=by
  intro F
  induction F with
  | zero=>intro i _ h; omega
  | succ F ih =>
    intro i hi hF
    show gn (cj f) (fun x0 x1 x2 x3=>aM f F x0 x1 x2 x3 _ _) is (is.length:Int) (i:Int) d _ _=_
    unfold gn
    by_cases h:i<is.length
    · have h1:decide ((i:Int)<(is.length:Int))=true:=by simp; omega
      have h2:(decide ((0:Int)≤(i:Int))&&true)=true:=by simp
      have hw:IntKind.i64.wrap ((i:Int)+1)=((i+1:Nat):Int):=by rw[dB (by omega) (by omega)]; omega
      have hwd:IntKind.i64.wrap (d+1)=d+1:=dB (by omega) (by omega)
      have hg:is.getD (i:Int).toNat (Ty.cn .json)=is[i]:=getD_at h _
      have hj:(decide ((i:Int)≥0))=true:=by simp
      have he:∀(x:Json) (q:Bool→Int→Option R),cj f x d q=f x (IntKind.i64.wrap (d+1)) fun y=>q (!y) d:=fun x q=>by
        show qd f x d q=_
        unfold qd
        simp only[Json.eta]
      rw[h1,cond_true,aS h2,hg,Json.eta,he,hwd,hf _ (List.getElem_mem h),List.drop_eq_getElem_cons h]
      simp only[fX]
      cases fU is[i] (d+1)with
      | false=>simp only[Bool.not_false,cond_true,Bool.false_and,hj]
      | true =>
        simp only[Bool.not_true,cond_false,Bool.true_and]
        rw[hw]
        exact ih (i+1) (by omega) (by omega)
    · have h1:decide ((i:Int)<(is.length:Int))=false:=by simp; omega
      rw[h1,cond_false,List.drop_eq_nil_of_le (by omega)]
      rfl

theorem QU {R:Type} (f:bR R) (is:List Json) (hl:is.length≤1099511627776) (d:Int) (hd:0≤d∧d≤16) (hf:∀x∈is,∀k:Bool→Option R,f x (d+1) k=k (fU x (d+1))) (k:Bool→Int→Option R) :
    aQ f is d k=k (!fX is (d+1)) d:=by
  have:=SG f is hl d hd hf k (List.length is+Int.natAbs (is.length:Int)+Int.natAbs 0+Int.natAbs d+64) 0 (by omega) (by omega)
  rw[List.drop_zero]at this
  exact this

theorem SH {l:List Json} {y:Json} (h:y∈l):y.depth≤Json.B2 l:=by
  induction l with
  | nil=>cases h
  | cons a l ih =>
    simp only[Json.B2]
    rcases List.mem_cons.1 h with rfl|h
    · exact Nat.le_max_left _ _
    · exact Nat.le_trans (ih h) (Nat.le_max_right _ _)
theorem Xv (x:Json):x.depth=Json.B2 x.items+1:=by cases x; simp[Json.depth]
theorem Gh {x y:Json} (h:y∈x.items):y.depth<x.depth:=by rw[Xv x]; exact Nat.lt_succ_of_le (SH h)

theorem bare_eq {R:Type} (k n1 n2:Int) (t:aj) (ns:List aj) (is:List Json) (q:Json→Option R):nt ⟨k,⟨n1,n2⟩,t,ns,is⟩ q =
    q ⟨k,if k=4 then ⟨0,0⟩else ⟨n1,n2⟩,if k=5 then []else t,if k=7 then []else ns,if k=6∨k=7 then []else is⟩:=by
  show C0 _ q=_
  unfold C0
  simp only
  by_cases h4:k=4
  · subst h4; rfl
  by_cases h5:k=5
  · subst h5; rfl
  by_cases h7:k=7
  · subst h7; rfl
  by_cases h6:k=6
  · subst h6; rfl
  have e4:(k==4)=false:=by simpa using h4
  have e5:(k==5)=false:=by simpa using h5
  have e6:(k==6)=false:=by simpa using h6
  have e7:(k==7)=false:=by simpa using h7
  rw[e4,e5,e6,e7]
  simp[h4,h5,h6,h7]

theorem chain {R:Type} (k:Bool→Option R) {a b c:Bool} {x:Option R} {r:Bool} (hx:a=true→b=true→c=false→x=k r) (hr:(a=true∧b=true∧c=false)∨r=false) :
    (bif !a then k false else (bif !b then k false else (bif c then k false else x)))=k r:=by
  cases a with
  | false =>
    rcases hr with ⟨h,_⟩|rfl
    · cases h
    · rfl
  | true =>
    cases b with
    | false =>
      rcases hr with ⟨_,h,_⟩|rfl
      · cases h
      · rfl
    | true =>
      cases c with
      | true =>
        rcases hr with ⟨_,_,h⟩|rfl
        · cases h
        · rfl
      | false=>exact hx rfl rfl rfl

theorem right_N {R:Type}:∀(n:Nat) (v:Json) (d:Int),H7 v=true→v.depth<n→0≤d→d≤17→∀k:Bool→Option R,eX n v d k=k (fU v d):=by
  intro n
  induction n with
  | zero=>intro v d _ h; omega
  | succ n ih =>
    intro v d hv hn hd0 hd1 k
    obtain ⟨Ih,KT,Wv,_⟩:=vn.1 hv
    have he:eX (n+1) v d k=Bc br cg nt iR (aQ (eX n)) v d k:=rfl
    rw[he]
    have hcf:d≤16→∀q:Bool→Int→Option R,aQ (eX n) v.items d q=q (!fX v.items (d+1)) d:=fun SI q =>
      QU _ _ KT d ⟨hd0,SI⟩ (fun x hx k=>ih x (d+1) (Gg Wv hx) (by have:=Gh hx; omega) (by omega) (by omega) k) q
    obtain ⟨kd,⟨n1,n2⟩,t,ns,is⟩:=v
    unfold Bc
    simp only at Ih KT hcf ⊢
    rw[bare_eq]
    simp only
    by_cases SI:d≤16
    rotate_left
    · have e1:decide (d>16)=true:=by simp; omega
      rw[e1,cond_true]
      simp[fU,SI]
    have e1:decide (d>16)=false:=by simp; omega
    rw[e1,cond_false]
    by_cases WC:kd<1
    · have e2:decide (kd<1)=true:=by simpa using WC
      have:¬1≤kd:=by omega
      rw[e2,cond_true]
      simp[fU,this]
    have e2:decide (kd<1)=false:=by simpa using WC
    rw[e2,cond_false]
    by_cases hk7:kd>7
    · have e3:decide (kd>7)=true:=by simpa using hk7
      have:¬kd≤7:=by omega
      rw[e3,cond_true]
      simp[fU,this]
    have e3:decide (kd>7)=false:=by simpa using hk7
    rw[e3,cond_false]
    have hk:kd=1∨kd=2∨kd=3∨kd=4∨kd=5∨kd=6∨kd=7:=by omega
    have UC:∀a b:Nat,a≤1099511627776→b≤1099511627776→decide (IntKind.i64.wrap ((a:Int)+(b:Int))>0) = !(a==0&&b==0):=by
      intro a b ha hb
      rw[dB (by omega) (by omega)]
      rw[Bool.eq_iff_iff,decide_eq_true_eq]
      simp only[Bool.not_eq_true',Bool.and_eq_false_iff,beq_eq_false_iff_ne]
      omega
    have hie:∀l:List aj,(l.length==0)=l.isEmpty:=fun l=>by cases l <;> rfl
    have hje:∀l:List Json,(l.length==0)=l.isEmpty:=fun l=>by cases l <;> rfl
    have Tz:∀l:aj,(l==([]:aj))=l.isEmpty:=fun l=>by cases l <;> rfl
    have yv:∀d:Int,fX [] d=true:=fun _=>rfl
    have Xw:∀a b:Int,((a==0)&&((b==0)&&true))=(a==0&&b==0):=fun a b=>by cases a==0 <;> cases b==0 <;> rfl
    have hcf0:∀q:Bool→Int→Option R,is.isEmpty=true→aQ (eX n) is d q=q false d:=fun q h=>by
      rw[hcf SI]
      obtain rfl:is = []:=List.isEmpty_iff.1 h
      rfl
    have hbool:∀a b c:Bool,(a=true∧b=true∧(!c)=false)∨((a&&b)&&c)=false:=by decide
    have hb4:∀b c q:Bool,(true=true∧b=true∧(!c)=false)∨((b&&c)&&q)=false:=by decide
    have hb5:∀a c q:Bool,(a=true∧true=true∧(!c)=false)∨((a&&c)&&q)=false:=by decide
    have hb6:∀a b c q:Bool,(a=true∧b=true∧(!c)=false)∨(((a&&b)&&c)&&q)=false:=by decide
    have hb7:∀a b q:Bool,(a=true∧b=true∧false=false)∨((a&&b)&&q)=false:=by decide
    rcases hk with rfl|rfl|rfl|rfl|rfl|rfl|rfl
    · have hr:fU ⟨1,⟨n1,n2⟩,t,ns,is⟩ d=(((n1==0&&n2==0)&&t.isEmpty)&&(ns.isEmpty&&is.isEmpty)):=by
        cases is <;> simp[fU,fX,SI]
      simp only[Int.reduceEq,if_false,or_self,Xw]
      rw[UC _ _ Ih KT,hie,hje,Tz,hr]
      refine chain k (fun h1 h2 h3 => ?_) (hbool _ _ _)
      have h4:ns.isEmpty=true∧is.isEmpty=true:=by simpa using h3
      rw[h1,h2,h4.1,h4.2]
      show aQ (eX n) is d (fun E0 uT=>k (!E0))=k true
      exact hcf0 _ h4.2
    · have hr:fU ⟨2,⟨n1,n2⟩,t,ns,is⟩ d=(((n1==0&&n2==0)&&t.isEmpty)&&(ns.isEmpty&&is.isEmpty)):=by
        cases is <;> simp[fU,fX,SI]
      simp only[Int.reduceEq,if_false,or_self,Xw]
      rw[UC _ _ Ih KT,hie,hje,Tz,hr]
      refine chain k (fun h1 h2 h3 => ?_) (hbool _ _ _)
      have h4:ns.isEmpty=true∧is.isEmpty=true:=by simpa using h3
      rw[h1,h2,h4.1,h4.2]
      show aQ (eX n) is d (fun E0 uT=>k (!E0))=k true
      exact hcf0 _ h4.2
    · have hr:fU ⟨3,⟨n1,n2⟩,t,ns,is⟩ d=(((n1==0&&n2==0)&&t.isEmpty)&&(ns.isEmpty&&is.isEmpty)):=by
        cases is <;> simp[fU,fX,SI]
      simp only[Int.reduceEq,if_false,or_self,Xw]
      rw[UC _ _ Ih KT,hie,hje,Tz,hr]
      refine chain k (fun h1 h2 h3 => ?_) (hbool _ _ _)
      have h4:ns.isEmpty=true∧is.isEmpty=true:=by simpa using h3
      rw[h1,h2,h4.1,h4.2]
      show aQ (eX n) is d (fun E0 uT=>k (!E0))=k true
      exact hcf0 _ h4.2
    · have hr:fU ⟨4,⟨n1,n2⟩,t,ns,is⟩ d=((t.isEmpty&&(ns.isEmpty&&is.isEmpty))&&fmB ⟨n1,n2⟩):=by
        simp[fU,SI,Bool.and_assoc]
      simp only[Int.reduceEq,if_false,if_true,or_self]
      rw[UC _ _ Ih KT,hie,hje,Tz,hr]
      refine chain k (a:=true) (b:=t.isEmpty) (c := !(ns.isEmpty&&is.isEmpty)) (fun h1 h2 h3 => ?_) (hb4 _ _ _)
      have h4:ns.isEmpty=true∧is.isEmpty=true:=by simpa using h3
      rw[h2,h4.1,h4.2]
      exact PA _ _
    · have hr:fU ⟨5,⟨n1,n2⟩,t,ns,is⟩ d=(((n1==0&&n2==0)&&(ns.isEmpty&&is.isEmpty))&&gO t):=by
        simp[fU,SI,Bool.and_assoc]
      simp only[Int.reduceEq,if_false,if_true,or_self,Xw]
      rw[UC _ _ Ih KT,hie,hje,hr]
      refine chain k (a:=(n1==0&&n2==0)) (b:=true) (c := !(ns.isEmpty&&is.isEmpty)) (fun h1 h2 h3 => ?_) (hb5 _ _ _)
      have h4:ns.isEmpty=true∧is.isEmpty=true:=by simpa using h3
      rw[h1,h4.1,h4.2]
      exact Su _ _
    · have hr:fU ⟨6,⟨n1,n2⟩,t,ns,is⟩ d=((((n1==0&&n2==0)&&t.isEmpty)&&ns.isEmpty)&&fX is (d+1)):=by
        simp[fU,SI,Bool.and_assoc]
      simp only[Int.reduceEq,if_false,if_true,true_or,Xw]
      have VE:=UC ns.length 0 Ih (by omega)
      have hq:((0:Nat)==0)=true:=rfl
      rw[hq,Bool.and_true,hie]at VE
      rw[List.length_nil,VE,Tz,hr]
      refine chain k (a:=(n1==0&&n2==0)) (b:=t.isEmpty) (c := !ns.isEmpty) (fun h1 h2 h3 => ?_) (hb6 _ _ _ _)
      have h4:ns.isEmpty=true:=by simpa using h3
      rw[h1,h2,h4]
      show aQ (eX n) is d (fun E0 uT=>k (!E0))=k (fX is (d+1))
      rw[hcf SI,Bool.not_not]
    · have hr:fU ⟨7,⟨n1,n2⟩,t,ns,is⟩ d=(((n1==0&&n2==0)&&t.isEmpty)&&(decide (ns.length=is.length)&&vm [] ns&&fX is (d+1))):=by
        simp[fU,SI,Bool.and_assoc]
      simp only[Int.reduceEq,if_false,if_true,or_true,Xw]
      have VE:=UC 0 0 (by omega) (by omega)
      rw[List.length_nil,List.length_nil,VE,Tz,hr]
      refine chain k (a:=(n1==0&&n2==0)) (b:=t.isEmpty) (c:=false) (fun h1 h2 h3 => ?_) (hb7 _ _ _)
      rw[h1,h2]
      show (bif ((ns.length:Int) != (is.length:Int))then k false else iR ns (fun y7=>bif !y7 then k false else aQ (eX n) is d (fun wL Aw=>k (!wL))))=_
      by_cases hl:ns.length=is.length
      · have e9:((ns.length:Int) != (is.length:Int))=false:=by rw[hl]; simp
        rw[e9,cond_false,UB ns Ih,hcf SI,Bool.not_not]
        cases vm [] ns <;> simp[hl]
      · have e9:((ns.length:Int) != (is.length:Int))=true:=by simp; omega
        rw[e9,cond_true]
        simp[hl]

theorem NC {R:Type} (v:Json) (hv:H7 v=true) (k:Bool→Option R):bS v k=k (fU v 1):=by
  have e:bS v k=Be lz v k:=rfl
  rw[e]
  unfold Be
  simp only[Json.eta]
  exact right_N (v.depth+2) v 1 hv (by omega) (by omega) (by omega) k

theorem DZ (p:UInt8→Bool) (s:aj):(s.takeWhile p).length+(s.dropWhile p).length=s.length:=by
  have:=congrArg List.length (List.takeWhile_append_dropWhile (p:=p) (l:=s))
  rwa [List.length_append]at this
theorem take_tw (p:UInt8→Bool) (s:aj):s.take (s.takeWhile p).length=s.takeWhile p:=by
  have:=List.take_left (l₁:=s.takeWhile p) (l₂:=s.dropWhile p)
  rwa [List.takeWhile_append_dropWhile]at this
theorem drop_tw (p:UInt8→Bool) (s:aj):s.drop (s.takeWhile p).length=s.dropWhile p:=by
  have:=List.drop_left (l₁:=s.takeWhile p) (l₂:=s.dropWhile p)
  rwa [List.takeWhile_append_dropWhile]at this

theorem ND {R:Type} (s cs:aj) (hs:s.length≤4000000000) (h1:uf cs=true) (h2:cs.length<4294967281) (k:aj→Option R):bZ s cs k=k (s.takeWhile (cs.contains ·)):=by
  have e:bZ s cs k=zH s cs k:=rfl
  rw[e]
  unfold zH
  have hl:=DZ (cs.contains ·) s
  have ht:(bD s cs).length=(s.dropWhile (cs.contains ·)).length:=rfl
  have hw:IntKind.i64.wrap ((s.length:Int) - ((bD s cs).length:Int))=((s.takeWhile (cs.contains ·)).length:Int):=by rw[ht,dB (by omega) (by omega)]; omega
  rw[hw,h1,aS (by rw[bq h2]; rfl),aS (by rw[bq (by omega),bq (by omega)]; rfl),aS (bq (by omega)),List.drop_zero,Nat.sub_zero,Int.toNat_natCast,take_tw]

theorem sign_has (c:UInt8):decide (zw Ux (c.toNat:Int)≥0)=H5 c:=by
  have hi:zw Ux (c.toNat:Int)=Go.Lib.indexByte Ux c:=by
    unfold zw
    rw[Int.toNat_natCast]
    simp
  have h:=LM c Ux
  rw[hi]
  unfold H5
  cases hc:Ux.contains c with
  | true =>
    apply bq
    have:¬Go.Lib.indexByte Ux c<0:=fun g=>by rw[h.1 g]at hc; cases hc
    omega
  | false =>
    apply dd
    have:=h.2 hc
    omega

theorem next_ok {R:Type} (s:aj) (hs:s.length≤4000000000) (h0:s ≠ []) (k:Token→Int→Option R) :
    fk s k=match tokS s with|some (t,r)=>k t ((s.length - r.length:Nat):Int)|none=>k ⟨0, [],⟨0,0⟩,0⟩ 0:=by
  have e:fk s k=Bs eN dG bZ s k:=rfl
  rw[e]
  unfold Bs
  cases s with
  | nil=>exact (h0 rfl).elim
  | cons c u =>
    have hlen:(c::u:aj).length=u.length+1:=rfl
    have hg:(c::u:aj).getD 0 0=c:=rfl
    simp only[List.length_cons]at hs
    rw[hg,aS (bq (by rw[hlen]; omega))]
    simp only
    have q45:((c.toNat:Int)==45)=decide (c.toNat=45):=eqI _ 45
    have q34:((c.toNat:Int)==34)=decide (c.toNat=34):=eqI _ 34
    have l48:decide ((c.toNat:Int)≥48)=decide (48≤c.toNat):=by
      by_cases h:48≤c.toNat
      · rw[bq h,bq (by omega)]
      · rw[dd h,dd (by omega)]
    have l57:decide ((c.toNat:Int)≤57)=decide (c.toNat≤57):=by
      by_cases h:c.toNat≤57
      · rw[bq h,bq (by omega)]
      · rw[dd h,dd (by omega)]
    have hsg:decide (zw ([123,125,91,93,44,58]:aj) (c.toNat:Int)≥0)=H5 c:=sign_has c
    have lp:∀p:UInt8→Bool,((c::u).takeWhile p).length≤(c::u).length:=fun p=>by have:=DZ p (c::u); omega
    have num:∀k:Token→Int→Option R,bZ (c::u) ([48,49,50,51,52,53,54,55,56,57,43,45,46,101,69]:aj) (fun y6=>dG y6 (fun y7 y8=>bif (!y8)then (k (⟨0,([]:aj),⟨0,0⟩,0⟩:Token) 0)else (k (⟨3,y6,⟨y7.aB,y7.exp⟩,0⟩:Token) (y6.length:Int)))) =
        (if (xN ((c::u).takeWhile Af)).2 then k ⟨3,(c::u).takeWhile Af,(xN ((c::u).takeWhile Af)).1,0⟩ (((c::u).length - ((c::u).dropWhile Af).length:Nat):Int)else k ⟨0, [],⟨0,0⟩,0⟩ 0):=fun k=>by
      rw[ND _ _ (by rw[hlen]; omega) rfl (by decide)]
      have e:(c::u).takeWhile (fun x=>List.contains [48,49,50,51,52,53,54,55,56,57,43,45,46,101,69] x)=(c::u).takeWhile Af:=rfl
      have hl:=lp Af
      have hd:=DZ Af (c::u)
      rw[e,Py _ (by omega)]
      have el:(c::u).length - ((c::u).dropWhile Af).length=((c::u).takeWhile Af).length:=by omega
      rw[el]
      cases (xN ((c::u).takeWhile Af)).2 <;> rfl
    have txt:∀k:Token→Int→Option R,eN (c::u) (fun F1 GU JE=>bif (!JE)then (k (⟨0,([]:aj),⟨0,0⟩,0⟩:Token) 0)else (k (⟨2,F1,⟨0,0⟩,0⟩:Token) GU)) =
        match X4 (c::u)with|some (o,r)=>k ⟨2,o,⟨0,0⟩,0⟩ (((c::u).length - r.length:Nat):Int)|none=>k ⟨0, [],⟨0,0⟩,0⟩ 0:=fun k=>by
      rw[Us _ (by rw[hlen]; omega)]
      cases hu:X4 (c::u)with
      | none=>rfl
      | some p =>
        obtain ⟨o,r⟩:=p
        obtain ⟨_,hr,_⟩:=QS hu
        simp only[Bool.not_true,cond_false]
        rw[dB (by omega) (by omega)]
        congr 1
        omega
    have nam:∀k:Token→Int→Option R,bZ (c::u) ([97,98,99,100,101,102,103,104,105,106,107,108,109,110,111,112,113,114,115,116,117,118,119,120,121,122]:aj) (fun Cp=>bif (Cp==([116,114,117,101]:aj))then (k (⟨4,Cp,⟨0,0⟩,0⟩:Token) (Cp.length:Int))else (bif (Cp==([102,97,108,115,101]:aj))then (k (⟨4,Cp,⟨0,0⟩,0⟩:Token) (Cp.length:Int))else (bif (!(Cp==([110,117,108,108]:aj)))then (k (⟨0,([]:aj),⟨0,0⟩,0⟩:Token) 0)else (k (⟨4,Cp,⟨0,0⟩,0⟩:Token) (Cp.length:Int))))) =
        (if (c::u).takeWhile yZ=sL∨(c::u).takeWhile yZ=lF∨(c::u).takeWhile yZ=pq then k ⟨4,(c::u).takeWhile yZ,⟨0,0⟩,0⟩ (((c::u).length - ((c::u).dropWhile yZ).length:Nat):Int)else k ⟨0, [],⟨0,0⟩,0⟩ 0):=fun k=>by
      rw[ND _ _ (by rw[hlen]; omega) rfl (by decide)]
      have e:(c::u).takeWhile (fun x=>List.contains [97,98,99,100,101,102,103,104,105,106,107,108,109,110,111,112,113,114,115,116,117,118,119,120,121,122] x)=(c::u).takeWhile yZ:=rfl
      have hd:=DZ yZ (c::u)
      have el:(c::u).length - ((c::u).dropWhile yZ).length=((c::u).takeWhile yZ).length:=by omega
      rw[e,el]
      generalize (c::u).takeWhile yZ=w
      have eq:∀a:aj,(w==a)=decide (w=a):=fun a=>by
        by_cases h:w=a
        · rw[bq h]; exact beq_iff_eq.2 h
        · rw[dd h]; exact beq_eq_false_iff_ne.2 h
      rw[eq,eq,eq]
      by_cases h1:w=sL
      · rw[bq (show w = [116,114,117,101]from h1),if_pos (.inl h1)]; rfl
      · by_cases h2:w=lF
        · rw[dd (show ¬w = [116,114,117,101]from h1),bq (show w = [102,97,108,115,101]from h2),if_pos (.inr (.inl h2))]; rfl
        · by_cases h3:w=pq
          · rw[dd (show ¬w = [116,114,117,101]from h1),dd (show ¬w = [102,97,108,115,101]from h2),bq (show w = [110,117,108,108]from h3),if_pos (.inr (.inr h3))]; rfl
          · rw[dd (show ¬w = [116,114,117,101]from h1),dd (show ¬w = [102,97,108,115,101]from h2),dd (show ¬w = [110,117,108,108]from h3),if_neg (by rintro (h|h|h); exact h1 h; exact h2 h; exact h3 h)]; rfl
    have sgn1:∀k:Token→Int→Option R,cU (decide ((1:Int)≤((c::u:aj).length:Int))) (k (⟨1,(((c::u:aj).drop 0).take (1 - 0)),⟨0,0⟩,0⟩:Token) 1)=k ⟨1, [c],⟨0,0⟩,0⟩ (((c::u).length - u.length:Nat):Int):=fun k=>by
      have e1:(c::u).length - u.length=1:=by rw[hlen]; omega
      rw[aS (bq (by rw[hlen]; omega)),e1]
      rfl
    simp only[tokS]
    rw[q45,q34,l48,l57,hsg]
    by_cases h45:c.toNat=45
    · rw[bq h45,cond_true,if_pos (.inl h45)]
      refine (num k).trans ?_
      split <;> rfl
    · rw[dd h45,cond_false]
      have rest:¬(48≤c.toNat∧c.toNat≤57)→(bif decide (c.toNat=34)then eN (c::u) (fun F1 GU JE=>bif (!JE)then (k (⟨0,([]:aj),⟨0,0⟩,0⟩:Token) 0)else (k (⟨2,F1,⟨0,0⟩,0⟩:Token) GU))else (bif H5 c then cU (decide ((1:Int)≤((c::u:aj).length:Int))) (k (⟨1,(((c::u:aj).drop 0).take (1 - 0)),⟨0,0⟩,0⟩:Token) 1)else bZ (c::u) ([97,98,99,100,101,102,103,104,105,106,107,108,109,110,111,112,113,114,115,116,117,118,119,120,121,122]:aj) (fun Cp=>bif (Cp==([116,114,117,101]:aj))then (k (⟨4,Cp,⟨0,0⟩,0⟩:Token) (Cp.length:Int))else (bif (Cp==([102,97,108,115,101]:aj))then (k (⟨4,Cp,⟨0,0⟩,0⟩:Token) (Cp.length:Int))else (bif (!(Cp==([110,117,108,108]:aj)))then (k (⟨0,([]:aj),⟨0,0⟩,0⟩:Token) 0)else (k (⟨4,Cp,⟨0,0⟩,0⟩:Token) (Cp.length:Int))))))) =
          match (if c.toNat=45∨(48≤c.toNat∧c.toNat≤57)then (if (xN ((c::u).takeWhile Af)).2 then some (⟨3,(c::u).takeWhile Af,(xN ((c::u).takeWhile Af)).1,0⟩,(c::u).dropWhile Af)else none)else if c.toNat=34 then (match X4 (c::u)with|some (o,r)=>some (⟨2,o,⟨0,0⟩,0⟩,r)|none=>none)else if H5 c then some ((⟨1, [c],⟨0,0⟩,0⟩:Token),u)else if (c::u).takeWhile yZ=sL∨(c::u).takeWhile yZ=lF∨(c::u).takeWhile yZ=pq then some (⟨4,(c::u).takeWhile yZ,⟨0,0⟩,0⟩,(c::u).dropWhile yZ)else none)with
          | some (t,r)=>k t (((c::u).length - r.length:Nat):Int)|none=>k ⟨0, [],⟨0,0⟩,0⟩ 0:=by
        intro hd
        rw[if_neg (by rintro (h|h); exact h45 h; exact hd h)]
        by_cases Hs:c.toNat=34
        · rw[bq Hs,cond_true,if_pos Hs,txt]
          cases X4 (c::u)with
          | none=>rfl
          | some p=>rfl
        · rw[dd Hs,cond_false,if_neg Hs]
          cases hs':H5 c with
          | true=>rw[cond_true,sgn1,if_pos rfl]
          | false =>
            rw[cond_false,nam,if_neg (show ¬(false=true) by simp)]
            split <;> rfl
      by_cases X2:48≤c.toNat
      · rw[bq X2,cond_true]
        by_cases h57:c.toNat≤57
        · rw[bq h57,cond_true,if_pos (.inr ⟨X2,h57⟩)]
          refine (num k).trans ?_
          split <;> rfl
        · rw[dd h57,cond_false]
          exact rest (fun h=>h57 h.2)
      · rw[dd X2,cond_false]
        exact rest (fun h=>X2 h.1)

theorem Xx {R:Type} (s:aj) (hs:s.length≤20000) (e0:List Token→Int→Int→Option R) (e1:Int→Int→Option R) (hz:∀a b,e0 [] a b=e1 a b):∀(n p:Nat) (out:List Token),s.length - p<n→p≤s.length→out.length≤p →
    cG n s out (p:Int) e0 e1=e0 (uj n p (s.drop p) out).1 (uj n p (s.drop p) out).2.1 (uj n p (s.drop p) out).2.2:=by
  intro n
  induction n with
  | zero=>intro p out h; omega
  | succ n ih =>
    intro p out h1 h2 h3
    rw[cG]
    unfold yV
    have hsub:∀q:Nat,(s.drop q).take ((s.length:Int).toNat - q)=s.drop q:=fun q=>List.take_of_length_le (by rw[List.length_drop,Int.toNat_natCast]; exact Nat.le_refl _)
    have hl:=DZ qM (s.drop p)
    rw[List.length_drop]at hl
    have hdl:(s.drop p).length=s.length - p:=List.length_drop
    rw[aS (by rw[bq (by omega),bq (by omega)]; rfl),aS (by rw[bq (by omega),bq (by omega)]; rfl),Int.toNat_natCast p,hsub,ND _ _ (by omega) rfl (by decide)]
    have eb:(s.drop p).takeWhile (fun x=>List.contains [32,9,10,13] x)=(s.drop p).takeWhile qM:=rfl
    rw[eb]
    have hdd:s.drop (p+((s.drop p).takeWhile qM).length)=(s.drop p).dropWhile qM:=by rw[←drop_tw qM (s.drop p),List.drop_drop]
    have hw:IntKind.i64.wrap ((p:Int)+(((s.drop p).takeWhile qM).length:Int))=((p+((s.drop p).takeWhile qM).length:Nat):Int):=by rw[dB (by omega) (by omega)]; omega
    rw[hw]
    simp only[uj]
    generalize hq:p+((s.drop p).takeWhile qM).length=q at *
    by_cases hend:(s.drop p).dropWhile qM = []
    · have hqe:q=s.length:=by rw[hend]at hl; simp at hl; omega
      have U9:(((q:Nat):Int)==(s.length:Int))=true:=by rw[hqe]; simp
      rw[U9,cond_true,aS (bq (by omega)),if_pos hend]
    · have Io:0<((s.drop p).dropWhile qM).length:=List.length_pos_iff.2 hend
      have U9:(((q:Nat):Int)==(s.length:Int))=false:=by rw[beq_eq_false_iff_ne]; omega
      rw[U9,cond_false,aS (by rw[bq (by omega),bq (by omega)]; rfl),aS (by rw[bq (by omega),bq (by omega)]; rfl),Int.toNat_natCast q,hsub,hdd,next_ok _ (by omega) hend,if_neg hend]
      cases ht:tokS ((s.drop p).dropWhile qM)with
      | none =>
        have e0':((0:Int)==0)=true:=rfl
        simp only
        rw[e0',cond_true,hz]
      | some x =>
        obtain ⟨t,r⟩:=x
        obtain ⟨f1,f2⟩:=tokS_sfx ht
        have hn:((((s.drop p).dropWhile qM).length - r.length:Nat):Int)≠0:=by omega
        simp only
        rw[beq_eq_false_iff_ne.2 hn,cond_false,aS (bq (by omega))]
        have VX:IntKind.i64.wrap (((q:Nat):Int)+((((s.drop p).dropWhile qM).length - r.length:Nat):Int))=((p+((s.drop p).length - r.length):Nat):Int):=by rw[dB (by omega) (by omega)]; omega
        rw[VX]
        have hr:s.drop (p+((s.drop p).length - r.length))=r:=by
          have:=sfx_drop (f1.trans (List.dropWhile_suffix qM))
          rw[←List.drop_drop,←this]
        have key:=ih (p+((s.drop p).length - r.length)) (out ++ [putT t ((q:Nat):Int)]) (by omega) (by omega) (by simp; omega)
        rw[hr]at key
        exact key

theorem scan_ok {R:Type} (s:aj) (k:List Token→Int→Int→Option R):kv s k=k (pV s).1 (pV s).2.1 (pV s).2.2:=by
  have e:kv s k=Bv cG s k:=rfl
  rw[e]
  unfold Bv pV
  by_cases h:20000<s.length
  · rw[bq (show (s.length:Int)>20000 by omega),cond_true,if_pos h]
  · rw[dd (show ¬(s.length:Int)>20000 by omega),cond_false,if_neg h]
    have key:=Xx (R:=R) s (by omega) (fun y8 y9 yJ=>k y8 y9 yJ) (fun wL Aw=>k [] wL Aw) (fun _ _=>rfl) (List.length s+List.length ([]:List Token)+Int.natAbs 0+64) 0 [] (by omega) (by omega) (by simp)
    rw[List.drop_zero,Nw _ (s.length+1) 0 s [] (by omega) (by omega)]at key
    exact key
end Go.Proofs.YtmlkkgfenfdndaaGreatDoor

/-
  Functions of the program as pure Lean functions, and the ties; printed by wip/tools/emit.py.
-/
set_option maxRecDepth 100000
namespace Go.Proofs.YtmlkkgfenfdndaaGreatDoor
open Go Go.ay

/-! ### (*humpyard/json.parser).fail -/
abbrev bY (R:Type):Type:=Int→(List Token)→Int→((List Token)→Int→Option R)→Option R
abbrev gA:List bN := [.leaf (.ptr 0 0), .leaf (.int .i64)]
abbrev gB:List aH := [.cells [.sl .token, .int .i64]]
noncomputable def kb {R:Type} (fn:bY R):bN.av gA→aH.av gB→(V→az→Option R)→Option R:=fun x y k=>fn x.2.1 y.1.1 y.1.2.1 (fun q0 q1=>k (.tuple []) [.cells [.sl .token q0 .no, .int .i64 q1]])
noncomputable def nB (R:Type):Env R:=fun i=>match i with
  | _=>none
theorem CF (R:Type):p6 Tryz.prog (nB R):=by
  intro i b sp h
  unfold nB at h
  split at h
  · cases h

noncomputable def wD (R:Type):Nat→Option (Hint × cr R):=fun i=>match i with
  | _=>none

noncomputable def wE {R:Type} (x1:Int) (x2:List Token) (x3:Int) (k0:(List Token)→Int→Option R):Option R :=
  bif (x3==0)then (k0 x2 x1)else (k0 x2 x3)
noncomputable def ak {R:Type}:bY R:=fun x1 x2 x3 k0=>wE x1 x2 x3 k0
theorem Di {R:Type} (x1:Int) (x2:List Token) (x3:Int) (k:V→az→Option R):iP (tt.mode [.json]) (nB R) (wD R) false Tryz.f43 (aK Tryz.f43) [.ptr 0 0, .int .i64 x1] [.cells [.sl .token x2 .no, .int .i64 x3]] k =
    wE x1 x2 x3 (fun q0 q1=>k (.tuple []) [.cells [.sl .token q0 .no, .int .i64 q1]]):=by kernel_rfl
theorem BC (R:Type):∀a∈aP (aK Tryz.f43),cR (tt.mode [.json]) (nB R) (wD R) 1 a:=by
  refine bG 0 (by kernel_rfl) fun i hi => ?_
  omega
theorem lH (R:Type) (other:ay.Spec R) (ho:ay.Spec.Ok Tryz.prog 43 other):ay.Spec.Ok Tryz.prog 43 (aA gA gB (kb ak) other) :=
  bu ho (bj (TT.mode [.json]) mixed (CF R) (keep:=false) rfl rfl rfl rfl 1 (BC R)) fun (x:bN.av gA) (y:aH.av gB) k=>Di x.2.1 y.1.1 y.1.2.1 k

/-! ### (*humpyard/json.parser).sign -/
abbrev du (R:Type):Type:=aj→(List Token)→Int→(Bool→(List Token)→Int→Option R)→Option R
abbrev kM:List bN := [.leaf (.ptr 0 0), .leaf (.str)]
abbrev kN:List aH := [.cells [.sl .token, .int .i64]]
noncomputable def pL {R:Type} (fn:du R):bN.av kM→aH.av kN→(V→az→Option R)→Option R:=fun x y k=>fn x.2.1 y.1.1 y.1.2.1 (fun q0 q1 q2=>k (.bool q0) [.cells [.sl .token q1 .no, .int .i64 q2]])
noncomputable def nC (R:Type):Env R:=fun i=>match i with
  | _=>none
theorem CG (R:Type):p6 Tryz.prog (nC R):=by
  intro i b sp h
  unfold nC at h
  split at h
  · cases h

noncomputable def wF (R:Type):Nat→Option (Hint × cr R):=fun i=>match i with
  | _=>none

noncomputable def wG {R:Type} (x1:aj) (x2:List Token) (x3:Int) (k0:Bool→(List Token)→Int→Option R):Option R :=
  cU (decide ((0:Int)<x2.length)) (bif (x3 != 0)then (k0 false x2 x3)else (bif ((x2.getD 0 (Ty.cn .token)).kind != 1)then (k0 false x2 x3)else (bif (!((x2.getD 0 (Ty.cn .token)).text==x1))then (k0 false x2 x3)else (cU (decide ((1:Int)≤x2.length)) (k0 true (x2.drop 1) x3)))))
noncomputable def aq {R:Type}:du R:=fun x1 x2 x3 k0=>wG x1 x2 x3 k0
theorem Dj {R:Type} (x1:aj) (x2:List Token) (x3:Int) (k:V→az→Option R):iP (tt.mode [.json]) (nC R) (wF R) false Tryz.f122 (aK Tryz.f122) [.ptr 0 0, .str x1] [.cells [.sl .token x2 .no, .int .i64 x3]] k =
    wG x1 x2 x3 (fun q0 q1 q2=>k (.bool q0) [.cells [.sl .token q1 .no, .int .i64 q2]]):=by kernel_rfl
theorem BD (R:Type):∀a∈aP (aK Tryz.f122),cR (tt.mode [.json]) (nC R) (wF R) 1 a:=by
  refine bG 0 (by kernel_rfl) fun i hi => ?_
  omega
theorem tE (R:Type) (other:ay.Spec R) (ho:ay.Spec.Ok Tryz.prog 122 other):ay.Spec.Ok Tryz.prog 122 (aA kM kN (pL aq) other) :=
  bu ho (bj (TT.mode [.json]) mixed (CG R) (keep:=false) rfl rfl rfl rfl 1 (BD R)) fun (x:bN.av kM) (y:aH.av kN) k=>Dj x.2.1 y.1.1 y.1.2.1 k

/-! ### slices.Index[[]string,string] -/
abbrev gW (R:Type):Type:=(List aj)→aj→(Int→Option R)→Option R
abbrev k8:List bN := [.leaf (.sl .str), .leaf (.str)]
abbrev k9:List aH := []
noncomputable def r7 {R:Type} (fn:gW R):bN.av k8→aH.av k9→(V→az→Option R)→Option R:=fun x y k=>fn x.1 x.2.1 (fun q0=>k (.int .i64 q0) [])
abbrev eJ (R:Type):Type:=Nat→(List aj)→aj→Int→Int→(Option R)→(Int→Option R)→Option R
noncomputable def eY (R:Type):Env R:=fun i=>match i with
  | _=>none
theorem Aj (R:Type):p6 Tryz.prog (eY R):=by
  intro i b sp h
  unfold eY at h
  split at h
  · cases h

noncomputable def iL {R:Type} (fy:(List aj)→aj→Int→Int→Option R) (x3:List aj) (x4:aj) (x5:Int) (x6:Int) (e0:Option R) (e1:Int→Option R):Option R :=
  bif (decide (x6<x5))then (cU (decide ((0:Int)≤x6)&&decide (x6<x3.length)) (bif (x4==(x3.getD x6.toNat (Ty.cn .str)))then (e1 x6)else (fy x3 x4 x5 (IntKind.i64.wrap (x6+1)))))else (e0)
noncomputable def aX {R:Type}:eJ R
  | 0,_,_,_,_,_,_=>none
  | n+1,lY,lZ,mF,tQ,e0,e1=>iL (fun lY lZ mF tQ=>aX n lY lZ mF tQ e0 e1) lY lZ mF tQ e0 e1
noncomputable def iM:Hint := { live := [0,1,7,8],own := [],rows := [],cells := [],drop := [],out := [4] }
abbrev dv:Type:=(List aj) × aj × Int × Int
noncomputable def hH:dv→St:=fun d=>⟨[.sl .str d.1 .no, .str d.2.1, .undef, .undef, .undef, .undef, .undef, .int .i64 d.2.2.1, .int .i64 d.2.2.2, .undef, .undef, .undef, .undef, .undef, .undef, .undef, .undef, .undef, .undef], []⟩
noncomputable def lI {R:Type} (K:Ex→St→Option R):Option R:=K (.exit 0) ⟨[.undef, .undef, .undef, .undef, .undef, .undef, .undef, .undef, .undef, .undef, .undef, .undef, .undef, .undef, .undef, .undef, .undef, .undef, .undef], []⟩
noncomputable def lJ {R:Type} (K:Ex→St→Option R) (q0:Int):Option R:=K (.ret) ⟨[.undef, .undef, .undef, .undef, .int .i64 q0, .undef, .undef, .undef, .undef, .undef, .undef, .undef, .undef, .undef, .undef, .undef, .undef, .undef, .undef], []⟩
noncomputable def mg {R:Type} (K:Ex→St→Option R) (rc:dv→Option R) (d:dv):Option R:=iL (fun z0 z1 z2 z3=>rc (z0,z1,z2,z3)) d.1 d.2.1 d.2.2.1 d.2.2.2 (lI K) (lJ K)
noncomputable def eU {R:Type} (K:Ex→St→Option R) (n:Nat) (d:dv):Option R:=aX n d.1 d.2.1 d.2.2.1 d.2.2.2 (lI K) (lJ K)
abbrev dw:List bN := [.leaf (.sl .str), .leaf (.str), .leaf (.undef), .leaf (.undef), .leaf (.undef), .leaf (.undef), .leaf (.undef), .leaf (.int .i64), .leaf (.int .i64), .leaf (.undef), .leaf (.undef), .leaf (.undef), .leaf (.undef), .leaf (.undef), .leaf (.undef), .leaf (.undef), .leaf (.undef), .leaf (.undef), .leaf (.undef)]
abbrev dx:List aH := []
noncomputable def mh (x:bN.av dw) (y:aH.av dx):Nat:=(List.length x.1+List.length x.2.1+Int.natAbs x.2.2.2.2.2.2.2.1+Int.natAbs x.2.2.2.2.2.2.2.2.1+64)
noncomputable def mi (x:bN.av dw) (y:aH.av dx):dv:=(x.1,x.2.1,x.2.2.2.2.2.2.2.1,x.2.2.2.2.2.2.2.2.1)
noncomputable def lK {R:Type} (L:eJ R):bN.av dw→aH.av dx→(Ex→St→Option R)→Option R:=fun x y K=>L (mh x y) x.1 x.2.1 x.2.2.2.2.2.2.2.1 x.2.2.2.2.2.2.2.2.1 (lI K) (lJ K)
noncomputable def iC (R:Type) (aX:eJ R):Nat→Option (Hint × cr R):=fun i=>match i with
  | 2=>some (iM,(gu dw dx (lK aX) qv))
  | _=>none

theorem wk {R:Type} (aX:eJ R) (K:Ex→St→Option R) (rc:St→Option R) (d:dv):roundOf tt (eY R) (iC R aX) 0 ((aP (aK Tryz.f142)).getD 0 .skip) iM (hH d) rc K=mg K (fun d=>rc (hH d)) d:=by kernel_rfl
theorem uO {R:Type} (K:Ex→St→Option R) (n:Nat) (d:dv):eU K (n+1) d=mg K (eU K n) d:=by kernel_rfl
theorem uP {R:Type} (K:Ex→St→Option R) (d:dv):eU K 0 d=none:=by kernel_rfl
theorem wm (x:bN.av dw) (y:aH.av dx):(⟨bN.cV dw x,aH.cV dx y⟩:St)=hH (mi x y):=by kernel_rfl
theorem wo {R:Type} (x:bN.av dw) (y:aH.av dx) (K:Ex→St→Option R):lK (aX) x y K=eU K (mh x y) (mi x y):=by kernel_rfl
theorem xP {R:Type} (other:cr R) (ho:o3 tt (eY R) (iC R aX) 0 ((aP (aK Tryz.f142)).getD 0 .skip) iM other):o3 tt (eY R) (iC R aX) 0 ((aP (aK Tryz.f142)).getD 0 .skip) iM (gu dw dx (lK (aX)) other) :=
  gN (A:=eU) ho (kB hH (mg) (eU) (uP) (wk aX) (uO)) mh mi wm (wo)

noncomputable def sM {R:Type} (aX:eJ R) (x1:List aj) (x2:aj) (k0:Int→Option R):Option R :=
  aX (List.length x1+List.length x2+Int.natAbs (x1.length:Int)+Int.natAbs 0+64) x1 x2 (x1.length:Int) 0 (k0 (-1)) (fun y7=>k0 y7)
noncomputable def cZ {R:Type}:gW R:=fun x1 x2 k0=>sM aX x1 x2 k0
theorem AH {R:Type} (aX:eJ R) (x1:List aj) (x2:aj) (k:V→az→Option R):iP tt (eY R) (iC R aX) false Tryz.f142 (aK Tryz.f142) [.sl .str x1 .no, .str x2] [] k =
    sM aX x1 x2 (fun q0=>k (.int .i64 q0) []):=by kernel_rfl
theorem yk (R:Type):∀a∈aP (aK Tryz.f142),cR tt (eY R) (iC R aX) 0 a:=by
  refine bG 1 (by kernel_rfl) fun i hi => ?_
  match i,hi with
  | 0,_=>exact fC (by kernel_rfl) (xP _ jc)
  | n+1,hi=>omega
theorem zc (R:Type) (other:ay.Spec R) (ho:ay.Spec.Ok Tryz.prog 142 other):ay.Spec.Ok Tryz.prog 142 (aA k8 k9 (r7 cZ) other) :=
  bu ho (bj TT mixed (Aj R) (keep:=false) rfl rfl rfl rfl 0 (yk R)) fun (x:bN.av k8) (y:aH.av k9) k=>AH aX x.1 x.2.1 k

/-! ### slices.Contains[[]string,string] -/
abbrev gf (R:Type):Type:=(List aj)→aj→(Bool→Option R)→Option R
abbrev jy:List bN := [.leaf (.sl .str), .leaf (.str)]
abbrev jz:List aH := []
noncomputable def pW {R:Type} (fn:gf R):bN.av jy→aH.av jz→(V→az→Option R)→Option R:=fun x y k=>fn x.1 x.2.1 (fun q0=>k (.bool q0) [])
noncomputable def jA (R:Type) (cZ:gW R):Env R:=fun i=>match i with
  | 142=>some (true,(aA k8 k9 (r7 cZ) bg))
  | _=>none
theorem xQ (R:Type):p6 Tryz.prog (jA R cZ):=by
  intro i b sp h
  unfold jA at h
  split at h
  · cases h; exact ⟨(zc R _ (aO _)),fun h=>nomatch h⟩
  · cases h

noncomputable def qG (R:Type):Nat→Option (Hint × cr R):=fun i=>match i with
  | _=>none

noncomputable def qH {R:Type} (cZ:gW R) (x1:List aj) (x2:aj) (k0:Bool→Option R):Option R :=
  cZ x1 x2 (fun y3=>k0 (decide (y3≥(0:Int))))
noncomputable def bQ {R:Type}:gf R:=fun x1 x2 k0=>qH cZ x1 x2 k0
theorem yl {R:Type} (cZ:gW R) (x1:List aj) (x2:aj) (k:V→az→Option R):iP tt (jA R cZ) (qG R) false Tryz.f123 (aK Tryz.f123) [.sl .str x1 .no, .str x2] [] k =
    qH cZ x1 x2 (fun q0=>k (.bool q0) []):=by kernel_rfl
theorem wu (R:Type):∀a∈aP (aK Tryz.f123),cR tt (jA R cZ) (qG R) 0 a:=by
  refine bG 0 (by kernel_rfl) fun i hi => ?_
  omega
theorem wV (R:Type) (other:ay.Spec R) (ho:ay.Spec.Ok Tryz.prog 123 other):ay.Spec.Ok Tryz.prog 123 (aA jy jz (pW bQ) other) :=
  bu ho (bj TT mixed (xQ R) (keep:=false) rfl rfl rfl rfl 0 (wu R)) fun (x:bN.av jy) (y:aH.av jz) k=>yl cZ x.1 x.2.1 k

/-! ### (*humpyard/json.parser).name -/
abbrev ke (R:Type):Type:=(List aj)→(List Token)→Int→(aj→(List Token)→Int→Option R)→Option R
abbrev nD:List bN := [.leaf (.ptr 0 0), .leaf (.MP .str 1)]
abbrev nE:List aH := [.cells [.sl .token, .int .i64], .tok]
noncomputable def vo {R:Type} (fn:ke R):bN.av nD→aH.av nE→(V→az→Option R)→Option R:=fun x y k=>fn x.2.1 y.1.1 y.1.2.1 (fun q0 q1 q2=>k (.str q0) [.cells [.sl .token q1 .no, .int .i64 q2], .tok])
noncomputable def nF (R:Type) (ak:bY R) (aq:du R) (bQ:gf R):Env R:=fun i=>match i with
  | 43=>some (false,(aA gA gB (kb ak) bg))
  | 122=>some (false,(aA kM kN (pL aq) bg))
  | 123=>some (true,(aA jy jz (pW bQ) bg))
  | _=>none
theorem CH (R:Type):p6 Tryz.prog (nF R ak aq bQ):=by
  intro i b sp h
  unfold nF at h
  split at h
  · cases h; exact ⟨(lH R _ (aO _)),fun _ h=>nomatch h⟩
  · cases h; exact ⟨(tE R _ (aO _)),fun _ h=>nomatch h⟩
  · cases h; exact ⟨(wV R _ (aO _)),fun h=>nomatch h⟩
  · cases h

noncomputable def wH (R:Type):Nat→Option (Hint × cr R):=fun i=>match i with
  | _=>none

noncomputable def wI {R:Type} (ak:bY R) (aq:du R) (bQ:gf R) (x1:List aj) (x2:List Token) (x3:Int) (k0:aj→(List Token)→Int→Option R):Option R :=
  cU (decide ((0:Int)<x2.length)) (bif ((x2.getD 0 (Ty.cn .token)).kind != 2)then (ak 40 x2 x3 (fun y4 y5=>k0 ((x2.getD 0 (Ty.cn .token)).text) y4 y5))else (bQ x1 ((x2.getD 0 (Ty.cn .token)).text) (fun y6=>bif y6 then (ak 42 x2 x3 (fun y7 y8=>k0 ((x2.getD 0 (Ty.cn .token)).text) y7 y8))else (cU (decide ((1:Int)≤x2.length)) (aq ([58]:aj) (x2.drop 1) x3 (fun y9 yJ wL=>bif (!y9)then (ak 40 yJ wL (fun Aw E0=>k0 ((x2.getD 0 (Ty.cn .token)).text) Aw E0))else (k0 ((x2.getD 0 (Ty.cn .token)).text) yJ wL)))))))
noncomputable def cE {R:Type}:ke R:=fun x1 x2 x3 k0=>wI ak aq bQ x1 x2 x3 k0
theorem Dk {R:Type} (ak:bY R) (aq:du R) (bQ:gf R) (x1:List aj) (x2:List Token) (x3:Int) (k:V→az→Option R):iP (tt.mode [.json]) (nF R ak aq bQ) (wH R) false Tryz.f90 (aK Tryz.f90) [.ptr 0 0, .sl .str x1 (.own 1)] [.cells [.sl .token x2 .no, .int .i64 x3], .tok] k =
    wI ak aq bQ x1 x2 x3 (fun q0 q1 q2=>k (.str q0) [.cells [.sl .token q1 .no, .int .i64 q2], .tok]):=by kernel_rfl
theorem BE (R:Type):∀a∈aP (aK Tryz.f90),cR (tt.mode [.json]) (nF R ak aq bQ) (wH R) 2 a:=by
  refine bG 0 (by kernel_rfl) fun i hi => ?_
  omega
theorem Ce (R:Type) (other:ay.Spec R) (ho:ay.Spec.Ok Tryz.prog 90 other):ay.Spec.Ok Tryz.prog 90 (aA nD nE (vo cE) other) :=
  bu ho (bj (TT.mode [.json]) mixed (CH R) (keep:=false) rfl rfl rfl rfl 2 (BE R)) fun (x:bN.av nD) (y:aH.av nE) k=>Dk ak aq bQ x.2.1 y.1.1 y.1.2.1 k

end Go.Proofs.YtmlkkgfenfdndaaGreatDoor

