/-
  JsonSpread: for every input whose bulk is at most 1048576 the law returns true, and each argument reads behind the call as it read before; part 7 of 8 of the proof: an interpreter of the model's code over typed data, proved sound; the functions that the law reaches, printed as Lean functions and tied; the plain law. Own texts laid one behind the other.
-/
import Derived.Test.YtmlkkgfenfdndaaGreatDoorJsonSpreadB6
set_option linter.unusedSimpArgs false
set_option linter.unnecessarySimpa false
set_option linter.unusedVariables false
set_option linter.unusedSectionVars false
/-
  Functions of the program as pure Lean functions, and the ties; printed by wip/tools/emit.py.
-/
set_option maxRecDepth 100000
namespace Go.Proofs.YtmlkkgfenfdndaaGreatDoor
open Go Go.ay

/-! ### internal/strconv.underscoreOK -/
abbrev eI (R:Type):Type:=aj→(Bool→Option R)→Option R
abbrev iK:List bO := [.leaf (.str)]
abbrev iL:List aH := []
noncomputable def pn {R:Type} (fn:eI R):bO.av iK→aH.av iL→(V→az→Option R)→Option R:=fun x y k=>fn x.1 (fun q0=>k (.bool q0) [])
abbrev dK (R:Type):Type:=Nat→aj→Int→Int→Bool→(Int→Option R)→(Bool→Int→Option R)→Option R
noncomputable def dU (R:Type) (internal_strconv_lower:cr R):Env R:=fun i=>match i with
  | 176=>some (true,(aA jZ j0 (oP internal_strconv_lower) bg))
  | _=>none
theorem wN (R:Type):p8 Tryz.prog (dU R internal_strconv_lower):=by
  intro i b sp h
  unfold dU at h
  split at h
  · cases h; exact ⟨(sH R _ (aO _)),fun h=>nomatch h⟩
  · cases h

noncomputable def nO {R:Type} (internal_strconv_lower:cr R) (fH:aj→Int→Int→Bool→Option R) (pZ:aj) (tE:Int) (nf:Int) (tF:Bool) (e0:Int→Option R) (e1:Bool→Int→Option R):Option R :=
  bif (decide (nf<(pZ.length:Int)))then (cU (decide ((0:Int)≤nf)&&decide (nf<pZ.length)) (bif (decide ((48:Int)≤((pZ.getD nf.toNat 0).toNat:Int)))then (cU (decide ((0:Int)≤nf)&&decide (nf<pZ.length)) (bif (decide (((pZ.getD nf.toNat 0).toNat:Int)≤(57:Int)))then (fH pZ 48 (IntKind.i64.wrap (nf+1)) tF)else (bif tF then (cU (decide ((0:Int)≤nf)&&decide (nf<pZ.length)) (internal_strconv_lower ((pZ.getD nf.toNat 0).toNat:Int) (fun KF=>bif (decide ((97:Int)≤KF))then (cU (decide ((0:Int)≤nf)&&decide (nf<pZ.length)) (internal_strconv_lower ((pZ.getD nf.toNat 0).toNat:Int) (fun LA=>bif (decide (LA≤(102:Int)))then (fH pZ 48 (IntKind.i64.wrap (nf+1)) tF)else (cU (decide ((0:Int)≤nf)&&decide (nf<pZ.length)) (bif (((pZ.getD nf.toNat 0).toNat:Int)==95)then (bif (tE != 48)then (e1 false tE)else (fH pZ 95 (IntKind.i64.wrap (nf+1)) tF))else (bif (tE==95)then (e1 false tE)else (fH pZ 33 (IntKind.i64.wrap (nf+1)) tF)))))))else (cU (decide ((0:Int)≤nf)&&decide (nf<pZ.length)) (bif (((pZ.getD nf.toNat 0).toNat:Int)==95)then (bif (tE != 48)then (e1 false tE)else (fH pZ 95 (IntKind.i64.wrap (nf+1)) tF))else (bif (tE==95)then (e1 false tE)else (fH pZ 33 (IntKind.i64.wrap (nf+1)) tF)))))))else (cU (decide ((0:Int)≤nf)&&decide (nf<pZ.length)) (bif (((pZ.getD nf.toNat 0).toNat:Int)==95)then (bif (tE != 48)then (e1 false tE)else (fH pZ 95 (IntKind.i64.wrap (nf+1)) tF))else (bif (tE==95)then (e1 false tE)else (fH pZ 33 (IntKind.i64.wrap (nf+1)) tF)))))))else (bif tF then (cU (decide ((0:Int)≤nf)&&decide (nf<pZ.length)) (internal_strconv_lower ((pZ.getD nf.toNat 0).toNat:Int) (fun BZ=>bif (decide ((97:Int)≤BZ))then (cU (decide ((0:Int)≤nf)&&decide (nf<pZ.length)) (internal_strconv_lower ((pZ.getD nf.toNat 0).toNat:Int) (fun Ql=>bif (decide (Ql≤(102:Int)))then (fH pZ 48 (IntKind.i64.wrap (nf+1)) tF)else (cU (decide ((0:Int)≤nf)&&decide (nf<pZ.length)) (bif (((pZ.getD nf.toNat 0).toNat:Int)==95)then (bif (tE != 48)then (e1 false tE)else (fH pZ 95 (IntKind.i64.wrap (nf+1)) tF))else (bif (tE==95)then (e1 false tE)else (fH pZ 33 (IntKind.i64.wrap (nf+1)) tF)))))))else (cU (decide ((0:Int)≤nf)&&decide (nf<pZ.length)) (bif (((pZ.getD nf.toNat 0).toNat:Int)==95)then (bif (tE != 48)then (e1 false tE)else (fH pZ 95 (IntKind.i64.wrap (nf+1)) tF))else (bif (tE==95)then (e1 false tE)else (fH pZ 33 (IntKind.i64.wrap (nf+1)) tF)))))))else (cU (decide ((0:Int)≤nf)&&decide (nf<pZ.length)) (bif (((pZ.getD nf.toNat 0).toNat:Int)==95)then (bif (tE != 48)then (e1 false tE)else (fH pZ 95 (IntKind.i64.wrap (nf+1)) tF))else (bif (tE==95)then (e1 false tE)else (fH pZ 33 (IntKind.i64.wrap (nf+1)) tF)))))))else (e0 tE)
noncomputable def aC {R:Type}:dK R
  | 0,_,_,_,_,_,_=>none
  | n+1,lP,lQ,my,tO,e0,e1=>nO internal_strconv_lower (fun lP lQ my tO=>aC n lP lQ my tO e0 e1) lP lQ my tO e0 e1
noncomputable def gp:Hint := { live := [0,3,4,5],own := [],rows := [],cells := [],drop := [],out := [2,3] }
abbrev cL:Type:=aj × Int × Int × Bool
noncomputable def fX:cL→St:=fun d=>⟨[.str d.1, .undef, .undef, .int .i32 d.2.1, .int .i64 d.2.2.1, .bool d.2.2.2, .undef, .undef, .undef, .undef, .undef, .undef, .undef, .undef, .undef, .undef, .undef, .undef, .undef, .undef, .undef, .undef, .undef, .undef, .undef, .undef, .undef, .undef, .undef, .undef, .undef, .undef, .undef, .undef, .undef, .undef, .undef, .undef, .undef, .undef, .undef, .undef, .undef, .undef, .undef, .undef, .undef, .undef, .undef, .undef, .undef, .undef, .undef, .undef, .undef, .undef, .undef, .undef, .undef, .undef, .undef, .undef, .undef, .undef, .undef, .undef, .undef, .undef, .undef, .undef, .undef, .undef, .undef, .undef, .undef, .undef, .undef, .undef, .undef, .undef, .undef, .undef, .undef, .undef, .undef, .undef, .undef, .undef, .undef, .undef, .undef, .undef, .undef, .undef], []⟩
noncomputable def ju {R:Type} (K:Ex→St→Option R) (q0:Int):Option R:=K (.exit 0) ⟨[.undef, .undef, .undef, .int .i32 q0, .undef, .undef, .undef, .undef, .undef, .undef, .undef, .undef, .undef, .undef, .undef, .undef, .undef, .undef, .undef, .undef, .undef, .undef, .undef, .undef, .undef, .undef, .undef, .undef, .undef, .undef, .undef, .undef, .undef, .undef, .undef, .undef, .undef, .undef, .undef, .undef, .undef, .undef, .undef, .undef, .undef, .undef, .undef, .undef, .undef, .undef, .undef, .undef, .undef, .undef, .undef, .undef, .undef, .undef, .undef, .undef, .undef, .undef, .undef, .undef, .undef, .undef, .undef, .undef, .undef, .undef, .undef, .undef, .undef, .undef, .undef, .undef, .undef, .undef, .undef, .undef, .undef, .undef, .undef, .undef, .undef, .undef, .undef, .undef, .undef, .undef, .undef, .undef, .undef, .undef], []⟩
noncomputable def jv {R:Type} (K:Ex→St→Option R) (q0:Bool) (q1:Int):Option R:=K (.ret) ⟨[.undef, .undef, .bool q0, .int .i32 q1, .undef, .undef, .undef, .undef, .undef, .undef, .undef, .undef, .undef, .undef, .undef, .undef, .undef, .undef, .undef, .undef, .undef, .undef, .undef, .undef, .undef, .undef, .undef, .undef, .undef, .undef, .undef, .undef, .undef, .undef, .undef, .undef, .undef, .undef, .undef, .undef, .undef, .undef, .undef, .undef, .undef, .undef, .undef, .undef, .undef, .undef, .undef, .undef, .undef, .undef, .undef, .undef, .undef, .undef, .undef, .undef, .undef, .undef, .undef, .undef, .undef, .undef, .undef, .undef, .undef, .undef, .undef, .undef, .undef, .undef, .undef, .undef, .undef, .undef, .undef, .undef, .undef, .undef, .undef, .undef, .undef, .undef, .undef, .undef, .undef, .undef, .undef, .undef, .undef, .undef], []⟩
noncomputable def jI {R:Type} (internal_strconv_lower:cr R) (K:Ex→St→Option R) (rc:cL→Option R) (d:cL):Option R:=nO internal_strconv_lower (fun z0 z1 z2 z3=>rc (z0,z1,z2,z3)) d.1 d.2.1 d.2.2.1 d.2.2.2 (ju K) (jv K)
noncomputable def dQ {R:Type} (K:Ex→St→Option R) (n:Nat) (d:cL):Option R:=aC n d.1 d.2.1 d.2.2.1 d.2.2.2 (ju K) (jv K)
abbrev cM:List bO := [.leaf (.str), .leaf (.undef), .leaf (.undef), .leaf (.int .i32), .leaf (.int .i64), .leaf (.bool), .leaf (.undef), .leaf (.undef), .leaf (.undef), .leaf (.undef), .leaf (.undef), .leaf (.undef), .leaf (.undef), .leaf (.undef), .leaf (.undef), .leaf (.undef), .leaf (.undef), .leaf (.undef), .leaf (.undef), .leaf (.undef), .leaf (.undef), .leaf (.undef), .leaf (.undef), .leaf (.undef), .leaf (.undef), .leaf (.undef), .leaf (.undef), .leaf (.undef), .leaf (.undef), .leaf (.undef), .leaf (.undef), .leaf (.undef), .leaf (.undef), .leaf (.undef), .leaf (.undef), .leaf (.undef), .leaf (.undef), .leaf (.undef), .leaf (.undef), .leaf (.undef), .leaf (.undef), .leaf (.undef), .leaf (.undef), .leaf (.undef), .leaf (.undef), .leaf (.undef), .leaf (.undef), .leaf (.undef), .leaf (.undef), .leaf (.undef), .leaf (.undef), .leaf (.undef), .leaf (.undef), .leaf (.undef), .leaf (.undef), .leaf (.undef), .leaf (.undef), .leaf (.undef), .leaf (.undef), .leaf (.undef), .leaf (.undef), .leaf (.undef), .leaf (.undef), .leaf (.undef), .leaf (.undef), .leaf (.undef), .leaf (.undef), .leaf (.undef), .leaf (.undef), .leaf (.undef), .leaf (.undef), .leaf (.undef), .leaf (.undef), .leaf (.undef), .leaf (.undef), .leaf (.undef), .leaf (.undef), .leaf (.undef), .leaf (.undef), .leaf (.undef), .leaf (.undef), .leaf (.undef), .leaf (.undef), .leaf (.undef), .leaf (.undef), .leaf (.undef), .leaf (.undef), .leaf (.undef), .leaf (.undef), .leaf (.undef), .leaf (.undef), .leaf (.undef), .leaf (.undef), .leaf (.undef)]
abbrev cN:List aH := []
noncomputable def jJ (x:bO.av cM) (y:aH.av cN):Nat:=(List.length x.1+Int.natAbs x.2.2.2.1+Int.natAbs x.2.2.2.2.1+64)
noncomputable def jK (x:bO.av cM) (y:aH.av cN):cL:=(x.1,x.2.2.2.1,x.2.2.2.2.1,x.2.2.2.2.2.1)
noncomputable def jx {R:Type} (L:dK R):bO.av cM→aH.av cN→(Ex→St→Option R)→Option R:=fun x y K=>L (jJ x y) x.1 x.2.2.2.1 x.2.2.2.2.1 x.2.2.2.2.2.1 (ju K) (jv K)
noncomputable def gg (R:Type) (aC:dK R):Nat→Option (Hint × cq R):=fun i=>match i with
  | 10=>some (gp,(gq cM cN (jx aC) qx))
  | _=>none

theorem sS {R:Type} (internal_strconv_lower:cr R) (aC:dK R) (K:Ex→St→Option R) (rc:St→Option R) (d:cL):roundOf tt (dU R internal_strconv_lower) (gg R aC) 0 ((aP (aK Tryz.f177)).getD 0 .skip) gp (fX d) rc K=jI internal_strconv_lower K (fun d=>rc (fX d)) d:=by kernel_rfl
theorem r8 {R:Type} (K:Ex→St→Option R) (n:Nat) (d:cL):dQ K (n+1) d=jI internal_strconv_lower K (dQ K n) d:=by kernel_rfl
theorem r9 {R:Type} (K:Ex→St→Option R) (d:cL):dQ K 0 d=none:=by kernel_rfl
theorem sT (x:bO.av cM) (y:aH.av cN):(⟨bO.cQ cM x,aH.cQ cN y⟩:St)=fX (jK x y):=by kernel_rfl
theorem sU {R:Type} (x:bO.av cM) (y:aH.av cN) (K:Ex→St→Option R):jx (aC) x y K=dQ K (jJ x y) (jK x y):=by kernel_rfl
theorem tU {R:Type} (other:cq R) (ho:o0 tt (dU R internal_strconv_lower) (gg R aC) 0 ((aP (aK Tryz.f177)).getD 0 .skip) gp other):o0 tt (dU R internal_strconv_lower) (gg R aC) 0 ((aP (aK Tryz.f177)).getD 0 .skip) gp (gq cM cN (jx (aC)) other) :=
  gL (A:=dQ) ho (kr fX (jI internal_strconv_lower) (dQ) (r9) (sS internal_strconv_lower aC) (r8)) jJ jK sT (sU)

noncomputable def pX {R:Type} (internal_strconv_lower:cr R) (aC:dK R) (x1:aj) (k0:Bool→Option R):Option R :=
  let j46:=fun (z3:aj)=>bif (decide ((z3.length:Int)≥(2:Int)))then (cU (decide ((0:Int)<z3.length)) (bif (((z3.getD 0 0).toNat:Int)==48)then (cU (decide ((1:Int)<z3.length)) (internal_strconv_lower ((z3.getD 1 0).toNat:Int) (fun y4=>bif (y4==98)then (cU (decide ((1:Int)<z3.length)) (internal_strconv_lower ((z3.getD 1 0).toNat:Int) (fun y9=>aC (List.length z3+Int.natAbs 48+Int.natAbs 2+64) z3 48 2 (y9==120) (fun Jq=>k0 (Jq != 95)) (fun Oi NR=>k0 Oi))))else (cU (decide ((1:Int)<z3.length)) (internal_strconv_lower ((z3.getD 1 0).toNat:Int) (fun y5=>bif (y5==111)then (cU (decide ((1:Int)<z3.length)) (internal_strconv_lower ((z3.getD 1 0).toNat:Int) (fun yA=>aC (List.length z3+Int.natAbs 48+Int.natAbs 2+64) z3 48 2 (yA==120) (fun Qm=>k0 (Qm != 95)) (fun NS y33=>k0 NS))))else (cU (decide ((1:Int)<z3.length)) (internal_strconv_lower ((z3.getD 1 0).toNat:Int) (fun y6=>bif (y6==120)then (cU (decide ((1:Int)<z3.length)) (internal_strconv_lower ((z3.getD 1 0).toNat:Int) (fun wE=>aC (List.length z3+Int.natAbs 48+Int.natAbs 2+64) z3 48 2 (wE==120) (fun y34=>k0 (y34 != 95)) (fun y35 Xs=>k0 y35))))else (aC (List.length z3+Int.natAbs 94+Int.natAbs 0+64) z3 94 0 false (fun TV=>k0 (TV != 95)) (fun WI Xt=>k0 WI)))))))))))else (aC (List.length z3+Int.natAbs 94+Int.natAbs 0+64) z3 94 0 false (fun Xu=>k0 (Xu != 95)) (fun Xv O7=>k0 Xv))))else (aC (List.length z3+Int.natAbs 94+Int.natAbs 0+64) z3 94 0 false (fun RY=>k0 (RY != 95)) (fun RZ Xw=>k0 RZ)); bif (decide ((x1.length:Int)≥(1:Int)))then (cU (decide ((0:Int)<x1.length)) (bif (((x1.getD 0 0).toNat:Int)==45)then (cU (decide ((0:Int)≤(x1.length:Int))&&decide ((x1.length:Int)≤x1.length)) (cU (decide ((1:Int)≤(x1.length:Int))) (j46 ((x1.drop 1).take ((x1.length:Int).toNat - 1)))))else (cU (decide ((0:Int)<x1.length)) (bif (((x1.getD 0 0).toNat:Int)==43)then (cU (decide ((0:Int)≤(x1.length:Int))&&decide ((x1.length:Int)≤x1.length)) (cU (decide ((1:Int)≤(x1.length:Int))) (j46 ((x1.drop 1).take ((x1.length:Int).toNat - 1)))))else (j46 x1)))))else (j46 x1)
noncomputable def bq {R:Type}:eI R:=fun x1 k0=>pX internal_strconv_lower aC x1 k0
theorem xx {R:Type} (internal_strconv_lower:cr R) (aC:dK R) (x1:aj) (k:V→az→Option R):iQ tt (dU R internal_strconv_lower) (gg R aC) false Tryz.f177 (aK Tryz.f177) [.str x1] [] k =
    pX internal_strconv_lower aC x1 (fun q0=>k (.bool q0) []):=by kernel_rfl
theorem vb (R:Type):∀a∈aP (aK Tryz.f177),cO tt (dU R internal_strconv_lower) (gg R aC) 0 a:=by
  refine bH 1 (by kernel_rfl) fun i hi => ?_
  match i,hi with
  | 0,_=>exact fG (by kernel_rfl) (tU _ jc)
  | n+1,hi=>omega
theorem vX (R:Type) (other:ay.Spec R) (ho:ay.Spec.Ok Tryz.prog 177 other):ay.Spec.Ok Tryz.prog 177 (aA iK iL (pn bq) other) :=
  bw ho (bk TT mixed (wN R) (keep:=false) rfl rfl rfl rfl 0 (vb R)) fun (x:bO.av iK) (y:aH.av iL) k=>xx internal_strconv_lower aC x.1 k

end Go.Proofs.YtmlkkgfenfdndaaGreatDoor

/-
  Functions of the program as pure Lean functions, and the ties; printed by wip/tools/emit.py.
-/
set_option maxRecDepth 100000
namespace Go.Proofs.YtmlkkgfenfdndaaGreatDoor
open Go Go.ay

/-! ### internal/strconv.ParseUint -/
abbrev gJ (R:Type):Type:=aj→Int→Int→(Int→Option R)→(Int→Option R)→(Int→Option R)→(Int→Option R)→(Int→Option R)→Option R
abbrev ke:List bO := [.leaf (.str), .leaf (.int .i64), .leaf (.int .i64)]
abbrev kf:List aH := []
noncomputable def qX {R:Type} (fn:gJ R):bO.av ke→aH.av kf→(V→az→Option R)→Option R:=fun x y k=>fn x.1 x.2.1 x.2.2.1 (fun q0=>k (.tuple [.int .u64 q0, .Ft 184 .i64 2]) []) (fun q0=>k (.tuple [.int .u64 q0, .Ft 184 .i64 3]) []) (fun q0=>k (.tuple [.int .u64 q0, .Ft 184 .i64 4]) []) (fun q0=>k (.tuple [.int .u64 q0, .Ft 184 .i64 1]) []) (fun q0=>k (.tuple [.int .u64 q0, .cS]) [])
abbrev ej (R:Type):Type:=Nat→Int→Bool→aj→Int→Int→Bool→Int→Nat→Int→Int→(List Int)→(aj→Bool→Int→Option R)→(Int→aj→Bool→Int→Option R)→(Int→aj→Bool→Int→Option R)→(Int→aj→Bool→Option R)→Option R
noncomputable def eO (R:Type) (internal_strconv_lower:cr R) (bq:eI R):Env R:=fun i=>match i with
  | 176=>some (true,(aA jZ j0 (oP internal_strconv_lower) bg))
  | 177=>some (true,(aA iK iL (pn bq) bg))
  | _=>none
theorem yJ (R:Type):p8 Tryz.prog (eO R internal_strconv_lower bq):=by
  intro i b sp h
  unfold eO at h
  split at h
  · cases h; exact ⟨(sH R _ (aO _)),fun h=>nomatch h⟩
  · cases h; exact ⟨(vX R _ (aO _)),fun h=>nomatch h⟩
  · cases h

noncomputable def dG {R:Type} (internal_strconv_lower:cr R) (fH:Int→Bool→aj→Int→Int→Bool→Int→Nat→Int→Int→(List Int)→Option R) (AM:Int) (x21:Bool) (x22:aj) (x23:Int) (Xx:Int) (Xy:Bool) (QJ:Int) (x27:Nat) (x28:Int) (I2:Int) (U1:List Int) (e0:aj→Bool→Int→Option R) (e1:Int→aj→Bool→Int→Option R) (e2:Int→aj→Bool→Int→Option R) (e3:Int→aj→Bool→Option R):Option R :=
  bif (decide (I2<x28))then (cU (decide ((0:Int)≤I2)&&decide (I2<x27)) (cU (decide (I2.toNat<U1.length)) (let j42:=fun (z40:Int)=>bif (decide (z40≥(IntKind.u8.wrap AM)))then (e1 0 x22 Xy QJ)else (bif (decide (QJ≥x23))then (e2 Xx x22 Xy QJ)else (bif (decide ((IntKind.u64.wrap ((IntKind.u64.wrap (QJ*(IntKind.u64.wrap AM)))+(IntKind.u64.wrap z40)))<(IntKind.u64.wrap (QJ*(IntKind.u64.wrap AM)))))then (e2 Xx x22 Xy (IntKind.u64.wrap (QJ*(IntKind.u64.wrap AM))))else (bif (decide ((IntKind.u64.wrap ((IntKind.u64.wrap (QJ*(IntKind.u64.wrap AM)))+(IntKind.u64.wrap z40)))>Xx))then (e2 Xx x22 Xy (IntKind.u64.wrap (QJ*(IntKind.u64.wrap AM))))else (fH AM x21 x22 x23 Xx Xy (IntKind.u64.wrap ((IntKind.u64.wrap (QJ*(IntKind.u64.wrap AM)))+(IntKind.u64.wrap z40))) x27 x28 (IntKind.i64.wrap (I2+1)) U1)))); let j39:=fun (z31:Bool)=>bif z31 then (fH AM x21 x22 x23 Xx true QJ x27 x28 (IntKind.i64.wrap (I2+1)) U1)else (let j38:=fun (z32:Bool)=>bif z32 then (j42 (IntKind.u8.wrap ((U1.getD I2.toNat (Ty.ck (.int .u8))) - 48)))else (internal_strconv_lower (U1.getD I2.toNat (Ty.ck (.int .u8))) (fun y33=>bif (decide ((97:Int)≤y33))then (internal_strconv_lower (U1.getD I2.toNat (Ty.ck (.int .u8))) (fun y34=>bif (decide (y34≤(122:Int)))then (internal_strconv_lower (U1.getD I2.toNat (Ty.ck (.int .u8))) (fun TV=>j42 (IntKind.u8.wrap ((IntKind.u8.wrap (TV - 97))+10))))else (e1 0 x22 Xy QJ)))else (e1 0 x22 Xy QJ))); bif (decide ((48:Int)≤(U1.getD I2.toNat (Ty.ck (.int .u8)))))then (j38 (decide ((U1.getD I2.toNat (Ty.ck (.int .u8)))≤(57:Int))))else (j38 false)); bif ((U1.getD I2.toNat (Ty.ck (.int .u8)))==95)then (j39 x21)else (j39 false))))else (e0 x22 Xy QJ)
noncomputable def aI {R:Type}:ej R
  | 0,_,_,_,_,_,_,_,_,_,_,_,_,_,_,_=>none
  | n+1,lP,lQ,my,tO,Er,Es,K6,K7,K8,K9,Ao,e0,e1,e2,e3=>dG internal_strconv_lower (fun lP lQ my tO Er Es K6 K7 K8 K9 Ao=>aI n lP lQ my tO Er Es K6 K7 K8 K9 Ao e0 e1 e2 e3) lP lQ my tO Er Es K6 K7 K8 K9 Ao e0 e1 e2 e3
noncomputable def hG:Hint := { live := [1,8,9,10,11,12,13,99,100,101],own := [],rows := [],cells := [],drop := [],out := [6,7,9,12,13] }
abbrev db:Type:=Int × Bool × aj × Int × Int × Bool × Int × Nat × Int × Int × (List Int)
noncomputable def gI:db→St:=fun d=>⟨[.undef, .int .i64 d.1, .undef, .undef, .undef, .undef, .undef, .undef, .bool d.2.1, .str d.2.2.1, .int .u64 d.2.2.2.1, .int .u64 d.2.2.2.2.1, .bool d.2.2.2.2.2.1, .int .u64 d.2.2.2.2.2.2.1, .undef, .undef, .undef, .undef, .undef, .undef, .undef, .undef, .undef, .undef, .undef, .undef, .undef, .undef, .undef, .undef, .undef, .undef, .undef, .undef, .undef, .undef, .undef, .undef, .undef, .undef, .undef, .undef, .undef, .undef, .undef, .undef, .undef, .undef, .undef, .undef, .undef, .undef, .undef, .undef, .undef, .undef, .undef, .undef, .undef, .undef, .undef, .undef, .undef, .undef, .undef, .undef, .undef, .undef, .undef, .undef, .undef, .undef, .undef, .undef, .undef, .undef, .undef, .undef, .undef, .undef, .undef, .undef, .undef, .undef, .undef, .undef, .undef, .undef, .undef, .undef, .undef, .undef, .undef, .undef, .undef, .undef, .undef, .undef, .undef, .row 0 d.2.2.2.2.2.2.2.1, .int .i64 d.2.2.2.2.2.2.2.2.1, .int .i64 d.2.2.2.2.2.2.2.2.2.1, .undef, .undef, .undef, .undef, .undef, .undef, .undef, .undef, .undef, .undef, .undef, .undef, .undef, .undef, .undef, .undef, .undef, .undef, .undef, .undef, .undef, .undef, .undef, .undef, .undef, .undef, .undef, .undef, .undef, .undef, .undef, .undef, .undef, .undef, .undef, .undef, .undef, .undef, .undef, .undef, .undef, .undef, .undef, .undef, .undef, .undef, .undef, .undef, .undef, .undef, .undef, .undef, .undef, .undef, .undef, .undef, .undef, .undef, .undef, .undef, .undef, .undef, .undef, .undef, .undef, .undef, .undef, .undef, .undef, .undef], [.row (.int .u8) d.2.2.2.2.2.2.2.2.2.2]⟩
noncomputable def kh {R:Type} (K:Ex→St→Option R) (q0:aj) (q1:Bool) (q2:Int):Option R:=K (.exit 3) ⟨[.undef, .undef, .undef, .undef, .undef, .undef, .undef, .undef, .undef, .str q0, .undef, .undef, .bool q1, .int .u64 q2, .undef, .undef, .undef, .undef, .undef, .undef, .undef, .undef, .undef, .undef, .undef, .undef, .undef, .undef, .undef, .undef, .undef, .undef, .undef, .undef, .undef, .undef, .undef, .undef, .undef, .undef, .undef, .undef, .undef, .undef, .undef, .undef, .undef, .undef, .undef, .undef, .undef, .undef, .undef, .undef, .undef, .undef, .undef, .undef, .undef, .undef, .undef, .undef, .undef, .undef, .undef, .undef, .undef, .undef, .undef, .undef, .undef, .undef, .undef, .undef, .undef, .undef, .undef, .undef, .undef, .undef, .undef, .undef, .undef, .undef, .undef, .undef, .undef, .undef, .undef, .undef, .undef, .undef, .undef, .undef, .undef, .undef, .undef, .undef, .undef, .undef, .undef, .undef, .undef, .undef, .undef, .undef, .undef, .undef, .undef, .undef, .undef, .undef, .undef, .undef, .undef, .undef, .undef, .undef, .undef, .undef, .undef, .undef, .undef, .undef, .undef, .undef, .undef, .undef, .undef, .undef, .undef, .undef, .undef, .undef, .undef, .undef, .undef, .undef, .undef, .undef, .undef, .undef, .undef, .undef, .undef, .undef, .undef, .undef, .undef, .undef, .undef, .undef, .undef, .undef, .undef, .undef, .undef, .undef, .undef, .undef, .undef, .undef, .undef, .undef, .undef, .undef, .undef, .undef, .undef, .undef, .undef, .undef], []⟩
noncomputable def ki {R:Type} (K:Ex→St→Option R) (q0:Int) (q1:aj) (q2:Bool) (q3:Int):Option R:=K (.ret) ⟨[.undef, .undef, .undef, .undef, .undef, .undef, .int .u64 q0, .Ft 184 .i64 2, .undef, .str q1, .undef, .undef, .bool q2, .int .u64 q3, .undef, .undef, .undef, .undef, .undef, .undef, .undef, .undef, .undef, .undef, .undef, .undef, .undef, .undef, .undef, .undef, .undef, .undef, .undef, .undef, .undef, .undef, .undef, .undef, .undef, .undef, .undef, .undef, .undef, .undef, .undef, .undef, .undef, .undef, .undef, .undef, .undef, .undef, .undef, .undef, .undef, .undef, .undef, .undef, .undef, .undef, .undef, .undef, .undef, .undef, .undef, .undef, .undef, .undef, .undef, .undef, .undef, .undef, .undef, .undef, .undef, .undef, .undef, .undef, .undef, .undef, .undef, .undef, .undef, .undef, .undef, .undef, .undef, .undef, .undef, .undef, .undef, .undef, .undef, .undef, .undef, .undef, .undef, .undef, .undef, .undef, .undef, .undef, .undef, .undef, .undef, .undef, .undef, .undef, .undef, .undef, .undef, .undef, .undef, .undef, .undef, .undef, .undef, .undef, .undef, .undef, .undef, .undef, .undef, .undef, .undef, .undef, .undef, .undef, .undef, .undef, .undef, .undef, .undef, .undef, .undef, .undef, .undef, .undef, .undef, .undef, .undef, .undef, .undef, .undef, .undef, .undef, .undef, .undef, .undef, .undef, .undef, .undef, .undef, .undef, .undef, .undef, .undef, .undef, .undef, .undef, .undef, .undef, .undef, .undef, .undef, .undef, .undef, .undef, .undef, .undef, .undef, .undef], []⟩
noncomputable def kj {R:Type} (K:Ex→St→Option R) (q0:Int) (q1:aj) (q2:Bool) (q3:Int):Option R:=K (.ret) ⟨[.undef, .undef, .undef, .undef, .undef, .undef, .int .u64 q0, .Ft 184 .i64 1, .undef, .str q1, .undef, .undef, .bool q2, .int .u64 q3, .undef, .undef, .undef, .undef, .undef, .undef, .undef, .undef, .undef, .undef, .undef, .undef, .undef, .undef, .undef, .undef, .undef, .undef, .undef, .undef, .undef, .undef, .undef, .undef, .undef, .undef, .undef, .undef, .undef, .undef, .undef, .undef, .undef, .undef, .undef, .undef, .undef, .undef, .undef, .undef, .undef, .undef, .undef, .undef, .undef, .undef, .undef, .undef, .undef, .undef, .undef, .undef, .undef, .undef, .undef, .undef, .undef, .undef, .undef, .undef, .undef, .undef, .undef, .undef, .undef, .undef, .undef, .undef, .undef, .undef, .undef, .undef, .undef, .undef, .undef, .undef, .undef, .undef, .undef, .undef, .undef, .undef, .undef, .undef, .undef, .undef, .undef, .undef, .undef, .undef, .undef, .undef, .undef, .undef, .undef, .undef, .undef, .undef, .undef, .undef, .undef, .undef, .undef, .undef, .undef, .undef, .undef, .undef, .undef, .undef, .undef, .undef, .undef, .undef, .undef, .undef, .undef, .undef, .undef, .undef, .undef, .undef, .undef, .undef, .undef, .undef, .undef, .undef, .undef, .undef, .undef, .undef, .undef, .undef, .undef, .undef, .undef, .undef, .undef, .undef, .undef, .undef, .undef, .undef, .undef, .undef, .undef, .undef, .undef, .undef, .undef, .undef, .undef, .undef, .undef, .undef, .undef, .undef], []⟩
noncomputable def kk {R:Type} (K:Ex→St→Option R) (q0:Int) (q1:aj) (q2:Bool):Option R:=K (.ret) ⟨[.undef, .undef, .undef, .undef, .undef, .undef, .int .u64 q0, .Ft 184 .i64 1, .undef, .str q1, .undef, .undef, .bool q2, .undef, .undef, .undef, .undef, .undef, .undef, .undef, .undef, .undef, .undef, .undef, .undef, .undef, .undef, .undef, .undef, .undef, .undef, .undef, .undef, .undef, .undef, .undef, .undef, .undef, .undef, .undef, .undef, .undef, .undef, .undef, .undef, .undef, .undef, .undef, .undef, .undef, .undef, .undef, .undef, .undef, .undef, .undef, .undef, .undef, .undef, .undef, .undef, .undef, .undef, .undef, .undef, .undef, .undef, .undef, .undef, .undef, .undef, .undef, .undef, .undef, .undef, .undef, .undef, .undef, .undef, .undef, .undef, .undef, .undef, .undef, .undef, .undef, .undef, .undef, .undef, .undef, .undef, .undef, .undef, .undef, .undef, .undef, .undef, .undef, .undef, .undef, .undef, .undef, .undef, .undef, .undef, .undef, .undef, .undef, .undef, .undef, .undef, .undef, .undef, .undef, .undef, .undef, .undef, .undef, .undef, .undef, .undef, .undef, .undef, .undef, .undef, .undef, .undef, .undef, .undef, .undef, .undef, .undef, .undef, .undef, .undef, .undef, .undef, .undef, .undef, .undef, .undef, .undef, .undef, .undef, .undef, .undef, .undef, .undef, .undef, .undef, .undef, .undef, .undef, .undef, .undef, .undef, .undef, .undef, .undef, .undef, .undef, .undef, .undef, .undef, .undef, .undef, .undef, .undef, .undef, .undef, .undef, .undef], []⟩
noncomputable def la {R:Type} (internal_strconv_lower:cr R) (K:Ex→St→Option R) (rc:db→Option R) (d:db):Option R:=dG internal_strconv_lower (fun z0 z1 z2 z3 z4 z5 z6 z7 z8 z9 Qo=>rc (z0,z1,z2,z3,z4,z5,z6,z7,z8,z9,Qo)) d.1 d.2.1 d.2.2.1 d.2.2.2.1 d.2.2.2.2.1 d.2.2.2.2.2.1 d.2.2.2.2.2.2.1 d.2.2.2.2.2.2.2.1 d.2.2.2.2.2.2.2.2.1 d.2.2.2.2.2.2.2.2.2.1 d.2.2.2.2.2.2.2.2.2.2 (kh K) (ki K) (kj K) (kk K)
noncomputable def eA {R:Type} (K:Ex→St→Option R) (n:Nat) (d:db):Option R:=aI n d.1 d.2.1 d.2.2.1 d.2.2.2.1 d.2.2.2.2.1 d.2.2.2.2.2.1 d.2.2.2.2.2.2.1 d.2.2.2.2.2.2.2.1 d.2.2.2.2.2.2.2.2.1 d.2.2.2.2.2.2.2.2.2.1 d.2.2.2.2.2.2.2.2.2.2 (kh K) (ki K) (kj K) (kk K)
abbrev dd:List bO := [.leaf (.undef), .leaf (.int .i64), .leaf (.undef), .leaf (.undef), .leaf (.undef), .leaf (.undef), .leaf (.undef), .leaf (.undef), .leaf (.bool), .leaf (.str), .leaf (.int .u64), .leaf (.int .u64), .leaf (.bool), .leaf (.int .u64), .leaf (.undef), .leaf (.undef), .leaf (.undef), .leaf (.undef), .leaf (.undef), .leaf (.undef), .leaf (.undef), .leaf (.undef), .leaf (.undef), .leaf (.undef), .leaf (.undef), .leaf (.undef), .leaf (.undef), .leaf (.undef), .leaf (.undef), .leaf (.undef), .leaf (.undef), .leaf (.undef), .leaf (.undef), .leaf (.undef), .leaf (.undef), .leaf (.undef), .leaf (.undef), .leaf (.undef), .leaf (.undef), .leaf (.undef), .leaf (.undef), .leaf (.undef), .leaf (.undef), .leaf (.undef), .leaf (.undef), .leaf (.undef), .leaf (.undef), .leaf (.undef), .leaf (.undef), .leaf (.undef), .leaf (.undef), .leaf (.undef), .leaf (.undef), .leaf (.undef), .leaf (.undef), .leaf (.undef), .leaf (.undef), .leaf (.undef), .leaf (.undef), .leaf (.undef), .leaf (.undef), .leaf (.undef), .leaf (.undef), .leaf (.undef), .leaf (.undef), .leaf (.undef), .leaf (.undef), .leaf (.undef), .leaf (.undef), .leaf (.undef), .leaf (.undef), .leaf (.undef), .leaf (.undef), .leaf (.undef), .leaf (.undef), .leaf (.undef), .leaf (.undef), .leaf (.undef), .leaf (.undef), .leaf (.undef), .leaf (.undef), .leaf (.undef), .leaf (.undef), .leaf (.undef), .leaf (.undef), .leaf (.undef), .leaf (.undef), .leaf (.undef), .leaf (.undef), .leaf (.undef), .leaf (.undef), .leaf (.undef), .leaf (.undef), .leaf (.undef), .leaf (.undef), .leaf (.undef), .leaf (.undef), .leaf (.undef), .leaf (.undef), .leaf (.row 0), .leaf (.int .i64), .leaf (.int .i64), .leaf (.undef), .leaf (.undef), .leaf (.undef), .leaf (.undef), .leaf (.undef), .leaf (.undef), .leaf (.undef), .leaf (.undef), .leaf (.undef), .leaf (.undef), .leaf (.undef), .leaf (.undef), .leaf (.undef), .leaf (.undef), .leaf (.undef), .leaf (.undef), .leaf (.undef), .leaf (.undef), .leaf (.undef), .leaf (.undef), .leaf (.undef), .leaf (.undef), .leaf (.undef), .leaf (.undef), .leaf (.undef), .leaf (.undef), .leaf (.undef), .leaf (.undef), .leaf (.undef), .leaf (.undef), .leaf (.undef), .leaf (.undef), .leaf (.undef), .leaf (.undef), .leaf (.undef), .leaf (.undef), .leaf (.undef), .leaf (.undef), .leaf (.undef), .leaf (.undef), .leaf (.undef), .leaf (.undef), .leaf (.undef), .leaf (.undef), .leaf (.undef), .leaf (.undef), .leaf (.undef), .leaf (.undef), .leaf (.undef), .leaf (.undef), .leaf (.undef), .leaf (.undef), .leaf (.undef), .leaf (.undef), .leaf (.undef), .leaf (.undef), .leaf (.undef), .leaf (.undef), .leaf (.undef), .leaf (.undef), .leaf (.undef), .leaf (.undef), .leaf (.undef), .leaf (.undef), .leaf (.undef), .leaf (.undef), .leaf (.undef), .leaf (.undef), .leaf (.undef), .leaf (.undef)]
abbrev de:List aH := [.row (.int .u8)]
noncomputable def lb (x:bO.av dd) (y:aH.av de):Nat:=(Int.natAbs x.2.1+List.length x.2.2.2.2.2.2.2.2.2.1+Int.natAbs x.2.2.2.2.2.2.2.2.2.2.1+Int.natAbs x.2.2.2.2.2.2.2.2.2.2.2.1+Int.natAbs x.2.2.2.2.2.2.2.2.2.2.2.2.2.1+Int.natAbs x.2.2.2.2.2.2.2.2.2.2.2.2.2.2.2.2.2.2.2.2.2.2.2.2.2.2.2.2.2.2.2.2.2.2.2.2.2.2.2.2.2.2.2.2.2.2.2.2.2.2.2.2.2.2.2.2.2.2.2.2.2.2.2.2.2.2.2.2.2.2.2.2.2.2.2.2.2.2.2.2.2.2.2.2.2.2.2.2.2.2.2.2.2.2.2.2.2.2.2.2.1+Int.natAbs x.2.2.2.2.2.2.2.2.2.2.2.2.2.2.2.2.2.2.2.2.2.2.2.2.2.2.2.2.2.2.2.2.2.2.2.2.2.2.2.2.2.2.2.2.2.2.2.2.2.2.2.2.2.2.2.2.2.2.2.2.2.2.2.2.2.2.2.2.2.2.2.2.2.2.2.2.2.2.2.2.2.2.2.2.2.2.2.2.2.2.2.2.2.2.2.2.2.2.2.2.2.1+List.length y.1+64)
noncomputable def lg (x:bO.av dd) (y:aH.av de):db:=(x.2.1,x.2.2.2.2.2.2.2.2.1,x.2.2.2.2.2.2.2.2.2.1,x.2.2.2.2.2.2.2.2.2.2.1,x.2.2.2.2.2.2.2.2.2.2.2.1,x.2.2.2.2.2.2.2.2.2.2.2.2.1,x.2.2.2.2.2.2.2.2.2.2.2.2.2.1,x.2.2.2.2.2.2.2.2.2.2.2.2.2.2.2.2.2.2.2.2.2.2.2.2.2.2.2.2.2.2.2.2.2.2.2.2.2.2.2.2.2.2.2.2.2.2.2.2.2.2.2.2.2.2.2.2.2.2.2.2.2.2.2.2.2.2.2.2.2.2.2.2.2.2.2.2.2.2.2.2.2.2.2.2.2.2.2.2.2.2.2.2.2.2.2.2.2.2.2.1,x.2.2.2.2.2.2.2.2.2.2.2.2.2.2.2.2.2.2.2.2.2.2.2.2.2.2.2.2.2.2.2.2.2.2.2.2.2.2.2.2.2.2.2.2.2.2.2.2.2.2.2.2.2.2.2.2.2.2.2.2.2.2.2.2.2.2.2.2.2.2.2.2.2.2.2.2.2.2.2.2.2.2.2.2.2.2.2.2.2.2.2.2.2.2.2.2.2.2.2.2.1,x.2.2.2.2.2.2.2.2.2.2.2.2.2.2.2.2.2.2.2.2.2.2.2.2.2.2.2.2.2.2.2.2.2.2.2.2.2.2.2.2.2.2.2.2.2.2.2.2.2.2.2.2.2.2.2.2.2.2.2.2.2.2.2.2.2.2.2.2.2.2.2.2.2.2.2.2.2.2.2.2.2.2.2.2.2.2.2.2.2.2.2.2.2.2.2.2.2.2.2.2.2.1,y.1)
noncomputable def kl {R:Type} (L:ej R):bO.av dd→aH.av de→(Ex→St→Option R)→Option R:=fun x y K=>L (lb x y) x.2.1 x.2.2.2.2.2.2.2.2.1 x.2.2.2.2.2.2.2.2.2.1 x.2.2.2.2.2.2.2.2.2.2.1 x.2.2.2.2.2.2.2.2.2.2.2.1 x.2.2.2.2.2.2.2.2.2.2.2.2.1 x.2.2.2.2.2.2.2.2.2.2.2.2.2.1 x.2.2.2.2.2.2.2.2.2.2.2.2.2.2.2.2.2.2.2.2.2.2.2.2.2.2.2.2.2.2.2.2.2.2.2.2.2.2.2.2.2.2.2.2.2.2.2.2.2.2.2.2.2.2.2.2.2.2.2.2.2.2.2.2.2.2.2.2.2.2.2.2.2.2.2.2.2.2.2.2.2.2.2.2.2.2.2.2.2.2.2.2.2.2.2.2.2.2.2.1 x.2.2.2.2.2.2.2.2.2.2.2.2.2.2.2.2.2.2.2.2.2.2.2.2.2.2.2.2.2.2.2.2.2.2.2.2.2.2.2.2.2.2.2.2.2.2.2.2.2.2.2.2.2.2.2.2.2.2.2.2.2.2.2.2.2.2.2.2.2.2.2.2.2.2.2.2.2.2.2.2.2.2.2.2.2.2.2.2.2.2.2.2.2.2.2.2.2.2.2.2.1 x.2.2.2.2.2.2.2.2.2.2.2.2.2.2.2.2.2.2.2.2.2.2.2.2.2.2.2.2.2.2.2.2.2.2.2.2.2.2.2.2.2.2.2.2.2.2.2.2.2.2.2.2.2.2.2.2.2.2.2.2.2.2.2.2.2.2.2.2.2.2.2.2.2.2.2.2.2.2.2.2.2.2.2.2.2.2.2.2.2.2.2.2.2.2.2.2.2.2.2.2.2.1 y.1 (kh K) (ki K) (kj K) (kk K)
noncomputable def gU (R:Type) (aI:ej R):Nat→Option (Hint × cq R):=fun i=>match i with
  | 36=>some (hG,(gq dd de (kl aI) qx))
  | _=>none

theorem uE {R:Type} (internal_strconv_lower:cr R) (bq:eI R) (aI:ej R) (K:Ex→St→Option R) (rc:St→Option R) (d:db):roundOf tt (eO R internal_strconv_lower bq) (gU R aI) 0 ((aP (aK Tryz.f169)).getD 0 .skip) hG (gI d) rc K=la internal_strconv_lower K (fun d=>rc (gI d)) d:=by kernel_rfl
theorem tp {R:Type} (K:Ex→St→Option R) (n:Nat) (d:db):eA K (n+1) d=la internal_strconv_lower K (eA K n) d:=by kernel_rfl
theorem tq {R:Type} (K:Ex→St→Option R) (d:db):eA K 0 d=none:=by kernel_rfl
theorem uF (x:bO.av dd) (y:aH.av de):(⟨bO.cQ dd x,aH.cQ de y⟩:St)=gI (lg x y):=by kernel_rfl
theorem uG {R:Type} (x:bO.av dd) (y:aH.av de) (K:Ex→St→Option R):kl (aI) x y K=eA K (lb x y) (lg x y):=by kernel_rfl
theorem vY {R:Type} (other:cq R) (ho:o0 tt (eO R internal_strconv_lower bq) (gU R aI) 0 ((aP (aK Tryz.f169)).getD 0 .skip) hG other):o0 tt (eO R internal_strconv_lower bq) (gU R aI) 0 ((aP (aK Tryz.f169)).getD 0 .skip) hG (gq dd de (kl (aI)) other) :=
  gL (A:=eA) ho (kr gI (la internal_strconv_lower) (eA) (tq) (uE internal_strconv_lower bq aI) (tp)) lb lg uF (uG)

noncomputable def kg {R:Type} (internal_strconv_lower:cr R) (bq:eI R) (aI:ej R) (x1:aj) (x2:Int) (x3:Int) (k0:Int→Option R) (k1:Int→Option R) (k2:Int→Option R) (k3:Int→Option R) (k4:Int→Option R):Option R :=
  bif (x1==([]:aj))then (k0 0)else (let j63:=fun (z15:aj) (z16:Int)=>let j62:=fun (z18:Int)=>let j61:=fun (QI:Int)=>cU (decide ((0:Int)≤(IntKind.u64.wrap z18))) (aI (Int.natAbs z16+List.length x1+Int.natAbs QI+Int.natAbs (IntKind.u64.wrap ((IntKind.u64.wrap (1*2 ^ (min ((IntKind.u64.wrap z18).toNat) IntKind.u64.bits))) - 1))+Int.natAbs 0+Int.natAbs (z15.length:Int)+Int.natAbs 0+List.length (oN z15)+64) z16 (x2==0) x1 QI (IntKind.u64.wrap ((IntKind.u64.wrap (1*2 ^ (min ((IntKind.u64.wrap z18).toNat) IntKind.u64.bits))) - 1)) false 0 z15.length (z15.length:Int) 0 (oN z15) (fun Xw WJ Ol=>bif WJ then (bq Xw (fun TW=>bif (!TW)then (k0 0)else (k4 Ol)))else (k4 Ol)) (fun Xz ZA ZB ZC=>k0 Xz) (fun XA ZD ZE y55=>k3 XA) (fun WK WL WM=>k3 WK)); bif (z16==10)then (j61 1844674407370955162)else (bif (z16==16)then (j61 1152921504606846976)else (cU (!decide ((IntKind.u64.wrap z16)=0)) (j61 (IntKind.u64.wrap ((IntKind.u64.wrap (Int.tdiv 18446744073709551615 (IntKind.u64.wrap z16)))+1))))); bif (x3==0)then (j62 64)else (bif (decide (x3<(0:Int)))then (k2 0)else (bif (decide (x3>(64:Int)))then (k2 0)else (j62 x3))); let j14:=fun (z4:Bool)=>bif z4 then (j63 x1 x2)else (bif (x2==0)then (cU (decide ((0:Int)<x1.length)) (bif (((x1.getD 0 0).toNat:Int)==48)then (let j13:=fun (z6:Bool)=>bif z6 then (cU (decide ((0:Int)≤(x1.length:Int))&&decide ((x1.length:Int)≤x1.length)) (cU (decide ((2:Int)≤(x1.length:Int))) (j63 ((x1.drop 2).take ((x1.length:Int).toNat - 2)) 2)))else (let j12:=fun (z8:Bool)=>bif z8 then (cU (decide ((0:Int)≤(x1.length:Int))&&decide ((x1.length:Int)≤x1.length)) (cU (decide ((2:Int)≤(x1.length:Int))) (j63 ((x1.drop 2).take ((x1.length:Int).toNat - 2)) 8)))else (let j11:=fun (Qo:Bool)=>bif Qo then (cU (decide ((0:Int)≤(x1.length:Int))&&decide ((x1.length:Int)≤x1.length)) (cU (decide ((2:Int)≤(x1.length:Int))) (j63 ((x1.drop 2).take ((x1.length:Int).toNat - 2)) 16)))else (cU (decide ((0:Int)≤(x1.length:Int))&&decide ((x1.length:Int)≤x1.length)) (cU (decide ((1:Int)≤(x1.length:Int))) (j63 ((x1.drop 1).take ((x1.length:Int).toNat - 1)) 8))); bif (decide ((x1.length:Int)≥(3:Int)))then (cU (decide ((1:Int)<x1.length)) (internal_strconv_lower ((x1.getD 1 0).toNat:Int) (fun y9=>j11 (y9==120))))else (j11 false)); bif (decide ((x1.length:Int)≥(3:Int)))then (cU (decide ((1:Int)<x1.length)) (internal_strconv_lower ((x1.getD 1 0).toNat:Int) (fun y7=>j12 (y7==111))))else (j12 false)); bif (decide ((x1.length:Int)≥(3:Int)))then (cU (decide ((1:Int)<x1.length)) (internal_strconv_lower ((x1.getD 1 0).toNat:Int) (fun y5=>j13 (y5==98))))else (j13 false))else (j63 x1 10)))else (k1 0)); bif (decide ((2:Int)≤x2))then (j14 (decide (x2≤(36:Int))))else (j14 false))
noncomputable def cx {R:Type}:gJ R:=fun x1 x2 x3 k0 k1 k2 k3 k4=>kg internal_strconv_lower bq aI x1 x2 x3 k0 k1 k2 k3 k4
theorem zO {R:Type} (internal_strconv_lower:cr R) (bq:eI R) (aI:ej R) (x1:aj) (x2:Int) (x3:Int) (k:V→az→Option R):iQ tt (eO R internal_strconv_lower bq) (gU R aI) false Tryz.f169 (aK Tryz.f169) [.str x1, .int .i64 x2, .int .i64 x3] [] k =
    kg internal_strconv_lower bq aI x1 x2 x3 (fun q0=>k (.tuple [.int .u64 q0, .Ft 184 .i64 2]) []) (fun q0=>k (.tuple [.int .u64 q0, .Ft 184 .i64 3]) []) (fun q0=>k (.tuple [.int .u64 q0, .Ft 184 .i64 4]) []) (fun q0=>k (.tuple [.int .u64 q0, .Ft 184 .i64 1]) []) (fun q0=>k (.tuple [.int .u64 q0, .cS]) []):=by kernel_rfl
theorem xy (R:Type):∀a∈aP (aK Tryz.f169),cO tt (eO R internal_strconv_lower bq) (gU R aI) 0 a:=by
  refine bH 1 (by kernel_rfl) fun i hi => ?_
  match i,hi with
  | 0,_=>exact fG (by kernel_rfl) (vY _ jc)
  | n+1,hi=>omega
theorem xZ (R:Type) (other:ay.Spec R) (ho:ay.Spec.Ok Tryz.prog 169 other):ay.Spec.Ok Tryz.prog 169 (aA ke kf (qX cx) other) :=
  bw ho (bk TT mixed (yJ R) (keep:=false) rfl rfl rfl rfl 0 (xy R)) fun (x:bO.av ke) (y:aH.av kf) k=>zO internal_strconv_lower bq aI x.1 x.2.1 x.2.2.1 k

end Go.Proofs.YtmlkkgfenfdndaaGreatDoor

/-
  Functions of the program as pure Lean functions, and the ties; printed by wip/tools/emit.py.
-/
set_option maxRecDepth 100000
namespace Go.Proofs.YtmlkkgfenfdndaaGreatDoor
open Go Go.ay

/-! ### strconv.ParseUint -/
abbrev nd (R:Type):Type:=aj→Int→Int→(Int→Option R)→(Int→Option R)→Option R
abbrev qp:List bO := [.leaf (.str), .leaf (.int .i64), .leaf (.int .i64)]
abbrev qq:List aH := []
noncomputable def zP {R:Type} (fn:nd R):bO.av qp→aH.av qq→(V→az→Option R)→Option R:=fun x y k=>fn x.1 x.2.1 x.2.2.1 (fun q0=>k (.tuple [.int .u64 q0, .iface]) []) (fun q0=>k (.tuple [.int .u64 q0, .cS]) [])
noncomputable def qs (R:Type) (cx:gJ R):Env R:=fun i=>match i with
  | 136=>some (true,(toErr_S R 184))
  | 169=>some (true,(aA ke kf (qX cx) bg))
  | _=>none
theorem Ff (R:Type):p8 Tryz.prog (qs R cx):=by
  intro i b sp h
  unfold qs at h
  split at h
  · cases h; exact ⟨(toErr_ok),fun h=>nomatch h⟩
  · cases h; exact ⟨(xZ R _ (aO _)),fun h=>nomatch h⟩
  · cases h

noncomputable def AP (R:Type):Nat→Option (Hint × cq R):=fun i=>match i with
  | _=>none

noncomputable def qu {R:Type} (cx:gJ R) (x1:aj) (x2:Int) (x3:Int) (k0:Int→Option R) (k1:Int→Option R):Option R :=
  cx x1 x2 x3 (fun y4=>cU (Nat.beq 184 184&&(2==2||2==1)) (cU (decide (x1.length≤281474976710656)) (k0 y4))) (fun y5=>cU (Nat.beq 184 184&&(3==2||3==1)) (cU (decide (x1.length≤281474976710656)) (k0 y5))) (fun y6=>cU (Nat.beq 184 184&&(4==2||4==1)) (cU (decide (x1.length≤281474976710656)) (k0 y6))) (fun y7=>cU (Nat.beq 184 184&&(1==2||1==1)) (cU (decide (x1.length≤281474976710656)) (k0 y7))) (fun y8=>k1 y8)
noncomputable def dY {R:Type}:nd R:=fun x1 x2 x3 k0 k1=>qu cx x1 x2 x3 k0 k1
theorem F3 {R:Type} (cx:gJ R) (x1:aj) (x2:Int) (x3:Int) (k:V→az→Option R):iQ tt (qs R cx) (AP R) false Tryz.f172 (aK Tryz.f172) [.str x1, .int .i64 x2, .int .i64 x3] [] k =
    qu cx x1 x2 x3 (fun q0=>k (.tuple [.int .u64 q0, .iface]) []) (fun q0=>k (.tuple [.int .u64 q0, .cS]) []):=by kernel_rfl
theorem DN (R:Type):∀a∈aP (aK Tryz.f172),cO tt (qs R cx) (AP R) 0 a:=by
  refine bH 0 (by kernel_rfl) fun i hi => ?_
  omega
theorem Ev (R:Type) (other:ay.Spec R) (ho:ay.Spec.Ok Tryz.prog 172 other):ay.Spec.Ok Tryz.prog 172 (aA qp qq (zP dY) other) :=
  bw ho (bk TT mixed (Ff R) (keep:=false) rfl rfl rfl rfl 0 (DN R)) fun (x:bO.av qp) (y:aH.av qq) k=>F3 cx x.1 x.2.1 x.2.2.1 k

/-! ### (*humpyard/quote.reader).unit -/
abbrev jC (R:Type):Type:=aj→(Int→aj→Option R)→Option R
abbrev mE:List bO := [.leaf (.ptr 0 0)]
abbrev mF:List aH := [.cells [.str]]
noncomputable def ub {R:Type} (fn:jC R):bO.av mE→aH.av mF→(V→az→Option R)→Option R:=fun x y k=>fn y.1.1 (fun q0 q1=>k (.int .i32 q0) [.cells [.str q1]])
noncomputable def mG (R:Type) (dY:nd R):Env R:=fun i=>match i with
  | 172=>some (true,(aA qp qq (zP dY) bg))
  | 173=>some (true,(MJ R))
  | _=>none
theorem B4 (R:Type):p8 Tryz.prog (mG R dY):=by
  intro i b sp h
  unfold mG at h
  split at h
  · cases h; exact ⟨(Ev R _ (aO _)),fun h=>nomatch h⟩
  · cases h; exact ⟨(WB),fun h=>nomatch h⟩
  · cases h

noncomputable def vd (R:Type):Nat→Option (Hint × cq R):=fun i=>match i with
  | _=>none

noncomputable def mH {R:Type} (dY:nd R) (x1:aj) (k0:Int→aj→Option R):Option R :=
  bif (decide ((x1.length:Int)<(4:Int)))then (k0 (-1) x1)else (cU (decide ((4:Int)≤x1.length)) (dY ((x1.drop 0).take (4 - 0)) 16 16 (fun y2=>k0 (-1) x1) (fun y3=>cU (ua ((x1.drop 0).take (4 - 0))&&ua ([43,45,95]:aj)&&decide (((x1.drop 0).take (4 - 0)).length<4294967281)&&decide (([43,45,95]:aj).length<4294967281)) (bif (MI ((x1.drop 0).take (4 - 0)) ([43,45,95]:aj))then (k0 (-1) x1)else (cU (decide ((0:Int)≤(x1.length:Int))&&decide ((x1.length:Int)≤x1.length)) (cU (decide ((4:Int)≤(x1.length:Int))) (k0 (IntKind.i32.wrap y3) ((x1.drop 4).take ((x1.length:Int).toNat - 4)))))))))
noncomputable def cE {R:Type}:jC R:=fun x1 k0=>mH dY x1 k0
theorem Cu {R:Type} (dY:nd R) (x1:aj) (k:V→az→Option R):iQ tt (mG R dY) (vd R) false Tryz.f157 (aK Tryz.f157) [.ptr 0 0] [.cells [.str x1]] k =
    mH dY x1 (fun q0 q1=>k (.int .i32 q0) [.cells [.str q1]]):=by kernel_rfl
theorem Ap (R:Type):∀a∈aP (aK Tryz.f157),cO tt (mG R dY) (vd R) 1 a:=by
  refine bH 0 (by kernel_rfl) fun i hi => ?_
  omega
theorem Bj (R:Type) (other:ay.Spec R) (ho:ay.Spec.Ok Tryz.prog 157 other):ay.Spec.Ok Tryz.prog 157 (aA mE mF (ub cE) other) :=
  bw ho (bk TT mixed (B4 R) (keep:=false) rfl rfl rfl rfl 1 (Ap R)) fun (x:bO.av mE) (y:aH.av mF) k=>Cu dY y.1.1 k

/-! ### (*humpyard/quote.reader).long -/
abbrev jD (R:Type):Type:=aj→(Int→aj→Option R)→Option R
abbrev mI:List bO := [.leaf (.ptr 0 0)]
abbrev mJ:List aH := [.cells [.str]]
noncomputable def uc {R:Type} (fn:jD R):bO.av mI→aH.av mJ→(V→az→Option R)→Option R:=fun x y k=>fn y.1.1 (fun q0 q1=>k (.int .i32 q0) [.cells [.str q1]])
noncomputable def mK (R:Type) (aD:dh R) (cE:jC R):Env R:=fun i=>match i with
  | 107=>some (false,(aA jX jY (oO aD) bg))
  | 157=>some (false,(aA mE mF (ub cE) bg))
  | _=>none
theorem B5 (R:Type):p8 Tryz.prog (mK R aD cE):=by
  intro i b sp h
  unfold mK at h
  split at h
  · cases h; exact ⟨(sG R _ (aO _)),fun _ h=>nomatch h⟩
  · cases h; exact ⟨(Bj R _ (aO _)),fun _ h=>nomatch h⟩
  · cases h

noncomputable def ve (R:Type):Nat→Option (Hint × cq R):=fun i=>match i with
  | _=>none

noncomputable def mL {R:Type} (aD:dh R) (cE:jC R) (x1:aj) (k0:Int→aj→Option R):Option R :=
  cE x1 (fun y2 y3=>bif (decide (y2<(55296:Int)))then (k0 y2 y3)else (bif (decide (y2≥(57344:Int)))then (k0 y2 y3)else (bif (decide (y2≥(56320:Int)))then (k0 (-1) y3)else (aD ([92,117]:aj) y3 (fun y5 y6=>bif (!y5)then (k0 (-1) y6)else (cE y6 (fun y9 yA=>bif (decide (y9<(56320:Int)))then (k0 (-1) yA)else (bif (decide (y9≥(57344:Int)))then (k0 (-1) yA)else (k0 (IntKind.i32.wrap ((IntKind.i32.wrap ((IntKind.i32.wrap (65536+(IntKind.i32.wrap ((IntKind.i32.wrap (y2 - 55296))*2 ^ (min 10 IntKind.i32.bits)))))+y9)) - 56320)) yA)))))))))
noncomputable def ct {R:Type}:jD R:=fun x1 k0=>mL aD cE x1 k0
theorem Cv {R:Type} (aD:dh R) (cE:jC R) (x1:aj) (k:V→az→Option R):iQ tt (mK R aD cE) (ve R) false Tryz.f138 (aK Tryz.f138) [.ptr 0 0] [.cells [.str x1]] k =
    mL aD cE x1 (fun q0 q1=>k (.int .i32 q0) [.cells [.str q1]]):=by kernel_rfl
theorem Aq (R:Type):∀a∈aP (aK Tryz.f138),cO tt (mK R aD cE) (ve R) 1 a:=by
  refine bH 0 (by kernel_rfl) fun i hi => ?_
  omega
theorem Bk (R:Type) (other:ay.Spec R) (ho:ay.Spec.Ok Tryz.prog 138 other):ay.Spec.Ok Tryz.prog 138 (aA mI mJ (uc ct) other) :=
  bw ho (bk TT mixed (B5 R) (keep:=false) rfl rfl rfl rfl 1 (Aq R)) fun (x:bO.av mI) (y:aH.av mJ) k=>Cv aD cE y.1.1 k

/-! ### (*humpyard/quote.reader).escaped -/
abbrev eP (R:Type):Type:=aj→(Int→aj→Option R)→Option R
abbrev kT:List bO := [.leaf (.ptr 0 0)]
abbrev kU:List aH := [.cells [.str]]
noncomputable def sa {R:Type} (fn:eP R):bO.av kT→aH.av kU→(V→az→Option R)→Option R:=fun x y k=>fn y.1.1 (fun q0 q1=>k (.int .i32 q0) [.cells [.str q1]])
noncomputable def kV (R:Type) (ct:jD R):Env R:=fun i=>match i with
  | 138=>some (false,(aA mI mJ (uc ct) bg))
  | _=>none
theorem zQ (R:Type):p8 Tryz.prog (kV R ct):=by
  intro i b sp h
  unfold kV at h
  split at h
  · cases h; exact ⟨(Bk R _ (aO _)),fun _ h=>nomatch h⟩
  · cases h

noncomputable def sI (R:Type):Nat→Option (Hint × cq R):=fun i=>match i with
  | _=>none

noncomputable def kW {R:Type} (ct:jD R) (x1:aj) (k0:Int→aj→Option R):Option R :=
  bif (x1==([]:aj))then (k0 (-1) x1)else (cU (decide ((0:Int)<x1.length)) (cU (decide ((0:Int)≤(x1.length:Int))&&decide ((x1.length:Int)≤x1.length)) (cU (decide ((1:Int)≤(x1.length:Int))) (let j5:=fun (z2:Bool)=>bif z2 then (k0 (IntKind.i32.wrap ((x1.getD 0 0).toNat:Int)) ((x1.drop 1).take ((x1.length:Int).toNat - 1)))else (bif (((x1.getD 0 0).toNat:Int)==98)then (k0 8 ((x1.drop 1).take ((x1.length:Int).toNat - 1)))else (bif (((x1.getD 0 0).toNat:Int)==102)then (k0 12 ((x1.drop 1).take ((x1.length:Int).toNat - 1)))else (bif (((x1.getD 0 0).toNat:Int)==110)then (k0 10 ((x1.drop 1).take ((x1.length:Int).toNat - 1)))else (bif (((x1.getD 0 0).toNat:Int)==114)then (k0 13 ((x1.drop 1).take ((x1.length:Int).toNat - 1)))else (bif (((x1.getD 0 0).toNat:Int)==116)then (k0 9 ((x1.drop 1).take ((x1.length:Int).toNat - 1)))else (bif (((x1.getD 0 0).toNat:Int)==117)then (ct ((x1.drop 1).take ((x1.length:Int).toNat - 1)) (fun y3 y4=>k0 y3 y4))else (k0 (-1) ((x1.drop 1).take ((x1.length:Int).toNat - 1))))))))); bif (((x1.getD 0 0).toNat:Int)==34)then (j5 (((x1.getD 0 0).toNat:Int)==34))else (bif (((x1.getD 0 0).toNat:Int)==92)then (j5 (((x1.getD 0 0).toNat:Int)==92))else (j5 (((x1.getD 0 0).toNat:Int)==47)))))))
noncomputable def aZ {R:Type}:eP R:=fun x1 k0=>kW ct x1 k0
theorem Ar {R:Type} (ct:jD R) (x1:aj) (k:V→az→Option R):iQ tt (kV R ct) (sI R) false Tryz.f109 (aK Tryz.f109) [.ptr 0 0] [.cells [.str x1]] k =
    kW ct x1 (fun q0 q1=>k (.int .i32 q0) [.cells [.str q1]]):=by kernel_rfl
theorem ya (R:Type):∀a∈aP (aK Tryz.f109),cO tt (kV R ct) (sI R) 1 a:=by
  refine bH 0 (by kernel_rfl) fun i hi => ?_
  omega
theorem yK (R:Type) (other:ay.Spec R) (ho:ay.Spec.Ok Tryz.prog 109 other):ay.Spec.Ok Tryz.prog 109 (aA kT kU (sa aZ) other) :=
  bw ho (bk TT mixed (zQ R) (keep:=false) rfl rfl rfl rfl 1 (ya R)) fun (x:bO.av kT) (y:aH.av kU) k=>Ar ct y.1.1 k

/-! ### (*humpyard/quote.reader).plain -/
abbrev fk (R:Type):Type:=aj→(Int→aj→Option R)→Option R
abbrev mb:List bO := [.leaf (.ptr 0 0)]
abbrev mc:List aH := [.cells [.str]]
noncomputable def tu {R:Type} (fn:fk R):bO.av mb→aH.av mc→(V→az→Option R)→Option R:=fun x y k=>fn y.1.1 (fun q0 q1=>k (.int .i32 q0) [.cells [.str q1]])
noncomputable def me (R:Type):Env R:=fun i=>match i with
  | 130=>some (true,(Zh R))
  | _=>none
theorem Bl (R:Type):p8 Tryz.prog (me R):=by
  intro i b sp h
  unfold me at h
  split at h
  · cases h; exact ⟨(dec_ok),fun h=>nomatch h⟩
  · cases h

noncomputable def uf (R:Type):Nat→Option (Hint × cq R):=fun i=>match i with
  | _=>none

noncomputable def mf {R:Type} (x1:aj) (k0:Int→aj→Option R):Option R :=
  let j3:=cU (decide ((0:Int)≤(x1.length:Int))&&decide ((x1.length:Int)≤x1.length)) (cU (decide ((0:Int)≤((oD x1).2:Int))&&decide (((oD x1).2:Int)≤(x1.length:Int))) (k0 ((oD x1).1:Int) ((x1.drop ((oD x1).2:Int).toNat).take ((x1.length:Int).toNat - ((oD x1).2:Int).toNat)))); bif (((oD x1).1:Int)==65533)then (bif (decide (((oD x1).2:Int)<(2:Int)))then (k0 (-1) x1)else (bif (decide (((oD x1).1:Int)<(32:Int)))then (k0 (-1) x1)else (j3)))else (bif (decide (((oD x1).1:Int)<(32:Int)))then (k0 (-1) x1)else (j3))
noncomputable def bu {R:Type}:fk R:=fun x1 k0=>mf x1 k0
theorem B6 {R:Type} (x1:aj) (k:V→az→Option R):iQ tt (me R) (uf R) false Tryz.f108 (aK Tryz.f108) [.ptr 0 0] [.cells [.str x1]] k =
    mf x1 (fun q0 q1=>k (.int .i32 q0) [.cells [.str q1]]):=by kernel_rfl
theorem zR (R:Type):∀a∈aP (aK Tryz.f108),cO tt (me R) (uf R) 1 a:=by
  refine bH 0 (by kernel_rfl) fun i hi => ?_
  omega
theorem As (R:Type) (other:ay.Spec R) (ho:ay.Spec.Ok Tryz.prog 108 other):ay.Spec.Ok Tryz.prog 108 (aA mb mc (tu bu) other) :=
  bw ho (bk TT mixed (Bl R) (keep:=false) rfl rfl rfl rfl 1 (zR R)) fun (x:bO.av mb) (y:aH.av mc) k=>B6 y.1.1 k

end Go.Proofs.YtmlkkgfenfdndaaGreatDoor

set_option maxRecDepth 100000
namespace Go.Proofs.YtmlkkgfenfdndaaGreatDoor
open Go Go.ay Go.Lib

theorem U2 {p q:Prop} [Decidable p] [Decidable q] (hp:p) (hq:q):(decide p&&decide q)=true:=by rw[br hp,br hq]; rfl

theorem M7:∀(p s:aj),(s.take p.length==p)=p.isPrefixOf s
  | [],s=>by simp
  | a::p, []=>by simp
  | a::p,b::s=>by
    have:=M7 p s
    simp only[List.length_cons,List.take_succ_cons,List.isPrefixOf]
    rw[List.cons_beq_cons,this]
    congr 1
    exact Bool.beq_comm

theorem LB {R:Type} (p s:aj) (hp:p.length≤1000) (hs:s.length≤9000000000000000000) (k:Bool→aj→Option R) :
    aD p s k=if p.isPrefixOf s then k true (s.drop p.length)else k false s:=by
  have e1:∀f:aj→Bool→Option R,dX s p f=bP s p f:=fun _=>rfl
  show dX s p (fun y3 y4=>k y4 y3)=_
  rw[e1]
  show iB bI s p (fun y3 y4=>k y4 y3)=_
  unfold iB
  have e2:∀f:Bool→Option R,bI s p f=f (p.isPrefixOf s):=by
    intro f
    show iv s p f=_
    unfold iv
    by_cases h:p.length≤s.length
    · rw[br (show (s.length:Int)≥(p.length:Int) by omega),cond_true,aS (by rw[br (show (0:Int)≤(p.length:Int) by omega)]; rfl),aS (br (by omega))]
      rw[List.drop_zero,Int.toNat_natCast,Nat.sub_zero,M7]
    · rw[cY (show ¬(s.length:Int)≥(p.length:Int) by omega),cond_false]
      congr 1
      rw[←M7]
      symm
      rw[beq_eq_false_iff_ne]
      intro e
      have:=congrArg List.length e
      rw[List.length_take]at this
      omega
  rw[e2]
  cases hp2:p.isPrefixOf s with
  | false=>simp
  | true =>
    have hle:p.length≤s.length:=(List.IsPrefix.length_le (List.isPrefixOf_iff_prefix.1 hp2))
    rw[Bool.not_true,cond_false,aS (U2 (by omega) (by omega)),aS (U2 (by omega) (by omega))]
    simp only[Int.toNat_natCast,if_true]
    rw[List.take_of_length_le (by rw[List.length_drop]; exact Nat.le_refl _)]

theorem TX {s:aj} (h:s ≠ []):oD s=decodeL s:=by
  unfold oD
  have:s.isEmpty=false:=by cases s with|nil=>exact (h rfl).elim|cons _ _=>rfl
  rw[this]
  rfl

def Ew (s:aj):Option (Nat × aj) :=
  if s = []then none else if (decodeL s).1=65533∧(decodeL s).2=1 then none else if (decodeL s).1<32 then none else some ((decodeL s).1,s.drop (decodeL s).2)

theorem ZF {R:Type} (s:aj) (hs:s.length≤9000000000000000000) (k:Int→aj→Option R) :
    bu s k=match Ew s with|some (c,r)=>k (c:Int) r|none=>k (-1) s:=by
  show mf s k=_
  unfold mf
  by_cases h0:s = []
  · subst h0; rfl
  rw[TX h0]
  have hw:=decodeL_width s
  have hle:=decodeL_le s h0
  have hj:(cU (decide ((0:Int)≤(s.length:Int))&&decide ((s.length:Int)≤s.length)) (cU (decide ((0:Int)≤((decodeL s).2:Int))&&decide (((decodeL s).2:Int)≤(s.length:Int))) (k ((decodeL s).1:Int) ((s.drop ((decodeL s).2:Int).toNat).take ((s.length:Int).toNat - ((decodeL s).2:Int).toNat)))))=k ((decodeL s).1:Int) (s.drop (decodeL s).2):=by
    rw[aS (U2 (by omega) (by omega)),aS (U2 (by omega) (by omega)),Int.toNat_natCast,Int.toNat_natCast,List.take_of_length_le (by rw[List.length_drop]; exact Nat.le_refl _)]
  simp only[hj]
  unfold Ew
  rw[if_neg h0]
  by_cases h1:(decodeL s).1=65533
  · have e1:(((decodeL s).1:Int)==65533)=true:=by rw[h1]; rfl
    rw[e1,cond_true]
    by_cases h2:(decodeL s).2=1
    · rw[br (show ((decodeL s).2:Int)<2 by omega),cond_true,if_pos ⟨h1,h2⟩]
    · rw[cY (show ¬((decodeL s).2:Int)<2 by omega),cond_false,cY (show ¬((decodeL s).1:Int)<32 by omega),cond_false,if_neg (fun h=>h2 h.2),if_neg (by omega)]
  · have e1:(((decodeL s).1:Int)==65533)=false:=by rw[beq_eq_false_iff_ne]; omega
    rw[e1,cond_false,if_neg (fun h=>h1 h.1)]
    by_cases h3:(decodeL s).1<32
    · rw[br (show ((decodeL s).1:Int)<32 by omega),cond_true,if_pos h3]
    · rw[cY (show ¬((decodeL s).1:Int)<32 by omega),cond_false,if_neg h3]

def La (b:UInt8):Option Nat :=
  let n:=b.toNat
  if 48≤n∧n≤57 then some (n - 48)else if 65≤n∧n≤70 then some (n - 55)else if 97≤n∧n≤102 then some (n - 87)else none
def I3:aj→Nat→Option Nat
  | [],v=>some v
  | b::t,v=>match La b with|some d=>I3 t (16*v+d)|none=>none

def zS (b:Int):Int:=IntKind.u8.wrap ((BitVec.ofInt IntKind.u8.bits b ||| BitVec.ofInt IntKind.u8.bits 32).toNat:Int)

def hexB (b:Nat):Bool :=
  (!(decide (48≤b)&&decide (b≤57))||decide (IntKind.u8.wrap ((b:Int) - 48)=((b - 48:Nat):Int))) &&
  (!(decide ((97:Int)≤zS b)&&decide (zS b≤122))||(!(decide (48≤b)&&decide (b≤57))&&decide (b≠95)&&decide (IntKind.u8.wrap ((IntKind.u8.wrap (zS b - 97))+10)=zS b - 87) &&
    (!decide (zS b - 87<16)||((decide (65≤b)&&decide (b≤70)&&decide (zS b - 87=((b - 55:Nat):Int)))||(decide (97≤b)&&decide (b≤102)&&decide (zS b - 87=((b - 87:Nat):Int))))) &&
    (!decide (16≤zS b - 87)||(!(decide (65≤b)&&decide (b≤70)) && !(decide (97≤b)&&decide (b≤102)))))) &&
  ((decide ((97:Int)≤zS b)&&decide (zS b≤122))||(!(decide (65≤b)&&decide (b≤70)) && !(decide (97≤b)&&decide (b≤102))))
theorem ZG:∀b:Fin 256,hexB b.val=true:=by decide +kernel
theorem ZH (b:Nat) (hb:b<256) :
    ((48≤b∧b≤57)→IntKind.u8.wrap ((b:Int) - 48)=((b - 48:Nat):Int)) ∧
    ((97:Int)≤zS b→zS b≤122→¬(48≤b∧b≤57)∧b≠95∧IntKind.u8.wrap ((IntKind.u8.wrap (zS b - 97))+10)=zS b - 87 ∧
      (zS b - 87<16→((65≤b∧b≤70)∧zS b - 87=((b - 55:Nat):Int))∨((97≤b∧b≤102)∧zS b - 87=((b - 87:Nat):Int))) ∧
      (16≤zS b - 87→¬(65≤b∧b≤70)∧¬(97≤b∧b≤102))) ∧
    (¬((97:Int)≤zS b∧zS b≤122)→¬(65≤b∧b≤70)∧¬(97≤b∧b≤102)):=by
  have h:=ZG ⟨b,hb⟩
  unfold hexB at h
  generalize zS (b:Int)=l at *
  simp only[Bool.and_eq_true,Bool.or_eq_true,Bool.not_eq_true',Bool.and_eq_false_iff,decide_eq_true_eq,decide_eq_false_iff_not]at h
  obtain ⟨⟨h1,h2⟩,h3⟩:=h
  refine ⟨fun q => ?_,fun q1 q2 => ?_,fun q => ?_⟩
  · rcases h1 with h1|h1
    · omega
    · exact h1
  · rcases h2 with h2|⟨⟨⟨⟨g1,g2⟩,g3⟩,g4⟩,g5⟩
    · omega
    · refine ⟨by omega,g2,g3,fun q => ?_,fun q => ?_⟩
      · rcases g4 with g4|g4
        · omega
        · rcases g4 with ⟨⟨k1,k2⟩,k3⟩|⟨⟨k1,k2⟩,k3⟩
          · exact .inl ⟨⟨k1,k2⟩,k3⟩
          · exact .inr ⟨⟨k1,k2⟩,k3⟩
      · rcases g5 with g5|⟨k1,k2⟩
        · omega
        · exact ⟨by omega,by omega⟩
  · rcases h3 with h3|⟨k1,k2⟩
    · omega
    · exact ⟨by omega,by omega⟩

theorem U3 {b:UInt8} {d:Nat} (h:La b=some d):d<16:=by
  unfold La at h
  simp only at h
  split at h
  · cases h; omega
  · split at h
    · cases h; omega
    · split at h
      · cases h; omega
      · cases h

theorem u64w {n:Int} (h0:0≤n) (h:n≤18446744073709551615):IntKind.u64.wrap n=n:=by
  simp only[IntKind.wrap,IntKind.bits,IntKind.signed]
  simp
  omega

theorem TY {R:Type} {s x22:aj} {i v:Nat} (hi:i<s.length) (hs:s.length≤1000) (hv:v<4096) (fH:Int→Bool→aj→Int→Int→Bool→Int→Nat→Int→Int→(List Int)→Option R) (e0:aj→Bool→Int→Option R) (e1 e2:Int→aj→Bool→Int→Option R) (e3:Int→aj→Bool→Option R) :
    dG internal_strconv_lower fH 16 false x22 1152921504606846976 65535 false (v:Int) s.length (s.length:Int) (i:Int) (oN s) e0 e1 e2 e3 =
      match La (s[i])with
      | some d=>fH 16 false x22 1152921504606846976 65535 false ((16*v+d:Nat):Int) s.length (s.length:Int) ((i+1:Nat):Int) (oN s)
      | none=>e1 0 x22 false (v:Int):=by
  unfold dG
  have P3:∀(n:Int) (f:Int→Option R),internal_strconv_lower n f=f (zS n):=fun _ _=>rfl
  have CY:(oN s).getD (i:Int).toNat (Ty.ck (.int .u8))=(s[i].toNat:Int):=by
    rw[Int.toNat_natCast]
    show (s.map fun b=>(b.toNat:Int)).getD i _=_
    simp[List.getD,hi]
    rfl
  rw[br (show (i:Int)<(s.length:Int) by omega),cond_true,aS (by rw[br (show (0:Int)≤(i:Int) by omega)]; rfl),
    aS (br (by rw[Int.toNat_natCast,J6,HP]; exact hi))]
  simp only[CY,P3]
  obtain ⟨f1,f2,f3⟩:=ZH s[i].toNat (UInt8.toNat_lt _)
  have hb:=UInt8.toNat_lt s[i]
  generalize hbn:s[i].toNat=b at *
  have hw16:IntKind.u8.wrap 16=16:=by decide
  have hw64:IntKind.u64.wrap 16=16:=by decide
  have hi1:IntKind.i64.wrap ((i:Int)+1)=((i+1:Nat):Int):=by rw[dE (by omega) (by omega)]; omega
  -- a digit's value, if it is below 16
  have fit:∀d:Nat,d<16→∀z:Int,z=(d:Int)→(bif (decide (z≥(IntKind.u8.wrap 16)))then (e1 0 x22 false (v:Int))else (bif (decide ((v:Int)≥1152921504606846976))then (e2 65535 x22 false (v:Int))else (bif (decide ((IntKind.u64.wrap ((IntKind.u64.wrap ((v:Int)*(IntKind.u64.wrap 16)))+(IntKind.u64.wrap z)))<(IntKind.u64.wrap ((v:Int)*(IntKind.u64.wrap 16)))))then (e2 65535 x22 false (IntKind.u64.wrap ((v:Int)*(IntKind.u64.wrap 16))))else (bif (decide ((IntKind.u64.wrap ((IntKind.u64.wrap ((v:Int)*(IntKind.u64.wrap 16)))+(IntKind.u64.wrap z)))>65535))then (e2 65535 x22 false (IntKind.u64.wrap ((v:Int)*(IntKind.u64.wrap 16))))else (fH 16 false x22 1152921504606846976 65535 false (IntKind.u64.wrap ((IntKind.u64.wrap ((v:Int)*(IntKind.u64.wrap 16)))+(IntKind.u64.wrap z))) s.length (s.length:Int) (IntKind.i64.wrap ((i:Int)+1)) (oN s)))))) =
      fH 16 false x22 1152921504606846976 65535 false ((16*v+d:Nat):Int) s.length (s.length:Int) ((i+1:Nat):Int) (oN s):=by
    intro d hd z hz
    subst hz
    have k1:IntKind.u64.wrap ((v:Int)*16)=(v:Int)*16:=u64w (by omega) (by omega)
    have k2:IntKind.u64.wrap (d:Int)=d:=u64w (by omega) (by omega)
    have k3:IntKind.u64.wrap ((v:Int)*16+(d:Int))=(v:Int)*16+(d:Int):=u64w (by omega) (by omega)
    rw[hw16,hw64,k1,k2,k3,hi1,cY (show ¬(d:Int)≥16 by omega),cond_false,cY (show ¬(v:Int)≥1152921504606846976 by omega),cond_false,cY (show ¬(v:Int)*16+(d:Int)<(v:Int)*16 by omega),cond_false,
      cY (show ¬(v:Int)*16+(d:Int)>65535 by omega),cond_false]
    have:(v:Int)*16+(d:Int)=((16*v+d:Nat):Int):=by omega
    rw[this]
  rw[cond_false,Bool.cond_self]
  unfold La
  simp only[hbn]
  by_cases h1:48≤b∧b≤57
  · rw[br (show (48:Int)≤(b:Int) by omega),cond_true,br (show (b:Int)≤57 by omega),cond_true,if_pos h1]
    exact fit (b - 48) (by omega) _ (f1 h1)
  · rw[if_neg h1]
    have XB:∀x z:Option R,(bif (decide ((48:Int)≤(b:Int)))then (bif (decide ((b:Int)≤(57:Int)))then x else z)else z)=z:=by
      intro x z
      by_cases h:(48:Int)≤(b:Int)
      · rw[br h,cond_true,cY (show ¬(b:Int)≤57 by omega),cond_false]
      · rw[cY h,cond_false]
    simp only[cond_false]
    rw[XB]
    by_cases h2:(97:Int)≤zS b
    · rw[br h2,cond_true]
      by_cases h3:zS b≤122
      · rw[br h3,cond_true]
        obtain ⟨_,_,g1,g2,g3⟩:=f2 h2 h3
        rw[g1]
        by_cases h4:zS b - 87<16
        · rcases g2 h4 with ⟨q1,q2⟩|⟨q1,q2⟩
          · rw[if_pos q1]
            exact fit (b - 55) (by omega) _ q2
          · rw[if_neg (by omega),if_pos q1]
            exact fit (b - 87) (by omega) _ q2
        · obtain ⟨q1,q2⟩:=g3 (by omega)
          rw[hw16,br (show zS b - 87≥16 by omega),cond_true,if_neg q1,if_neg q2]
      · rw[cY h3,cond_false]
        obtain ⟨q1,q2⟩:=f3 (by omega)
        rw[if_neg q1,if_neg q2]
    · rw[cY h2,cond_false]
      obtain ⟨q1,q2⟩:=f3 (by omega)
      rw[if_neg q1,if_neg q2]

theorem WN (s:aj) (i v:Nat) (hi:i<s.length):I3 (s.drop i) v=match La s[i]with|some d=>I3 (s.drop (i+1)) (16*v+d)|none=>none:=by
  rw[List.drop_eq_getElem_cons hi]
  rfl

theorem WO {R:Type} {s x22:aj} (hs:s.length≤4) (e0:aj→Bool→Int→Option R) (e1 e2:Int→aj→Bool→Int→Option R) (e3:Int→aj→Bool→Option R):∀(n i v:Nat),s.length - i<n→i≤s.length→v<16 ^ i →
    (match I3 (s.drop i) v with
     | some u=>aI n 16 false x22 1152921504606846976 65535 false (v:Int) s.length (s.length:Int) (i:Int) (oN s) e0 e1 e2 e3=e0 x22 false (u:Int)
     | none=>∃w,aI n 16 false x22 1152921504606846976 65535 false (v:Int) s.length (s.length:Int) (i:Int) (oN s) e0 e1 e2 e3=e1 0 x22 false w):=by
  intro n
  induction n with
  | zero=>intro i v h; omega
  | succ n ih =>
    intro i v h hi hv
    by_cases lh:i<s.length
    · have We:v<4096:=by
        have:16 ^ i≤16 ^ 3:=Nat.pow_le_pow_right (by omega) (by omega)
        have e:(16:Nat) ^ 3=4096:=rfl
        omega
      have hr:=TY (R:=R) (x22:=x22) lh (by omega) We (fun lP lQ my tO Er Es K6 K7 K8 K9 Ao=>aI n lP lQ my tO Er Es K6 K7 K8 K9 Ao e0 e1 e2 e3) e0 e1 e2 e3
      have hL:aI (n+1) 16 false x22 1152921504606846976 65535 false (v:Int) s.length (s.length:Int) (i:Int) (oN s) e0 e1 e2 e3 =
        dG internal_strconv_lower (fun lP lQ my tO Er Es K6 K7 K8 K9 Ao=>aI n lP lQ my tO Er Es K6 K7 K8 K9 Ao e0 e1 e2 e3) 16 false x22 1152921504606846976 65535 false (v:Int) s.length (s.length:Int) (i:Int) (oN s) e0 e1 e2 e3:=rfl
      rw[hL,hr,WN s i v lh]
      cases hx:La s[i]with
      | none=>exact ⟨_,rfl⟩
      | some d =>
        have hd:=U3 hx
        have:(16:Nat) ^ (i+1)=16 ^ i*16:=Nat.pow_succ ..
        exact ih (i+1) (16*v+d) (by omega) (by omega) (by omega)
    · have e:s.drop i = []:=List.drop_eq_nil_of_le (by omega)
      rw[e]
      simp only[I3]
      show dG internal_strconv_lower _ 16 false x22 1152921504606846976 65535 false (v:Int) s.length (s.length:Int) (i:Int) (oN s) e0 e1 e2 e3=_
      unfold dG
      rw[cY (show ¬(i:Int)<(s.length:Int) by omega),cond_false]


theorem parse4 {R:Type} {s:aj} (hs:s.length=4) (k0 k1:Int→Option R):dY s 16 16 k0 k1=match I3 s 0 with|some u=>k1 (u:Int)|none=>k0 0:=by
  show qu cx s 16 16 k0 k1=_
  unfold qu
  show kg internal_strconv_lower bq aI s 16 16 _ _ _ _ _=_
  unfold kg
  have h1:(s==([]:aj))=false:=by rw[beq_eq_false_iff_ne]; rintro rfl; simp at hs
  rw[h1,cond_false]
  have c1:decide ((2:Int)≤16)=true:=by decide
  have c2:decide ((16:Int)≤36)=true:=by decide
  have c3:((16:Int)==0)=false:=by decide
  have c4:decide ((16:Int)<0)=false:=by decide
  have c5:decide ((16:Int)>64)=false:=by decide
  have c6:((16:Int)==10)=false:=by decide
  have c7:((16:Int)==16)=true:=by decide
  have c8:decide ((0:Int)≤IntKind.u64.wrap 16)=true:=by decide
  have c9:(IntKind.u64.wrap ((IntKind.u64.wrap (1*2 ^ (min ((IntKind.u64.wrap 16).toNat) IntKind.u64.bits))) - 1))=65535:=by decide +kernel
  dsimp only
  rw[c1,cond_true,c2,cond_true,c3,cond_false,c4,cond_false,c5,cond_false,c6,cond_false,c7,cond_true]
  rw[c8,aS rfl,c9]
  have hb:decide (s.length≤281474976710656)=true:=br (by omega)
  have key:=fun (n:Nat) (hn:4<n) (e0:aj→Bool→Int→Option R) (e1 e2:Int→aj→Bool→Int→Option R) (e3:Int→aj→Bool→Option R)=>WO (R:=R) (s:=s) (x22:=s) (by omega) e0 e1 e2 e3 n 0 0 (by omega) (by omega) (by omega)
  have z0:(((0:Nat):Int))=0:=rfl
  simp only[List.drop_zero,z0]at key
  cases hx:I3 s 0 with
  | some u =>
    simp only[hx]at key
    rw[key _ (by omega)]
    rfl
  | none =>
    simp only[hx]at key
    generalize hF:(Int.natAbs 16+List.length s+Int.natAbs 1152921504606846976+Int.natAbs 65535+Int.natAbs 0+Int.natAbs (s.length:Int)+Int.natAbs 0+List.length (oN s)+64)=F at *
    obtain ⟨w,hw⟩:=key F (by rw[←hF]; omega) _ _ _ _
    rw[hw,aS (by rfl),hb,aS rfl]
end Go.Proofs.YtmlkkgfenfdndaaGreatDoor

/-
  Functions of the program as pure Lean functions, and the ties; printed by wip/tools/emit.py.
-/
set_option maxRecDepth 100000
namespace Go.Proofs.YtmlkkgfenfdndaaGreatDoor
open Go Go.ay

/-! ### humpyard/quote.Unquote -/
abbrev qG (R:Type):Type:=aj→(aj→Int→Bool→Option R)→Option R
abbrev vz:List bO := [.leaf (.str)]
abbrev vA:List aH := []
noncomputable def DO {R:Type} (fn:qG R):bO.av vz→aH.av vA→(V→az→Option R)→Option R:=fun x y k=>fn x.1 (fun q0 q1 q2=>k (.tuple [.str q0, .int .i64 q1, .bool q2]) [])
abbrev kD (R:Type):Type:=Nat→aj→aj→(List Int)→(aj→aj→(List Int)→Option R)→(aj→aj→Int→Bool→aj→(List Int)→Option R)→Option R
noncomputable def nH (R:Type) (ai:bM R) (aD:dh R) (bu:fk R) (aZ:eP R):Env R:=fun i=>match i with
  | 53=>some (false,(aA fP fQ (k9 ai) bg))
  | 39=>some (false,(Ee R))
  | 107=>some (false,(aA jX jY (oO aD) bg))
  | 108=>some (false,(aA mb mc (tu bu) bg))
  | 109=>some (false,(aA kT kU (sa aZ) bg))
  | _=>none
theorem I4 (R:Type):p8 Tryz.prog (nH R ai aD bu aZ):=by
  intro i b sp h
  unfold nH at h
  split at h
  · cases h; exact ⟨(n5 R _ (aO _)),fun _ h=>nomatch h⟩
  · cases h; exact ⟨(Ly),fun _ _=>Gq⟩
  · cases h; exact ⟨(sG R _ (aO _)),fun _ h=>nomatch h⟩
  · cases h; exact ⟨(As R _ (aO _)),fun _ h=>nomatch h⟩
  · cases h; exact ⟨(yK R _ (aO _)),fun _ h=>nomatch h⟩
  · cases h

noncomputable def qv {R:Type} (ai:bM R) (aD:dh R) (bu:fk R) (aZ:eP R) (fH:aj→aj→(List Int)→Option R) (x4:aj) (x5:aj) (x6:List Int) (e0:aj→aj→(List Int)→Option R) (e1:aj→aj→Int→Bool→aj→(List Int)→Option R):Option R :=
  aD ([34]:aj) x5 (fun y7 y8=>bif (!y7)then (aD ([92]:aj) y8 (fun y9 yA=>bif y9 then (aZ yA (fun wE Ak=>bif (decide (wE<(0:Int)))then (e1 x4 ([]:aj) 0 false Ak x6)else (ai wE x6 (fun DB Dg=>fH x4 Ak Dg))))else (bu yA (fun GG Ha=>bif (decide (GG<(0:Int)))then (e1 x4 ([]:aj) 0 false Ha x6)else (ai GG x6 (fun Jn E2=>fH x4 Ha E2))))))else (e0 x4 y8 x6))
noncomputable def bl {R:Type}:kD R
  | 0,_,_,_,_,_=>none
  | n+1,lP,lQ,my,e0,e1=>qv ai aD bu aZ (fun lP lQ my=>bl n lP lQ my e0 e1) lP lQ my e0 e1
noncomputable def qw:Hint := { live := [0,5,6],own := [],rows := [],cells := [(1,1,(.int .u8),false)],drop := [],out := [0,2,3,4,5,6] }
abbrev hP:Type:=aj × aj × (List Int)
noncomputable def oE:hP→St:=fun d=>⟨[.str d.1, .undef, .undef, .undef, .undef, .ptr 0 0, .ptr 1 0, .undef, .undef, .undef, .undef, .undef, .undef, .undef, .undef, .undef, .undef, .undef, .undef, .undef, .undef, .undef, .undef, .undef, .undef, .undef, .undef, .undef, .undef, .undef, .undef, .undef, .undef, .undef, .undef, .undef, .undef, .undef, .undef], [.cells [.str d.2.1], .kR (.sl (.int .u8) d.2.2 (.own 2)), .tok]⟩
noncomputable def tw {R:Type} (K:Ex→St→Option R) (q0:aj) (q1:aj) (q2:List Int):Option R:=K (.exit 0) ⟨[.str q0, .undef, .undef, .undef, .undef, .ptr 0 0, .ptr 1 0, .undef, .undef, .undef, .undef, .undef, .undef, .undef, .undef, .undef, .undef, .undef, .undef, .undef, .undef, .undef, .undef, .undef, .undef, .undef, .undef, .undef, .undef, .undef, .undef, .undef, .undef, .undef, .undef, .undef, .undef, .undef, .undef], [.cells [.str q1], .kR (.sl (.int .u8) q2 (.own 2)), .tok]⟩
noncomputable def tz {R:Type} (K:Ex→St→Option R) (q0:aj) (q1:aj) (q2:Int) (q3:Bool) (q4:aj) (q5:List Int):Option R:=K (.ret) ⟨[.str q0, .undef, .str q1, .int .i64 q2, .bool q3, .ptr 0 0, .ptr 1 0, .undef, .undef, .undef, .undef, .undef, .undef, .undef, .undef, .undef, .undef, .undef, .undef, .undef, .undef, .undef, .undef, .undef, .undef, .undef, .undef, .undef, .undef, .undef, .undef, .undef, .undef, .undef, .undef, .undef, .undef, .undef, .undef], [.cells [.str q4], .kR (.sl (.int .u8) q5 (.own 2)), .tok]⟩
noncomputable def uH {R:Type} (ai:bM R) (aD:dh R) (bu:fk R) (aZ:eP R) (K:Ex→St→Option R) (rc:hP→Option R) (d:hP):Option R:=qv ai aD bu aZ (fun z0 z1 z2=>rc (z0,z1,z2)) d.1 d.2.1 d.2.2 (tw K) (tz K)
noncomputable def lN {R:Type} (K:Ex→St→Option R) (n:Nat) (d:hP):Option R:=bl n d.1 d.2.1 d.2.2 (tw K) (tz K)
abbrev hQ:List bO := [.leaf (.str), .leaf (.undef), .leaf (.undef), .leaf (.undef), .leaf (.undef), .leaf (.ptr 0 0), .leaf (.ptr 1 0), .leaf (.undef), .leaf (.undef), .leaf (.undef), .leaf (.undef), .leaf (.undef), .leaf (.undef), .leaf (.undef), .leaf (.undef), .leaf (.undef), .leaf (.undef), .leaf (.undef), .leaf (.undef), .leaf (.undef), .leaf (.undef), .leaf (.undef), .leaf (.undef), .leaf (.undef), .leaf (.undef), .leaf (.undef), .leaf (.undef), .leaf (.undef), .leaf (.undef), .leaf (.undef), .leaf (.undef), .leaf (.undef), .leaf (.undef), .leaf (.undef), .leaf (.undef), .leaf (.undef), .leaf (.undef), .leaf (.undef), .leaf (.undef)]
abbrev hU:List aH := [.cells [.str], .kR (.NQ (.int .u8) 2), .tok]
noncomputable def uI (x:bO.av hQ) (y:aH.av hU):Nat:=(List.length x.1+List.length y.1.1+List.length y.2.1+64)
noncomputable def uJ (x:bO.av hQ) (y:aH.av hU):hP:=(x.1,y.1.1,y.2.1)
noncomputable def tA {R:Type} (L:kD R):bO.av hQ→aH.av hU→(Ex→St→Option R)→Option R:=fun x y K=>L (uI x y) x.1 y.1.1 y.2.1 (tw K) (tz K)
noncomputable def sb (R:Type) (bl:kD R):Nat→Option (Hint × cq R):=fun i=>match i with
  | 5=>some (qw,(gq hQ hU (tA bl) qx))
  | _=>none

theorem Ey {R:Type} (ai:bM R) (aD:dh R) (bu:fk R) (aZ:eP R) (bl:kD R) (K:Ex→St→Option R) (rc:St→Option R) (d:hP):roundOf tt (nH R ai aD bu aZ) (sb R bl) 0 ((aP (aK Tryz.f70)).getD 0 .skip) qw (oE d) rc K=uH ai aD bu aZ K (fun d=>rc (oE d)) d:=by kernel_rfl
theorem C5 {R:Type} (K:Ex→St→Option R) (n:Nat) (d:hP):lN K (n+1) d=uH ai aD bu aZ K (lN K n) d:=by kernel_rfl
theorem C6 {R:Type} (K:Ex→St→Option R) (d:hP):lN K 0 d=none:=by kernel_rfl
theorem Ez (x:bO.av hQ) (y:aH.av hU):(⟨bO.cQ hQ x,aH.cQ hU y⟩:St)=oE (uJ x y):=by kernel_rfl
theorem EA {R:Type} (x:bO.av hQ) (y:aH.av hU) (K:Ex→St→Option R):tA (bl) x y K=lN K (uI x y) (uJ x y):=by kernel_rfl
theorem F4 {R:Type} (other:cq R) (ho:o0 tt (nH R ai aD bu aZ) (sb R bl) 0 ((aP (aK Tryz.f70)).getD 0 .skip) qw other):o0 tt (nH R ai aD bu aZ) (sb R bl) 0 ((aP (aK Tryz.f70)).getD 0 .skip) qw (gq hQ hU (tA (bl)) other) :=
  gL (A:=lN) ho (kr oE (uH ai aD bu aZ) (lN) (C6) (Ey ai aD bu aZ bl) (C5)) uI uJ Ez (EA)

noncomputable def vB {R:Type} (aD:dh R) (bl:kD R) (x1:aj) (k0:aj→Int→Bool→Option R):Option R :=
  aD ([34]:aj) x1 (fun y2 y3=>bif (!y2)then (k0 ([]:aj) 0 false)else (bl (List.length x1+List.length y3+List.length ([]:List Int)+64) x1 y3 ([]:List Int) (fun KF LA BZ=>k0 (s7 BZ) (IntKind.i64.wrap ((KF.length:Int) - (LA.length:Int))) true) (fun Ql RU y24 Jo J2 Jp=>k0 RU y24 Jo)))
noncomputable def eN {R:Type}:qG R:=fun x1 k0=>vB aD bl x1 k0
theorem J7 {R:Type} (ai:bM R) (aD:dh R) (bu:fk R) (aZ:eP R) (bl:kD R) (x1:aj) (k:V→az→Option R):iQ tt (nH R ai aD bu aZ) (sb R bl) false Tryz.f70 (aK Tryz.f70) [.str x1] [] k =
    vB aD bl x1 (fun q0 q1 q2=>k (.tuple [.str q0, .int .i64 q1, .bool q2]) []):=by kernel_rfl
theorem GL (R:Type):∀a∈aP (aK Tryz.f70),cO tt (nH R ai aD bu aZ) (sb R bl) 0 a:=by
  refine bH 1 (by kernel_rfl) fun i hi => ?_
  match i,hi with
  | 0,_=>exact fG (by kernel_rfl) (F4 _ jc)
  | n+1,hi=>omega
theorem HQ (R:Type) (other:ay.Spec R) (ho:ay.Spec.Ok Tryz.prog 70 other):ay.Spec.Ok Tryz.prog 70 (aA vz vA (DO eN) other) :=
  bw ho (bk TT mixed (I4 R) (keep:=false) rfl rfl rfl rfl 0 (GL R)) fun (x:bO.av vz) (y:aH.av vA) k=>J7 ai aD bu aZ bl x.1 k

/-! ### humpyard/lexer.next -/
abbrev pI (R:Type):Type:=aj→(Token→Int→Option R)→Option R
abbrev Bm:List bO := [.leaf (.str)]
abbrev Bn:List aH := []
noncomputable def Hd {R:Type} (fn:pI R):bO.av Bm→aH.av Bn→(V→az→Option R)→Option R:=fun x y k=>fn x.1 (fun q0 q1=>k (.tuple [.agg [.int .i64 q0.kind, .str q0.text, .int .i64 q0.num.aB, .int .i64 q0.num.exp, .int .i64 q0.at_], .int .i64 q1]) [])
noncomputable def Bo (R:Type) (eN:qG R) (dC:qE R) (bY:jW R):Env R:=fun i=>match i with
  | 70=>some (true,(aA vz vA (DO eN) bg))
  | 69=>some (true,(aA vv vw (DK dC) bg))
  | 71=>some (true,(US R))
  | 47=>some (true,(aA uX uY (B1 bY) bg))
  | _=>none
theorem M8 (R:Type):p8 Tryz.prog (Bo R eN dC bY):=by
  intro i b sp h
  unfold Bo at h
  split at h
  · cases h; exact ⟨(HQ R _ (aO _)),fun h=>nomatch h⟩
  · cases h; exact ⟨(HO R _ (aO _)),fun h=>nomatch h⟩
  · cases h; exact ⟨(Zq),fun h=>nomatch h⟩
  · cases h; exact ⟨(DH R _ (aO _)),fun h=>nomatch h⟩
  · cases h

noncomputable def I5 (R:Type):Nat→Option (Hint × cq R):=fun i=>match i with
  | _=>none

noncomputable def Bp {R:Type} (eN:qG R) (dC:qE R) (bY:jW R) (x1:aj) (k0:Token→Int→Option R):Option R :=
  cU (decide ((0:Int)<x1.length)) (let j23:=bY x1 ([97,98,99,100,101,102,103,104,105,106,107,108,109,110,111,112,113,114,115,116,117,118,119,120,121,122]:aj) (fun BZ=>bif (BZ==([116,114,117,101]:aj))then (k0 (⟨4,BZ,⟨0,0⟩,0⟩:Token) (BZ.length:Int))else (bif (BZ==([102,97,108,115,101]:aj))then (k0 (⟨4,BZ,⟨0,0⟩,0⟩:Token) (BZ.length:Int))else (bif (!(BZ==([110,117,108,108]:aj)))then (k0 (⟨0,([]:aj),⟨0,0⟩,0⟩:Token) 0)else (k0 (⟨4,BZ,⟨0,0⟩,0⟩:Token) (BZ.length:Int))))); bif (((x1.getD 0 0).toNat:Int)==45)then (bY x1 ([48,49,50,51,52,53,54,55,56,57,43,45,46,101,69]:aj) (fun y6=>dC y6 (fun y7 y8=>bif (!y8)then (k0 (⟨0,([]:aj),⟨0,0⟩,0⟩:Token) 0)else (k0 (⟨3,y6,⟨y7.aB,y7.exp⟩,0⟩:Token) (y6.length:Int)))))else (bif (decide (((x1.getD 0 0).toNat:Int)≥(48:Int)))then (bif (decide (((x1.getD 0 0).toNat:Int)≤(57:Int)))then (bY x1 ([48,49,50,51,52,53,54,55,56,57,43,45,46,101,69]:aj) (fun y9=>dC y9 (fun yA wE=>bif (!wE)then (k0 (⟨0,([]:aj),⟨0,0⟩,0⟩:Token) 0)else (k0 (⟨3,y9,⟨yA.aB,yA.exp⟩,0⟩:Token) (y9.length:Int)))))else (bif (((x1.getD 0 0).toNat:Int)==34)then (eN x1 (fun GG Ha Jn=>bif (!Jn)then (k0 (⟨0,([]:aj),⟨0,0⟩,0⟩:Token) 0)else (k0 (⟨2,GG,⟨0,0⟩,0⟩:Token) Ha)))else (bif (decide ((zg ([123,125,91,93,44,58]:aj) ((x1.getD 0 0).toNat:Int))≥(0:Int)))then (cU (decide ((1:Int)≤x1.length)) (k0 (⟨1,((x1.drop 0).take (1 - 0)),⟨0,0⟩,0⟩:Token) 1))else (j23))))else (bif (((x1.getD 0 0).toNat:Int)==34)then (eN x1 (fun E2 KF LA=>bif (!LA)then (k0 (⟨0,([]:aj),⟨0,0⟩,0⟩:Token) 0)else (k0 (⟨2,E2,⟨0,0⟩,0⟩:Token) KF)))else (bif (decide ((zg ([123,125,91,93,44,58]:aj) ((x1.getD 0 0).toNat:Int))≥(0:Int)))then (cU (decide ((1:Int)≤x1.length)) (k0 (⟨1,((x1.drop 0).take (1 - 0)),⟨0,0⟩,0⟩:Token) 1))else (j23)))))
noncomputable def fm {R:Type}:pI R:=fun x1 k0=>Bp eN dC bY x1 k0
theorem Om {R:Type} (eN:qG R) (dC:qE R) (bY:jW R) (x1:aj) (k:V→az→Option R):iQ tt (Bo R eN dC bY) (I5 R) false Tryz.f48 (aK Tryz.f48) [.str x1] [] k =
    Bp eN dC bY x1 (fun q0 q1=>k (.tuple [.agg [.int .i64 q0.kind, .str q0.text, .int .i64 q0.num.aB, .int .i64 q0.num.exp, .int .i64 q0.at_], .int .i64 q1]) []):=by kernel_rfl
theorem J8 (R:Type):∀a∈aP (aK Tryz.f48),cO tt (Bo R eN dC bY) (I5 R) 0 a:=by
  refine bH 0 (by kernel_rfl) fun i hi => ?_
  omega
theorem Lb (R:Type) (other:ay.Spec R) (ho:ay.Spec.Ok Tryz.prog 48 other):ay.Spec.Ok Tryz.prog 48 (aA Bm Bn (Hd fm) other) :=
  bw ho (bk TT mixed (M8 R) (keep:=false) rfl rfl rfl rfl 0 (J8 R)) fun (x:bO.av Bm) (y:aH.av Bn) k=>Om eN dC bY x.1 k

/-! ### humpyard/lexer.Scan -/
abbrev mM (R:Type):Type:=aj→((List Token)→Int→Int→Option R)→Option R
abbrev xA:List bO := [.leaf (.str)]
abbrev xB:List aH := []
noncomputable def C7 {R:Type} (fn:mM R):bO.av xA→aH.av xB→(V→az→Option R)→Option R:=fun x y k=>fn x.1 (fun q0 q1 q2=>k (.tuple [.sl .token q0 .no, .int .i64 q1, .int .i64 q2]) [])
abbrev nr (R:Type):Type:=Nat→aj→(List Token)→Int→((List Token)→Int→Int→Option R)→(Int→Int→Option R)→Option R
noncomputable def rI (R:Type) (fm:pI R) (bY:jW R):Env R:=fun i=>match i with
  | 48=>some (true,(aA Bm Bn (Hd fm) bg))
  | 47=>some (true,(aA uX uY (B1 bY) bg))
  | _=>none
theorem M9 (R:Type):p8 Tryz.prog (rI R fm bY):=by
  intro i b sp h
  unfold rI at h
  split at h
  · cases h; exact ⟨(Lb R _ (aO _)),fun h=>nomatch h⟩
  · cases h; exact ⟨(DH R _ (aO _)),fun h=>nomatch h⟩
  · cases h

noncomputable def yL {R:Type} (fm:pI R) (bY:jW R) (fH:aj→(List Token)→Int→Option R) (x2:aj) (x3:List Token) (x4:Int) (e0:(List Token)→Int→Int→Option R) (e1:Int→Int→Option R):Option R :=
  cU (decide ((0:Int)≤(x2.length:Int))&&decide ((x2.length:Int)≤x2.length)) (cU (decide ((0:Int)≤x4)&&decide (x4≤(x2.length:Int))) (bY ((x2.drop x4.toNat).take ((x2.length:Int).toNat - x4.toNat)) ([32,9,10,13]:aj) (fun y5=>bif ((IntKind.i64.wrap (x4+(y5.length:Int)))==(x2.length:Int))then (cU (decide ((x3.length+1)*48≤140737488355328)) (e0 (x3++([(⟨5,([]:aj),⟨0,0⟩,(IntKind.i64.wrap (x4+(y5.length:Int)))⟩:Token)]:List Token)) 0 0))else (cU (decide ((0:Int)≤(x2.length:Int))&&decide ((x2.length:Int)≤x2.length)) (cU (decide ((0:Int)≤(IntKind.i64.wrap (x4+(y5.length:Int))))&&decide ((IntKind.i64.wrap (x4+(y5.length:Int)))≤(x2.length:Int))) (fm ((x2.drop (IntKind.i64.wrap (x4+(y5.length:Int))).toNat).take ((x2.length:Int).toNat - (IntKind.i64.wrap (x4+(y5.length:Int))).toNat)) (fun y6 y7=>bif (y7==0)then (e1 30 (IntKind.i64.wrap (x4+(y5.length:Int))))else (cU (decide ((x3.length+1)*48≤140737488355328)) (fH x2 (x3++([(⟨y6.kind,y6.text,⟨y6.num.aB,y6.num.exp⟩,(IntKind.i64.wrap (x4+(y5.length:Int)))⟩:Token)]:List Token)) (IntKind.i64.wrap ((IntKind.i64.wrap (x4+(y5.length:Int)))+y7)))))))))))
noncomputable def cD {R:Type}:nr R
  | 0,_,_,_,_,_=>none
  | n+1,lP,lQ,my,e0,e1=>yL fm bY (fun lP lQ my=>cD n lP lQ my e0 e1) lP lQ my e0 e1
noncomputable def tV:Hint := { live := [0,2,4],own := [(2, .token)],rows := [],cells := [],drop := [],out := [2,3,4] }
abbrev kE:Type:=aj × (List Token) × Int
noncomputable def rJ:kE→St:=fun d=>⟨[.str d.1, .undef, .sl .token d.2.1 (.own 0), .undef, .int .i64 d.2.2, .undef, .undef, .undef, .undef, .undef, .undef, .undef, .undef, .undef, .undef, .undef, .undef, .undef, .undef, .undef, .undef, .undef, .undef, .undef, .undef, .undef, .undef, .undef, .undef, .undef, .undef, .undef, .undef, .undef, .undef, .undef, .undef, .undef, .undef, .undef, .undef, .undef, .undef, .undef, .undef], [.tok]⟩
noncomputable def xC {R:Type} (K:Ex→St→Option R) (q0:List Token) (q1:Int) (q2:Int):Option R:=K (.ret) ⟨[.undef, .undef, .sl .token q0 (.own 0), .int .i64 q1, .int .i64 q2, .undef, .undef, .undef, .undef, .undef, .undef, .undef, .undef, .undef, .undef, .undef, .undef, .undef, .undef, .undef, .undef, .undef, .undef, .undef, .undef, .undef, .undef, .undef, .undef, .undef, .undef, .undef, .undef, .undef, .undef, .undef, .undef, .undef, .undef, .undef, .undef, .undef, .undef, .undef, .undef], [.tok]⟩
noncomputable def xD {R:Type} (K:Ex→St→Option R) (q0:Int) (q1:Int):Option R:=K (.ret) ⟨[.undef, .undef, .cG, .int .i64 q0, .int .i64 q1, .undef, .undef, .undef, .undef, .undef, .undef, .undef, .undef, .undef, .undef, .undef, .undef, .undef, .undef, .undef, .undef, .undef, .undef, .undef, .undef, .undef, .undef, .undef, .undef, .undef, .undef, .undef, .undef, .undef, .undef, .undef, .undef, .undef, .undef, .undef, .undef, .undef, .undef, .undef, .undef], []⟩
noncomputable def yM {R:Type} (fm:pI R) (bY:jW R) (K:Ex→St→Option R) (rc:kE→Option R) (d:kE):Option R:=yL fm bY (fun z0 z1 z2=>rc (z0,z1,z2)) d.1 d.2.1 d.2.2 (xC K) (xD K)
noncomputable def od {R:Type} (K:Ex→St→Option R) (n:Nat) (d:kE):Option R:=cD n d.1 d.2.1 d.2.2 (xC K) (xD K)
abbrev kF:List bO := [.leaf (.str), .leaf (.undef), .leaf (.NQ .token 0), .leaf (.undef), .leaf (.int .i64), .leaf (.undef), .leaf (.undef), .leaf (.undef), .leaf (.undef), .leaf (.undef), .leaf (.undef), .leaf (.undef), .leaf (.undef), .leaf (.undef), .leaf (.undef), .leaf (.undef), .leaf (.undef), .leaf (.undef), .leaf (.undef), .leaf (.undef), .leaf (.undef), .leaf (.undef), .leaf (.undef), .leaf (.undef), .leaf (.undef), .leaf (.undef), .leaf (.undef), .leaf (.undef), .leaf (.undef), .leaf (.undef), .leaf (.undef), .leaf (.undef), .leaf (.undef), .leaf (.undef), .leaf (.undef), .leaf (.undef), .leaf (.undef), .leaf (.undef), .leaf (.undef), .leaf (.undef), .leaf (.undef), .leaf (.undef), .leaf (.undef), .leaf (.undef), .leaf (.undef)]
abbrev kG:List aH := [.tok]
noncomputable def yN (x:bO.av kF) (y:aH.av kG):Nat:=(List.length x.1+List.length x.2.2.1+Int.natAbs x.2.2.2.2.1+64)
noncomputable def yO (x:bO.av kF) (y:aH.av kG):kE:=(x.1,x.2.2.1,x.2.2.2.2.1)
noncomputable def xE {R:Type} (L:nr R):bO.av kF→aH.av kG→(Ex→St→Option R)→Option R:=fun x y K=>L (yN x y) x.1 x.2.2.1 x.2.2.2.2.1 (xC K) (xD K)
noncomputable def xF (R:Type) (cD:nr R):Nat→Option (Hint × cq R):=fun i=>match i with
  | 3=>some (tV,(gq kF kG (xE cD) qx))
  | _=>none

theorem GM {R:Type} (fm:pI R) (bY:jW R) (cD:nr R) (K:Ex→St→Option R) (rc:St→Option R) (d:kE):roundOf tt (rI R fm bY) (xF R cD) 0 ((aP (aK Tryz.f25)).getD 0 .skip) tV (rJ d) rc K=yM fm bY K (fun d=>rc (rJ d)) d:=by kernel_rfl
theorem Fg {R:Type} (K:Ex→St→Option R) (n:Nat) (d:kE):od K (n+1) d=yM fm bY K (od K n) d:=by kernel_rfl
theorem Fh {R:Type} (K:Ex→St→Option R) (d:kE):od K 0 d=none:=by kernel_rfl
theorem GN (x:bO.av kF) (y:aH.av kG):(⟨bO.cQ kF x,aH.cQ kG y⟩:St)=rJ (yO x y):=by kernel_rfl
theorem GO {R:Type} (x:bO.av kF) (y:aH.av kG) (K:Ex→St→Option R):xE (cD) x y K=od K (yN x y) (yO x y):=by kernel_rfl
theorem I6 {R:Type} (other:cq R) (ho:o0 tt (rI R fm bY) (xF R cD) 0 ((aP (aK Tryz.f25)).getD 0 .skip) tV other):o0 tt (rI R fm bY) (xF R cD) 0 ((aP (aK Tryz.f25)).getD 0 .skip) tV (gq kF kG (xE (cD)) other) :=
  gL (A:=od) ho (kr rJ (yM fm bY) (od) (Fh) (GM fm bY cD) (Fg)) yN yO GN (GO)

noncomputable def Bq {R:Type} (cD:nr R) (x1:aj) (k0:(List Token)→Int→Int→Option R):Option R :=
  bif (decide ((x1.length:Int)>(20000:Int)))then (k0 ([]:List Token) 30 0)else (cD (List.length x1+List.length ([]:List Token)+Int.natAbs 0+64) x1 ([]:List Token) 0 (fun y8 y9 yA=>k0 y8 y9 yA) (fun wE Ak=>k0 ([]:List Token) wE Ak))
noncomputable def dm {R:Type}:mM R:=fun x1 k0=>Bq cD x1 k0
theorem On {R:Type} (fm:pI R) (bY:jW R) (cD:nr R) (x1:aj) (k:V→az→Option R):iQ tt (rI R fm bY) (xF R cD) false Tryz.f25 (aK Tryz.f25) [.str x1] [] k =
    Bq cD x1 (fun q0 q1 q2=>k (.tuple [.sl .token q0 .no, .int .i64 q1, .int .i64 q2]) []):=by kernel_rfl
theorem J9 (R:Type):∀a∈aP (aK Tryz.f25),cO tt (rI R fm bY) (xF R cD) 0 a:=by
  refine bH 1 (by kernel_rfl) fun i hi => ?_
  match i,hi with
  | 0,_=>exact fG (by kernel_rfl) (I6 _ jc)
  | n+1,hi=>omega
theorem EU (R:Type) (other:ay.Spec R) (ho:ay.Spec.Ok Tryz.prog 25 other):ay.Spec.Ok Tryz.prog 25 (aA xA xB (C7 dm) other) :=
  bw ho (bk TT mixed (M9 R) (keep:=false) rfl rfl rfl rfl 0 (J9 R)) fun (x:bO.av xA) (y:aH.av xB) k=>On fm bY cD x.1 k

/-! ### humpyard/humpyardlaw03.pick -/
abbrev vf (R:Type):Type:=Int→Int→(Int→Option R)→Option R
abbrev Br:List bO := [.leaf (.int .i64), .leaf (.int .i64)]
abbrev Bs:List aH := []
noncomputable def He {R:Type} (fn:vf R):bO.av Br→aH.av Bs→(V→az→Option R)→Option R:=fun x y k=>fn x.1 x.2.1 (fun q0=>k (.int .i64 q0) [])
noncomputable def Bt (R:Type):Env R:=fun i=>match i with
  | _=>none
theorem Na (R:Type):p8 Tryz.prog (Bt R):=by
  intro i b sp h
  unfold Bt at h
  split at h
  · cases h

noncomputable def I7 (R:Type):Nat→Option (Hint × cq R):=fun i=>match i with
  | _=>none

noncomputable def I8 {R:Type} (x1:Int) (x2:Int) (k0:Int→Option R):Option R :=
  bif (decide (x1<(0:Int)))then (cU (!decide (x2=0)) (k0 (Int.tmod (IntKind.i64.wrap (0 - (IntKind.i64.wrap (x1+1)))) x2)))else (cU (!decide (x2=0)) (k0 (Int.tmod x1 x2)))
noncomputable def km {R:Type}:vf R:=fun x1 x2 k0=>I8 x1 x2 k0
theorem Oo {R:Type} (x1:Int) (x2:Int) (k:V→az→Option R):iQ tt (Bt R) (I7 R) false Tryz.f27 (aK Tryz.f27) [.int .i64 x1, .int .i64 x2] [] k =
    I8 x1 x2 (fun q0=>k (.int .i64 q0) []):=by kernel_rfl
theorem Ka (R:Type):∀a∈aP (aK Tryz.f27),cO tt (Bt R) (I7 R) 0 a:=by
  refine bH 0 (by kernel_rfl) fun i hi => ?_
  omega
theorem Lc (R:Type) (other:ay.Spec R) (ho:ay.Spec.Ok Tryz.prog 27 other):ay.Spec.Ok Tryz.prog 27 (aA Br Bs (He km) other) :=
  bw ho (bk TT mixed (Na R) (keep:=false) rfl rfl rfl rfl 0 (Ka R)) fun (x:bO.av Br) (y:aH.av Bs) k=>Oo x.1 x.2.1 k

/-! ### humpyard/humpyardlaw03.Word -/
abbrev Hf (R:Type):Type:=Gw→(aj→Option R)→Option R
abbrev EB:List bO := [.agg [.int .i64, .int .i64, .int .i64, .sl (.int .i64)]]
abbrev EC:List aH := []
noncomputable def Oq {R:Type} (fn:Hf R):bO.av EB→aH.av EC→(V→az→Option R)→Option R:=fun x y k=>fn (⟨x.1.1,x.1.2.1,x.1.2.2.1,x.1.2.2.2.1⟩:Gw) (fun q0=>k (.str q0) [])
noncomputable def Bu (R:Type) (ca:ja R) (bj:eT R) (di:mw R) (bc:ff R) (km:vf R):Env R:=fun i=>match i with
  | 37=>some (true,(aA wY wZ (C1 ca) bg))
  | 26=>some (true,(aA pF pG (th bj) bg))
  | 28=>some (true,(aA zE zF (Ef di) bg))
  | 46=>some (true,(aA oU oV (tR bc) bg))
  | 27=>some (true,(aA Br Bs (He km) bg))
  | _=>none
theorem Nb (R:Type):p8 Tryz.prog (Bu R ca bj di bc km):=by
  intro i b sp h
  unfold Bu at h
  split at h
  · cases h; exact ⟨(EM R _ (aO _)),fun h=>nomatch h⟩
  · cases h; exact ⟨(tS R _ (aO _)),fun h=>nomatch h⟩
  · cases h; exact ⟨(FL R _ (aO _)),fun h=>nomatch h⟩
  · cases h; exact ⟨(vK R _ (aO _)),fun h=>nomatch h⟩
  · cases h; exact ⟨(Lc R _ (aO _)),fun h=>nomatch h⟩
  · cases h

noncomputable def I9 (R:Type):Nat→Option (Hint × cq R):=fun i=>match i with
  | _=>none

noncomputable def Ja {R:Type} (ca:ja R) (bj:eT R) (di:mw R) (bc:ff R) (km:vf R) (x1:Gw) (k0:aj→Option R):Option R :=
  km x1.kind 4 (fun y2=>bif (y2==0)then (km x1.aB 6 (fun y3=>cU (decide ((0:Int)≤y3)&&decide (y3<(6:Int))) (k0 (([([123]:aj),([125]:aj),([91]:aj),([93]:aj),([44]:aj),([58]:aj)]:List aj).getD y3.toNat (Ty.ck .str)))))else (bif (y2==1)then (cU (decide ((0:Int)≤(min (x1.text.length:Int) 30))&&decide ((min (x1.text.length:Int) 30)≤x1.text.length)) (cU (decide ((0:Int)≤(min (x1.text.length:Int) 30))) (ca ((x1.text.drop 0).take ((min (x1.text.length:Int) 30).toNat - 0)) (fun y4=>bj y4 (fun y5 y6=>k0 y5)))))else (bif (y2==2)then (di x1.aB x1.exp (fun y7=>bc y7 (fun y8=>k0 y8)))else (km x1.aB 3 (fun y9=>cU (decide ((0:Int)≤y9)&&decide (y9<(3:Int))) (k0 (([([116,114,117,101]:aj),([102,97,108,115,101]:aj),([110,117,108,108]:aj)]:List aj).getD y9.toNat (Ty.ck .str))))))))
noncomputable def Nc {R:Type}:Hf R:=fun x1 k0=>Ja ca bj di bc km x1 k0
theorem Ot {R:Type} (ca:ja R) (bj:eT R) (di:mw R) (bc:ff R) (km:vf R) (x1:Gw) (k:V→az→Option R):iQ tt (Bu R ca bj di bc km) (I9 R) false Tryz.f24 (aK Tryz.f24) [.agg [.int .i64 x1.kind, .int .i64 x1.aB, .int .i64 x1.exp, .sl (.int .i64) x1.text .no]] [] k =
    Ja ca bj di bc km x1 (fun q0=>k (.str q0) []):=by kernel_rfl
theorem Kb (R:Type):∀a∈aP (aK Tryz.f24),cO tt (Bu R ca bj di bc km) (I9 R) 0 a:=by
  refine bH 0 (by kernel_rfl) fun i hi => ?_
  omega
theorem XC (R:Type) (other:ay.Spec R) (ho:ay.Spec.Ok Tryz.prog 24 other):ay.Spec.Ok Tryz.prog 24 (aA EB EC (Oq Nc) other) :=
  bw ho (bk TT mixed (Nb R) (keep:=false) rfl rfl rfl rfl 0 (Kb R)) fun (x:bO.av EB) (y:aH.av EC) k=>Ot ca bj di bc km (⟨x.1.1,x.1.2.1,x.1.2.2.1,x.1.2.2.2.1⟩:Gw) k

end Go.Proofs.YtmlkkgfenfdndaaGreatDoor

set_option maxRecDepth 100000
namespace Go.Proofs.YtmlkkgfenfdndaaGreatDoor
open Go Go.ay Go.Lib

theorem Nd:∀(l:aj) (v u:Nat),I3 l v=some u→u<(v+1)*16 ^ l.length
  | [],v,u,h=>by cases h; simp
  | b::t,v,u,h=>by
    simp only[I3]at h
    cases hx:La b with
    | none=>rw[hx]at h; cases h
    | some d =>
      rw[hx]at h
      have h1:=Nd t _ _ h
      have hd:=U3 hx
      have h2:(16*v+d+1)*16 ^ t.length≤((v+1)*16)*16 ^ t.length:=Nat.mul_le_mul_right _ (by omega)
      rw[List.length_cons,Nat.pow_succ]
      have h3:(v+1)*16*16 ^ t.length=(v+1)*(16 ^ t.length*16):=by rw[Nat.mul_assoc,Nat.mul_comm 16]
      omega
theorem R0:∀(l:aj) (v u:Nat),I3 l v=some u→∀b∈l,(La b).isSome=true
  | [],v,u,h=>by simp
  | b::t,v,u,h=>by
    simp only[I3]at h
    cases hx:La b with
    | none=>rw[hx]at h; cases h
    | some d =>
      rw[hx]at h
      intro c hc
      rcases List.mem_cons.1 hc with rfl|hc
      · rw[hx]; rfl
      · exact R0 t _ _ h c hc
theorem R1 {b:UInt8} (h:(La b).isSome=true):b.toNat<128∧b.toNat≠43∧b.toNat≠45∧b.toNat≠95:=by
  unfold La at h
  simp only at h
  revert h
  (repeat' split) <;> intro h <;> first|omega|cases h

theorem R2 (cs:aj):∀s:aj,(∀b∈s,cs.contains b=false)→MI s cs=false:=by
  have key:∀s:aj,(∀b∈s,cs.contains b=false)→indexAny s cs = -1:=by
    intro s
    induction s with
    | nil=>intro _; rfl
    | cons b s ih =>
      intro h
      unfold indexAny
      rw[h b (by simp)]
      have:=ih fun x hx=>h x (by simp[hx])
      simp[this]
  intro s h
  unfold MI containsAny
  rw[key s h]
  rfl

def EV (s:aj):Option (Nat × aj):=if s.length<4 then none else match I3 (s.take 4) 0 with|some v=>some (v,s.drop 4)|none=>none
theorem B7 {s r:aj} {v:Nat} (h:EV s=some (v,r)):v<65536∧4≤s.length∧r=s.drop 4:=by
  unfold EV at h
  split at h
  · cases h
  · rename_i hl
    split at h
    · rename_i u hu
      cases h
      have:=Nd _ _ _ hu
      rw[List.length_take,Nat.min_eq_left (by omega)]at this
      exact ⟨by omega,by omega,rfl⟩
    · cases h

theorem Gr {n:Nat} (h:n<1114112):IntKind.i32.wrap (n:Int)=(n:Int):=O2 (by omega) (by omega)

theorem U4 {R:Type} (s:aj) (hs:s.length≤9000000000000000000) (k:Int→aj→Option R) :
    cE s k=match EV s with|some (v,r)=>k (v:Int) r|none=>k (-1) s:=by
  show mH dY s k=_
  unfold mH
  by_cases hl:s.length<4
  · rw[br (show (s.length:Int)<4 by omega),cond_true]
    unfold EV
    rw[if_pos hl]
  · rw[cY (show ¬(s.length:Int)<4 by omega),cond_false,aS (br (by omega))]
    have h4:(s.drop 0).take (4 - 0)=s.take 4:=rfl
    rw[h4,parse4 (by rw[List.length_take]; omega)]
    unfold EV
    rw[if_neg hl]
    cases hu:I3 (s.take 4) 0 with
    | none=>rfl
    | some v =>
      have zB:=R0 _ _ _ hu
      have TP:ua (s.take 4)=true:=List.all_eq_true.2 fun b hb=>br (R1 (zB b hb)).1
      have hno:MI (s.take 4) [43,45,95]=false:=R2 _ _ fun b hb=>by
        obtain ⟨_,g1,g2,g3⟩:=R1 (zB b hb)
        have e:∀x:UInt8,b.toNat≠x.toNat→(b==x)=false:=fun x hx=>by
          rw[beq_eq_false_iff_ne]; rintro rfl; exact hx rfl
        simp only[List.contains_cons,List.contains_nil,e 43 g1,e 45 g2,e 95 g3]
        rfl
      have hv:=(B7 (s:=s) (r:=s.drop 4) (v:=v) (by unfold EV; rw[if_neg hl,hu])).1
      have NP:ua ([43,45,95]:aj)=true:=by decide
      simp only
      rw[aS (by rw[TP,NP,br (show (s.take 4).length<4294967281 by rw[List.length_take]; omega)]; rfl),hno,cond_false,aS (by rw[br (show (0:Int)≤(s.length:Int) by omega),br (show (s.length:Int)≤s.length by omega)]; rfl),aS (br (by omega))]
      rw[Gr (by omega),Int.toNat_natCast,List.take_of_length_le (by rw[List.length_drop]; exact Nat.le_refl _)]

def Jb (s:aj):Option (Nat × aj) :=
  match EV s with
  | none=>none
  | some (v,r) =>
    if v<55296∨57344≤v then some (v,r)else if 56320≤v then none
    else if ([92,117]:aj).isPrefixOf r then
      match EV (r.drop 2)with
      | none=>none
      | some (w,r2)=>if 56320≤w∧w<57344 then some (65536+(v - 55296)*1024+(w - 56320),r2)else none
    else none

theorem shl10 (n:Nat) (h:n<1024):IntKind.i32.wrap ((n:Int)*2 ^ (min 10 IntKind.i32.bits))=((n*1024:Nat):Int):=by
  have e:(n:Int)*2 ^ (min 10 IntKind.i32.bits)=((n*1024:Nat):Int):=by
    show (n:Int)*2 ^ 10=_
    omega
  rw[e,Gr (by omega)]

theorem long_ok {R:Type} (s:aj) (hs:s.length≤9000000000000000000) (k:Int→aj→Option R) :
    match Jb s with|some (c,r)=>ct s k=k (c:Int) r|none=>∃r,ct s k=k (-1) r:=by
  have e0:ct s k=mL aD cE s k:=rfl
  rw[e0]
  unfold mL
  rw[U4 s hs]
  unfold Jb
  cases hu:EV s with
  | none =>
    simp only
    exact ⟨s,by rw[br (show (-1:Int)<55296 by omega),cond_true]⟩
  | some p =>
    obtain ⟨v,r⟩:=p
    obtain ⟨hv,hl,hr⟩:=B7 hu
    have hrl:r.length≤9000000000000000000:=by rw[hr,List.length_drop]; omega
    simp only
    by_cases h1:v<55296
    · rw[if_pos (.inl h1),br (show (v:Int)<55296 by omega)]
      simp only[cond_true]
    rw[cY (show ¬(v:Int)<55296 by omega),cond_false]
    by_cases h2:57344≤v
    · rw[if_pos (.inr h2),br (show (v:Int)≥57344 by omega)]
      simp only[cond_true]
    rw[if_neg (by omega),cY (show ¬(v:Int)≥57344 by omega),cond_false]
    by_cases h3:56320≤v
    · rw[if_pos h3]
      exact ⟨r,by rw[br (show (v:Int)≥56320 by omega),cond_true]⟩
    rw[if_neg h3,cY (show ¬(v:Int)≥56320 by omega),cond_false,LB _ _ (by simp) hrl]
    cases hp:([92,117]:aj).isPrefixOf r with
    | false =>
      simp only[Bool.false_eq_true,if_false]
      exact ⟨r,rfl⟩
    | true =>
      simp only[if_true]
      have hrl2:(r.drop 2).length≤9000000000000000000:=by rw[List.length_drop]; omega
      have e2:r.drop ([92,117]:aj).length=r.drop 2:=rfl
      rw[Bool.not_true,cond_false,e2,U4 _ hrl2]
      cases Uq:EV (r.drop 2)with
      | none =>
        simp only
        exact ⟨r.drop 2,by rw[br (show (-1:Int)<56320 by omega),cond_true]⟩
      | some q =>
        obtain ⟨w,r2⟩:=q
        obtain ⟨hw,QG,hr2⟩:=B7 Uq
        simp only
        by_cases h4:56320≤w∧w<57344
        · rw[if_pos h4]
          simp only
          rw[cY (show ¬(w:Int)<56320 by omega),cond_false,cY (show ¬(w:Int)≥57344 by omega),cond_false]
          have k1:IntKind.i32.wrap ((v:Int) - 55296)=((v - 55296:Nat):Int):=by
            have:(v:Int) - 55296=((v - 55296:Nat):Int):=by omega
            rw[this,Gr (by omega)]
          rw[k1,shl10 _ (by omega)]
          have k2:IntKind.i32.wrap (65536+(((v - 55296)*1024:Nat):Int))=((65536+(v - 55296)*1024:Nat):Int):=by
            have:65536+(((v - 55296)*1024:Nat):Int)=((65536+(v - 55296)*1024:Nat):Int):=by omega
            rw[this,Gr (by omega)]
          have k3:IntKind.i32.wrap (((65536+(v - 55296)*1024:Nat):Int)+(w:Int))=((65536+(v - 55296)*1024+w:Nat):Int):=by
            have:((65536+(v - 55296)*1024:Nat):Int)+(w:Int)=((65536+(v - 55296)*1024+w:Nat):Int):=by omega
            rw[this]
            simp only[IntKind.wrap,IntKind.bits,IntKind.signed]
            simp
            omega
          have k4:IntKind.i32.wrap (((65536+(v - 55296)*1024+w:Nat):Int) - 56320)=((65536+(v - 55296)*1024+(w - 56320):Nat):Int):=by
            have:((65536+(v - 55296)*1024+w:Nat):Int) - 56320=((65536+(v - 55296)*1024+(w - 56320):Nat):Int):=by omega
            rw[this,Gr (by omega)]
          rw[k2,k3,k4]
        · rw[if_neg h4]
          refine ⟨r2,?_⟩
          by_cases h5:w<56320
          · rw[br (show (w:Int)<56320 by omega),cond_true]
          · rw[cY (show ¬(w:Int)<56320 by omega),cond_false,br (show (w:Int)≥57344 by omega),cond_true]

def R3:aj→Option (Nat × aj)
  | []=>none
  | b::t =>
    if b.toNat=34∨b.toNat=92∨b.toNat=47 then some (b.toNat,t)else if b.toNat=98 then some (8,t)else if b.toNat=102 then some (12,t)else if b.toNat=110 then some (10,t)
    else if b.toNat=114 then some (13,t)else if b.toNat=116 then some (9,t)else if b.toNat=117 then Jb t else none

theorem esc_ok {R:Type} (s:aj) (hs:s.length≤9000000000000000000) (k:Int→aj→Option R) :
    match R3 s with|some (c,r)=>aZ s k=k (c:Int) r|none=>∃r,aZ s k=k (-1) r:=by
  have e0:aZ s k=kW ct s k:=rfl
  rw[e0]
  unfold kW
  cases s with
  | nil=>exact ⟨[],rfl⟩
  | cons b t =>
    have kq:((b::t:aj)==([]:aj))=false:=rfl
    simp only[List.length_cons]at hs
    have ht:(((b::t:aj).drop 1).take (((b::t:aj).length:Int).toNat - 1))=t:=by
      rw[Int.toNat_natCast,List.drop_succ_cons,List.drop_zero,List.length_cons,Nat.add_sub_cancel,List.take_length]
    have hg:((b::t:aj).getD 0 0).toNat=b.toNat:=rfl
    rw[kq,cond_false,aS (br (show (0:Int)<((b::t:aj).length:Int) by simp only[List.length_cons]; omega)),
      aS (by rw[br (show (0:Int)≤((b::t:aj).length:Int) by omega),br (show ((b::t:aj).length:Int)≤(b::t:aj).length by omega)]; rfl),
      aS (br (show (1:Int)≤((b::t:aj).length:Int) by simp only[List.length_cons]; omega))]
    simp only[ht,hg]
    have hb:=UInt8.toNat_lt b
    simp only[R3]
    generalize b.toNat=n at *
    have q:∀m:Nat,((n:Int)==(m:Int))=decide (n=m):=fun m=>by
      by_cases h:n=m
      · subst h; simp
      · have:¬((n:Int)=(m:Int)):=by omega
        simp[h,this]
    have q34:((n:Int)==34)=decide (n=34):=q 34
    have q92:((n:Int)==92)=decide (n=92):=q 92
    have q47:((n:Int)==47)=decide (n=47):=q 47
    have q98:((n:Int)==98)=decide (n=98):=q 98
    have q102:((n:Int)==102)=decide (n=102):=q 102
    have q110:((n:Int)==110)=decide (n=110):=q 110
    have q114:((n:Int)==114)=decide (n=114):=q 114
    have q116:((n:Int)==116)=decide (n=116):=q 116
    have q117:((n:Int)==117)=decide (n=117):=q 117
    simp only[q34,q92,q47,q98,q102,q110,q114,q116,q117,Gr (show n<1114112 by omega)]
    by_cases Hg:n=34
    · subst Hg; simp
    by_cases Qp:n=92
    · subst Qp; simp
    by_cases h47:n=47
    · subst h47; simp
    simp only[Hg,Qp,h47,decide_false,cond_false,or_self,if_false]
    by_cases h98:n=98
    · subst h98; simp
    by_cases h102:n=102
    · subst h102; simp
    by_cases h110:n=110
    · subst h110; simp
    by_cases h114:n=114
    · subst h114; simp
    by_cases h116:n=116
    · subst h116; simp
    by_cases h117:n=117
    · subst h117
      have:=long_ok (R:=R) t (by omega) k
      simp only[decide_true,decide_false,cond_true,cond_false,if_true,show ¬((117:Nat)=98) by decide,show ¬((117:Nat)=102) by decide,show ¬((117:Nat)=110) by decide,show ¬((117:Nat)=114) by decide,show ¬((117:Nat)=116) by decide,if_false]
      exact this
    simp only[h98,h102,h110,h114,h116,h117,decide_false,cond_false,if_false]
    exact ⟨t,rfl⟩

def Fi:aj := [48,49,50,51,52,53,54,55,56,57,97,98,99,100,101,102]
def pJ (c:Nat):Nat:=if c=34∨c=92 then c else if c=8 then 98 else if c=12 then 102 else if c=10 then 110 else if c=13 then 114 else if c=9 then 116 else 0
def qc (c:Nat):aj:=if pJ c≠0 then [92,UInt8.ofNat (pJ c)]else if c<32 then [92,117,48,48,Fi.getD (c / 16) 0,Fi.getD (c % 16) 0]else enc c
def Jc (rs:List Nat):aj:=rs.flatMap qc
def qt (rs:List Nat):aj:=34::(Jc rs ++ [34])

theorem WQ (c:Nat):pJ c<256:=by unfold pJ; (repeat' split) <;> omega
theorem ZI {R:Type} (c:Nat) (k:Int→Option R):dS (c:Int) k=k (pJ c:Int):=by
  show zp (c:Int) k=_
  unfold zp pJ
  have b:∀n:Nat,((c:Int)==(n:Int))=decide (c=n):=fun n=>by
    by_cases h:c=n
    · subst h; simp
    · have:¬((c:Int)=(n:Int)):=by omega
      simp[h,this]
  have b34:((c:Int)==34)=decide (c=34):=b 34
  have b92:((c:Int)==92)=decide (c=92):=b 92
  have b8:((c:Int)==8)=decide (c=8):=b 8
  have b12:((c:Int)==12)=decide (c=12):=b 12
  have b10:((c:Int)==10)=decide (c=10):=b 10
  have b13:((c:Int)==13)=decide (c=13):=b 13
  have b9:((c:Int)==9)=decide (c=9):=b 9
  rw[b34,b92,b8,b12,b10,b13,b9]
  have w:IntKind.u8.wrap (c:Int)=((c % 256:Nat):Int):=Zy c
  by_cases Hg:c=34
  · subst Hg; rfl
  by_cases Qp:c=92
  · subst Qp; rfl
  simp only[Hg,Qp,decide_false,cond_false,or_self,if_false]
  by_cases h8:c=8
  · subst h8; rfl
  by_cases h12:c=12
  · subst h12; rfl
  by_cases h10:c=10
  · subst h10; rfl
  by_cases h13:c=13
  · subst h13; rfl
  by_cases h9:c=9
  · subst h9; rfl
  simp[h8,h12,h10,h13,h9]

theorem R4 (s:aj) (pos:Nat):mS s pos=decodeL (s.drop pos):=by
  unfold mS
  exact (decodeL_drop ⟨s.toArray⟩ pos).symm

theorem R5 (rs:List Nat) (c:Nat) (t:List Nat):cQ (rs++c::t)=cQ rs++(enc c++cQ t):=by simp[cQ]

theorem hexdig:∀c:Fin 32,(Int.fdiv (c.val:Int) (2 ^ (min 4 IntKind.i32.bits)))=((c.val / 16:Nat):Int)∧IntKind.i32.wrap ((BitVec.ofInt IntKind.i32.bits (c.val:Int) &&& BitVec.ofInt IntKind.i32.bits 15).toNat:Int)=((c.val % 16:Nat):Int):=by decide +kernel

theorem ZJ {c:Nat} (hv:vr c):(qc c).length≤6:=by
  unfold qc
  split
  · simp
  · split
    · simp
    · have:=AY hv; omega

theorem R6 {R:Type} {x:aj} {pos c:Nat} (hp:pos<x.length) {t:aj} (hd:x.drop pos=enc c++t) (hv:vr c) (o:aj) (ho:o.length≤90000000000) (fH:List Int→aj→Nat→Option R) (e0:List Int→Option R) :
    lq ad dS af ai fH (zs o) x pos e0=fH (zs (o++qc c)) x (pos+(enc c).length):=by
  unfold lq
  have hr:mS x pos=(c,(enc c).length):=by rw[R4,hd,ID hv]
  rw[hr,br hp,cond_true]
  simp only
  rw[ZI]
  have PN:∀z:aj,z.length≤10→I1 (o++z):=fun z hz=>by unfold I1; rw[List.length_append]; omega
  have ZK:I1 o:=by unfold I1; omega
  by_cases hs:pJ c≠0
  · have e:((pJ c:Int) != 0)=true:=by
      exact bne_iff_ne.2 (by omega)
    rw[e,cond_true]
    have Qp:(92:Int)=((92:UInt8).toNat:Int):=rfl
    rw[Qp,wb _ o ZK]
    have h2:(pJ c:Int)=((UInt8.ofNat (pJ c)).toNat:Int):=by rw[hY _ (WQ c)]
    rw[h2,wb _ _ (PN [92] (by simp))]
    have:qc c = [92,UInt8.ofNat (pJ c)]:=by unfold qc; rw[if_pos hs]
    rw[this,List.append_assoc]
    rfl
  · have hs0:pJ c=0:=by omega
    have e:((pJ c:Int) != 0)=false:=by rw[hs0]; rfl
    rw[e,cond_false]
    by_cases ZL:c<32
    · rw[br (show (c:Int)<32 by omega),cond_true,ws _ o (by simp) ZK]
      obtain ⟨k1,k2⟩:=hexdig ⟨c,ZL⟩
      simp only at k1 k2
      rw[k1,k2,aS (by rw[br (by omega),br (by omega)]; rfl)]
      rw[Int.toNat_natCast,Int.toNat_natCast,wb _ _ (PN [92,117,48,48] (by simp)),aS (by rw[br (by omega),br (by omega)]; rfl)]
      rw[List.append_assoc o,wb _ _ (PN _ (by simp))]
      have:qc c = [92,117,48,48,Fi.getD (c / 16) 0,Fi.getD (c % 16) 0]:=by unfold qc; rw[if_neg hs,if_pos ZL]
      rw[this,List.append_assoc o]
      rfl
    · rw[cY (show ¬(c:Int)<32 by omega),cond_false]
      obtain ⟨n,hn⟩:=wr hv o ZK (fun Dg GG=>fH GG x (pos+(enc c).length))
      rw[hn]
      have:qc c=enc c:=by unfold qc; rw[if_neg hs,if_neg ZL]
      rw[this]

theorem TZ {R:Type} (rs:List Nat):∀(n:Nat) (done:List Nat) (o:aj),rs.length<n→(∀c∈rs,vr c)→(∀c∈done,vr c)→o.length+6*rs.length≤80000000000→∀e0:List Int→Option R,
    cj n (zs o) (cQ (done++rs)) (cQ done).length e0=e0 (zs (o++Jc rs)):=by
  induction rs with
  | nil =>
    intro n done o hn _ _ _ e0
    obtain ⟨m,rfl⟩:∃m,n=m+1:=⟨n - 1,by simp at hn; omega⟩
    show lq ad dS af ai _ (zs o) (cQ (done ++ [])) (cQ done).length e0=_
    unfold lq
    rw[List.append_nil,cY (Nat.lt_irrefl _),cond_false]
    simp[Jc]
  | cons c rs ih =>
    intro n done o hn hr hd hl e0
    obtain ⟨m,rfl⟩:∃m,n=m+1:=⟨n - 1,by simp at hn; omega⟩
    have hv:=hr c (by simp)
    have he:=AY hv
    have hq:=ZJ hv
    simp only[List.length_cons]at hn hl
    show lq ad dS af ai (fun lP lQ my=>cj m lP lQ my e0) (zs o) (cQ (done++c::rs)) (cQ done).length e0=_
    rw[R6 (c:=c) (t:=cQ rs) (by rw[R5,List.length_append,List.length_append]; omega) (by rw[R5,List.drop_left]) hv o (by omega)]
    have e1:done++c::rs=(done ++ [c])++rs:=by simp
    have e2:(cQ done).length+(enc c).length=(cQ (done ++ [c])).length:=by rw[JU,List.length_append]
    rw[e1,e2,ih m (done ++ [c]) (o++qc c) (by omega) (fun x hx=>hr x (by simp[hx])) (fun x hx=>by
      rcases List.mem_append.1 hx with h|h
      · exact hd x h
      · simp at h; subst h; exact hv) (by rw[List.length_append]; omega)]
    rw[List.append_assoc]
    rfl

theorem HR:∀(rs:List Nat),(∀c∈rs,vr c)→rs.length≤(cQ rs).length∧(cQ rs).length≤4*rs.length
  | [],_=>by simp[cQ]
  | c::rs,h=>by
    have h1:=AY (h c (by simp))
    have h2:=HR rs (fun x hx=>h x (by simp[hx]))
    have:cQ (c::rs)=enc c++cQ rs:=by simp[cQ]
    rw[this,List.length_append,List.length_cons]
    omega
theorem O8:∀(rs:List Nat),(∀c∈rs,vr c)→(Jc rs).length≤6*rs.length
  | [],_=>by simp[Jc]
  | c::rs,h=>by
    have h1:=ZJ (h c (by simp))
    have h2:=O8 rs (fun x hx=>h x (by simp[hx]))
    have:Jc (c::rs)=qc c++Jc rs:=by simp[Jc]
    rw[this,List.length_append,List.length_cons]
    omega

theorem ZM {R:Type} (rs:List Nat) (hr:∀c∈rs,vr c) (hl:rs.length≤10000000000) (k:aj→Bool→Option R):bj (cQ rs) k=k (qt rs) true:=by
  have hc:=HR rs hr
  have hq:=O8 rs hr
  have hw:gM (cQ rs)=true:=Dz.2 ⟨rs,hr,rfl⟩
  show sn bt ah ad cj (cQ rs) k=_
  unfold sn
  have q:∀(x:aj) (f:Bool→Option R),bt x f=f (gM x):=fun _ _=>rfl
  have q2:∀(x:Int) (f:List Int→Option R),ah x f=f [x]:=fun _ _=>rfl
  rw[q,hw,Bool.not_true,cond_false,q2]
  have e34:([34]:List Int)=zs [34]:=rfl
  rw[e34]
  have:=TZ (R:=R) rs (List.length (zs [34])+List.length (cQ rs)+64) [] [34] (by omega) hr (by simp) (by simp; omega)
  rw[List.nil_append]at this
  have e0:(cQ []).length=0:=rfl
  rw[e0]at this
  rw[this]
  have Hg:(34:Int)=((34:UInt8).toNat:Int):=rfl
  rw[Hg,wb _ _ (by unfold I1; rw[List.length_append]; simp; omega),tT]
  rfl

theorem WR {R:Type} (s:aj) (h:gM s=false) (k:aj→Bool→Option R):bj s k=k [] false:=by
  show sn bt ah ad cj s k=_
  unfold sn
  have q:∀(x:aj) (f:Bool→Option R),bt x f=f (gM x):=fun _ _=>rfl
  rw[q,h]
  rfl

def Jd (s:aj):Option (Nat × aj):=if ([92]:aj).isPrefixOf s then R3 (s.drop 1)else Ew s
def uq:Nat→aj→aj→Option (aj × aj)
  | 0,_,_=>none
  | n+1,s,o=>if ([34]:aj).isPrefixOf s then some (o,s.drop 1)else match Jd s with|none=>none|some (c,r)=>uq n r (o++enc c)

theorem ZN {s r:aj} {c:Nat} (h:Jb s=some (c,r)):vr c∧r.length+4≤s.length:=by
  unfold Jb at h
  split at h
  · cases h
  · rename_i v r1 hu
    obtain ⟨hv,hl,hr⟩:=B7 hu
    split at h
    · cases h
      refine ⟨by unfold vr; omega,?_⟩
      rw[hr,List.length_drop]; omega
    · split at h
      · cases h
      · split at h
        · split at h
          · cases h
          · rename_i w r2 Uq
            obtain ⟨hw,QG,hr2⟩:=B7 Uq
            split at h
            · simp only[Option.some.injEq,Prod.mk.injEq]at h
              obtain ⟨hc,rfl⟩:=h
              refine ⟨by unfold vr; omega,?_⟩
              rw[hr2,hr]
              simp only[List.length_drop]
              rw[hr]at QG
              simp only[List.length_drop]at QG
              omega
            · cases h
        · cases h

theorem U5 {s r:aj} {c:Nat} (h:R3 s=some (c,r)):vr c∧r.length<s.length:=by
  cases s with
  | nil=>cases h
  | cons b t =>
    simp only[R3]at h
    have hb:=UInt8.toNat_lt b
    split at h
    · cases h; exact ⟨by unfold vr; omega,by simp⟩
    split at h
    · cases h; exact ⟨by unfold vr; omega,by simp⟩
    split at h
    · cases h; exact ⟨by unfold vr; omega,by simp⟩
    split at h
    · cases h; exact ⟨by unfold vr; omega,by simp⟩
    split at h
    · cases h; exact ⟨by unfold vr; omega,by simp⟩
    split at h
    · cases h; exact ⟨by unfold vr; omega,by simp⟩
    split at h
    · obtain ⟨h1,h2⟩:=ZN h
      exact ⟨h1,by simp only[List.length_cons]; omega⟩
    · cases h

theorem O9 {s r:aj} {c:Nat} (h:Ew s=some (c,r)):vr c∧r.length<s.length:=by
  unfold Ew at h
  split at h
  · cases h
  · rename_i kq
    split at h
    · cases h
    · split at h
      · cases h
      · cases h
        have h1:=decodeL_width s
        have h2:0<s.length:=List.length_pos_iff.2 kq
        exact ⟨TM s,by rw[List.length_drop]; omega⟩

theorem R7 {s r:aj} {c:Nat} (h:Jd s=some (c,r)):vr c∧r.length<s.length:=by
  unfold Jd at h
  split at h
  · obtain ⟨h1,h2⟩:=U5 h
    exact ⟨h1,by rw[List.length_drop]at h2; omega⟩
  · exact O9 h

theorem U6:∀(n m:Nat) (s o:aj),s.length<n→s.length<m→uq n s o=uq m s o
  | 0,_,_,_,h,_=>by omega
  | _+1,0,_,_,_,h=>by omega
  | n+1,m+1,s,o,hn,hm=>by
    unfold uq
    split
    · rfl
    · cases hs:Jd s with
      | none=>rfl
      | some p =>
        obtain ⟨c,r⟩:=p
        obtain ⟨_,h2⟩:=R7 hs
        exact U6 n m r _ (by omega) (by omega)

theorem ZO {R:Type} (x:aj) (e0:aj→aj→List Int→Option R) (e1:aj→aj→Int→Bool→aj→List Int→Option R):∀(n:Nat) (s o:aj),s.length<n→o.length+4*s.length≤90000000000 →
    (match uq n s o with
     | some (o',r)=>bl n x s (zs o) e0 e1=e0 x r (zs o')
     | none=>∃a b,bl n x s (zs o) e0 e1=e1 x [] 0 false a b):=by
  intro n
  induction n with
  | zero=>intro s o h; omega
  | succ n ih =>
    intro s o h hb
    have hL:bl (n+1) x s (zs o) e0 e1=qv ai aD bu aZ (fun lP lQ my=>bl n lP lQ my e0 e1) x s (zs o) e0 e1:=rfl
    rw[hL]
    unfold qv
    rw[LB _ _ (by simp) (by omega)]
    simp only[uq]
    have PN:I1 o:=by unfold I1; omega
    by_cases Hg:([34]:aj).isPrefixOf s=true
    · rw[if_pos Hg,if_pos Hg]
      rfl
    · rw[if_neg Hg,if_neg Hg,Bool.not_false,cond_true,LB _ _ (by simp) (by omega)]
      have fin:∀(c:Nat) (r:aj),vr c→r.length<s.length →
          (match uq n r (o++enc c)with
           | some (o',r')=>bl n x r (zs (o++enc c)) e0 e1=e0 x r' (zs o')
           | none=>∃a b,bl n x r (zs (o++enc c)) e0 e1=e1 x [] 0 false a b):=fun c r hv hr=>by
        have:=AY hv
        exact ih r (o++enc c) (by omega) (by rw[List.length_append]; omega)
      unfold Jd
      by_cases Qp:([92]:aj).isPrefixOf s=true
      · rw[if_pos Qp,if_pos Qp]
        have UE:s.drop ([92]:aj).length=s.drop 1:=rfl
        rw[UE,cond_true]
        have hk:=esc_ok (R:=R) (s.drop 1) (by rw[List.length_drop]; omega) (fun wE Ak=>bif (decide (wE<(0:Int)))then (e1 x ([]:aj) 0 false Ak (zs o))else (ai wE (zs o) (fun DB Dg=>bl n x Ak Dg e0 e1)))
        cases he:R3 (s.drop 1)with
        | none =>
          rw[he]at hk
          obtain ⟨r,hk⟩:=hk
          exact ⟨r,zs o,hk.trans (by rw[br (show (-1:Int)<0 by omega),cond_true])⟩
        | some p =>
          obtain ⟨c,r⟩:=p
          rw[he]at hk
          obtain ⟨hv,hr⟩:=U5 he
          rw[List.length_drop]at hr
          simp only at hk ⊢
          rw[hk,cY (show ¬(c:Int)<0 by omega),cond_false]
          obtain ⟨q,hq⟩:=wr hv o PN (fun DB Dg=>bl n x r Dg e0 e1)
          rw[hq]
          exact fin c r hv (by omega)
      · rw[if_neg Qp,if_neg Qp,cond_false]
        have hk:=ZF (R:=R) s (by omega) (fun GG Ha=>bif (decide (GG<(0:Int)))then (e1 x ([]:aj) 0 false Ha (zs o))else (ai GG (zs o) (fun Jn E2=>bl n x Ha E2 e0 e1)))
        cases he:Ew s with
        | none =>
          rw[he]at hk
          simp only at hk ⊢
          exact ⟨s,zs o,hk.trans (by rw[br (show (-1:Int)<0 by omega),cond_true])⟩
        | some p =>
          obtain ⟨c,r⟩:=p
          rw[he]at hk
          obtain ⟨hv,hr⟩:=O9 he
          simp only at hk ⊢
          rw[hk,cY (show ¬(c:Int)<0 by omega),cond_false]
          obtain ⟨q,hq⟩:=wr hv o PN (fun Jn E2=>bl n x r E2 e0 e1)
          rw[hq]
          exact fin c r hv (by omega)

def ZP (s:aj):Option (aj × aj):=if ([34]:aj).isPrefixOf s then uq (s.length+1) (s.drop 1) []else none

theorem T0 {R:Type} (s:aj) (hs:s.length≤20000000000) (k:aj→Int→Bool→Option R) :
    eN s k=match ZP s with|some (o,r)=>k o (IntKind.i64.wrap ((s.length:Int) - (r.length:Int))) true|none=>k [] 0 false:=by
  have e:eN s k=vB aD bl s k:=rfl
  rw[e]
  unfold vB ZP
  rw[LB _ _ (by simp) (by omega)]
  by_cases Hg:([34]:aj).isPrefixOf s=true
  · rw[if_pos Hg,if_pos Hg,Bool.not_true,cond_false]
    have e1:s.drop ([34]:aj).length=s.drop 1:=rfl
    rw[e1]
    have hd:(s.drop 1).length≤s.length:=by rw[List.length_drop]; omega
    have key:=ZO (R:=R) s (fun KF LA BZ=>k (s7 BZ) (IntKind.i64.wrap ((KF.length:Int) - (LA.length:Int))) true) (fun Ql RU y24 Jo J2 Jp=>k RU y24 Jo) (List.length s+List.length (s.drop 1)+List.length ([]:List Int)+64) (s.drop 1) [] (by omega) (by simp only[List.length_nil]; omega)
    rw[U6 _ (s.length+1) (s.drop 1) [] (by omega) (by omega)]at key
    cases hu:uq (s.length+1) (s.drop 1) []with
    | none =>
      rw[hu]at key
      obtain ⟨a,b,key⟩:=key
      exact key
    | some p =>
      obtain ⟨o,r⟩:=p
      rw[hu]at key
      simp only at key ⊢
      refine Eq.trans key ?_
      rw[tT]
  · rw[if_neg Hg,if_neg Hg]
    rfl

theorem Nf (a b:UInt8) (t:aj):([a]:aj).isPrefixOf (b::t)=(a==b):=by
  simp[List.isPrefixOf]

theorem ZQ:∀c:Fin 32,I3 [48,48,Fi.getD (c.val / 16) 0,Fi.getD (c.val % 16) 0] 0=some c.val:=by decide +kernel

theorem u8_ne {b:UInt8} {n:Nat} (hn:n<256) (h:b.toNat≠n):((UInt8.ofNat n)==b)=false:=by
  rw[beq_eq_false_iff_ne]
  rintro rfl
  rw[hY n hn]at h
  exact h rfl

theorem WS {c:Nat} (hv:vr c) (h:32≤c) (Hg:c≠34) (Qp:c≠92):∃b t,enc c=b::t∧b.toNat≠34∧b.toNat≠92:=by
  have lh:=O1 hv
  rcases Dy hv with ⟨h1,e⟩|⟨h0,h1,e⟩|⟨h0,h1,e⟩|⟨h0,e⟩
  · exact ⟨_,_,e,by rw[hY _ (by omega)]; exact Hg,by rw[hY _ (by omega)]; exact Qp⟩
  · exact ⟨_,_,e,by rw[hY _ (by omega)]; omega,by rw[hY _ (by omega)]; omega⟩
  · exact ⟨_,_,e,by rw[hY _ (by omega)]; omega,by rw[hY _ (by omega)]; omega⟩
  · exact ⟨_,_,e,by rw[hY _ (by omega)]; omega,by rw[hY _ (by omega)]; omega⟩

theorem Qq (c:Nat):(pJ c=0∧c≠34∧c≠92)∨c=34∨c=92∨c=8∨c=12∨c=10∨c=13∨c=9:=by
  unfold pJ
  by_cases h1:c=34 <;> by_cases h2:c=92 <;> by_cases h3:c=8 <;> by_cases h4:c=12 <;> by_cases h5:c=10 <;> by_cases h6:c=13 <;> by_cases h7:c=9 <;> simp[h1,h2,h3,h4,h5,h6,h7]

theorem qc_hex {c:Nat} (h0:pJ c=0) (h:c<32):qc c = [92,117,48,48,Fi.getD (c / 16) 0,Fi.getD (c % 16) 0]:=by unfold qc; rw[if_neg (by omega),if_pos h]
theorem Qr {c:Nat} (h0:pJ c=0) (h:¬c<32):qc c=enc c:=by unfold qc; rw[if_neg (by omega),if_neg h]

theorem step_qc {c:Nat} (hv:vr c) (t:aj):([34]:aj).isPrefixOf (qc c++t)=false∧Jd (qc c++t)=some (c,t):=by
  rcases Qq c with ⟨h0,Hg,Qp⟩|rfl|rfl|rfl|rfl|rfl|rfl|rfl
  · by_cases ZL:c<32
    · rw[qc_hex h0 ZL]
      refine ⟨rfl,?_⟩
      have hb:=ZQ ⟨c,ZL⟩
      simp only at hb
      show Jb (48::48::Fi.getD (c / 16) 0::Fi.getD (c % 16) 0::t)=some (c,t)
      have hu:EV (48::48::Fi.getD (c / 16) 0::Fi.getD (c % 16) 0::t)=some (c,t):=by
        unfold EV
        rw[if_neg (by simp only[List.length_cons]; omega)]
        have e:List.take 4 (48::48::Fi.getD (c / 16) 0::Fi.getD (c % 16) 0::t) = [48,48,Fi.getD (c / 16) 0,Fi.getD (c % 16) 0]:=rfl
        rw[e,hb]
        rfl
      unfold Jb
      rw[hu]
      simp only
      rw[if_pos (.inl (by omega))]
    · rw[Qr h0 ZL]
      obtain ⟨b,u,e,g1,g2⟩:=WS hv (by omega) Hg Qp
      have e2:enc c++t=b::(u++t):=by rw[e]; rfl
      refine ⟨?_,?_⟩
      · rw[e2,Nf]
        exact u8_ne (n:=34) (by omega) g1
      · unfold Jd
        have:([92]:aj).isPrefixOf (enc c++t)=false:=by
          rw[e2,Nf]
          exact u8_ne (n:=92) (by omega) g2
        rw[this]
        simp only[Bool.false_eq_true,if_false]
        unfold Ew
        rw[if_neg (Zk hv t),ID hv t]
        simp only
        have hg:=RN hv t
        unfold TK at hg
        rw[ID hv t]at hg
        simp only at hg
        rw[if_neg hg,if_neg ZL,List.drop_left]
  · exact ⟨rfl,rfl⟩
  · exact ⟨rfl,rfl⟩
  · exact ⟨rfl,rfl⟩
  · exact ⟨rfl,rfl⟩
  · exact ⟨rfl,rfl⟩
  · exact ⟨rfl,rfl⟩
  · exact ⟨rfl,rfl⟩

theorem uq_qc:∀(rs:List Nat),(∀c∈rs,vr c)→∀(n:Nat) (o more:aj),rs.length<n→uq n (Jc rs++34::more) o=some (o++cQ rs,more)
  | [],_,n,o,more,hn=>by
    obtain ⟨m,rfl⟩:∃m,n=m+1:=⟨n - 1,by simp at hn; omega⟩
    have:Jc []++34::more=34::more:=rfl
    rw[this]
    simp[uq,List.isPrefixOf,cQ]
  | c::rs,hr,n,o,more,hn=>by
    obtain ⟨m,rfl⟩:∃m,n=m+1:=⟨n - 1,by simp at hn; omega⟩
    have hv:=hr c (by simp)
    have e:Jc (c::rs)++34::more=qc c++(Jc rs++34::more):=by simp[Jc]
    obtain ⟨h1,h2⟩:=step_qc hv (Jc rs++34::more)
    rw[e]
    simp only[uq,h1,h2,Bool.false_eq_true,if_false]
    rw[uq_qc rs (fun x hx=>hr x (by simp[hx])) m (o++enc c) more (by simp at hn; omega)]
    simp[cQ]

theorem qc_pos {c:Nat} (hv:vr c):1≤(qc c).length:=by
  unfold qc
  split
  · simp
  · split
    · simp
    · exact (AY hv).1
theorem U7:∀(rs:List Nat),(∀c∈rs,vr c)→rs.length≤(Jc rs).length
  | [],_=>by simp[Jc]
  | c::rs,h=>by
    have h1:=qc_pos (h c (by simp))
    have h2:=U7 rs (fun x hx=>h x (by simp[hx]))
    have:Jc (c::rs)=qc c++Jc rs:=by simp[Jc]
    rw[this,List.length_append,List.length_cons]
    omega

theorem ZR (rs:List Nat) (hr:∀c∈rs,vr c) (more:aj):ZP (qt rs++more)=some (cQ rs,more):=by
  have e:qt rs++more=34::(Jc rs++34::more):=by unfold qt; simp
  have hq:=U7 rs hr
  rw[e]
  unfold ZP
  rw[Nf]
  simp only[BEq.rfl,if_true,List.drop_succ_cons,List.drop_zero]
  have:=uq_qc rs hr ((34::(Jc rs++34::more)).length+1) [] more (by simp only[List.length_cons,List.length_append]; omega)
  rw[this]
  rfl

theorem R8 {R:Type} (x:aj) (f:Bool→Option R):bt x f=f (gM x):=rfl

theorem Kc {R:Type} (s:aj) (hl:s.length≤10000000000):(∃rs:List Nat,(∀c∈rs,vr c)∧rs.length≤s.length∧s=cQ rs∧gM s=true∧∀k:aj→Bool→Option R,bj s k=k (qt rs) true) ∨
    (gM s=false∧∀k:aj→Bool→Option R,bj s k=k [] false):=by
  cases h:gM s with
  | true =>
    obtain ⟨rs,hr,rfl⟩:=Dz.1 h
    have:=HR rs hr
    exact .inl ⟨rs,hr,this.1,rfl,rfl,fun k=>ZM rs hr (by omega) k⟩
  | false=>exact .inr ⟨rfl,fun k=>WR s h k⟩


end Go.Proofs.YtmlkkgfenfdndaaGreatDoor

/-
  Functions of the program as pure Lean functions, and the ties; printed by wip/tools/emit.py.
-/
set_option maxRecDepth 100000
namespace Go.Proofs.YtmlkkgfenfdndaaGreatDoor
open Go Go.ay

end Go.Proofs.YtmlkkgfenfdndaaGreatDoor

/-
  Functions of the program as pure Lean functions, and the ties; printed by wip/tools/emit.py.
-/
set_option maxRecDepth 100000
namespace Go.Proofs.YtmlkkgfenfdndaaGreatDoor
open Go Go.ay

end Go.Proofs.YtmlkkgfenfdndaaGreatDoor

/-
  Functions of the program as pure Lean functions, and the ties; printed by wip/tools/emit.py.
-/
set_option maxRecDepth 100000
namespace Go.Proofs.YtmlkkgfenfdndaaGreatDoor
open Go Go.ay

end Go.Proofs.YtmlkkgfenfdndaaGreatDoor

set_option maxRecDepth 100000
namespace Go.Proofs.YtmlkkgfenfdndaaGreatDoor
open Go Go.ay Go.Lib

def tail (low v n:Nat):Nat:=if v<low∨1114111<v∨(55296≤v∧v≤57343)then 0 else n

end Go.Proofs.YtmlkkgfenfdndaaGreatDoor

/-
  Functions of the program as pure Lean functions, and the ties; printed by wip/tools/emit.py.
-/
set_option maxRecDepth 100000
namespace Go.Proofs.YtmlkkgfenfdndaaGreatDoor
open Go Go.ay

end Go.Proofs.YtmlkkgfenfdndaaGreatDoor

set_option maxRecDepth 100000
namespace Go.Proofs.YtmlkkgfenfdndaaGreatDoor
open Go Go.ay Go.Lib

theorem eqI (n m:Nat):((n:Int)==(m:Int))=decide (n=m):=by
  by_cases h:n=m
  · subst h; simp
  · have:¬((n:Int)=(m:Int)):=by omega
    simp[h,this]

def qb (b:UInt8):aj :=
  if b.toNat=34∨b.toNat=92 then [92,b]else if b.toNat=8 then [92,98]else if b.toNat=9 then [92,116]else if b.toNat=10 then [92,110]else if b.toNat=12 then [92,102]else if b.toNat=13 then [92,114]
  else if b.toNat<32 then [92,117,48,48,Fi.getD (b.toNat / 16) 0,Fi.getD (b.toNat % 16) 0]else [b]

theorem qb_len (b:UInt8):(qb b).length≤6:=by unfold qb; (repeat' split) <;> simp

theorem Bv {b:UInt8} (h:128≤b.toNat):qb b = [b]:=by
  unfold qb
  rw[if_neg (by omega),if_neg (by omega),if_neg (by omega),if_neg (by omega),if_neg (by omega),if_neg (by omega),if_neg (by omega)]

theorem qb_enc {c:Nat} (hv:vr c):(enc c).flatMap qb=qc c:=by
  have lh:=O1 hv
  rcases Dy hv with ⟨h1,e⟩|⟨h0,h1,e⟩|⟨h0,h1,e⟩|⟨h0,e⟩
  · rw[e]
    simp only[List.flatMap_cons,List.flatMap_nil,List.append_nil]
    have hu:=hY c (by omega)
    unfold qb qc pJ
    rw[hu]
    by_cases Hg:c=34
    · subst Hg; rfl
    by_cases Qp:c=92
    · subst Qp; rfl
    by_cases h8:c=8
    · subst h8; rfl
    by_cases h9:c=9
    · subst h9; rfl
    by_cases h10:c=10
    · subst h10; rfl
    by_cases h12:c=12
    · subst h12; rfl
    by_cases h13:c=13
    · subst h13; rfl
    simp only[Hg,Qp,h8,h9,h10,h12,h13,or_self,if_false,ne_eq,not_true_eq_false]
    by_cases ZL:c<32
    · simp only[ZL,if_true]
    · simp only[ZL,if_false]
      rw[e]
  · have hq:qc c=enc c:=Qr (by unfold pJ; rw[if_neg (by omega),if_neg (by omega),if_neg (by omega),if_neg (by omega),if_neg (by omega),if_neg (by omega)]) (by omega)
    rw[hq,e]
    simp only[List.flatMap_cons,List.flatMap_nil,List.append_nil]
    rw[Bv (by rw[hY _ (by omega)]; omega),Bv (by rw[hY _ (by omega)]; omega)]; rfl
  · have hq:qc c=enc c:=Qr (by unfold pJ; rw[if_neg (by omega),if_neg (by omega),if_neg (by omega),if_neg (by omega),if_neg (by omega),if_neg (by omega)]) (by omega)
    rw[hq,e]
    simp only[List.flatMap_cons,List.flatMap_nil,List.append_nil]
    rw[Bv (by rw[hY _ (by omega)]; omega),Bv (by rw[hY _ (by omega)]; omega),Bv (by rw[hY _ (by omega)]; omega)]; rfl
  · have hq:qc c=enc c:=Qr (by unfold pJ; rw[if_neg (by omega),if_neg (by omega),if_neg (by omega),if_neg (by omega),if_neg (by omega),if_neg (by omega)]) (by omega)
    rw[hq,e]
    simp only[List.flatMap_cons,List.flatMap_nil,List.append_nil]
    rw[Bv (by rw[hY _ (by omega)]; omega),Bv (by rw[hY _ (by omega)]; omega),Bv (by rw[hY _ (by omega)]; omega),Bv (by rw[hY _ (by omega)]; omega)]; rfl

theorem U8:∀(rs:List Nat),(∀c∈rs,vr c)→(cQ rs).flatMap qb=Jc rs
  | [],_=>rfl
  | c::rs,h=>by
    have e:cQ (c::rs)=enc c++cQ rs:=by simp[cQ]
    have e2:Jc (c::rs)=qc c++Jc rs:=by simp[Jc]
    rw[e,e2,List.flatMap_append,qb_enc (h c (by simp)),U8 rs (fun x hx=>h x (by simp[hx]))]




theorem dec_all (u:Nat):∀b∈decDigits u,48≤b.toNat∧b.toNat≤57:=by
  induction u using Nat.strongRecOn with
  | _ u ih =>
    intro b hb
    by_cases h:u<10
    · rw[decDigits,dif_pos h]at hb
      simp only[List.mem_cons,List.not_mem_nil,or_false]at hb
      subst hb
      rw[hY _ (by omega)]; omega
    · rw[decDigits,dif_neg h]at hb
      rcases List.mem_append.1 hb with hb|hb
      · exact ih (u / 10) (by omega) b hb
      · simp only[List.mem_cons,List.not_mem_nil,or_false]at hb
        subst hb
        rw[hY _ (by omega)]; omega
theorem Pa (u:Nat) (hu:0<u):∃b t,decDigits u=b::t∧b.toNat≠48:=by
  induction u using Nat.strongRecOn with
  | _ u ih =>
    by_cases h:u<10
    · exact ⟨_, [],by rw[decDigits,dif_pos h],by rw[hY _ (by omega)]; omega⟩
    · obtain ⟨b,t,e,hb⟩:=ih (u / 10) (by omega) (by omega)
      exact ⟨b,t ++ [UInt8.ofNat (48+u % 10)],by rw[decDigits,dif_neg h,e]; rfl,hb⟩
theorem ZS (u:Nat):∃l,decDigits u=l ++ [UInt8.ofNat (48+u % 10)]:=by
  by_cases h:u<10
  · exact ⟨[],by rw[decDigits,dif_pos h,Nat.mod_eq_of_lt h]; rfl⟩
  · exact ⟨decDigits (u / 10),by rw[decDigits,dif_neg h]⟩

theorem ZT {m:Int} (h:Int.tmod m 10≠0):m.natAbs % 10≠0:=by
  intro h2
  apply h
  have e:m=(m / 10)*10:=by omega
  rw[e]
  exact Int.mul_tmod_left _ _


theorem LC (c:UInt8):∀l:aj,Go.Lib.indexByte l c<0↔l.contains c=false
  | []=>by simp[Go.Lib.indexByte]
  | x::l=>by
    have ih:=LC c l
    have hg:=Go.Lib.indexByte_ge l c
    unfold Go.Lib.indexByte
    rw[List.contains_cons]
    by_cases h:x=c
    · subst h; simp
    · have h2:(c==x)=false:=by rw[beq_eq_false_iff_ne]; exact fun e=>h e.symm
      rw[h2,Bool.false_or,←ih]
      split
      · rename_i h3; exact (h (beq_iff_eq.1 h3)).elim
      · split
        · rename_i h4
          have:=beq_iff_eq.1 h4
          omega
        · rename_i h4
          have:¬Go.Lib.indexByte l c = -1:=fun e=>h4 (beq_iff_eq.2 e)
          omega

def qH (DP s:aj):Nat × aj:=match s with | []=>(0, [])|b::t=>if DP.contains b then (b.toNat,t)else (0,b::t)

theorem Bw {R:Type} (DP s:aj) (hs:s.length≤4000000000) (k:Int→aj→Option R):aR DP s k=k ((qH DP s).1:Int) (qH DP s).2:=by
  have e:aR DP s k=lx DP s k:=rfl
  rw[e]
  unfold lx
  cases s with
  | nil=>rfl
  | cons b t =>
    simp only[List.length_cons]at hs
    have kq:((b::t:aj)==([]:aj))=false:=rfl
    have hg:((b::t:aj).getD 0 0)=b:=rfl
    have hd:((b::t:aj).drop 1).take (((b::t:aj).length:Int).toNat - 1)=t:=by
      rw[Int.toNat_natCast,List.drop_succ_cons,List.drop_zero,List.length_cons,Nat.add_sub_cancel,List.take_length]
    have hi:zg DP ((b.toNat:Nat):Int)=Go.Lib.indexByte DP b:=by
      unfold zg
      rw[Int.toNat_natCast]
      simp
    have hl:(b::t:aj).length=t.length+1:=rfl
    rw[kq,cond_false,hg,hd,hi,hl,aS (br (by omega))]
    unfold qH
    cases hc:DP.contains b with
    | false =>
      rw[br ((LC b DP).2 hc),cond_true]
      simp only[hc,Bool.false_eq_true,if_false]
      rfl
    | true =>
      have:¬Go.Lib.indexByte DP b<0:=fun h=>by rw[(LC b DP).1 h]at hc; cases hc
      rw[cY this,cond_false,aS (br (by omega)),aS (by rw[br (show (0:Int)≤((t.length+1:Nat):Int) by omega),br (by omega)]; rfl),aS (br (by omega))]
      simp only[hc,if_true]

def ZU:aj := [48,49,50,51,52,53,54,55,56,57]
def oy (b:UInt8):Prop:=48≤b.toNat∧b.toNat≤57
theorem ZV:∀n:Fin 256,ZU.contains (UInt8.ofNat n.val)=decide (48≤n.val∧n.val≤57):=by decide +kernel
theorem Qs (b:UInt8):ZU.contains b=decide (48≤b.toNat∧b.toNat≤57):=by
  have:=ZV ⟨b.toNat,UInt8.toNat_lt b⟩
  simpa using this

theorem Gs (p:UInt8→Bool):∀(a r:aj),(∀x∈a,p x=true)→(a++r).dropWhile p=r.dropWhile p
  | [],r,_=>rfl
  | x::a,r,h=>by
    rw[List.cons_append,List.dropWhile_cons,h x (by simp),if_pos rfl]
    exact Gs p a r fun y hy=>h y (by simp[hy])
theorem HS (p:UInt8→Bool) (r:aj) (h:∀b t,r=b::t→p b=false):r.dropWhile p=r:=by
  cases r with
  | nil=>rfl
  | cons b t=>rw[List.dropWhile_cons,h b t rfl]; rfl

theorem Kd {R:Type} (a r:aj) (ha:∀x∈a,oy x) (hr:∀b t,r=b::t→¬oy b) (hl:(a++r).length≤4000000000) (k:aj→aj→Option R):aN (a++r) k=k a r:=by
  have e:aN (a++r) k=kb (a++r) k:=rfl
  rw[e]
  unfold kb
  have ht:bG (a++r) ([48,49,50,51,52,53,54,55,56,57]:aj)=r:=by
    unfold bG
    have h1:=Gs (fun x=>ZU.contains x) a r (fun x hx=>by rw[Qs]; exact br (ha x hx))
    have h2:=HS (fun x=>ZU.contains x) r (fun b t hb=>by rw[Qs]; exact cY (hr b t hb))
    exact h1.trans h2
  rw[ht]
  have hlen:(a++r).length=a.length+r.length:=List.length_append
  have hw:IntKind.i64.wrap (((a++r).length:Int) - (r.length:Int))=(a.length:Int):=by rw[hlen,dE (by omega) (by omega)]; omega
  rw[hw,aS (by rfl),aS (by rw[br (by omega),br (by omega)]; rfl),aS (br (by omega)),List.drop_zero,Int.toNat_natCast,Nat.sub_zero,List.take_left]

theorem ZW {R:Type} (neg:Bool) (I F X:aj) (pt:Bool) (ev:Int) (hI:∀x∈I,oy x) (hI0:I ≠ []) (hI1:1<I.length→(I.getD 0 0).toNat≠48) (hF:∀x∈F,oy x) (hF0:pt=true→F ≠ []) (hF1:pt=false→F = [])
    (hX:(X = []∧ev=0)∨∃b Y,X=b::Y∧(b=101∨b=69)∧∀f:Int→Bool→aj→Option R,bn Y f=f ev true []) (hev : -1000000≤ev∧ev≤1000000)
    (hlen:((if neg then [45]else [])++(I++((if pt then 46::F else [])++X))).length≤400)
    (hsh:(cV (bG (I++F) [48]) [48]).length≤18) (k:iZ→Bool→Option R) :
    dC ((if neg then [45]else [])++(I++((if pt then 46::F else [])++X))) k =
      bN (if neg then IntKind.i64.wrap (0 - eD (48::cV (bG (I++F) [48]) [48]))else eD (48::cV (bG (I++F) [48]) [48])) (-(F.length:Int)+ev+(((bG (I++F) [48]).length:Int) - ((cV (bG (I++F) [48]) [48]).length:Int))) k:=by
  generalize hS:(if neg then [45]else [])++(I++((if pt then 46::F else [])++X))=s at *
  have e:dC s k=oX bN aR aN bn s k:=rfl
  rw[e]
  unfold oX
  -- the pieces
  obtain ⟨i0,It,hIe⟩:∃b t,I=b::t:=by cases I with|nil=>exact (hI0 rfl).elim|cons b t=>exact ⟨b,t,rfl⟩
  have hi0:=hI i0 (by rw[hIe]; simp)
  have hXh:∀b t,X=b::t→¬oy b∧b.toNat≠46:=by
    intro b t hb
    rcases hX with ⟨rfl,_⟩|⟨c,Y,rfl,hc,_⟩
    · cases hb
    · cases hb
      rcases hc with rfl|rfl <;> exact ⟨by unfold oy; decide,by decide⟩
  have hs1:qH [45] s=(if neg then 45 else 0,I++((if pt then 46::F else [])++X)):=by
    rw[←hS]
    cases neg with
    | true=>rfl
    | false =>
      rw[hIe]
      have:([45]:aj).contains i0=false:=by
        have:i0≠45:=by rintro rfl; exact absurd hi0.1 (by decide)
        simp[this]
      simp only[Bool.false_eq_true,if_false,List.nil_append,List.cons_append,qH,this]
  have hsl:s.length≤400:=hlen
  have D2:s.length=(if neg then 1 else 0)+(I.length+((if pt then F.length+1 else 0)+X.length)):=by
    rw[←hS]
    cases neg <;> cases pt <;> simp <;> omega
  have hFl:F.length≤400:=by
    cases pt with
    | true=>simp at D2; omega
    | false=>rw[hF1 rfl]; simp
  have hIl:I.length≤400:=by omega
  have hXl:X.length≤400:=by omega
  rw[Bw _ _ (by omega),hs1]
  simp only
  have hPh:∀b t,(if pt then 46::F else [])++X=b::t→¬oy b:=by
    intro b t hb
    cases pt with
    | true=>simp at hb; rw[←hb.1]; unfold oy; decide
    | false=>exact (hXh b t (by simpa using hb)).1
  have QG:(I++((if pt then 46::F else [])++X)).length≤4000000000:=by
    have:(I++((if pt then 46::F else [])++X)).length=I.length+((if pt then F.length+1 else 0)+X.length):=by cases pt <;> simp <;> omega
    omega
  rw[Kd I _ hI hPh QG]
  have kq:(I==([]:aj))=false:=by rw[beq_eq_false_iff_ne]; exact hI0
  rw[cY (show ¬(s.length:Int)>400 by omega),cond_false,kq,cond_false]
  have q48:(((I.getD 0 0).toNat:Int)==48)=decide ((I.getD 0 0).toNat=48):=eqI _ 48
  -- the rest, behind the first test
  have drop1:∀x:Option R,(bif (decide ((I.length:Int)>1))then (cU (decide ((0:Int)<I.length)) (bif (((I.getD 0 0).toNat:Int)==48)then (k ⟨0,0⟩ false)else x))else x)=x:=by
    intro x
    by_cases h:1<I.length
    · rw[br (show (I.length:Int)>1 by omega),cond_true,aS (br (by omega)),q48,cY (hI1 h),cond_false]
    · rw[cY (show ¬(I.length:Int)>1 by omega),cond_false]
  rw[drop1]
  generalize hA:I++F=all at *
  have zB:all.length≤800:=by rw[←hA,List.length_append]; omega
  have htl:(bG all [48]).length≤all.length:=zh _ _
  have lone:([48]:aj).length=1:=rfl
  have hc:(([48]:aj)++(cV (bG all ([48]:aj)) ([48]:aj)))=48::cV (bG all [48]) [48]:=rfl
  have hbe:((([]:aj)==([]:aj)))=true:=rfl
  have U9:decide ((48::cV (bG all [48]) [48]:aj).length≤281474976710656)=true:=br (by simp only[List.length_cons]; omega)
  have w0:IntKind.i64.wrap (((bG all [48]).length:Int) - ((cV (bG all [48]) [48]).length:Int))=((bG all [48]).length:Int) - ((cV (bG all [48]) [48]).length:Int):=dE (by omega) (by omega)
  have q1:decide (1+(cV (bG all [48]) [48]).length≤9223372036854775807)=true:=br (by omega)
  have q2:decide (((cV (bG all [48]) [48]).length:Int)>18)=false:=cY (by omega)
  have q3:(ua ([48]:aj)&&decide (([48]:aj).length<4294967281))=true:=rfl
  have qn:(((if neg then 45 else 0:Nat):Int) != 0)=neg:=by cases neg <;> rfl
  have sX:qH [101,69] X=match X with | []=>(0, [])|b::Y=>(b.toNat,Y):=by
    rcases hX with ⟨rfl,_⟩|⟨b,Y,rfl,hb,_⟩
    · rfl
    · rcases hb with rfl|rfl <;> rfl
  cases pt with
  | false =>
    have hFe:=hF1 rfl
    subst hFe
    rw[List.append_nil]at hA
    subst hA
    have s46:qH [46] X=(0,X):=by
      rcases hX with ⟨rfl,_⟩|⟨b,Y,rfl,hb,_⟩
      · rfl
      · rcases hb with rfl|rfl <;> rfl
    simp only[Bool.false_eq_true,if_false,List.nil_append]
    rw[Bw _ _ (by omega),s46]
    have z0:(((0:Nat):Int) != 0)=false:=rfl
    simp only[z0,cond_false]
    rw[Bw _ _ (by omega),sX]
    rcases hX with ⟨rfl,rfl⟩|⟨b,Y,rfl,hb,hE⟩
    · simp only[z0,cond_false,q3,aS rfl,hbe,Bool.not_true,q2,q1,hc,U9,Bool.cond_self,w0,qn]
      rw[dE (n:=0+(((bG I [48]).length:Int) - ((cV (bG I [48]) [48]).length:Int))) (by omega) (by omega)]
      have e0 : -((([]:aj).length:Nat):Int)+0=0:=rfl
      rw[e0]
      cases neg <;> rfl
    · have zb:((b.toNat:Int) != 0)=true:=by rcases hb with rfl|rfl <;> rfl
      simp only[zb,cond_true,hE,Bool.not_true,cond_false,q3,aS rfl,hbe,q2,q1,hc,U9,Bool.cond_self,w0,qn]
      rw[dE (n:=0+ev) (by omega) (by omega),dE (n:=0+ev+(((bG I [48]).length:Int) - ((cV (bG I [48]) [48]).length:Int))) (by omega) (by omega)]
      have e0 : -((([]:aj).length:Nat):Int)+ev=0+ev:=rfl
      rw[e0]
      cases neg <;> rfl
  | true =>
    have hFe:=hF0 rfl
    simp only[if_true,List.cons_append,List.nil_append]
    have s46:qH [46] (46::(F++X))=(46,F++X):=rfl
    have lFX:(F++X).length=F.length+X.length:=List.length_append
    rw[Bw _ _ (by simp only[List.length_cons]; omega),s46]
    have z46:(((46:Nat):Int) != 0)=true:=rfl
    have z0:(((0:Nat):Int) != 0)=false:=rfl
    simp only[z46,cond_true]
    rw[Kd F X hF (fun b t hb=>(hXh b t hb).1) (by omega)]
    have hFn:(F==([]:aj))=false:=by rw[beq_eq_false_iff_ne]; exact hFe
    rw[hFn,cond_false,aS (br (by omega)),hA,dE (n:=0 - (F.length:Int)) (by omega) (by omega)]
    rw[Bw _ _ (by omega),sX]
    rcases hX with ⟨rfl,rfl⟩|⟨b,Y,rfl,hb,hE⟩
    · simp only[z0,cond_false,q3,aS rfl,hbe,Bool.not_true,q2,q1,hc,U9,Bool.cond_self,w0,qn]
      rw[dE (n:=0 - (F.length:Int)+(((bG all [48]).length:Int) - ((cV (bG all [48]) [48]).length:Int))) (by omega) (by omega)]
      have e0 : -(F.length:Int)+0=0 - (F.length:Int):=by omega
      rw[e0]
      cases neg <;> rfl
    · have zb:((b.toNat:Int) != 0)=true:=by rcases hb with rfl|rfl <;> rfl
      simp only[zb,cond_true,hE,Bool.not_true,cond_false,q3,aS rfl,hbe,q2,q1,hc,U9,Bool.cond_self,w0,qn]
      rw[dE (n:=0 - (F.length:Int)+ev) (by omega) (by omega),dE (n:=0 - (F.length:Int)+ev+(((bG all [48]).length:Int) - ((cV (bG all [48]) [48]).length:Int))) (by omega) (by omega)]
      have e0 : -(F.length:Int)+ev=0 - (F.length:Int)+ev:=by omega
      rw[e0]
      cases neg <;> rfl

theorem R9:∀(l r:aj) (acc v:Nat),parseUint10 acc l = .ok v→parseUint10 acc (l++r)=parseUint10 v r
  | [],r,acc,v,h=>by
    simp only[parseUint10]at h
    injection h with h
    subst h
    rfl
  | c::l,r,acc,v,h=>by
    simp only[parseUint10,List.cons_append]at h ⊢
    split at h
    · rename_i h1
      rw[if_pos h1]
      split at h
      · cases h
      · rename_i h2
        rw[if_neg h2]
        split at h
        · cases h
        · rename_i h3
          rw[if_neg h3]
          exact R9 l r _ v h
    · cases h

theorem ZX (u:Nat) (hu:u<1000000000000000000):parseUint10 0 (decDigits u) = .ok u:=by
  induction u using Nat.strongRecOn with
  | _ u ih =>
    by_cases h:u<10
    · rw[decDigits,dif_pos h]
      simp only[parseUint10,hY (48+u) (by omega)]
      rw[if_pos (by omega),if_neg (by omega),if_neg (by omega)]
      congr 1
      omega
    · rw[decDigits,dif_neg h,R9 _ _ _ _ (ih (u / 10) (by omega) (by omega))]
      simp only[parseUint10,hY (48+u % 10) (by omega)]
      rw[if_pos (by omega),if_neg (by omega),if_neg (by omega)]
      congr 1
      omega

theorem ZY (u:Nat) (hu:u<1000000000000000000):eD (48::decDigits u)=(u:Int):=by
  have h1:parseMag (48::decDigits u) = .ok u:=by
    unfold parseMag
    rw[if_neg (by simp)]
    have:=ZX u hu
    simp only[parseUint10]
    exact this
  have h2:atoiAll (48::decDigits u) = .ok (u:Int):=by
    unfold atoiAll
    simp only
    have e:(if (48:UInt8).toNat=43∨(48:UInt8).toNat=45 then decDigits u else 48::decDigits u)=48::decDigits u:=if_neg (by decide)
    rw[e,h1]
    simp only
    rw[if_neg (by omega),if_neg (fun h=>absurd h.1 (by decide)),if_neg (by decide)]
  unfold eD
  rw[h2]

theorem trimL_z (n:Nat) (r:aj) (hr:∀b t,r=b::t→b≠48):bG (j1 n++r) [48]=r:=by
  unfold bG
  rw[Gs _ _ _ (fun x hx=>by have:=List.eq_of_mem_replicate hx; subst this; rfl)]
  exact HS _ _ fun b t hb=>by simp[hr b t hb]

theorem trimR_z (l:aj) (n:Nat) (b:UInt8) (hb:b≠48):cV (l ++ [b]++j1 n) [48]=l ++ [b]:=by
  unfold cV
  rw[List.reverse_append,List.reverse_append]
  have e:(j1 n).reverse=j1 n:=List.reverse_replicate
  rw[e,Gs _ _ _ (fun x hx=>by have:=List.eq_of_mem_replicate hx; subst this; rfl)]
  have:List.dropWhile (fun x=>([48]:aj).contains x) (([b]:aj).reverse++l.reverse) = [b]++l.reverse:=HS _ _ fun c t hc=>by
    have:b=c:=by
      have:=congrArg List.head? hc
      simpa using this
    subst this
    simp[hb]
  rw[this,List.reverse_append,List.reverse_reverse]
  rfl

theorem trims {u:Nat} (hu:u % 10≠0) (a b:Nat):bG (j1 a++(decDigits u++j1 b)) [48]=decDigits u++j1 b∧cV (decDigits u++j1 b) [48]=decDigits u:=by
  obtain ⟨x,t,e,hx⟩:=Pa u (by omega)
  obtain ⟨l,hl⟩:=ZS u
  constructor
  · apply trimL_z
    intro c t' hc
    rw[e]at hc
    have:x=c:=by
      have:=congrArg List.head? hc
      simpa using this
    subst this
    rintro rfl
    exact hx rfl
  · rw[hl]
    apply trimR_z
    intro h
    have:=congrArg UInt8.toNat h
    rw[hY _ (by omega)]at this
    have e48:(48:UInt8).toNat=48:=rfl
    omega

theorem Ke (d:iZ) (hd:Fm d) (h0:d.aB≠0):∃(I F:aj) (pt:Bool) (a b:Nat),NT d=(if decide (d.aB<0)then [45]else [])++(I++(if pt then 46::F else [])) ∧
    I++F=j1 a++(decDigits d.aB.natAbs++j1 b)∧I ≠ []∧(1<I.length→(I.getD 0 0).toNat≠48)∧(pt=true→F ≠ [])∧(pt=false→F = [])∧(F.length:Int)=(b:Int) - d.exp∧I.length+F.length≤40∧(∀x∈I,oy x)∧(∀x∈F,oy x):=by
  have bd:=hd.bounds
  have zB:=dec_all d.aB.natAbs
  have hlen:(decDigits d.aB.natAbs).length≤16:=by rw[decDigits_length]; exact M6 (by omega)
  have H7:1≤(decDigits d.aB.natAbs).length:=by rw[decDigits_length]; exact nDigits_pos _
  obtain ⟨x0,t0,T1,hx0⟩:=Pa d.aB.natAbs (by omega)
  have hsg:(if d.aB<0 then ([45]:aj)else [])=if decide (d.aB<0)then [45]else []:=by by_cases h:d.aB<0 <;> simp[h]
  unfold NT
  rw[hsg]
  generalize decDigits d.aB.natAbs=L at *
  by_cases he:0≤d.exp
  · refine ⟨L++j1 d.exp.toNat, [],false,0,d.exp.toNat,?_,by simp[j1],?_,fun _ => ?_,by simp,by simp,by simp; omega,?_,?_,by simp⟩
    · unfold body; rw[if_pos he]; simp
    · rw[T1]; simp
    · rw[T1]; exact hx0
    · rw[List.length_append,qF,List.length_nil]; omega
    · intro x hx
      rcases List.mem_append.1 hx with hx|hx
      · exact zB x hx
      · have:=List.eq_of_mem_replicate hx
        subst this; unfold oy; decide
  · have hz:∃z:Nat,(max 0 (1 - d.exp - (L.length:Int))).toNat=z:=⟨_,rfl⟩
    obtain ⟨z,hz⟩:=hz
    have tl:(j1 z++L).length=z+L.length:=by rw[List.length_append,qF]
    have QH:(((j1 z++L).length:Int)+d.exp).toNat=(j1 z++L).length - d.exp.natAbs:=by omega
    have h1:d.exp.natAbs+1≤(j1 z++L).length:=by omega
    have tdig:∀x∈j1 z++L,oy x:=by
      intro x hx
      rcases List.mem_append.1 hx with hx|hx
      · have:=List.eq_of_mem_replicate hx
        subst this; unfold oy; decide
      · exact zB x hx
    have tfirst:z=0→((j1 z++L).getD 0 0).toNat≠48:=by
      rintro rfl
      rw[T1]
      exact hx0
    refine ⟨(j1 z++L).take ((j1 z++L).length - d.exp.natAbs),(j1 z++L).drop ((j1 z++L).length - d.exp.natAbs),true,z,0,?_,?_,?_,?_,fun _ => ?_,(fun h=>by cases h),?_,?_,?_,?_⟩
    · unfold body
      rw[if_neg he]
      simp only[hz,QH,if_true]
      simp
    · rw[List.take_append_drop]; simp[j1]
    · intro e
      have:=congrArg List.length e
      rw[List.length_take,List.length_nil]at this
      omega
    · intro hI
      rw[List.length_take]at hI
      have e:((j1 z++L).take ((j1 z++L).length - d.exp.natAbs)).getD 0 0=(j1 z++L).getD 0 0:=by
        have:=(RO (s:=(j1 z++L).take ((j1 z++L).length - d.exp.natAbs)) (t:=(j1 z++L).drop ((j1 z++L).length - d.exp.natAbs)) (i:=0) (by rw[List.length_take]; omega)).symm
        rw[List.take_append_drop]at this
        exact this
      rw[e]
      exact tfirst (by omega)
    · intro e
      have:=congrArg List.length e
      rw[List.length_drop,List.length_nil]at this
      omega
    · rw[List.length_drop]; omega
    · rw[List.length_take,List.length_drop]; omega
    · intro x hx; exact tdig x (List.mem_of_mem_take hx)
    · intro x hx; exact tdig x (List.mem_of_mem_drop hx)

theorem T2 {R:Type} (k:iZ→Bool→Option R):dC [48] k=k ⟨0,0⟩ true:=by kernel_rfl
theorem Ng:NT ⟨0,0⟩ = [48]:=by
  show []++body (decDigits 0) 0 = [48]
  rw[decDigits_one (by omega)]
  rfl

theorem WT {R:Type} {d:iZ} (hd:Fm d) (h0:d.aB≠0) (X:aj) (ev:Int) (hX:(X = []∧ev=0)∨∃b Y,X=b::Y∧(b=101∨b=69)∧∀f:Int→Bool→aj→Option R,bn Y f=f ev true [])
    (hev : -1000000≤ev∧ev≤1000000) (hXl:X.length≤100) (k:iZ→Bool→Option R):dC (NT d++X) k=bN d.aB (d.exp+ev) k:=by
  have bd:=hd.bounds
  obtain ⟨I,F,pt,a,b,e1,e2,i0,i1,f0,f1,fl,il,iD,fD⟩:=Ke d hd h0
  obtain ⟨t1,t2⟩:=trims (u:=d.aB.natAbs) (ZT (hd.nz h0)) a b
  have hlen:(decDigits d.aB.natAbs).length≤16:=by rw[decDigits_length]; exact M6 (by omega)
  have key:=ZW (R:=R) (decide (d.aB<0)) I F X pt ev iD i0 i1 fD f0 f1 hX hev (by
    cases XP:decide (d.aB<0) <;> cases pt <;> simp <;> omega) (by rw[e2,t1,t2]; omega) k
  have e3:NT d++X=(if decide (d.aB<0)then [45]else [])++(I++((if pt then 46::F else [])++X)):=by rw[e1]; simp only[List.append_assoc]
  rw[e3,key,e2,t1,t2,ZY _ (by omega)]
  have e4:(if decide (d.aB<0)=true then IntKind.i64.wrap (0 - (d.aB.natAbs:Int))else (d.aB.natAbs:Int))=d.aB:=by
    by_cases h:d.aB<0
    · rw[if_pos (by rw[br h]),dE (by omega) (by omega)]; omega
    · rw[if_neg (by rw[cY h]; simp)]; omega
  have e5 : -(F.length:Int)+ev+(((decDigits d.aB.natAbs++j1 b).length:Int) - ((decDigits d.aB.natAbs).length:Int))=d.exp+ev:=by
    rw[List.length_append,qF]
    omega
  rw[e4,e5]

theorem WU {R:Type} {d:iZ} (hd:Fm d) (h0:d.aB≠0) (k:iZ→Bool→Option R):bN d.aB d.exp k=k d true:=by
  have bd:=hd.bounds
  obtain ⟨r,hr,hm⟩:=Zx (R:=R) d.aB d.exp (by unfold Eg; omega) (by omega) (by omega)
  have e5:d.aB=d.aB*10 ^ 0:=by simp
  rw[e5]at hr
  rw[hm,WH hd h0 (j:=0) (x:=d.exp) (by omega) hr]



abbrev isD (b:UInt8):Bool:=ZU.contains b
theorem ZZ (b:UInt8):isD b=decide (48≤b.toNat∧b.toNat≤57):=Qs b
abbrev takeD (s:aj):aj:=s.takeWhile isD
abbrev F5 (s:aj):aj:=s.dropWhile isD

theorem Je (s:aj):∀x∈takeD s,oy x:=fun x hx=>by
  have h:=List.all_takeWhile (l:=s) (p:=isD)
  have:=List.all_eq_true.1 h x hx
  rw[ZZ]at this
  exact of_decide_eq_true (p:=48≤x.toNat∧x.toNat≤57) this
theorem Z0 (s:aj):∀b t,F5 s=b::t→¬oy b:=fun b t h hb=>by
  have h2:isD b=false:=by
    have:=List.head?_dropWhile_not isD s
    have e:s.dropWhile isD=b::t:=h
    rw[e]at this
    simpa using this
  rw[ZZ,br (p:=48≤b.toNat∧b.toNat≤57) hb]at h2
  cases h2
theorem Qt (s:aj):(takeD s).length≤s.length:=by
  have:=congrArg List.length (List.takeWhile_append_dropWhile (p:=isD) (l:=s))
  rw[List.length_append]at this
  unfold takeD
  omega
theorem Sa (s:aj):(F5 s).length≤s.length:=zh _ _
theorem HT {R:Type} (s:aj) (hl:s.length≤4000000000) (k:aj→aj→Option R):aN s k=k (takeD s) (F5 s):=by
  have e:takeD s++F5 s=s:=List.takeWhile_append_dropWhile
  have h:=Kd (R:=R) (takeD s) (F5 s) (Je s) (Z0 s) (by rw[e]; exact hl) k
  rw[e]at h
  exact h
theorem Jf (g s:aj):(qH g s).2.length≤s.length:=by
  unfold qH
  cases s with
  | nil=>simp
  | cons b t=>simp only; split <;> simp

def sr:aj→Nat→Nat
  | [],v=>v
  | b::s,v=>sr s (10*v+(b.toNat - 48))
theorem Sb:∀(a b:aj) (v:Nat),sr (a++b) v=sr b (sr a v)
  | [],_,_=>rfl
  | x::a,b,v=>Sb a b _
theorem Qu:∀(s:aj) (v:Nat),v*10 ^ s.length≤sr s v
  | [],v=>by simp[sr]
  | b::s,v=>by
    have:=Qu s (10*v+(b.toNat - 48))
    have h2:10*v*10 ^ s.length≤(10*v+(b.toNat - 48))*10 ^ s.length:=Nat.mul_le_mul_right _ (by omega)
    have e:v*10 ^ (b::s).length=10*v*10 ^ s.length:=by rw[List.length_cons,Nat.pow_succ,Nat.mul_comm 10,Nat.mul_assoc,Nat.mul_comm 10]
    simp only[sr]
    omega
theorem WV (s:aj) (v:Nat):v≤sr s v:=Nat.le_trans (Nat.le_mul_of_pos_right _ (Nat.pos_of_ne_zero (by simp))) (Qu s v)
theorem Va:∀(s:aj) (v:Nat),(∀x∈s,oy x)→sr s v<(v+1)*10 ^ s.length
  | [],v,_=>by simp[sr]
  | b::s,v,h=>by
    have hb:=h b (by simp)
    unfold oy at hb
    have:=Va s (10*v+(b.toNat - 48)) fun x hx=>h x (by simp[hx])
    have h2:(10*v+(b.toNat - 48)+1)*10 ^ s.length≤((v+1)*10)*10 ^ s.length:=Nat.mul_le_mul_right _ (by omega)
    have e:(v+1)*10 ^ (b::s).length=((v+1)*10)*10 ^ s.length:=by rw[List.length_cons,Nat.pow_succ,Nat.mul_assoc,Nat.mul_comm 10]
    simp only[sr]
    omega

theorem Sc:∀(D:aj) (acc:Nat),(∀x∈D,oy x) →
    (sr D acc<18446744073709551616→parseUint10 acc D = .ok (sr D acc))∧(acc<18446744073709551616→18446744073709551616≤sr D acc→parseUint10 acc D = .range)
  | [],acc,_=>⟨fun _=>rfl,fun h1 h2=>by simp only[sr]at h2; omega⟩
  | b::D,acc,h=>by
    have hb:=h b (by simp)
    unfold oy at hb
    obtain ⟨i1,i2⟩:=Sc D (10*acc+(b.toNat - 48)) fun x hx=>h x (by simp[hx])
    have hs:=WV D (10*acc+(b.toNat - 48))
    have e:acc*10+(b.toNat - 48)=10*acc+(b.toNat - 48):=by omega
    simp only[sr,parseUint10]
    rw[if_pos hb,e]
    refine ⟨fun h1 => ?_,fun h1 h2 => ?_⟩
    · rw[if_neg (by omega),if_neg (by omega)]
      exact i1 h1
    · by_cases g1:1844674407370955162≤acc
      · rw[if_pos g1]
      · rw[if_neg g1]
        by_cases g2:18446744073709551616≤10*acc+(b.toNat - 48)
        · rw[if_pos g2]
        · rw[if_neg g2]
          exact i2 (by omega) h2

theorem Sd (D:aj) (hD:∀x∈D,oy x) (h0:D ≠ []) :
    (sr D 0<9223372036854775808→atoiAll D = .ok (sr D 0:Int))∧(9223372036854775808≤sr D 0→atoiAll D = .range):=by
  obtain ⟨i1,i2⟩:=Sc D 0 hD
  cases D with
  | nil=>exact (h0 rfl).elim
  | cons b D =>
    have hb:=hD b (by simp)
    unfold oy at hb
    have e:(if b.toNat=43∨b.toNat=45 then D else b::D)=b::D:=if_neg (by omega)
    have m:parseMag (b::D)=parseUint10 0 (b::D):=by unfold parseMag; rw[if_neg (by simp)]
    unfold atoiAll
    simp only
    rw[e,m]
    refine ⟨fun h => ?_,fun h => ?_⟩
    · rw[i1 (by omega)]
      simp only
      rw[if_neg (by omega),if_neg (fun h2=>absurd h2.1 (by omega)),if_neg (by omega)]
    · by_cases h2:sr (b::D) 0<18446744073709551616
      · rw[i1 h2]
        simp only
        rw[if_pos ⟨by omega,h⟩]
      · rw[i2 (by omega) (by omega)]

def Nh (X:aj):Int × Bool × aj :=
  let q:=qH [43,45] X
  let v:Int:=min (sr (takeD q.2) 0:Int) 1000000
  (if q.1=45 then -v else v, !(takeD q.2 == []),F5 q.2)

theorem exp_any {R:Type} (X:aj) (hl:X.length≤4000000000) (k:Int→Bool→aj→Option R):bn X k=k (Nh X).1 (Nh X).2.1 (Nh X).2.2:=by
  have e:bn X k=jt aR aN X k:=rfl
  rw[e]
  unfold jt
  have h1:=Jf [43,45] X
  rw[Bw _ _ hl]
  unfold Nh
  simp only
  generalize qH [43,45] X=q at *
  rw[HT _ (by omega)]
  have h2:=Qt q.2
  have hD:=Je q.2
  generalize takeD q.2=D at *
  generalize F5 q.2=r at *
  have q45:((q.1:Int)==45)=decide (q.1=45):=eqI _ 45
  rw[aS (br (by omega)),q45]
  by_cases h0:D = []
  · subst h0
    have a1:s8 []=false:=rfl
    have a2:eD []=0:=rfl
    rw[a1,a2]
    simp only[cond_false,sr]
    by_cases hq:q.1=45
    · rw[br hq,if_pos hq]; rfl
    · rw[cY hq,if_neg hq]; rfl
  · have kq:(D==([]:aj))=false:=by rw[beq_eq_false_iff_ne]; exact h0
    obtain ⟨i1,i2⟩:=Sd D hD h0
    rw[kq]
    simp only[Bool.not_false,cond_true]
    by_cases hv:sr D 0<9223372036854775808
    · have a1:s8 D=true:=by unfold s8; rw[i1 hv]
      have a2:eD D=(sr D 0:Int):=by unfold eD; rw[i1 hv]
      rw[a1,a2,cond_true]
      by_cases hb:(sr D 0:Int)>1000000
      · rw[br hb,cond_true,Int.min_eq_right (by omega)]
        by_cases hq:q.1=45
        · rw[br hq,if_pos hq]; rfl
        · rw[cY hq,if_neg hq]; rfl
      · rw[cY hb,cond_false,Int.min_eq_left (by omega),dE (by omega) (by omega)]
        by_cases hq:q.1=45
        · rw[br hq,if_pos hq,cond_true]; congr 1; omega
        · rw[cY hq,if_neg hq,cond_false]
    · have a1:s8 D=false:=by unfold s8; rw[i2 (by omega)]
      rw[a1,cond_false,Int.min_eq_right (by omega)]
      by_cases hq:q.1=45
      · rw[br hq,if_pos hq]; rfl
      · rw[cY hq,if_neg hq]; rfl

theorem T3 (a:aj):∀b t,bG a [48]=b::t→b≠48:=fun b t h hb=>by
  have h2:=List.head?_dropWhile_not (([48]:aj).contains ·) a
  have e:a.dropWhile (([48]:aj).contains ·)=b::t:=h
  rw[e]at h2
  subst hb
  exact absurd (show (([48]:aj).contains 48)=false from h2) (by decide)
theorem WW (a:aj):∀x∈bG a [48],x∈a:=fun x hx=>(List.dropWhile_sublist _).subset hx
theorem Se (a:aj):cV a [48] = []∨∃l b,cV a [48]=l ++ [b]∧b≠48:=by
  unfold cV
  have h2:=List.head?_dropWhile_not (([48]:aj).contains ·) a.reverse
  cases h:a.reverse.dropWhile (([48]:aj).contains ·)with
  | nil=>exact .inl rfl
  | cons b t =>
    rw[h]at h2
    refine .inr ⟨t.reverse,b,by simp,fun hb => ?_⟩
    subst hb
    exact absurd (show (([48]:aj).contains 48)=false from h2) (by decide)
theorem Pb (a:aj):∃n,a=cV a [48]++j1 n:=by
  have h:=List.takeWhile_append_dropWhile (p:=(([48]:aj).contains ·)) (l:=a.reverse)
  have h2:=congrArg List.reverse h
  rw[List.reverse_append,List.reverse_reverse]at h2
  refine ⟨(a.reverse.takeWhile (([48]:aj).contains ·)).length,?_⟩
  have hz:(a.reverse.takeWhile (([48]:aj).contains ·)).reverse=j1 (a.reverse.takeWhile (([48]:aj).contains ·)).length:=by
    unfold j1
    rw[List.eq_replicate_iff]
    refine ⟨List.length_reverse,fun x hx => ?_⟩
    have h3:=List.all_takeWhile (l:=a.reverse) (p:=(([48]:aj).contains ·))
    have:=List.all_eq_true.1 h3 x (List.mem_reverse.1 hx)
    simpa using this
  rw[←hz]
  exact h2.symm

def Z1 (neg:Bool) (all:aj) (x:Int):iZ × Bool :=
  if cV (bG all [48]) [48] = []then (⟨0,0⟩,true)
  else WG (if neg then -(sr (cV (bG all [48]) [48]) 0:Int)else (sr (cV (bG all [48]) [48]) 0:Int)) (x+(((bG all [48]).length:Int) - ((cV (bG all [48]) [48]).length:Int)))

theorem Z2 {R:Type} (m x:Int) (k:iZ→Bool→Option R):bN m x k=bN m (min x 1000000) k:=by
  have e:∀x,bN m x k=ox aY bA m x k:=fun _=>rfl
  rw[e,e]
  unfold ox
  have:min (min x 1000000) 1000000=min x 1000000:=by omega
  rw[this]
theorem mkD_min (u x:Int):WG u (min x 1000000)=WG u x:=by
  unfold WG
  by_cases h:x≤1000000
  · rw[Int.min_eq_left h]
  · rw[if_neg (by omega),if_neg (by omega)]
theorem Pc {R:Type} (u x:Int) (hu:Int.tmod u 10≠0) (hb:Eg u) (hx : -9223372036854775808≤x) (k:iZ→Bool→Option R):bN u x k=k (WG u x).1 (WG u x).2:=by
  rw[Z2,←mkD_min u x]
  have:=UZ (R:=R) u 0 (min x 1000000) hu (by simpa using hb) (by omega) (by omega) k
  simpa using this

theorem Sf (all:aj) (h:∀x∈all,oy x) (h0:cV (bG all [48]) [48] ≠ []) :
    (∀x∈cV (bG all [48]) [48],oy x)∧sr (cV (bG all [48]) [48]) 0 % 10≠0∧10 ^ ((cV (bG all [48]) [48]).length - 1)≤sr (cV (bG all [48]) [48]) 0:=by
  obtain ⟨n,hn⟩:=Pb (bG all [48])
  have hd:∀x∈cV (bG all [48]) [48],oy x:=fun x hx=>h x (WW _ _ (by rw[hn]; simp[hx]))
  refine ⟨hd,?_,?_⟩
  · rcases Se (bG all [48])with e|⟨l,b,e,hb⟩
    · exact (h0 e).elim
    · have hbd:=hd b (by rw[e]; simp)
      rw[e,Sb]
      simp only[sr]
      unfold oy at hbd
      have:b.toNat≠48:=fun h=>hb (UInt8.toNat_inj.1 h)
      omega
  · cases e:cV (bG all [48]) [48]with
    | nil=>exact (h0 e).elim
    | cons b t =>
      have hb:b≠48:=T3 all b (t++j1 n) (by rw[hn,e]; rfl)
      have hbd:=hd b (by rw[e]; simp)
      unfold oy at hbd
      have XB:b.toNat≠48:=fun h=>hb (UInt8.toNat_inj.1 h)
      have:=Qu t (10*0+(b.toNat - 48))
      have h2:1*10 ^ t.length≤(10*0+(b.toNat - 48))*10 ^ t.length:=Nat.mul_le_mul_right _ (by omega)
      simp only[sr,List.length_cons,Nat.add_sub_cancel]
      omega

theorem mkD_far {u:Int} (x:Int) (h:1000000000000000<u.natAbs):WG u x=(⟨0,0⟩,false):=by
  unfold WG
  rw[if_neg (by omega)]

theorem Z3 {R:Type} (y2:Int) (vU:aj) (QI:Int) (z20:aj) (h:∀x∈vU,oy x) (hl:vU.length≤1000) (hx : -2000000≤QI∧QI≤2000000) (k0:iZ→Bool→Option R) :
    (cU (ua ([48]:aj)&&decide (([48]:aj).length<4294967281)) (cU (ua ([48]:aj)&&decide (([48]:aj).length<4294967281)) (bif (!(z20==([]:aj)))then (k0 (⟨0,0⟩:iZ) false)else (bif (decide (((cV (bG vU ([48]:aj)) ([48]:aj)).length:Int)>(18:Int)))then (k0 (⟨0,0⟩:iZ) false)else (cU (decide (1+(cV (bG vU ([48]:aj)) ([48]:aj)).length≤9223372036854775807)) (cU (decide ((([48]:aj)++(cV (bG vU ([48]:aj)) ([48]:aj))).length≤281474976710656)) (bif s8 (([48]:aj)++(cV (bG vU ([48]:aj)) ([48]:aj)))then (bif (y2 != 0)then (bN (IntKind.i64.wrap (0 - (eD (([48]:aj)++(cV (bG vU ([48]:aj)) ([48]:aj)))))) (IntKind.i64.wrap (QI+(IntKind.i64.wrap (((bG vU ([48]:aj)).length:Int) - ((cV (bG vU ([48]:aj)) ([48]:aj)).length:Int))))) (fun Jo J2=>k0 Jo J2))else (bN (eD (([48]:aj)++(cV (bG vU ([48]:aj)) ([48]:aj)))) (IntKind.i64.wrap (QI+(IntKind.i64.wrap (((bG vU ([48]:aj)).length:Int) - ((cV (bG vU ([48]:aj)) ([48]:aj)).length:Int))))) (fun Jp Jq=>k0 Jp Jq)))else (bif (y2 != 0)then (bN (IntKind.i64.wrap (0 - (eD (([48]:aj)++(cV (bG vU ([48]:aj)) ([48]:aj)))))) (IntKind.i64.wrap (QI+(IntKind.i64.wrap (((bG vU ([48]:aj)).length:Int) - ((cV (bG vU ([48]:aj)) ([48]:aj)).length:Int))))) (fun Jo J2=>k0 Jo J2))else (bN (eD (([48]:aj)++(cV (bG vU ([48]:aj)) ([48]:aj)))) (IntKind.i64.wrap (QI+(IntKind.i64.wrap (((bG vU ([48]:aj)).length:Int) - ((cV (bG vU ([48]:aj)) ([48]:aj)).length:Int))))) (fun Jp Jq=>k0 Jp Jq)))))))))) =
    if z20 = []then k0 (Z1 (y2 != 0) vU QI).1 (Z1 (y2 != 0) vU QI).2 else k0 ⟨0,0⟩ false:=by
  have q3:(ua ([48]:aj)&&decide (([48]:aj).length<4294967281))=true:=rfl
  have htl:(bG vU [48]).length≤vU.length:=zh _ _
  obtain ⟨n,hn⟩:=Pb (bG vU [48])
  have htr:(bG vU [48]).length=(cV (bG vU [48]) [48]).length+n:=by have:=congrArg List.length hn; rw[List.length_append,qF]at this; exact this
  rw[q3,aS rfl,aS rfl]
  by_cases hz:z20 = []
  · subst hz
    have hbe:((([]:aj)==([]:aj)))=true:=rfl
    rw[hbe,if_pos rfl]
    simp only[Bool.not_true,cond_false]
    have w0:IntKind.i64.wrap (((bG vU [48]).length:Int) - ((cV (bG vU [48]) [48]).length:Int))=((bG vU [48]).length:Int) - ((cV (bG vU [48]) [48]).length:Int):=dE (by omega) (by omega)
    have w1:IntKind.i64.wrap (QI+(((bG vU [48]).length:Int) - ((cV (bG vU [48]) [48]).length:Int)))=QI+(((bG vU [48]).length:Int) - ((cV (bG vU [48]) [48]).length:Int)):=dE (by omega) (by omega)
    rw[w0,w1,aS (br (by omega)),aS (br (by simp only[List.length_append,List.length_cons,List.length_nil]; omega)),Bool.cond_self]
    unfold Z1
    have hc:(([48]:aj)++(cV (bG vU ([48]:aj)) ([48]:aj)))=48::cV (bG vU [48]) [48]:=rfl
    rw[hc]
    by_cases h0:cV (bG vU [48]) [48] = []
    · rw[h0,if_pos rfl]
      have a0:eD (48::([]:aj))=0:=by decide +kernel
      have a1:decide (((([]:aj)).length:Int)>18)=false:=rfl
      have a2:IntKind.i64.wrap (0 - 0)=0:=by decide
      rw[a0,a1,cond_false,a2,O6,Bool.cond_self]
    · rw[if_neg h0]
      obtain ⟨f1,f2,f3⟩:=Sf vU h h0
      have hX : -3000000≤QI+(((bG vU [48]).length:Int) - ((cV (bG vU [48]) [48]).length:Int)):=by omega
      generalize cV (bG vU [48]) [48]=sh at *
      generalize (QI+(((bG vU [48]).length:Int) - (sh.length:Int)))=X at *
      have H7:1≤sh.length:=by cases sh with|nil=>exact (h0 rfl).elim|cons _ _=>simp
      by_cases h18:sh.length≤18
      · rw[cY (show ¬(sh.length:Int)>18 by omega),cond_false]
        have lh:=Va sh 0 f1
        have hp:(10:Nat) ^ sh.length≤10 ^ 18:=Nat.pow_le_pow_right (by omega) h18
        have e18:(10:Nat) ^ 18=1000000000000000000:=rfl
        have v48:sr (48::sh) 0=sr sh 0:=rfl
        have ha:eD (48::sh)=(sr sh 0:Int):=by
          obtain ⟨i1,_⟩:=Sd (48::sh) (fun x hx=>by rcases List.mem_cons.1 hx with rfl|hx; (unfold oy; decide); exact f1 x hx) (by simp)
          unfold eD
          rw[i1 (by rw[v48]; omega),v48]
        rw[ha]
        have hm:Int.tmod (sr sh 0:Int) 10≠0:=by rw[Int.tmod_eq_emod_of_nonneg (by omega)]; omega
        cases hy:(y2 != 0)with
        | true =>
          rw[cond_true,if_pos rfl,dE (by omega) (by omega)]
          have e0:(0 - (sr sh 0:Int)) = -(sr sh 0:Int):=by omega
          rw[e0]
          exact Pc _ _ (tmod_neg hm) (by unfold Eg; omega) (by omega) _
        | false =>
          rw[cond_false,if_neg (by simp)]
          exact Pc _ _ hm (by unfold Eg; omega) (by omega) _
      · rw[br (show (sh.length:Int)>18 by omega),cond_true]
        have hp:(10:Nat) ^ 18≤10 ^ (sh.length - 1):=Nat.pow_le_pow_right (by omega) (by omega)
        have e18:(10:Nat) ^ 18=1000000000000000000:=rfl
        rw[mkD_far _ (by split <;> omega)]
  · have hbe:(z20==([]:aj))=false:=by rw[beq_eq_false_iff_ne]; exact hz
    rw[hbe,if_neg hz]
    rfl

def noD:iZ × Bool:=(⟨0,0⟩,false)
def tailD (neg:Bool) (all:aj) (x:Int) (X:aj):iZ × Bool :=
  if (qH [101,69] X).1=0 then (if (qH [101,69] X).2 = []then Z1 neg all x else noD)
  else if (Nh (qH [101,69] X).2).2.1=false then noD
  else if (Nh (qH [101,69] X).2).2.2 = []then Z1 neg all (x+(Nh (qH [101,69] X).2).1)else noD

def B8 (s:aj):iZ × Bool :=
  let q:=qH [45] s
  let I:=takeD q.2
  let r:=F5 q.2
  if 400<s.length then noD else if I = []then noD else if 1<I.length∧(I.getD 0 0).toNat=48 then noD
  else if (qH [46] r).1=0 then tailD (q.1 != 0) I 0 (qH [46] r).2
  else if takeD (qH [46] r).2 = []then noD
  else tailD (q.1 != 0) (I++takeD (qH [46] r).2) (-((takeD (qH [46] r).2).length:Int)) (F5 (qH [46] r).2)

theorem Z4 (X:aj) : -1000000≤(Nh X).1∧(Nh X).1≤1000000:=by
  unfold Nh
  simp only
  split <;> omega

theorem neN (n:Nat):(((n:Nat):Int) != 0)=(n != 0):=by
  cases n with
  | zero=>rfl
  | succ n=>rw[bne_iff_ne.2 (by omega),bne_iff_ne.2 (by omega)]

theorem Sg {R:Type} (q:Nat) (all:aj) (x:Int) (X:aj) (ha:∀c∈all,oy c) (hl:all.length≤900) (h1 : -1000≤x) (h2:x≤0) (hX:X.length≤1000) (k:iZ→Bool→Option R) :
    aR ([101,69]:aj) X (fun Dg GG=>bif (Dg != 0)then (bn GG (fun Ha Jn E2=>bif (!Jn)then (k (⟨0,0⟩:iZ) false)else (cU (ua ([48]:aj)&&decide (([48]:aj).length<4294967281)) (cU (ua ([48]:aj)&&decide (([48]:aj).length<4294967281)) (bif (!(E2==([]:aj)))then (k (⟨0,0⟩:iZ) false)else (bif (decide (((cV (bG all ([48]:aj)) ([48]:aj)).length:Int)>(18:Int)))then (k (⟨0,0⟩:iZ) false)else (cU (decide (1+(cV (bG all ([48]:aj)) ([48]:aj)).length≤9223372036854775807)) (cU (decide ((([48]:aj)++(cV (bG all ([48]:aj)) ([48]:aj))).length≤281474976710656)) (bif s8 (([48]:aj)++(cV (bG all ([48]:aj)) ([48]:aj)))then (bif ((q:Int) != 0)then (bN (IntKind.i64.wrap (0 - (eD (([48]:aj)++(cV (bG all ([48]:aj)) ([48]:aj)))))) (IntKind.i64.wrap ((IntKind.i64.wrap (x+Ha))+(IntKind.i64.wrap (((bG all ([48]:aj)).length:Int) - ((cV (bG all ([48]:aj)) ([48]:aj)).length:Int))))) (fun Jo J2=>k Jo J2))else (bN (eD (([48]:aj)++(cV (bG all ([48]:aj)) ([48]:aj)))) (IntKind.i64.wrap ((IntKind.i64.wrap (x+Ha))+(IntKind.i64.wrap (((bG all ([48]:aj)).length:Int) - ((cV (bG all ([48]:aj)) ([48]:aj)).length:Int))))) (fun Jp Jq=>k Jp Jq)))else (bif ((q:Int) != 0)then (bN (IntKind.i64.wrap (0 - (eD (([48]:aj)++(cV (bG all ([48]:aj)) ([48]:aj)))))) (IntKind.i64.wrap ((IntKind.i64.wrap (x+Ha))+(IntKind.i64.wrap (((bG all ([48]:aj)).length:Int) - ((cV (bG all ([48]:aj)) ([48]:aj)).length:Int))))) (fun Jo J2=>k Jo J2))else (bN (eD (([48]:aj)++(cV (bG all ([48]:aj)) ([48]:aj)))) (IntKind.i64.wrap ((IntKind.i64.wrap (x+Ha))+(IntKind.i64.wrap (((bG all ([48]:aj)).length:Int) - ((cV (bG all ([48]:aj)) ([48]:aj)).length:Int))))) (fun Jp Jq=>k Jp Jq))))))))))))else (cU (ua ([48]:aj)&&decide (([48]:aj).length<4294967281)) (cU (ua ([48]:aj)&&decide (([48]:aj).length<4294967281)) (bif (!(GG==([]:aj)))then (k (⟨0,0⟩:iZ) false)else (bif (decide (((cV (bG all ([48]:aj)) ([48]:aj)).length:Int)>(18:Int)))then (k (⟨0,0⟩:iZ) false)else (cU (decide (1+(cV (bG all ([48]:aj)) ([48]:aj)).length≤9223372036854775807)) (cU (decide ((([48]:aj)++(cV (bG all ([48]:aj)) ([48]:aj))).length≤281474976710656)) (bif s8 (([48]:aj)++(cV (bG all ([48]:aj)) ([48]:aj)))then (bif ((q:Int) != 0)then (bN (IntKind.i64.wrap (0 - (eD (([48]:aj)++(cV (bG all ([48]:aj)) ([48]:aj)))))) (IntKind.i64.wrap (x+(IntKind.i64.wrap (((bG all ([48]:aj)).length:Int) - ((cV (bG all ([48]:aj)) ([48]:aj)).length:Int))))) (fun Jo J2=>k Jo J2))else (bN (eD (([48]:aj)++(cV (bG all ([48]:aj)) ([48]:aj)))) (IntKind.i64.wrap (x+(IntKind.i64.wrap (((bG all ([48]:aj)).length:Int) - ((cV (bG all ([48]:aj)) ([48]:aj)).length:Int))))) (fun Jp Jq=>k Jp Jq)))else (bif ((q:Int) != 0)then (bN (IntKind.i64.wrap (0 - (eD (([48]:aj)++(cV (bG all ([48]:aj)) ([48]:aj)))))) (IntKind.i64.wrap (x+(IntKind.i64.wrap (((bG all ([48]:aj)).length:Int) - ((cV (bG all ([48]:aj)) ([48]:aj)).length:Int))))) (fun Jo J2=>k Jo J2))else (bN (eD (([48]:aj)++(cV (bG all ([48]:aj)) ([48]:aj)))) (IntKind.i64.wrap (x+(IntKind.i64.wrap (((bG all ([48]:aj)).length:Int) - ((cV (bG all ([48]:aj)) ([48]:aj)).length:Int))))) (fun Jp Jq=>k Jp Jq)))))))))))=k (tailD (q != 0) all x X).1 (tailD (q != 0) all x X).2:=by
  rw[Bw _ _ (by omega)]
  unfold tailD
  have l5:=Jf [101,69] X
  generalize qH [101,69] X=g at *
  rw[neN]
  by_cases hg:g.1=0
  · rw[if_pos hg,hg]
    simp only[bne_self_eq_false,cond_false]
    rw[Z3 _ _ _ _ ha (by omega) (by omega),neN]
    split <;> rfl
  · rw[if_neg hg,bne_iff_ne.2 hg,cond_true,exp_any _ (by omega)]
    have PN:=Z4 g.2
    generalize Nh g.2=z at *
    rw[dE (n:=x+z.1) (by omega) (by omega)]
    cases hz:z.2.1 with
    | false=>rfl
    | true =>
      rw[Bool.not_true,cond_false,Z3 _ _ _ _ ha (by omega) (by omega),neN,if_neg (show ¬(true=false) by simp)]
      split <;> rfl

theorem Pd {R:Type} (s:aj) (hs:s.length≤4000000000) (k:iZ→Bool→Option R):dC s k=k (B8 s).1 (B8 s).2:=by
  have e:dC s k=oX bN aR aN bn s k:=rfl
  rw[e]
  unfold oX
  have l1:=Jf [45] s
  rw[Bw _ _ hs]
  unfold B8
  simp only
  generalize qH [45] s=q at *
  rw[HT _ (by omega)]
  have l2:=Qt q.2
  have l3:=Sa q.2
  have dI:=Je q.2
  generalize takeD q.2=I at *
  generalize F5 q.2=r at *
  by_cases h400:400<s.length
  · rw[br (show (s.length:Int)>400 by omega),cond_true,if_pos h400]
    rfl
  rw[cY (show ¬(s.length:Int)>400 by omega),cond_false,if_neg h400]
  by_cases hI:I = []
  · subst hI
    rw[if_pos rfl]
    rfl
  have kq:(I==([]:aj))=false:=by rw[beq_eq_false_iff_ne]; exact hI
  rw[kq,cond_false,if_neg hI]
  have H7:1≤I.length:=by cases I with|nil=>exact (hI rfl).elim|cons _ _=>simp
  have q48:(((I.getD 0 0).toNat:Int)==48)=decide ((I.getD 0 0).toNat=48):=eqI _ 48
  rw[aS (br (show (0:Int)<I.length by omega)),q48]
  by_cases XB:1<I.length∧(I.getD 0 0).toNat=48
  · rw[if_pos XB,br (show (I.length:Int)>1 by omega),br XB.2]
    rfl
  rw[if_neg XB]
  have cut:∀x:Option R,(bif decide ((I.length:Int)>1)then (bif decide ((I.getD 0 0).toNat=48)then k ⟨0,0⟩ false else x)else x)=x:=fun x=>by
    by_cases h1:1<I.length
    · rw[br (show (I.length:Int)>1 by omega),cY (fun h=>XB ⟨h1,h⟩)]; rfl
    · rw[cY (show ¬(I.length:Int)>1 by omega)]; rfl
  rw[cut]
  rw[Bw _ _ (by omega)]
  have l4:=Jf [46] r
  generalize qH [46] r=p at *
  rw[neN]
  by_cases hp:p.1=0
  · rw[if_pos hp,hp]
    simp only[bne_self_eq_false,cond_false]
    exact Sg q.1 I 0 p.2 dI (by omega) (by omega) (by omega) (by omega) k
  · rw[if_neg hp,bne_iff_ne.2 hp,cond_true,HT _ (by omega)]
    have l5:=Qt p.2
    have l6:=Sa p.2
    have dF:=Je p.2
    generalize takeD p.2=F at *
    generalize F5 p.2=Y at *
    by_cases hF:F = []
    · subst hF
      rw[if_pos rfl]
      rfl
    have kq:(F==([]:aj))=false:=by rw[beq_eq_false_iff_ne]; exact hF
    rw[kq,cond_false,if_neg hF,aS (br (by omega)),dE (n:=0 - (F.length:Int)) (by omega) (by omega)]
    have e0:(0:Int) - (F.length:Int) = -(F.length:Int):=by omega
    rw[e0]
    exact Sg q.1 (I++F) (-(F.length:Int)) Y (fun c hc=>(List.mem_append.1 hc).elim (dI c) (dF c)) (by rw[List.length_append]; omega) (by omega) (by omega) (by omega) k

theorem WX {s r:aj} {c:Nat} (h:Jb s=some (c,r)):r <:+ s:=by
  unfold Jb at h
  split at h
  · cases h
  · rename_i v r1 hu
    obtain ⟨_,_,hr⟩:=B7 hu
    have s1:r1 <:+ s:=by rw[hr]; exact List.drop_suffix _ _
    split at h
    · cases h; exact s1
    · split at h
      · cases h
      · split at h
        · split at h
          · cases h
          · rename_i w r2 Uq
            obtain ⟨_,_,hr2⟩:=B7 Uq
            split at h
            · simp only[Option.some.injEq,Prod.mk.injEq]at h
              obtain ⟨_,rfl⟩:=h
              rw[hr2]
              exact ((List.drop_suffix _ _).trans (List.drop_suffix _ _)).trans s1
            · cases h
        · cases h
theorem Z5 {s r:aj} {c:Nat} (h:R3 s=some (c,r)):r <:+ s:=by
  cases s with
  | nil=>cases h
  | cons b t =>
    have st:t <:+ b::t:=List.suffix_cons b t
    simp only[R3]at h
    split at h
    · cases h; exact st
    split at h
    · cases h; exact st
    split at h
    · cases h; exact st
    split at h
    · cases h; exact st
    split at h
    · cases h; exact st
    split at h
    · cases h; exact st
    split at h
    · exact (WX h).trans st
    · cases h
theorem T4 {s r:aj} {c:Nat} (h:Ew s=some (c,r)):r <:+ s:=by
  unfold Ew at h
  split at h
  · cases h
  split at h
  · cases h
  split at h
  · cases h
  simp only[Option.some.injEq,Prod.mk.injEq]at h
  rw[←h.2]
  exact List.drop_suffix _ _
theorem WY {s r:aj} {c:Nat} (h:Jd s=some (c,r)):r <:+ s:=by
  unfold Jd at h
  split at h
  · exact (Z5 h).trans (List.drop_suffix _ _)
  · exact T4 h
theorem Z6:∀(n:Nat) (s o o' r:aj),uq n s o=some (o',r)→r <:+ s∧r.length<s.length∧∃rs:List Nat,(∀c∈rs,vr c)∧o'=o++cQ rs
  | 0,_,_,_,_,h=>by cases h
  | n+1,s,o,o',r,h=>by
    simp only[uq]at h
    split at h
    · rename_i Hg
      simp only[Option.some.injEq,Prod.mk.injEq]at h
      obtain ⟨rfl,rfl⟩:=h
      refine ⟨List.drop_suffix _ _,?_, [],by simp,by simp[cQ]⟩
      cases s with
      | nil=>cases Hg
      | cons b t=>simp
    · split at h
      · cases h
      · rename_i c r1 hs
        obtain ⟨h1,h2,rs,h3,h4⟩:=Z6 n r1 (o++enc c) o' r h
        obtain ⟨hv,hl⟩:=R7 hs
        refine ⟨h1.trans (WY hs),by omega,c::rs,fun x hx => ?_,?_⟩
        · rcases List.mem_cons.1 hx with rfl|hx
          · exact hv
          · exact h3 x hx
        · rw[h4]; simp[cQ]
theorem Vb {s o r:aj} (h:ZP s=some (o,r)):r <:+ s∧r.length+1<s.length∧∃rs:List Nat,(∀c∈rs,vr c)∧o=cQ rs:=by
  unfold ZP at h
  split at h
  · rename_i Hg
    obtain ⟨h1,h2,rs,h3,h4⟩:=Z6 _ _ _ _ _ h
    refine ⟨h1.trans (List.drop_suffix _ _),?_,rs,h3,by simpa using h4⟩
    rw[List.length_drop]at h2
    omega
  · cases h
theorem Z7 {s r:aj} (h:r <:+ s):r=s.drop (s.length - r.length):=by
  obtain ⟨t,rfl⟩:=h
  rw[List.length_append,Nat.add_sub_cancel,List.drop_left]

def numS:aj := [48,49,50,51,52,53,54,55,56,57,43,45,46,101,69]
def letS:aj := [97,98,99,100,101,102,103,104,105,106,107,108,109,110,111,112,113,114,115,116,117,118,119,120,121,122]
def blaS:aj := [32,9,10,13]
def T5:aj := [123,125,91,93,44,58]
def Au (b:UInt8):Bool:=numS.contains b
def zT (b:UInt8):Bool:=letS.contains b
def qT (b:UInt8):Bool:=blaS.contains b
def HU (b:UInt8):Bool:=T5.contains b
def sJ:aj := [116,114,117,101]
def ly:aj := [102,97,108,115,101]
def po:aj := [110,117,108,108]

def tokS (s:aj):Option (Token × aj) :=
  match s with
  | []=>none
  | c::t =>
    if c.toNat=45∨(48≤c.toNat∧c.toNat≤57)then
      (if (B8 (s.takeWhile Au)).2 then some (⟨3,s.takeWhile Au,(B8 (s.takeWhile Au)).1,0⟩,s.dropWhile Au)else none)
    else if c.toNat=34 then (match ZP s with|some (o,r)=>some (⟨2,o,⟨0,0⟩,0⟩,r)|none=>none)
    else if HU c then some (⟨1, [c],⟨0,0⟩,0⟩,t)
    else if s.takeWhile zT=sJ∨s.takeWhile zT=ly∨s.takeWhile zT=po then some (⟨4,s.takeWhile zT,⟨0,0⟩,0⟩,s.dropWhile zT)
    else none

theorem Z8 {p:UInt8→Bool} {c:UInt8} {t:aj} (h:p c=true):((c::t).dropWhile p).length<(c::t:aj).length:=by
  rw[List.dropWhile_cons,if_pos h]
  have:=zh p t
  simp only[List.length_cons]
  omega

theorem tokS_sfx {s r:aj} {t:Token} (h:tokS s=some (t,r)):r <:+ s∧r.length<s.length:=by
  cases s with
  | nil=>cases h
  | cons c u =>
    simp only[tokS]at h
    split at h
    · rename_i hc
      split at h
      · simp only[Option.some.injEq,Prod.mk.injEq]at h
        rw[←h.2]
        refine ⟨List.dropWhile_suffix _,Z8 ?_⟩
        have all:∀n:Fin 256,(n.val=45∨(48≤n.val∧n.val≤57))→Au (UInt8.ofNat n.val)=true:=by decide +kernel
        have:=all ⟨c.toNat,UInt8.toNat_lt c⟩ hc
        simpa using this
      · cases h
    · split at h
      · split at h
        · rename_i o q hq
          simp only[Option.some.injEq,Prod.mk.injEq]at h
          obtain ⟨_,rfl⟩:=h
          obtain ⟨h1,h2,_⟩:=Vb hq
          exact ⟨h1,by omega⟩
        · cases h
      · split at h
        · simp only[Option.some.injEq,Prod.mk.injEq]at h
          rw[←h.2]
          exact ⟨List.suffix_cons _ _,by simp⟩
        · split at h
          · rename_i hw
            simp only[Option.some.injEq,Prod.mk.injEq]at h
            rw[←h.2]
            refine ⟨List.dropWhile_suffix _,Z8 ?_⟩
            cases hl:zT c with
            | true=>rfl
            | false =>
              have e:(c::u).takeWhile zT = []:=by rw[List.takeWhile_cons,hl]; rfl
              rw[e]at hw
              rcases hw with hw|hw|hw <;> cases hw
          · cases h

def WZ (t:Token) (n:Int):Token:=⟨t.kind,t.text,t.num,n⟩

def wo:Nat→Nat→aj→List Token→List Token × Int × Int
  | 0,_,_,_=>([],0,0)
  | n+1,p,s,out =>
    if s.dropWhile qT = []then (out ++ [⟨5, [],⟨0,0⟩,((p+(s.takeWhile qT).length:Nat):Int)⟩],0,0)
    else match tokS (s.dropWhile qT)with
      | none=>([],30,((p+(s.takeWhile qT).length:Nat):Int))
      | some (t,r)=>wo n (p+(s.length - r.length)) r (out ++ [WZ t ((p+(s.takeWhile qT).length:Nat):Int)])

def ug (s:aj):List Token × Int × Int:=if 20000<s.length then ([],30,0)else wo (s.length+1) 0 s []

theorem Ni:∀(n m p:Nat) (s:aj) (out:List Token),s.length<n→s.length<m→wo n p s out=wo m p s out
  | 0,_,_,_,_,h,_=>by omega
  | _,0,_,_,_,_,h=>by omega
  | n+1,m+1,p,s,out,h1,h2=>by
    simp only[wo]
    split
    · rfl
    · split
      · rfl
      · rename_i t r hr
        have h3:=(tokS_sfx hr).2
        have h4:=zh qT s
        exact Ni n m _ r _ (by omega) (by omega)

abbrev mh:=aj × aj × Token
def qI:List mh→aj→aj
  | [],z=>z
  | x::l,z=>x.1++(x.2.1++qI l z)
def okW:List mh→aj→Prop
  | [],_=>True
  | x::l,z=>(∀b∈x.1,qT b=true)∧(∃c u,x.2.1=c::u∧qT c=false)∧tokS (x.2.1++qI l z)=some (x.2.2,qI l z)∧okW l z
def tokW:Nat→List mh→List Token
  | _, [] => []
  | p,x::l=>WZ x.2.2 ((p+x.1.length:Nat):Int)::tokW (p+x.1.length+x.2.1.length) l
def uK:List mh→Nat
  | []=>0
  | x::l=>x.1.length+x.2.1.length+uK l
theorem Nj:∀(l:List mh) (z:aj),(qI l z).length=uK l+z.length
  | [],z=>by simp[qI,uK]
  | x::l,z=>by simp only[qI,uK,List.length_append,Nj l z]; omega

theorem T6:∀(g r:aj),(∀b∈g,qT b=true)→(∃c u,r=c::u∧qT c=false)∨r = []→(g++r).takeWhile qT=g∧(g++r).dropWhile qT=r
  | [],r,_,h=>by
    rcases h with ⟨c,u,rfl,hc⟩|rfl
    · exact ⟨by rw[List.nil_append,List.takeWhile_cons,hc]; rfl,by rw[List.nil_append,List.dropWhile_cons,hc]; rfl⟩
    · exact ⟨rfl,rfl⟩
  | b::g,r,hg,h=>by
    have hb:=hg b (by simp)
    obtain ⟨h1,h2⟩:=T6 g r (fun x hx=>hg x (by simp[hx])) h
    refine ⟨?_,?_⟩
    · rw[List.cons_append,List.takeWhile_cons,hb,if_pos rfl,h1]
    · rw[List.cons_append,List.dropWhile_cons,hb,if_pos rfl,h2]

theorem Nk:∀(l:List mh) (z:aj) (n p:Nat) (out:List Token),okW l z→l.length<n→wo n p (qI l z) out=wo (n - l.length) (p+uK l) z (out++tokW p l)
  | [],z,n,p,out,_,_=>by simp[qI,uK,tokW]
  | x::l,z,n,p,out,h,hn=>by
    obtain ⟨h1,⟨c,u,h2,h3⟩,h4,h5⟩:=h
    obtain ⟨n,rfl⟩:∃m,n=m+1:=⟨n - 1,by omega⟩
    simp only[List.length_cons]at hn
    obtain ⟨t1,t2⟩:=T6 x.1 (x.2.1++qI l z) h1 (.inl ⟨c,u++qI l z,by rw[h2]; rfl,h3⟩)
    have Z9:qI (x::l) z=x.1++(x.2.1++qI l z):=rfl
    have kq:¬(x.2.1++qI l z = []):=by rw[h2]; simp
    have hw:0<x.2.1.length:=by rw[h2]; simp
    simp only[wo]
    rw[Z9,t1,t2,if_neg kq,h4]
    simp only
    have e1:(x.1++(x.2.1++qI l z)).length - (qI l z).length=x.1.length+x.2.1.length:=by simp only[List.length_append]; omega
    rw[e1,Nk l z n _ _ h5 (by omega)]
    have e2:n+1 - (x::l).length=n - l.length:=by simp
    have e3:p+(x.1.length+x.2.1.length)+uK l=p+uK (x::l):=by simp only[uK]; omega
    have e4:p+(x.1.length+x.2.1.length)=p+x.1.length+x.2.1.length:=by omega
    rw[e2,e3]
    simp only[tokW,List.append_assoc,List.singleton_append]
    rw[e4]

theorem aac {g:aj} (hg:∀b∈g,qT b=true) (n p:Nat) (out:List Token):wo (n+1) p g out=(out ++ [⟨5, [],⟨0,0⟩,((p+g.length:Nat):Int)⟩],0,0):=by
  obtain ⟨t1,t2⟩:=T6 g [] hg (.inr rfl)
  rw[List.append_nil]at t1 t2
  simp only[wo]
  rw[t1,t2,if_pos rfl]
theorem KG (l:List mh) (g:aj) (hg:∀b∈g,qT b=true) (h:okW l g) (hl:uK l+g.length≤20000):ug (qI l g)=(tokW 0 l ++ [⟨5, [],⟨0,0⟩,((uK l+g.length:Nat):Int)⟩],0,0):=by
  unfold ug
  have hlen:=Nj l g
  rw[if_neg (by omega)]
  have hcount:l.length≤uK l:=by
    clear hl hlen
    induction l with
    | nil=>simp[uK]
    | cons x l ih =>
      obtain ⟨_,⟨c,u,h2,_⟩,_,h5⟩:=h
      have:=ih h5
      have hw:0<x.2.1.length:=by rw[h2]; simp
      simp only[uK,List.length_cons]
      omega
  rw[Nk l g _ 0 [] h (by omega),hlen]
  obtain ⟨m,hm⟩:∃m,uK l+g.length+1 - l.length=m+1:=⟨uK l+g.length - l.length,by omega⟩
  rw[hm,aac hg]
  simp

def F6 (r:aj):Prop:=r = []∨∃b u,r=b::u∧Au b=false∧zT b=false
def Word (w:aj) (t:Token):Prop:=(∃c u,w=c::u∧qT c=false)∧∀r,F6 r→tokS (w++r)=some (t,r)

theorem Qv {p:UInt8→Bool}:∀(w r:aj),(∀b∈w,p b=true)→(r = []∨∃b u,r=b::u∧p b=false)→(w++r).takeWhile p=w∧(w++r).dropWhile p=r
  | [],r,_,h=>by
    rcases h with rfl|⟨b,u,rfl,hb⟩
    · exact ⟨rfl,rfl⟩
    · exact ⟨by rw[List.nil_append,List.takeWhile_cons,hb]; rfl,by rw[List.nil_append,List.dropWhile_cons,hb]; rfl⟩
  | b::w,r,hw,h=>by
    have hb:=hw b (by simp)
    obtain ⟨h1,h2⟩:=Qv w r (fun x hx=>hw x (by simp[hx])) h
    exact ⟨by rw[List.cons_append,List.takeWhile_cons,hb,if_pos rfl,h1],by rw[List.cons_append,List.dropWhile_cons,hb,if_pos rfl,h2]⟩
theorem aad {r:aj} (h:F6 r):r = []∨∃b u,r=b::u∧Au b=false:=h.imp id fun ⟨b,u,e,h1,_⟩=>⟨b,u,e,h1⟩
theorem aae {r:aj} (h:F6 r):r = []∨∃b u,r=b::u∧zT b=false:=h.imp id fun ⟨b,u,e,_,h1⟩=>⟨b,u,e,h1⟩

theorem W0 (c:UInt8) (h:HU c=true):Word [c] ⟨1, [c],⟨0,0⟩,0⟩:=by
  have all:∀n:Fin 256,HU (UInt8.ofNat n.val)=true→qT (UInt8.ofNat n.val)=false∧¬(n.val=45∨(48≤n.val∧n.val≤57))∧¬n.val=34:=by decide +kernel
  obtain ⟨h1,h2,h3⟩:=all ⟨c.toNat,UInt8.toNat_lt c⟩ (by simpa using h)
  refine ⟨⟨c, [],rfl,by simpa using h1⟩,fun r _ => ?_⟩
  show tokS (c::r)=_
  simp only[tokS]
  rw[if_neg h2,if_neg h3,if_pos h]

theorem BN {w:aj} (h:w=sJ∨w=ly∨w=po):Word w ⟨4,w,⟨0,0⟩,0⟩:=by
  have hl:∀b∈w,zT b=true:=by rcases h with rfl|rfl|rfl <;> decide
  have hc:∃c u,w=c::u∧qT c=false∧¬(c.toNat=45∨(48≤c.toNat∧c.toNat≤57))∧¬c.toNat=34∧HU c=false:=by
    rcases h with rfl|rfl|rfl <;> exact ⟨_,_,rfl,by decide,by decide,by decide,by decide⟩
  obtain ⟨c,u,rfl,h1,h2,h3,h4⟩:=hc
  refine ⟨⟨c,u,rfl,h1⟩,fun r hr => ?_⟩
  obtain ⟨t1,t2⟩:=Qv (c::u) r hl (aae hr)
  show tokS (c::(u++r))=_
  have e:(c::(u++r):aj)=(c::u)++r:=rfl
  simp only[tokS]
  rw[if_neg h2,if_neg h3,h4,if_neg (by simp),e,t1,t2,if_pos h]

theorem W1 {rs:List Nat} (hr:∀c∈rs,vr c):Word (qt rs) ⟨2,cQ rs,⟨0,0⟩,0⟩:=by
  have e:qt rs=34::(Jc rs ++ [34]):=by unfold qt; simp
  refine ⟨⟨34,_,e,by decide⟩,fun r _ => ?_⟩
  have hu:=ZR rs hr r
  have e2:qt rs++r=34::(Jc rs ++ [34]++r):=by rw[e]; rfl
  rw[e2]at hu ⊢
  simp only[tokS]
  rw[if_neg (by decide),if_pos (by decide),hu]

theorem T7 {d:iZ} (hd:Fm d):B8 (NT d)=(d,true):=by
  have key:∀k:iZ→Bool→Option (iZ × Bool),dC (NT d) k=k d true:=fun k=>by
    by_cases h0:d.aB=0
    · rw[hd.zero h0,Ng,T2]
    · have:=WT hd h0 [] 0 (.inl ⟨rfl,rfl⟩) (by omega) (by simp) k
      rw[List.append_nil,Int.add_zero,WU hd h0]at this
      exact this
  have hl:(NT d).length≤4000000000:=by
    by_cases h0:d.aB=0
    · rw[hd.zero h0,Ng]; simp
    · obtain ⟨I,F,pt,a,b,e1,e2,i0,i1,f0,f1,fl,il,iD,fD⟩:=Ke d hd h0
      rw[e1]
      cases hdn:decide (d.aB<0) <;> cases pt <;> simp <;> omega
  have h1:=Pd (NT d) hl (fun a b=>some (a,b))
  rw[key]at h1
  simp only[Option.some.injEq]at h1
  rw[h1]

theorem Pe {d:iZ} (hd:Fm d):(∀b∈NT d,Au b=true)∧(∃c u,NT d=c::u∧(c.toNat=45∨(48≤c.toNat∧c.toNat≤57)))∧(NT d).length≤60:=by
  have dig:∀b:UInt8,oy b→Au b=true:=fun b hb=>by
    have all:∀n:Fin 256,(48≤n.val∧n.val≤57)→Au (UInt8.ofNat n.val)=true:=by decide +kernel
    have:=all ⟨b.toNat,UInt8.toNat_lt b⟩ hb
    simpa using this
  by_cases h0:d.aB=0
  · rw[hd.zero h0,Ng]
    exact ⟨by decide,⟨48, [],rfl,by decide⟩,by simp⟩
  · obtain ⟨I,F,pt,a,b,e1,e2,i0,i1,f0,f1,fl,il,iD,fD⟩:=Ke d hd h0
    rw[e1]
    refine ⟨fun x hx => ?_,?_,?_⟩
    · rcases List.mem_append.1 hx with hx|hx
      · split at hx
        · simp at hx; subst hx; decide
        · simp at hx
      · rcases List.mem_append.1 hx with hx|hx
        · exact dig x (iD x hx)
        · split at hx
          · rcases List.mem_cons.1 hx with rfl|hx
            · decide
            · exact dig x (fD x hx)
          · simp at hx
    · cases I with
      | nil=>exact (i0 rfl).elim
      | cons c I =>
        cases decide (d.aB<0)with
        | true=>exact ⟨45,_,rfl,by decide⟩
        | false=>exact ⟨c,_,rfl, .inr (iD c (by simp))⟩
    · cases hdn:decide (d.aB<0) <;> cases pt <;> simp <;> omega

theorem Sh {d:iZ} (hd:Fm d):Word (NT d) ⟨3,NT d,d,0⟩:=by
  obtain ⟨h1,⟨c,u,h2,h3⟩,_⟩:=Pe hd
  have hp:=T7 hd
  have hb:qT c=false:=by
    have all:∀n:Fin 256,(n.val=45∨(48≤n.val∧n.val≤57))→qT (UInt8.ofNat n.val)=false:=by decide +kernel
    have:=all ⟨c.toNat,UInt8.toNat_lt c⟩ h3
    simpa using this
  refine ⟨⟨c,u,h2,hb⟩,fun r hr => ?_⟩
  obtain ⟨t1,t2⟩:=Qv (NT d) r h1 (aad hr)
  have e:NT d++r=c::(u++r):=by rw[h2]; rfl
  rw[e]at t1 t2 ⊢
  simp only[tokS]
  rw[if_pos h3,t1,t2,hp]
  rfl
def sg (c:UInt8):mh:=([], [c],⟨1, [c],⟨0,0⟩,0⟩)
theorem zU:∀(a b:List mh) (z:aj),qI (a++b) z=qI a (qI b z)
  | [],_,_=>rfl
  | x::a,b,z=>by simp only[List.cons_append,qI,zU a b z]

theorem xG:∀(a b:List mh) (z:aj),okW (a++b) z↔okW a (qI b z)∧okW b z
  | [],b,z=>by simp[okW]
  | x::a,b,z=>by simp only[List.cons_append,okW,xG a b z,zU,and_assoc]

theorem zV {w:aj} {t:Token} (h:Word w t) {z:aj} (hz:F6 z):okW [([],w,t)] z:=⟨by simp,h.1,h.2 z hz,trivial⟩
theorem zW {c:UInt8} (h:HU c=true) (z:aj):okW [sg c] z:=by
  refine ⟨by simp[sg],(W0 c h).1,?_,trivial⟩
  have all:∀n:Fin 256,HU (UInt8.ofNat n.val)=true→¬(n.val=45∨(48≤n.val∧n.val≤57))∧¬n.val=34:=by decide +kernel
  obtain ⟨h2,h3⟩:=all ⟨c.toNat,UInt8.toNat_lt c⟩ (by simpa using h)
  show tokS (c::z)=some (⟨1, [c],⟨0,0⟩,0⟩,z)
  simp only[tokS]
  rw[if_neg h2,if_neg h3,if_pos h]
theorem Gt {c:UInt8} (h:HU c=true) (z:aj):F6 (c::z):=by
  have all:∀n:Fin 256,HU (UInt8.ofNat n.val)=true→Au (UInt8.ofNat n.val)=false∧zT (UInt8.ofNat n.val)=false:=by decide +kernel
  obtain ⟨h2,h3⟩:=all ⟨c.toNat,UInt8.toNat_lt c⟩ (by simpa using h)
  exact .inr ⟨c,z,rfl,by simpa using h2,by simpa using h3⟩

end Go.Proofs.YtmlkkgfenfdndaaGreatDoor

/-
  Functions of the program as pure Lean functions, and the ties; printed by wip/tools/emit.py.
-/
set_option maxRecDepth 100000
namespace Go.Proofs.YtmlkkgfenfdndaaGreatDoor
open Go Go.ay

end Go.Proofs.YtmlkkgfenfdndaaGreatDoor

/-
  Functions of the program as pure Lean functions, and the ties; printed by wip/tools/emit.py.
-/
set_option maxRecDepth 100000
namespace Go.Proofs.YtmlkkgfenfdndaaGreatDoor
open Go Go.ay

end Go.Proofs.YtmlkkgfenfdndaaGreatDoor

set_option maxRecDepth 100000
namespace Go.Proofs.YtmlkkgfenfdndaaGreatDoor
open Go Go.ay Go.Lib

section
variable {R:Type} (k:iZ→Bool→Option R) (s:aj) (hs:s.length≤4000000000) (sg:Int) (hsg:sg=1∨sg = -1) (all:aj) (x:Int) (ha:∀c∈all,oy c) (h0:all ≠ []) (hl:all.length≤900) (hx : -1000≤x∧x≤0)
include hs hsg ha h0 hl hx

end


def fmB (d:iZ):Bool:=(d.aB==0&&d.exp==0)||(Int.tmod d.aB 10 != 0&&(decide (-1000000000000000≤d.aB)&&decide (d.aB≤1000000000000000)&&(decide (-9≤d.exp)&&decide (d.exp≤9))))
theorem Gu {d:iZ}:fmB d=true↔Fm d:=by
  unfold fmB Fm
  simp[and_assoc]

theorem Pf {R:Type} (d:iZ) (k:Bool→Option R):cf d k=k (fmB d):=by
  have e:cf d k=lU aY d k:=rfl
  rw[e]
  unfold lU fmB
  by_cases h0:d.aB=0
  · rw[h0]
    have t0:((0:Int)==0)=true:=rfl
    have t1:(Int.tmod 0 10 != 0)=false:=rfl
    rw[t0,t1,cond_true,Bool.true_and,Bool.false_and,Bool.or_false]
  · have e0:(d.aB==0)=false:=by rw[beq_eq_false_iff_ne]; exact h0
    rw[e0,cond_false,Bool.false_and,Bool.false_or]
    cases ht:(Int.tmod d.aB 10 != 0)with
    | false=>rfl
    | true =>
      rw[cond_true,Bool.true_and,DM]
      cases (decide (-1000000000000000≤d.aB)&&decide (d.aB≤1000000000000000))with
      | false=>rfl
      | true=>rw[cond_true,DM,Bool.true_and]


theorem W2 {R:Type} {d:iZ} (hd:fmB d=false) (k:aj→Option R):bc d k=k []:=by
  have e:bc d k=oW cf ah af ag d k:=rfl
  rw[e]
  unfold oW
  rw[Pf,hd]
  rfl
def zX (d:iZ):aj:=if fmB d then NT d else []
theorem Pg {R:Type} (d:iZ) (k:aj→Option R):bc d k=k (zX d):=by
  unfold zX
  cases h:fmB d with
  | true=>rw[Zz (Gu.1 h)]; rfl
  | false=>rw[W2 h]; rfl

def wu:List aj→List aj→Bool
  | _, []=>true
  | seen,n::l => !seen.contains n&&gM n&&wu (n::seen) l

mutual
def gR:Json→Int→Bool
  | ⟨k,n,t,ns,is⟩,d=>decide (d≤16)&&(decide (1≤k)&&decide (k≤7))&&(k==4||(n.aB==0&&n.exp==0))&&(k==5||t.isEmpty)&&(k==7||ns.isEmpty)&&(k==6||k==7||is.isEmpty) &&
      (if k=4 then fmB n else if k=5 then gM t else if k=7 then decide (ns.length=is.length)&&wu [] ns&&gV is (d+1)else gV is (d+1))
def gV:List Json→Int→Bool
  | [],_=>true
  | x::l,d=>gR x d&&gV l d
end

theorem HV {d:Int}:∀ {l:List Json} {x:Json},gV l d=true→x∈l→gR x d=true
  | y::l,x,h,hx=>by
    simp only[gV,Bool.and_eq_true]at h
    rcases List.mem_cons.1 hx with rfl|hx
    · exact h.1
    · exact HV h.2 hx

inductive Kf:Json→Int→Prop where
  | name (k:Int) (d:Int) (hd:d≤16) (hk:k=1∨k=2∨k=3):Kf ⟨k,⟨0,0⟩, [], [], []⟩ d
  | num (n:iZ) (d:Int) (hd:d≤16) (hn:Fm n):Kf ⟨4,n, [], [], []⟩ d
  | text (t:aj) (d:Int) (hd:d≤16) (ht:gM t=true):Kf ⟨5,⟨0,0⟩,t, [], []⟩ d
  | arr (is:List Json) (d:Int) (hd:d≤16) (hi:gV is (d+1)=true):Kf ⟨6,⟨0,0⟩, [], [],is⟩ d
  | obj (ns:List aj) (is:List Json) (d:Int) (hd:d≤16) (hl:ns.length=is.length) (hu:wu [] ns=true) (hi:gV is (d+1)=true):Kf ⟨7,⟨0,0⟩, [],ns,is⟩ d

theorem oz {v:Json} {d:Int}:gR v d=true↔Kf v d:=by
  obtain ⟨k,⟨m,e⟩,t,ns,is⟩:=v
  constructor
  · intro h
    simp only[gR,Bool.and_eq_true,Bool.or_eq_true,decide_eq_true_eq,beq_iff_eq,List.isEmpty_iff]at h
    obtain ⟨⟨⟨⟨⟨⟨hd,V6,Hq⟩,hn⟩,ht⟩,H0⟩,KH⟩,hx⟩:=h
    have hk:k=1∨k=2∨k=3∨k=4∨k=5∨k=6∨k=7:=by omega
    rcases hk with rfl|rfl|rfl|rfl|rfl|rfl|rfl
    · simp at hn ht H0 KH
      obtain ⟨rfl,rfl⟩:=hn
      subst ht H0 KH
      exact .name 1 d hd (by omega)
    · simp at hn ht H0 KH
      obtain ⟨rfl,rfl⟩:=hn
      subst ht H0 KH
      exact .name 2 d hd (by omega)
    · simp at hn ht H0 KH
      obtain ⟨rfl,rfl⟩:=hn
      subst ht H0 KH
      exact .name 3 d hd (by omega)
    · simp at ht H0 KH hx
      subst ht H0 KH
      exact .num _ d hd (Gu.1 hx)
    · simp at hn H0 KH hx
      obtain ⟨rfl,rfl⟩:=hn
      subst H0 KH
      exact .text t d hd hx
    · simp at hn ht H0 hx
      obtain ⟨rfl,rfl⟩:=hn
      subst ht H0
      exact .arr is d hd hx
    · simp at hn ht hx
      obtain ⟨rfl,rfl⟩:=hn
      subst ht
      exact .obj ns is d hd hx.1.1 hx.1.2 hx.2
  · intro h
    cases h with
    | name _ _ hd hk=>rcases hk with rfl|rfl|rfl <;> simp[gR,gV,hd]
    | num _ _ hd hn=>simp[gR,hd,Gu.2 hn]
    | text _ _ hd ht=>simp[gR,hd,ht]
    | arr _ _ hd hi=>simp[gR,hd,hi]
    | obj _ _ _ hd hl hu hi=>simp[gR,hd,hl,hu,hi]

def Ld (t:aj):aj:=34::(t.flatMap qb ++ [34])
theorem Jg {rs:List Nat} (hr:∀c∈rs,vr c):Ld (cQ rs)=qt rs:=by unfold Ld qt; rw[U8 rs hr]

mutual
def rK:Json→aj
  | ⟨k,n,t,ns,is⟩=>if k=1 then po else if k=2 then ly else if k=3 then sJ else if k=4 then zX n else if k=5 then Ld t else if k=7 then 123::(oQ ns is true ++ [125])else 91::(pK is true ++ [93])
def pK:List Json→Bool→aj
  | [],_ => []
  | x::l,first=>(if first then []else [44])++(rK x++pK l false)
def oQ:List aj→List Json→Bool→aj
  | _, [],_ => []
  | ns,x::l,first=>(if first then []else [44])++(Ld (ns.headD [])++(58::(rK x++oQ ns.tail l false)))
end

def T8 (t:aj):mh:=([],Ld t,⟨2,t,⟨0,0⟩,0⟩)
mutual
def j2:Json→List mh
  | ⟨k,n,t,ns,is⟩=>if k=1 then [([],po,⟨4,po,⟨0,0⟩,0⟩)]else if k=2 then [([],ly,⟨4,ly,⟨0,0⟩,0⟩)]else if k=3 then [([],sJ,⟨4,sJ,⟨0,0⟩,0⟩)]
      else if k=4 then [([],zX n,⟨3,zX n,n,0⟩)]else if k=5 then [T8 t]else if k=7 then sg 123::(nI ns is true ++ [sg 125])else sg 91::(pL is true ++ [sg 93])
def pL:List Json→Bool→List mh
  | [],_ => []
  | x::l,first=>(if first then []else [sg 44])++(j2 x++pL l false)
def nI:List aj→List Json→Bool→List mh
  | _, [],_ => []
  | ns,x::l,first=>(if first then []else [sg 44])++(T8 (ns.headD [])::sg 58::(j2 x++nI ns.tail l false))
end

mutual
theorem Kg:∀(v:Json) (z:aj),qI (j2 v) z=rK v++z
  | ⟨k,n,t,ns,is⟩,z=>by
    have hL:=Nl is true
    have hO:=Nn ns is true
    simp only[j2,rK]
    split
    · simp[qI]
    split
    · simp[qI]
    split
    · simp[qI]
    split
    · simp[qI]
    split
    · simp[qI,T8]
    split
    · simp only[qI,sg,zU,hO]; simp[qI,sg]
    · simp only[qI,sg,zU,hL]; simp[qI,sg]
theorem Nl:∀(l:List Json) (first:Bool) (z:aj),qI (pL l first) z=pK l first++z
  | [],_,z=>rfl
  | x::l,first,z=>by
    have h1:=Kg x
    have h2:=Nl l false
    simp only[pL,pK]
    rw[zU,zU,h1,h2]
    cases first <;> simp[qI,sg]
theorem Nn:∀(ns:List aj) (l:List Json) (first:Bool) (z:aj),qI (nI ns l first) z=oQ ns l first++z
  | ns, [],_,z=>by simp[nI,oQ,qI]
  | ns,x::l,first,z=>by
    have h1:=Kg x
    have h2:=Nn ns.tail l false
    simp only[nI,oQ]
    rw[zU]
    simp only[qI,T8,sg,zU,h1,h2]
    cases first <;> simp[qI,sg]
end

theorem Np {t:aj} (ht:gM t=true) (z:aj):okW [T8 t] z:=by
  obtain ⟨rs,hr,rfl⟩:=Dz.1 ht
  have e:=Jg hr
  have hw:=W1 hr
  refine ⟨by simp[T8],by simp only[T8,e]; exact hw.1,?_,trivial⟩
  show tokS (Ld (cQ rs)++z)=some (⟨2,cQ rs,⟨0,0⟩,0⟩,z)
  have e2:qt rs=34::(Jc rs ++ [34]):=by unfold qt; simp
  have hu:=ZR rs hr z
  have e3:qt rs++z=34::(Jc rs ++ [34]++z):=by rw[e2]; rfl
  rw[e,e3]
  rw[e3]at hu
  simp only[tokS]
  rw[if_neg (by decide),if_pos (by decide),hu]

mutual
theorem Nq:∀(v:Json) (d:Int),gR v d=true→∀z,F6 z→okW (j2 v) z
  | ⟨k,n,t,ns,is⟩,d,h,z,hz=>by
    have hL:=Ph is
    have hO:=Pj ns is
    cases oz.1 h with
    | name _ _ hd hk =>
      rcases hk with rfl|rfl|rfl
      · exact zV (BN (.inr (.inr rfl))) hz
      · exact zV (BN (.inr (.inl rfl))) hz
      · exact zV (BN (.inl rfl)) hz
    | num _ _ hd hn =>
      have e:zX n=NT n:=by unfold zX; rw[Gu.2 hn]; rfl
      show okW [([],zX n,⟨3,zX n,n,0⟩)] z
      rw[e]
      exact zV (Sh hn) hz
    | text _ _ hd ht=>exact Np ht z
    | arr _ _ hd hi =>
      show okW ([sg 91]++(pL is true ++ [sg 93])) z
      rw[xG,xG]
      exact ⟨zW (by decide) _,hL true (d+1) hi _ (Gt (by decide) _),zW (by decide) _⟩
    | obj _ _ _ hd hl hu hi =>
      show okW ([sg 123]++(nI ns is true ++ [sg 125])) z
      rw[xG,xG]
      exact ⟨zW (by decide) _,hO true (d+1) hi hl [] hu _ (Gt (by decide) _),zW (by decide) _⟩
theorem Ph:∀(l:List Json) (first:Bool) (d:Int),gV l d=true→∀z,F6 z→okW (pL l first) z
  | [],_,_,_,_,_=>trivial
  | x::l,first,d,h,z,hz=>by
    simp only[gV,Bool.and_eq_true]at h
    have h1:=Nq x d h.1
    have h2:=Ph l false d h.2 z hz
    simp only[pL]
    rw[xG,xG]
    refine ⟨?_,h1 _ ?_,h2⟩
    · cases first
      · exact zW (by decide) _
      · trivial
    · cases l with
      | nil=>exact hz
      | cons y l =>
        simp only[pL]
        exact Gt (c:=44) (by decide) _
theorem Pj:∀(ns:List aj) (l:List Json) (first:Bool) (d:Int),gV l d=true→ns.length=l.length→∀seen,wu seen ns=true→∀z,F6 z→okW (nI ns l first) z
  | ns, [],_,_,_,_,_,_,_,_=>by simp[nI,okW]
  | [],_::_,_,_,_,hl,_,_,_,_=>by simp at hl
  | n::ns,x::l,first,d,h,hl,seen,hu,z,hz=>by
    simp only[gV,Bool.and_eq_true]at h
    simp only[wu,Bool.and_eq_true]at hu
    have h1:=Nq x d h.1
    have h2:=Pj ns l false d h.2 (by simpa using hl) _ hu.2 z hz
    simp only[nI,List.headD_cons,List.tail_cons]
    show okW ((if first=true then []else [sg 44])++([T8 n]++([sg 58]++(j2 x++nI ns l false)))) z
    rw[xG,xG,xG,xG]
    refine ⟨?_,Np hu.1.2 _,zW (by decide) _,h1 _ ?_,h2⟩
    · cases first
      · exact zW (by decide) _
      · trivial
    · cases l with
      | nil=>simp only[nI,qI]; exact hz
      | cons y l =>
        simp only[nI]
        exact Gt (c:=44) (by decide) _
end

mutual
def Le:Json→Bool
  | ⟨_,_,t,ns,is⟩=>decide (ns.length≤1099511627776)&&decide (is.length≤1099511627776)&&Ou is&&(decide (t.length≤10000000000)&&ns.all fun n=>decide (n.length≤10000000000))
def Ou:List Json→Bool
  | []=>true
  | x::l=>Le x&&Ou l
end
theorem F7:∀ {l:List Json} {x:Json},Ou l=true→x∈l→Le x=true
  | y::l,x,h,hx=>by
    simp only[Ou,Bool.and_eq_true]at h
    rcases List.mem_cons.1 hx with rfl|hx
    · exact h.1
    · exact F7 h.2 hx
theorem B9 {v:Json}:Le v=true↔v.names.length≤1099511627776∧v.items.length≤1099511627776∧Ou v.items=true∧v.text.length≤10000000000∧∀n∈v.names,n.length≤10000000000:=by
  obtain ⟨k,n,t,ns,is⟩:=v
  simp[Le,and_assoc]

theorem DQ (a b:aj):yf .str a b=(a==b):=rfl
def Vc (m:List (aj × Bool)) (n:aj):Bool:=nP .str .bool n m
theorem aaf (m:List (aj × Bool)) (a b:aj):Vc (wP .str .bool a true m) b=((b==a)||Vc m b):=by
  induction m with
  | nil =>
    show (bif yf .str b a then true else false)=_
    rw[DQ]
    cases b==a <;> rfl
  | cons e m ih =>
    unfold Vc at ih ⊢
    show nP .str .bool b (bif yf .str a e.1 then (a,true)::m else e::wP .str .bool a true m)=((b==a)||(bif yf .str b e.1 then e.2 else nP .str .bool b m))
    rw[DQ,DQ]
    by_cases h1:a=e.1
    · have h1':(a==e.1)=true:=by simpa using h1
      rw[h1',cond_true]
      show (bif yf .str b a then true else nP .str .bool b m)=_
      rw[DQ,←h1]
      cases b==a <;> rfl
    · have h1':(a==e.1)=false:=by simpa using h1
      rw[h1',cond_false]
      show (bif yf .str b e.1 then e.2 else nP .str .bool b (wP .str .bool a true m))=_
      rw[DQ,ih]
      by_cases h2:b=a
      · have h3:(b==e.1)=false:=by rw[h2]; exact h1'
        rw[h3]
        rfl
      · have h3:(b==a)=false:=by simpa using h2
        rw[h3]
        rfl

theorem Si {R:Type} (ns:List aj) (hl:ns.length≤1099511627776) (k:Bool→Option R):∀(F i:Nat) (m:List (aj × Bool)) (seen:List aj),i≤ns.length→ns.length - i<F→(∀n,Vc m n=seen.contains n) →
    cz F ns (ns.length:Int) (i:Int) m (k true) k=k (wu seen (ns.drop i)):=by
  intro F
  induction F with
  | zero=>intro i m seen _ h; omega
  | succ F ih =>
    intro i m seen hi hF hm
    show sB bt (fun x0 x1 x2 x3=>cz F x0 x1 x2 x3 (k true) k) ns (ns.length:Int) (i:Int) m (k true) k=_
    unfold sB
    by_cases h:i<ns.length
    · have h1:decide ((i:Int)<(ns.length:Int))=true:=by simp; omega
      have h2:(decide ((0:Int)≤(i:Int))&&true)=true:=by simp
      have hw:IntKind.i64.wrap ((i:Int)+1)=((i+1:Nat):Int):=by rw[dE (by omega) (by omega)]; omega
      have hg:ns.getD (i:Int).toNat (Ty.ck .str)=ns[i]:=getD_at h _
      have hsn:nP .str .bool ns[i] m=seen.contains ns[i]:=hm ns[i]
      rw[h1,cond_true,aS h2,hg,hsn,hw,R8,List.drop_eq_getElem_cons h]
      simp only[wu]
      cases seen.contains ns[i]with
      | true=>rfl
      | false =>
        cases gM ns[i]with
        | false=>rfl
        | true =>
          simp only[cond_false,Bool.not_true,Bool.not_false,Bool.true_and]
          refine ih (i+1) _ (ns[i]::seen) (by omega) (by omega) fun n => ?_
          rw[aaf,hm]
          simp only[List.contains_cons]
    · have h1:decide ((i:Int)<(ns.length:Int))=false:=by simp; omega
      rw[h1,cond_false,List.drop_eq_nil_of_le (by omega)]
      rfl

theorem T9 {R:Type} (ns:List aj) (hl:ns.length≤1099511627776) (k:Bool→Option R):iS ns k=k (wu [] ns):=by
  have:=Si ns hl k (List.length ns+Int.natAbs (ns.length:Int)+Int.natAbs 0+List.length ([]:List (aj × Bool))+64) 0 [] [] (by omega) (by omega) fun n=>rfl
  rw[List.drop_zero]at this
  exact this

theorem Sj {R:Type} (f:bS R) (is:List Json) (hl:is.length≤1099511627776) (d:Int) (hd:0≤d∧d≤16) (hf:∀x∈is,∀k:Bool→Option R,f x (d+1) k=k (gR x (d+1))) (k:Bool→Int→Option R):∀(F i:Nat),i≤is.length→is.length - i<F →
    aM f F is (is.length:Int) (i:Int) d (fun y=>k (decide ((-1:Int)≥0)) y) (fun x y=>k (decide (x≥0)) y)=k (!gV (is.drop i) (d+1)) d:=by
  intro F
  induction F with
  | zero=>intro i _ h; omega
  | succ F ih =>
    intro i hi hF
    show gm (cg f) (fun x0 x1 x2 x3=>aM f F x0 x1 x2 x3 _ _) is (is.length:Int) (i:Int) d _ _=_
    unfold gm
    by_cases h:i<is.length
    · have h1:decide ((i:Int)<(is.length:Int))=true:=by simp; omega
      have h2:(decide ((0:Int)≤(i:Int))&&true)=true:=by simp
      have hw:IntKind.i64.wrap ((i:Int)+1)=((i+1:Nat):Int):=by rw[dE (by omega) (by omega)]; omega
      have hwd:IntKind.i64.wrap (d+1)=d+1:=dE (by omega) (by omega)
      have hg:is.getD (i:Int).toNat (Ty.ck .json)=is[i]:=getD_at h _
      have hj:(decide ((i:Int)≥0))=true:=by simp
      have he:∀(x:Json) (q:Bool→Int→Option R),cg f x d q=f x (IntKind.i64.wrap (d+1)) fun y=>q (!y) d:=fun x q=>by
        show qf f x d q=_
        unfold qf
        simp only[Json.eta]
      rw[h1,cond_true,aS h2,hg,Json.eta,he,hwd,hf _ (List.getElem_mem h),List.drop_eq_getElem_cons h]
      simp only[gV]
      cases gR is[i] (d+1)with
      | false=>simp only[Bool.not_false,cond_true,Bool.false_and,hj]
      | true =>
        simp only[Bool.not_true,cond_false,Bool.true_and]
        rw[hw]
        exact ih (i+1) (by omega) (by omega)
    · have h1:decide ((i:Int)<(is.length:Int))=false:=by simp; omega
      rw[h1,cond_false,List.drop_eq_nil_of_le (by omega)]
      rfl

theorem Qw {R:Type} (f:bS R) (is:List Json) (hl:is.length≤1099511627776) (d:Int) (hd:0≤d∧d≤16) (hf:∀x∈is,∀k:Bool→Option R,f x (d+1) k=k (gR x (d+1))) (k:Bool→Int→Option R) :
    aQ f is d k=k (!gV is (d+1)) d:=by
  have:=Sj f is hl d hd hf k (List.length is+Int.natAbs (is.length:Int)+Int.natAbs 0+Int.natAbs d+64) 0 (by omega) (by omega)
  rw[List.drop_zero]at this
  exact this

theorem Sk {l:List Json} {y:Json} (h:y∈l):y.depth≤Json.BW l:=by
  induction l with
  | nil=>cases h
  | cons a l ih =>
    simp only[Json.BW]
    rcases List.mem_cons.1 h with rfl|h
    · exact Nat.le_max_left _ _
    · exact Nat.le_trans (ih h) (Nat.le_max_right _ _)
theorem W3 (x:Json):x.depth=Json.BW x.items+1:=by cases x; simp[Json.depth]
theorem F8 {x y:Json} (h:y∈x.items):y.depth<x.depth:=by rw[W3 x]; exact Nat.lt_succ_of_le (Sk h)

theorem bare_eq {R:Type} (k n1 n2:Int) (t:aj) (ns:List aj) (is:List Json) (q:Json→Option R):nk ⟨k,⟨n1,n2⟩,t,ns,is⟩ q =
    q ⟨k,if k=4 then ⟨0,0⟩else ⟨n1,n2⟩,if k=5 then []else t,if k=7 then []else ns,if k=6∨k=7 then []else is⟩:=by
  show CR _ q=_
  unfold CR
  simp only
  by_cases h4:k=4
  · subst h4; rfl
  by_cases h5:k=5
  · subst h5; rfl
  by_cases h7:k=7
  · subst h7; rfl
  by_cases h6:k=6
  · subst h6; rfl
  have e4:(k==4)=false:=by simpa using h4
  have e5:(k==5)=false:=by simpa using h5
  have e6:(k==6)=false:=by simpa using h6
  have e7:(k==7)=false:=by simpa using h7
  rw[e4,e5,e6,e7]
  simp[h4,h5,h6,h7]

theorem chain {R:Type} (k:Bool→Option R) {a b c:Bool} {x:Option R} {r:Bool} (hx:a=true→b=true→c=false→x=k r) (hr:(a=true∧b=true∧c=false)∨r=false) :
    (bif !a then k false else (bif !b then k false else (bif c then k false else x)))=k r:=by
  cases a with
  | false =>
    rcases hr with ⟨h,_⟩|rfl
    · cases h
    · rfl
  | true =>
    cases b with
    | false =>
      rcases hr with ⟨_,h,_⟩|rfl
      · cases h
      · rfl
    | true =>
      cases c with
      | true =>
        rcases hr with ⟨_,_,h⟩|rfl
        · cases h
        · rfl
      | false=>exact hx rfl rfl rfl

theorem right_N {R:Type}:∀(n:Nat) (v:Json) (d:Int),Le v=true→v.depth<n→0≤d→d≤17→∀k:Bool→Option R,eX n v d k=k (gR v d):=by
  intro n
  induction n with
  | zero=>intro v d _ h; omega
  | succ n ih =>
    intro v d hv hn hd0 hd1 k
    obtain ⟨H0,KH,VZ,_⟩:=B9.1 hv
    have he:eX (n+1) v d k=A9 bt cf nk iS (aQ (eX n)) v d k:=rfl
    rw[he]
    have hcf:d≤16→∀q:Bool→Int→Option R,aQ (eX n) v.items d q=q (!gV v.items (d+1)) d:=fun Sl q =>
      Qw _ _ KH d ⟨hd0,Sl⟩ (fun x hx k=>ih x (d+1) (F7 VZ hx) (by have:=F8 hx; omega) (by omega) (by omega) k) q
    obtain ⟨kd,⟨n1,n2⟩,t,ns,is⟩:=v
    unfold A9
    simp only at H0 KH hcf ⊢
    rw[bare_eq]
    simp only
    by_cases Sl:d≤16
    rotate_left
    · have e1:decide (d>16)=true:=by simp; omega
      rw[e1,cond_true]
      simp[gR,Sl]
    have e1:decide (d>16)=false:=by simp; omega
    rw[e1,cond_false]
    by_cases V6:kd<1
    · have e2:decide (kd<1)=true:=by simpa using V6
      have:¬1≤kd:=by omega
      rw[e2,cond_true]
      simp[gR,this]
    have e2:decide (kd<1)=false:=by simpa using V6
    rw[e2,cond_false]
    by_cases hk7:kd>7
    · have e3:decide (kd>7)=true:=by simpa using hk7
      have:¬kd≤7:=by omega
      rw[e3,cond_true]
      simp[gR,this]
    have e3:decide (kd>7)=false:=by simpa using hk7
    rw[e3,cond_false]
    have hk:kd=1∨kd=2∨kd=3∨kd=4∨kd=5∨kd=6∨kd=7:=by omega
    have Ua:∀a b:Nat,a≤1099511627776→b≤1099511627776→decide (IntKind.i64.wrap ((a:Int)+(b:Int))>0) = !(a==0&&b==0):=by
      intro a b ha hb
      rw[dE (by omega) (by omega)]
      rw[Bool.eq_iff_iff,decide_eq_true_eq]
      simp only[Bool.not_eq_true',Bool.and_eq_false_iff,beq_eq_false_iff_ne]
      omega
    have hie:∀l:List aj,(l.length==0)=l.isEmpty:=fun l=>by cases l <;> rfl
    have hje:∀l:List Json,(l.length==0)=l.isEmpty:=fun l=>by cases l <;> rfl
    have S6:∀l:aj,(l==([]:aj))=l.isEmpty:=fun l=>by cases l <;> rfl
    have yl:∀d:Int,gV [] d=true:=fun _=>rfl
    have W4:∀a b:Int,((a==0)&&((b==0)&&true))=(a==0&&b==0):=fun a b=>by cases a==0 <;> cases b==0 <;> rfl
    have hcf0:∀q:Bool→Int→Option R,is.isEmpty=true→aQ (eX n) is d q=q false d:=fun q h=>by
      rw[hcf Sl]
      obtain rfl:is = []:=List.isEmpty_iff.1 h
      rfl
    have aag:∀a b c:Bool,(a=true∧b=true∧(!c)=false)∨((a&&b)&&c)=false:=by decide
    have hb4:∀b c q:Bool,(true=true∧b=true∧(!c)=false)∨((b&&c)&&q)=false:=by decide
    have hb5:∀a c q:Bool,(a=true∧true=true∧(!c)=false)∨((a&&c)&&q)=false:=by decide
    have hb6:∀a b c q:Bool,(a=true∧b=true∧(!c)=false)∨(((a&&b)&&c)&&q)=false:=by decide
    have hb7:∀a b q:Bool,(a=true∧b=true∧false=false)∨((a&&b)&&q)=false:=by decide
    rcases hk with rfl|rfl|rfl|rfl|rfl|rfl|rfl
    · have hr:gR ⟨1,⟨n1,n2⟩,t,ns,is⟩ d=(((n1==0&&n2==0)&&t.isEmpty)&&(ns.isEmpty&&is.isEmpty)):=by
        cases is <;> simp[gR,gV,Sl]
      simp only[Int.reduceEq,if_false,or_self,W4]
      rw[Ua _ _ H0 KH,hie,hje,S6,hr]
      refine chain k (fun h1 h2 h3 => ?_) (aag _ _ _)
      have h4:ns.isEmpty=true∧is.isEmpty=true:=by simpa using h3
      rw[h1,h2,h4.1,h4.2]
      show aQ (eX n) is d (fun DB Dg=>k (!DB))=k true
      exact hcf0 _ h4.2
    · have hr:gR ⟨2,⟨n1,n2⟩,t,ns,is⟩ d=(((n1==0&&n2==0)&&t.isEmpty)&&(ns.isEmpty&&is.isEmpty)):=by
        cases is <;> simp[gR,gV,Sl]
      simp only[Int.reduceEq,if_false,or_self,W4]
      rw[Ua _ _ H0 KH,hie,hje,S6,hr]
      refine chain k (fun h1 h2 h3 => ?_) (aag _ _ _)
      have h4:ns.isEmpty=true∧is.isEmpty=true:=by simpa using h3
      rw[h1,h2,h4.1,h4.2]
      show aQ (eX n) is d (fun DB Dg=>k (!DB))=k true
      exact hcf0 _ h4.2
    · have hr:gR ⟨3,⟨n1,n2⟩,t,ns,is⟩ d=(((n1==0&&n2==0)&&t.isEmpty)&&(ns.isEmpty&&is.isEmpty)):=by
        cases is <;> simp[gR,gV,Sl]
      simp only[Int.reduceEq,if_false,or_self,W4]
      rw[Ua _ _ H0 KH,hie,hje,S6,hr]
      refine chain k (fun h1 h2 h3 => ?_) (aag _ _ _)
      have h4:ns.isEmpty=true∧is.isEmpty=true:=by simpa using h3
      rw[h1,h2,h4.1,h4.2]
      show aQ (eX n) is d (fun DB Dg=>k (!DB))=k true
      exact hcf0 _ h4.2
    · have hr:gR ⟨4,⟨n1,n2⟩,t,ns,is⟩ d=((t.isEmpty&&(ns.isEmpty&&is.isEmpty))&&fmB ⟨n1,n2⟩):=by
        simp[gR,Sl,Bool.and_assoc]
      simp only[Int.reduceEq,if_false,if_true,or_self]
      rw[Ua _ _ H0 KH,hie,hje,S6,hr]
      refine chain k (a:=true) (b:=t.isEmpty) (c := !(ns.isEmpty&&is.isEmpty)) (fun h1 h2 h3 => ?_) (hb4 _ _ _)
      have h4:ns.isEmpty=true∧is.isEmpty=true:=by simpa using h3
      rw[h2,h4.1,h4.2]
      exact Pf _ _
    · have hr:gR ⟨5,⟨n1,n2⟩,t,ns,is⟩ d=(((n1==0&&n2==0)&&(ns.isEmpty&&is.isEmpty))&&gM t):=by
        simp[gR,Sl,Bool.and_assoc]
      simp only[Int.reduceEq,if_false,if_true,or_self,W4]
      rw[Ua _ _ H0 KH,hie,hje,hr]
      refine chain k (a:=(n1==0&&n2==0)) (b:=true) (c := !(ns.isEmpty&&is.isEmpty)) (fun h1 h2 h3 => ?_) (hb5 _ _ _)
      have h4:ns.isEmpty=true∧is.isEmpty=true:=by simpa using h3
      rw[h1,h4.1,h4.2]
      exact R8 _ _
    · have hr:gR ⟨6,⟨n1,n2⟩,t,ns,is⟩ d=((((n1==0&&n2==0)&&t.isEmpty)&&ns.isEmpty)&&gV is (d+1)):=by
        simp[gR,Sl,Bool.and_assoc]
      simp only[Int.reduceEq,if_false,if_true,true_or,W4]
      have U9:=Ua ns.length 0 H0 (by omega)
      have hq:((0:Nat)==0)=true:=rfl
      rw[hq,Bool.and_true,hie]at U9
      rw[List.length_nil,U9,S6,hr]
      refine chain k (a:=(n1==0&&n2==0)) (b:=t.isEmpty) (c := !ns.isEmpty) (fun h1 h2 h3 => ?_) (hb6 _ _ _ _)
      have h4:ns.isEmpty=true:=by simpa using h3
      rw[h1,h2,h4]
      show aQ (eX n) is d (fun DB Dg=>k (!DB))=k (gV is (d+1))
      rw[hcf Sl,Bool.not_not]
    · have hr:gR ⟨7,⟨n1,n2⟩,t,ns,is⟩ d=(((n1==0&&n2==0)&&t.isEmpty)&&(decide (ns.length=is.length)&&wu [] ns&&gV is (d+1))):=by
        simp[gR,Sl,Bool.and_assoc]
      simp only[Int.reduceEq,if_false,if_true,or_true,W4]
      have U9:=Ua 0 0 (by omega) (by omega)
      rw[List.length_nil,List.length_nil,U9,S6,hr]
      refine chain k (a:=(n1==0&&n2==0)) (b:=t.isEmpty) (c:=false) (fun h1 h2 h3 => ?_) (hb7 _ _ _)
      rw[h1,h2]
      show (bif ((ns.length:Int) != (is.length:Int))then k false else iS ns (fun y7=>bif !y7 then k false else aQ (eX n) is d (fun wE Ak=>k (!wE))))=_
      by_cases hl:ns.length=is.length
      · have e9:((ns.length:Int) != (is.length:Int))=false:=by rw[hl]; simp
        rw[e9,cond_false,T9 ns H0,hcf Sl,Bool.not_not]
        cases wu [] ns <;> simp[hl]
      · have e9:((ns.length:Int) != (is.length:Int))=true:=by simp; omega
        rw[e9,cond_true]
        simp[hl]

theorem Ub {R:Type} (v:Json) (hv:Le v=true) (k:Bool→Option R):eB v k=k (gR v 1):=by
  have e:eB v k=Bb lp v k:=rfl
  rw[e]
  unfold Bb
  simp only[Json.eta]
  exact right_N (v.depth+2) v 1 hv (by omega) (by omega) (by omega) k

theorem DR (p:UInt8→Bool) (s:aj):(s.takeWhile p).length+(s.dropWhile p).length=s.length:=by
  have:=congrArg List.length (List.takeWhile_append_dropWhile (p:=p) (l:=s))
  rwa [List.length_append]at this
theorem take_tw (p:UInt8→Bool) (s:aj):s.take (s.takeWhile p).length=s.takeWhile p:=by
  have:=List.take_left (l₁:=s.takeWhile p) (l₂:=s.dropWhile p)
  rwa [List.takeWhile_append_dropWhile]at this
theorem drop_tw (p:UInt8→Bool) (s:aj):s.drop (s.takeWhile p).length=s.dropWhile p:=by
  have:=List.drop_left (l₁:=s.takeWhile p) (l₂:=s.dropWhile p)
  rwa [List.takeWhile_append_dropWhile]at this

theorem Nr {R:Type} (s cs:aj) (hs:s.length≤4000000000) (h1:ua cs=true) (h2:cs.length<4294967281) (k:aj→Option R):bY s cs k=k (s.takeWhile (cs.contains ·)):=by
  have e:bY s cs k=zt s cs k:=rfl
  rw[e]
  unfold zt
  have hl:=DR (cs.contains ·) s
  have ht:(bG s cs).length=(s.dropWhile (cs.contains ·)).length:=rfl
  have hw:IntKind.i64.wrap ((s.length:Int) - ((bG s cs).length:Int))=((s.takeWhile (cs.contains ·)).length:Int):=by rw[ht,dE (by omega) (by omega)]; omega
  rw[hw,h1,aS (by rw[br h2]; rfl),aS (by rw[br (by omega),br (by omega)]; rfl),aS (br (by omega)),List.drop_zero,Nat.sub_zero,Int.toNat_natCast,take_tw]

theorem aah (c:UInt8):decide (zg T5 (c.toNat:Int)≥0)=HU c:=by
  have hi:zg T5 (c.toNat:Int)=Go.Lib.indexByte T5 c:=by
    unfold zg
    rw[Int.toNat_natCast]
    simp
  have h:=LC c T5
  rw[hi]
  unfold HU
  cases hc:T5.contains c with
  | true =>
    apply br
    have:¬Go.Lib.indexByte T5 c<0:=fun g=>by rw[h.1 g]at hc; cases hc
    omega
  | false =>
    apply cY
    have:=h.2 hc
    omega

theorem next_ok {R:Type} (s:aj) (hs:s.length≤4000000000) (h0:s ≠ []) (k:Token→Int→Option R) :
    fm s k=match tokS s with|some (t,r)=>k t ((s.length - r.length:Nat):Int)|none=>k ⟨0, [],⟨0,0⟩,0⟩ 0:=by
  have e:fm s k=Bp eN dC bY s k:=rfl
  rw[e]
  unfold Bp
  cases s with
  | nil=>exact (h0 rfl).elim
  | cons c u =>
    have hlen:(c::u:aj).length=u.length+1:=rfl
    have hg:(c::u:aj).getD 0 0=c:=rfl
    simp only[List.length_cons]at hs
    rw[hg,aS (br (by rw[hlen]; omega))]
    simp only
    have q45:((c.toNat:Int)==45)=decide (c.toNat=45):=eqI _ 45
    have q34:((c.toNat:Int)==34)=decide (c.toNat=34):=eqI _ 34
    have l48:decide ((c.toNat:Int)≥48)=decide (48≤c.toNat):=by
      by_cases h:48≤c.toNat
      · rw[br h,br (by omega)]
      · rw[cY h,cY (by omega)]
    have l57:decide ((c.toNat:Int)≤57)=decide (c.toNat≤57):=by
      by_cases h:c.toNat≤57
      · rw[br h,br (by omega)]
      · rw[cY h,cY (by omega)]
    have hsg:decide (zg ([123,125,91,93,44,58]:aj) (c.toNat:Int)≥0)=HU c:=aah c
    have lh:∀p:UInt8→Bool,((c::u).takeWhile p).length≤(c::u).length:=fun p=>by have:=DR p (c::u); omega
    have num:∀k:Token→Int→Option R,bY (c::u) ([48,49,50,51,52,53,54,55,56,57,43,45,46,101,69]:aj) (fun y6=>dC y6 (fun y7 y8=>bif (!y8)then (k (⟨0,([]:aj),⟨0,0⟩,0⟩:Token) 0)else (k (⟨3,y6,⟨y7.aB,y7.exp⟩,0⟩:Token) (y6.length:Int)))) =
        (if (B8 ((c::u).takeWhile Au)).2 then k ⟨3,(c::u).takeWhile Au,(B8 ((c::u).takeWhile Au)).1,0⟩ (((c::u).length - ((c::u).dropWhile Au).length:Nat):Int)else k ⟨0, [],⟨0,0⟩,0⟩ 0):=fun k=>by
      rw[Nr _ _ (by rw[hlen]; omega) rfl (by decide)]
      have e:(c::u).takeWhile (fun x=>List.contains [48,49,50,51,52,53,54,55,56,57,43,45,46,101,69] x)=(c::u).takeWhile Au:=rfl
      have hl:=lh Au
      have hd:=DR Au (c::u)
      rw[e,Pd _ (by omega)]
      have el:(c::u).length - ((c::u).dropWhile Au).length=((c::u).takeWhile Au).length:=by omega
      rw[el]
      cases (B8 ((c::u).takeWhile Au)).2 <;> rfl
    have txt:∀k:Token→Int→Option R,eN (c::u) (fun GG Ha Jn=>bif (!Jn)then (k (⟨0,([]:aj),⟨0,0⟩,0⟩:Token) 0)else (k (⟨2,GG,⟨0,0⟩,0⟩:Token) Ha)) =
        match ZP (c::u)with|some (o,r)=>k ⟨2,o,⟨0,0⟩,0⟩ (((c::u).length - r.length:Nat):Int)|none=>k ⟨0, [],⟨0,0⟩,0⟩ 0:=fun k=>by
      rw[T0 _ (by rw[hlen]; omega)]
      cases hu:ZP (c::u)with
      | none=>rfl
      | some p =>
        obtain ⟨o,r⟩:=p
        obtain ⟨_,hr,_⟩:=Vb hu
        simp only[Bool.not_true,cond_false]
        rw[dE (by omega) (by omega)]
        congr 1
        omega
    have nam:∀k:Token→Int→Option R,bY (c::u) ([97,98,99,100,101,102,103,104,105,106,107,108,109,110,111,112,113,114,115,116,117,118,119,120,121,122]:aj) (fun BZ=>bif (BZ==([116,114,117,101]:aj))then (k (⟨4,BZ,⟨0,0⟩,0⟩:Token) (BZ.length:Int))else (bif (BZ==([102,97,108,115,101]:aj))then (k (⟨4,BZ,⟨0,0⟩,0⟩:Token) (BZ.length:Int))else (bif (!(BZ==([110,117,108,108]:aj)))then (k (⟨0,([]:aj),⟨0,0⟩,0⟩:Token) 0)else (k (⟨4,BZ,⟨0,0⟩,0⟩:Token) (BZ.length:Int))))) =
        (if (c::u).takeWhile zT=sJ∨(c::u).takeWhile zT=ly∨(c::u).takeWhile zT=po then k ⟨4,(c::u).takeWhile zT,⟨0,0⟩,0⟩ (((c::u).length - ((c::u).dropWhile zT).length:Nat):Int)else k ⟨0, [],⟨0,0⟩,0⟩ 0):=fun k=>by
      rw[Nr _ _ (by rw[hlen]; omega) rfl (by decide)]
      have e:(c::u).takeWhile (fun x=>List.contains [97,98,99,100,101,102,103,104,105,106,107,108,109,110,111,112,113,114,115,116,117,118,119,120,121,122] x)=(c::u).takeWhile zT:=rfl
      have hd:=DR zT (c::u)
      have el:(c::u).length - ((c::u).dropWhile zT).length=((c::u).takeWhile zT).length:=by omega
      rw[e,el]
      generalize (c::u).takeWhile zT=w
      have eq:∀a:aj,(w==a)=decide (w=a):=fun a=>by
        by_cases h:w=a
        · rw[br h]; exact beq_iff_eq.2 h
        · rw[cY h]; exact beq_eq_false_iff_ne.2 h
      rw[eq,eq,eq]
      by_cases h1:w=sJ
      · rw[br (show w = [116,114,117,101]from h1),if_pos (.inl h1)]; rfl
      · by_cases h2:w=ly
        · rw[cY (show ¬w = [116,114,117,101]from h1),br (show w = [102,97,108,115,101]from h2),if_pos (.inr (.inl h2))]; rfl
        · by_cases h3:w=po
          · rw[cY (show ¬w = [116,114,117,101]from h1),cY (show ¬w = [102,97,108,115,101]from h2),br (show w = [110,117,108,108]from h3),if_pos (.inr (.inr h3))]; rfl
          · rw[cY (show ¬w = [116,114,117,101]from h1),cY (show ¬w = [102,97,108,115,101]from h2),cY (show ¬w = [110,117,108,108]from h3),if_neg (by rintro (h|h|h); exact h1 h; exact h2 h; exact h3 h)]; rfl
    have sgn1:∀k:Token→Int→Option R,cU (decide ((1:Int)≤((c::u:aj).length:Int))) (k (⟨1,(((c::u:aj).drop 0).take (1 - 0)),⟨0,0⟩,0⟩:Token) 1)=k ⟨1, [c],⟨0,0⟩,0⟩ (((c::u).length - u.length:Nat):Int):=fun k=>by
      have e1:(c::u).length - u.length=1:=by rw[hlen]; omega
      rw[aS (br (by rw[hlen]; omega)),e1]
      rfl
    simp only[tokS]
    rw[q45,q34,l48,l57,hsg]
    by_cases h45:c.toNat=45
    · rw[br h45,cond_true,if_pos (.inl h45)]
      refine (num k).trans ?_
      split <;> rfl
    · rw[cY h45,cond_false]
      have rest:¬(48≤c.toNat∧c.toNat≤57)→(bif decide (c.toNat=34)then eN (c::u) (fun GG Ha Jn=>bif (!Jn)then (k (⟨0,([]:aj),⟨0,0⟩,0⟩:Token) 0)else (k (⟨2,GG,⟨0,0⟩,0⟩:Token) Ha))else (bif HU c then cU (decide ((1:Int)≤((c::u:aj).length:Int))) (k (⟨1,(((c::u:aj).drop 0).take (1 - 0)),⟨0,0⟩,0⟩:Token) 1)else bY (c::u) ([97,98,99,100,101,102,103,104,105,106,107,108,109,110,111,112,113,114,115,116,117,118,119,120,121,122]:aj) (fun BZ=>bif (BZ==([116,114,117,101]:aj))then (k (⟨4,BZ,⟨0,0⟩,0⟩:Token) (BZ.length:Int))else (bif (BZ==([102,97,108,115,101]:aj))then (k (⟨4,BZ,⟨0,0⟩,0⟩:Token) (BZ.length:Int))else (bif (!(BZ==([110,117,108,108]:aj)))then (k (⟨0,([]:aj),⟨0,0⟩,0⟩:Token) 0)else (k (⟨4,BZ,⟨0,0⟩,0⟩:Token) (BZ.length:Int))))))) =
          match (if c.toNat=45∨(48≤c.toNat∧c.toNat≤57)then (if (B8 ((c::u).takeWhile Au)).2 then some (⟨3,(c::u).takeWhile Au,(B8 ((c::u).takeWhile Au)).1,0⟩,(c::u).dropWhile Au)else none)else if c.toNat=34 then (match ZP (c::u)with|some (o,r)=>some (⟨2,o,⟨0,0⟩,0⟩,r)|none=>none)else if HU c then some ((⟨1, [c],⟨0,0⟩,0⟩:Token),u)else if (c::u).takeWhile zT=sJ∨(c::u).takeWhile zT=ly∨(c::u).takeWhile zT=po then some (⟨4,(c::u).takeWhile zT,⟨0,0⟩,0⟩,(c::u).dropWhile zT)else none)with
          | some (t,r)=>k t (((c::u).length - r.length:Nat):Int)|none=>k ⟨0, [],⟨0,0⟩,0⟩ 0:=by
        intro hd
        rw[if_neg (by rintro (h|h); exact h45 h; exact hd h)]
        by_cases Hg:c.toNat=34
        · rw[br Hg,cond_true,if_pos Hg,txt]
          cases ZP (c::u)with
          | none=>rfl
          | some p=>rfl
        · rw[cY Hg,cond_false,if_neg Hg]
          cases hs':HU c with
          | true=>rw[cond_true,sgn1,if_pos rfl]
          | false =>
            rw[cond_false,nam,if_neg (show ¬(false=true) by simp)]
            split <;> rfl
      by_cases XB:48≤c.toNat
      · rw[br XB,cond_true]
        by_cases h57:c.toNat≤57
        · rw[br h57,cond_true,if_pos (.inr ⟨XB,h57⟩)]
          refine (num k).trans ?_
          split <;> rfl
        · rw[cY h57,cond_false]
          exact rest (fun h=>h57 h.2)
      · rw[cY XB,cond_false]
        exact rest (fun h=>XB h.1)

theorem W5 {R:Type} (s:aj) (hs:s.length≤20000) (e0:List Token→Int→Int→Option R) (e1:Int→Int→Option R) (hz:∀a b,e0 [] a b=e1 a b):∀(n p:Nat) (out:List Token),s.length - p<n→p≤s.length→out.length≤p →
    cD n s out (p:Int) e0 e1=e0 (wo n p (s.drop p) out).1 (wo n p (s.drop p) out).2.1 (wo n p (s.drop p) out).2.2:=by
  intro n
  induction n with
  | zero=>intro p out h; omega
  | succ n ih =>
    intro p out h1 h2 h3
    rw[cD]
    unfold yL
    have hsub:∀q:Nat,(s.drop q).take ((s.length:Int).toNat - q)=s.drop q:=fun q=>List.take_of_length_le (by rw[List.length_drop,Int.toNat_natCast]; exact Nat.le_refl _)
    have hl:=DR qT (s.drop p)
    rw[List.length_drop]at hl
    have hdl:(s.drop p).length=s.length - p:=List.length_drop
    rw[aS (by rw[br (by omega),br (by omega)]; rfl),aS (by rw[br (by omega),br (by omega)]; rfl),Int.toNat_natCast p,hsub,Nr _ _ (by omega) rfl (by decide)]
    have eb:(s.drop p).takeWhile (fun x=>List.contains [32,9,10,13] x)=(s.drop p).takeWhile qT:=rfl
    rw[eb]
    have hdd:s.drop (p+((s.drop p).takeWhile qT).length)=(s.drop p).dropWhile qT:=by rw[←drop_tw qT (s.drop p),List.drop_drop]
    have hw:IntKind.i64.wrap ((p:Int)+(((s.drop p).takeWhile qT).length:Int))=((p+((s.drop p).takeWhile qT).length:Nat):Int):=by rw[dE (by omega) (by omega)]; omega
    rw[hw]
    simp only[wo]
    generalize hq:p+((s.drop p).takeWhile qT).length=q at *
    by_cases aai:(s.drop p).dropWhile qT = []
    · have hqe:q=s.length:=by rw[aai]at hl; simp at hl; omega
      have UE:(((q:Nat):Int)==(s.length:Int))=true:=by rw[hqe]; simp
      rw[UE,cond_true,aS (br (by omega)),if_pos aai]
    · have H7:0<((s.drop p).dropWhile qT).length:=List.length_pos_iff.2 aai
      have UE:(((q:Nat):Int)==(s.length:Int))=false:=by rw[beq_eq_false_iff_ne]; omega
      rw[UE,cond_false,aS (by rw[br (by omega),br (by omega)]; rfl),aS (by rw[br (by omega),br (by omega)]; rfl),Int.toNat_natCast q,hsub,hdd,next_ok _ (by omega) aai,if_neg aai]
      cases ht:tokS ((s.drop p).dropWhile qT)with
      | none =>
        have e0':((0:Int)==0)=true:=rfl
        simp only
        rw[e0',cond_true,hz]
      | some x =>
        obtain ⟨t,r⟩:=x
        obtain ⟨f1,f2⟩:=tokS_sfx ht
        have hn:((((s.drop p).dropWhile qT).length - r.length:Nat):Int)≠0:=by omega
        simp only
        rw[beq_eq_false_iff_ne.2 hn,cond_false,aS (br (by omega))]
        have Vt:IntKind.i64.wrap (((q:Nat):Int)+((((s.drop p).dropWhile qT).length - r.length:Nat):Int))=((p+((s.drop p).length - r.length):Nat):Int):=by rw[dE (by omega) (by omega)]; omega
        rw[Vt]
        have hr:s.drop (p+((s.drop p).length - r.length))=r:=by
          have:=Z7 (f1.trans (List.dropWhile_suffix qT))
          rw[←List.drop_drop,←this]
        have key:=ih (p+((s.drop p).length - r.length)) (out ++ [WZ t ((q:Nat):Int)]) (by omega) (by omega) (by simp; omega)
        rw[hr]at key
        exact key

theorem Vd {R:Type} (s:aj) (k:List Token→Int→Int→Option R):dm s k=k (ug s).1 (ug s).2.1 (ug s).2.2:=by
  have e:dm s k=Bq cD s k:=rfl
  rw[e]
  unfold Bq ug
  by_cases h:20000<s.length
  · rw[br (show (s.length:Int)>20000 by omega),cond_true,if_pos h]
  · rw[cY (show ¬(s.length:Int)>20000 by omega),cond_false,if_neg h]
    have key:=W5 (R:=R) s (by omega) (fun y8 y9 yA=>k y8 y9 yA) (fun wE Ak=>k [] wE Ak) (fun _ _=>rfl) (List.length s+List.length ([]:List Token)+Int.natAbs 0+64) 0 [] (by omega) (by omega) (by simp)
    rw[List.drop_zero,Ni _ (s.length+1) 0 s [] (by omega) (by omega)]at key
    exact key
end Go.Proofs.YtmlkkgfenfdndaaGreatDoor

/-
  Functions of the program as pure Lean functions, and the ties; printed by wip/tools/emit.py.
-/
set_option maxRecDepth 100000
namespace Go.Proofs.YtmlkkgfenfdndaaGreatDoor
open Go Go.ay

/-! ### (*humpyard/json.parser).fail -/
abbrev bX (R:Type):Type:=Int→(List Token)→Int→((List Token)→Int→Option R)→Option R
abbrev gv:List bO := [.leaf (.ptr 0 0), .leaf (.int .i64)]
abbrev gw:List aH := [.cells [.sl .token, .int .i64]]
noncomputable def j4 {R:Type} (fn:bX R):bO.av gv→aH.av gw→(V→az→Option R)→Option R:=fun x y k=>fn x.2.1 y.1.1 y.1.2.1 (fun q0 q1=>k (.tuple []) [.cells [.sl .token q0 .no, .int .i64 q1]])
noncomputable def nt (R:Type):Env R:=fun i=>match i with
  | _=>none
theorem Cw (R:Type):p8 Tryz.prog (nt R):=by
  intro i b sp h
  unfold nt at h
  split at h
  · cases h

noncomputable def wv (R:Type):Nat→Option (Hint × cq R):=fun i=>match i with
  | _=>none

noncomputable def wx {R:Type} (x1:Int) (x2:List Token) (x3:Int) (k0:(List Token)→Int→Option R):Option R :=
  bif (x3==0)then (k0 x2 x1)else (k0 x2 x3)
noncomputable def ak {R:Type}:bX R:=fun x1 x2 x3 k0=>wx x1 x2 x3 k0
theorem C8 {R:Type} (x1:Int) (x2:List Token) (x3:Int) (k:V→az→Option R):iQ (tt.mode [.json]) (nt R) (wv R) false Tryz.f43 (aK Tryz.f43) [.ptr 0 0, .int .i64 x1] [.cells [.sl .token x2 .no, .int .i64 x3]] k =
    wx x1 x2 x3 (fun q0 q1=>k (.tuple []) [.cells [.sl .token q0 .no, .int .i64 q1]]):=by kernel_rfl
theorem Bx (R:Type):∀a∈aP (aK Tryz.f43),cO (tt.mode [.json]) (nt R) (wv R) 1 a:=by
  refine bH 0 (by kernel_rfl) fun i hi => ?_
  omega
theorem lz (R:Type) (other:ay.Spec R) (ho:ay.Spec.Ok Tryz.prog 43 other):ay.Spec.Ok Tryz.prog 43 (aA gv gw (j4 ak) other) :=
  bw ho (bk (TT.mode [.json]) mixed (Cw R) (keep:=false) rfl rfl rfl rfl 1 (Bx R)) fun (x:bO.av gv) (y:aH.av gw) k=>C8 x.2.1 y.1.1 y.1.2.1 k

/-! ### (*humpyard/json.parser).sign -/
abbrev dn (R:Type):Type:=aj→(List Token)→Int→(Bool→(List Token)→Int→Option R)→Option R
abbrev kH:List bO := [.leaf (.ptr 0 0), .leaf (.str)]
abbrev kI:List aH := [.cells [.sl .token, .int .i64]]
noncomputable def pM {R:Type} (fn:dn R):bO.av kH→aH.av kI→(V→az→Option R)→Option R:=fun x y k=>fn x.2.1 y.1.1 y.1.2.1 (fun q0 q1 q2=>k (.bool q0) [.cells [.sl .token q1 .no, .int .i64 q2]])
noncomputable def nu (R:Type):Env R:=fun i=>match i with
  | _=>none
theorem Cx (R:Type):p8 Tryz.prog (nu R):=by
  intro i b sp h
  unfold nu at h
  split at h
  · cases h

noncomputable def wy (R:Type):Nat→Option (Hint × cq R):=fun i=>match i with
  | _=>none

noncomputable def wz {R:Type} (x1:aj) (x2:List Token) (x3:Int) (k0:Bool→(List Token)→Int→Option R):Option R :=
  cU (decide ((0:Int)<x2.length)) (bif (x3 != 0)then (k0 false x2 x3)else (bif ((x2.getD 0 (Ty.ck .token)).kind != 1)then (k0 false x2 x3)else (bif (!((x2.getD 0 (Ty.ck .token)).text==x1))then (k0 false x2 x3)else (cU (decide ((1:Int)≤x2.length)) (k0 true (x2.drop 1) x3)))))
noncomputable def aq {R:Type}:dn R:=fun x1 x2 x3 k0=>wz x1 x2 x3 k0
theorem C9 {R:Type} (x1:aj) (x2:List Token) (x3:Int) (k:V→az→Option R):iQ (tt.mode [.json]) (nu R) (wy R) false Tryz.f122 (aK Tryz.f122) [.ptr 0 0, .str x1] [.cells [.sl .token x2 .no, .int .i64 x3]] k =
    wz x1 x2 x3 (fun q0 q1 q2=>k (.bool q0) [.cells [.sl .token q1 .no, .int .i64 q2]]):=by kernel_rfl
theorem By (R:Type):∀a∈aP (aK Tryz.f122),cO (tt.mode [.json]) (nu R) (wy R) 1 a:=by
  refine bH 0 (by kernel_rfl) fun i hi => ?_
  omega
theorem tB (R:Type) (other:ay.Spec R) (ho:ay.Spec.Ok Tryz.prog 122 other):ay.Spec.Ok Tryz.prog 122 (aA kH kI (pM aq) other) :=
  bw ho (bk (TT.mode [.json]) mixed (Cx R) (keep:=false) rfl rfl rfl rfl 1 (By R)) fun (x:bO.av kH) (y:aH.av kI) k=>C9 x.2.1 y.1.1 y.1.2.1 k

/-! ### slices.Index[[]string,string] -/
abbrev gW (R:Type):Type:=(List aj)→aj→(Int→Option R)→Option R
abbrev kX:List bO := [.leaf (.sl .str), .leaf (.str)]
abbrev kY:List aH := []
noncomputable def sc {R:Type} (fn:gW R):bO.av kX→aH.av kY→(V→az→Option R)→Option R:=fun x y k=>fn x.1 x.2.1 (fun q0=>k (.int .i64 q0) [])
abbrev eJ (R:Type):Type:=Nat→(List aj)→aj→Int→Int→(Option R)→(Int→Option R)→Option R
noncomputable def eY (R:Type):Env R:=fun i=>match i with
  | _=>none
theorem zY (R:Type):p8 Tryz.prog (eY R):=by
  intro i b sp h
  unfold eY at h
  split at h
  · cases h

noncomputable def iM {R:Type} (fH:(List aj)→aj→Int→Int→Option R) (x3:List aj) (x4:aj) (x5:Int) (x6:Int) (e0:Option R) (e1:Int→Option R):Option R :=
  bif (decide (x6<x5))then (cU (decide ((0:Int)≤x6)&&decide (x6<x3.length)) (bif (x4==(x3.getD x6.toNat (Ty.ck .str)))then (e1 x6)else (fH x3 x4 x5 (IntKind.i64.wrap (x6+1)))))else (e0)
noncomputable def aX {R:Type}:eJ R
  | 0,_,_,_,_,_,_=>none
  | n+1,lP,lQ,my,tO,e0,e1=>iM (fun lP lQ my tO=>aX n lP lQ my tO e0 e1) lP lQ my tO e0 e1
noncomputable def iN:Hint := { live := [0,1,7,8],own := [],rows := [],cells := [],drop := [],out := [4] }
abbrev dq:Type:=(List aj) × aj × Int × Int
noncomputable def hH:dq→St:=fun d=>⟨[.sl .str d.1 .no, .str d.2.1, .undef, .undef, .undef, .undef, .undef, .int .i64 d.2.2.1, .int .i64 d.2.2.2, .undef, .undef, .undef, .undef, .undef, .undef, .undef, .undef, .undef, .undef], []⟩
noncomputable def lA {R:Type} (K:Ex→St→Option R):Option R:=K (.exit 0) ⟨[.undef, .undef, .undef, .undef, .undef, .undef, .undef, .undef, .undef, .undef, .undef, .undef, .undef, .undef, .undef, .undef, .undef, .undef, .undef], []⟩
noncomputable def lB {R:Type} (K:Ex→St→Option R) (q0:Int):Option R:=K (.ret) ⟨[.undef, .undef, .undef, .undef, .int .i64 q0, .undef, .undef, .undef, .undef, .undef, .undef, .undef, .undef, .undef, .undef, .undef, .undef, .undef, .undef], []⟩
noncomputable def lZ {R:Type} (K:Ex→St→Option R) (rc:dq→Option R) (d:dq):Option R:=iM (fun z0 z1 z2 z3=>rc (z0,z1,z2,z3)) d.1 d.2.1 d.2.2.1 d.2.2.2 (lA K) (lB K)
noncomputable def eU {R:Type} (K:Ex→St→Option R) (n:Nat) (d:dq):Option R:=aX n d.1 d.2.1 d.2.2.1 d.2.2.2 (lA K) (lB K)
abbrev dt:List bO := [.leaf (.sl .str), .leaf (.str), .leaf (.undef), .leaf (.undef), .leaf (.undef), .leaf (.undef), .leaf (.undef), .leaf (.int .i64), .leaf (.int .i64), .leaf (.undef), .leaf (.undef), .leaf (.undef), .leaf (.undef), .leaf (.undef), .leaf (.undef), .leaf (.undef), .leaf (.undef), .leaf (.undef), .leaf (.undef)]
abbrev du:List aH := []
noncomputable def l0 (x:bO.av dt) (y:aH.av du):Nat:=(List.length x.1+List.length x.2.1+Int.natAbs x.2.2.2.2.2.2.2.1+Int.natAbs x.2.2.2.2.2.2.2.2.1+64)
noncomputable def l7 (x:bO.av dt) (y:aH.av du):dq:=(x.1,x.2.1,x.2.2.2.2.2.2.2.1,x.2.2.2.2.2.2.2.2.1)
noncomputable def lC {R:Type} (L:eJ R):bO.av dt→aH.av du→(Ex→St→Option R)→Option R:=fun x y K=>L (l0 x y) x.1 x.2.1 x.2.2.2.2.2.2.2.1 x.2.2.2.2.2.2.2.2.1 (lA K) (lB K)
noncomputable def iC (R:Type) (aX:eJ R):Nat→Option (Hint × cq R):=fun i=>match i with
  | 2=>some (iN,(gq dt du (lC aX) qx))
  | _=>none

theorem vZ {R:Type} (aX:eJ R) (K:Ex→St→Option R) (rc:St→Option R) (d:dq):roundOf tt (eY R) (iC R aX) 0 ((aP (aK Tryz.f142)).getD 0 .skip) iN (hH d) rc K=lZ K (fun d=>rc (hH d)) d:=by kernel_rfl
theorem uL {R:Type} (K:Ex→St→Option R) (n:Nat) (d:dq):eU K (n+1) d=lZ K (eU K n) d:=by kernel_rfl
theorem uM {R:Type} (K:Ex→St→Option R) (d:dq):eU K 0 d=none:=by kernel_rfl
theorem v7 (x:bO.av dt) (y:aH.av du):(⟨bO.cQ dt x,aH.cQ du y⟩:St)=hH (l7 x y):=by kernel_rfl
theorem v8 {R:Type} (x:bO.av dt) (y:aH.av du) (K:Ex→St→Option R):lC (aX) x y K=eU K (l0 x y) (l7 x y):=by kernel_rfl
theorem xH {R:Type} (other:cq R) (ho:o0 tt (eY R) (iC R aX) 0 ((aP (aK Tryz.f142)).getD 0 .skip) iN other):o0 tt (eY R) (iC R aX) 0 ((aP (aK Tryz.f142)).getD 0 .skip) iN (gq dt du (lC (aX)) other) :=
  gL (A:=eU) ho (kr hH (lZ) (eU) (uM) (vZ aX) (uL)) l0 l7 v7 (v8)

noncomputable def sK {R:Type} (aX:eJ R) (x1:List aj) (x2:aj) (k0:Int→Option R):Option R :=
  aX (List.length x1+List.length x2+Int.natAbs (x1.length:Int)+Int.natAbs 0+64) x1 x2 (x1.length:Int) 0 (k0 (-1)) (fun y7=>k0 y7)
noncomputable def cT {R:Type}:gW R:=fun x1 x2 k0=>sK aX x1 x2 k0
theorem Av {R:Type} (aX:eJ R) (x1:List aj) (x2:aj) (k:V→az→Option R):iQ tt (eY R) (iC R aX) false Tryz.f142 (aK Tryz.f142) [.sl .str x1 .no, .str x2] [] k =
    sK aX x1 x2 (fun q0=>k (.int .i64 q0) []):=by kernel_rfl
theorem yb (R:Type):∀a∈aP (aK Tryz.f142),cO tt (eY R) (iC R aX) 0 a:=by
  refine bH 1 (by kernel_rfl) fun i hi => ?_
  match i,hi with
  | 0,_=>exact fG (by kernel_rfl) (xH _ jc)
  | n+1,hi=>omega
theorem yP (R:Type) (other:ay.Spec R) (ho:ay.Spec.Ok Tryz.prog 142 other):ay.Spec.Ok Tryz.prog 142 (aA kX kY (sc cT) other) :=
  bw ho (bk TT mixed (zY R) (keep:=false) rfl rfl rfl rfl 0 (yb R)) fun (x:bO.av kX) (y:aH.av kY) k=>Av aX x.1 x.2.1 k

/-! ### slices.Contains[[]string,string] -/
abbrev gh (R:Type):Type:=(List aj)→aj→(Bool→Option R)→Option R
abbrev jy:List bO := [.leaf (.sl .str), .leaf (.str)]
abbrev jz:List aH := []
noncomputable def pY {R:Type} (fn:gh R):bO.av jy→aH.av jz→(V→az→Option R)→Option R:=fun x y k=>fn x.1 x.2.1 (fun q0=>k (.bool q0) [])
noncomputable def jA (R:Type) (cT:gW R):Env R:=fun i=>match i with
  | 142=>some (true,(aA kX kY (sc cT) bg))
  | _=>none
theorem xI (R:Type):p8 Tryz.prog (jA R cT):=by
  intro i b sp h
  unfold jA at h
  split at h
  · cases h; exact ⟨(yP R _ (aO _)),fun h=>nomatch h⟩
  · cases h

noncomputable def qJ (R:Type):Nat→Option (Hint × cq R):=fun i=>match i with
  | _=>none

noncomputable def qK {R:Type} (cT:gW R) (x1:List aj) (x2:aj) (k0:Bool→Option R):Option R :=
  cT x1 x2 (fun y3=>k0 (decide (y3≥(0:Int))))
noncomputable def bR {R:Type}:gh R:=fun x1 x2 k0=>qK cT x1 x2 k0
theorem yc {R:Type} (cT:gW R) (x1:List aj) (x2:aj) (k:V→az→Option R):iQ tt (jA R cT) (qJ R) false Tryz.f123 (aK Tryz.f123) [.sl .str x1 .no, .str x2] [] k =
    qK cT x1 x2 (fun q0=>k (.bool q0) []):=by kernel_rfl
theorem wa (R:Type):∀a∈aP (aK Tryz.f123),cO tt (jA R cT) (qJ R) 0 a:=by
  refine bH 0 (by kernel_rfl) fun i hi => ?_
  omega
theorem wO (R:Type) (other:ay.Spec R) (ho:ay.Spec.Ok Tryz.prog 123 other):ay.Spec.Ok Tryz.prog 123 (aA jy jz (pY bR) other) :=
  bw ho (bk TT mixed (xI R) (keep:=false) rfl rfl rfl rfl 0 (wa R)) fun (x:bO.av jy) (y:aH.av jz) k=>yc cT x.1 x.2.1 k

/-! ### (*humpyard/json.parser).name -/
abbrev j7 (R:Type):Type:=(List aj)→(List Token)→Int→(aj→(List Token)→Int→Option R)→Option R
abbrev nv:List bO := [.leaf (.ptr 0 0), .leaf (.NQ .str 1)]
abbrev nA:List aH := [.cells [.sl .token, .int .i64], .tok]
noncomputable def vg {R:Type} (fn:j7 R):bO.av nv→aH.av nA→(V→az→Option R)→Option R:=fun x y k=>fn x.2.1 y.1.1 y.1.2.1 (fun q0 q1 q2=>k (.str q0) [.cells [.sl .token q1 .no, .int .i64 q2], .tok])
noncomputable def nB (R:Type) (ak:bX R) (aq:dn R) (bR:gh R):Env R:=fun i=>match i with
  | 43=>some (false,(aA gv gw (j4 ak) bg))
  | 122=>some (false,(aA kH kI (pM aq) bg))
  | 123=>some (true,(aA jy jz (pY bR) bg))
  | _=>none
theorem Cy (R:Type):p8 Tryz.prog (nB R ak aq bR):=by
  intro i b sp h
  unfold nB at h
  split at h
  · cases h; exact ⟨(lz R _ (aO _)),fun _ h=>nomatch h⟩
  · cases h; exact ⟨(tB R _ (aO _)),fun _ h=>nomatch h⟩
  · cases h; exact ⟨(wO R _ (aO _)),fun h=>nomatch h⟩
  · cases h

noncomputable def wA (R:Type):Nat→Option (Hint × cq R):=fun i=>match i with
  | _=>none

noncomputable def wB {R:Type} (ak:bX R) (aq:dn R) (bR:gh R) (x1:List aj) (x2:List Token) (x3:Int) (k0:aj→(List Token)→Int→Option R):Option R :=
  cU (decide ((0:Int)<x2.length)) (bif ((x2.getD 0 (Ty.ck .token)).kind != 2)then (ak 40 x2 x3 (fun y4 y5=>k0 ((x2.getD 0 (Ty.ck .token)).text) y4 y5))else (bR x1 ((x2.getD 0 (Ty.ck .token)).text) (fun y6=>bif y6 then (ak 42 x2 x3 (fun y7 y8=>k0 ((x2.getD 0 (Ty.ck .token)).text) y7 y8))else (cU (decide ((1:Int)≤x2.length)) (aq ([58]:aj) (x2.drop 1) x3 (fun y9 yA wE=>bif (!y9)then (ak 40 yA wE (fun Ak DB=>k0 ((x2.getD 0 (Ty.ck .token)).text) Ak DB))else (k0 ((x2.getD 0 (Ty.ck .token)).text) yA wE)))))))
noncomputable def cB {R:Type}:j7 R:=fun x1 x2 x3 k0=>wB ak aq bR x1 x2 x3 k0
theorem Da {R:Type} (ak:bX R) (aq:dn R) (bR:gh R) (x1:List aj) (x2:List Token) (x3:Int) (k:V→az→Option R):iQ (tt.mode [.json]) (nB R ak aq bR) (wA R) false Tryz.f90 (aK Tryz.f90) [.ptr 0 0, .sl .str x1 (.own 1)] [.cells [.sl .token x2 .no, .int .i64 x3], .tok] k =
    wB ak aq bR x1 x2 x3 (fun q0 q1 q2=>k (.str q0) [.cells [.sl .token q1 .no, .int .i64 q2], .tok]):=by kernel_rfl
theorem Bz (R:Type):∀a∈aP (aK Tryz.f90),cO (tt.mode [.json]) (nB R ak aq bR) (wA R) 2 a:=by
  refine bH 0 (by kernel_rfl) fun i hi => ?_
  omega
theorem Ca (R:Type) (other:ay.Spec R) (ho:ay.Spec.Ok Tryz.prog 90 other):ay.Spec.Ok Tryz.prog 90 (aA nv nA (vg cB) other) :=
  bw ho (bk (TT.mode [.json]) mixed (Cy R) (keep:=false) rfl rfl rfl rfl 2 (Bz R)) fun (x:bO.av nv) (y:aH.av nA) k=>Da ak aq bR x.2.1 y.1.1 y.1.2.1 k

end Go.Proofs.YtmlkkgfenfdndaaGreatDoor

