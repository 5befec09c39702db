/-
  TopTexts: for every input whose bulk is at most 1048576 the law returns true, and each argument reads behind the call as it read before; part 7 of 8 of the proof: an interpreter of the model's code over typed data, proved sound; the functions that the law reaches, printed as Lean functions and tied; the plain law. Own texts laid one behind the other.
-/
import Derived.Test.YtmlkkgfenfdndaaGreatDoorTopTextsB6
set_option linter.unusedSimpArgs false
set_option linter.unnecessarySimpa false
set_option linter.unusedVariables false
set_option linter.unusedSectionVars false
noncomputable section
/-
 Functions of the program as pure Lean functions, and the ties; printed by wip/tools/emit.py.
-/
set_option maxRecDepth 100000
namespace Go.Proofs.YtmlkkgfenfdndaaGreatDoor
open Go Go.aF

/-! ### internal/strconv.underscoreOK -/
abbrev dH (R:Type):Type:=aj→(Bool→Option R)→Option R
abbrev kP:List ck := [.leaf (.str)]
abbrev kQ:List aN := []
def oy {R:Type} (fn:dH R):ck.aH kP→aN.aH kQ→(V→aG→Option R)→Option R:=fun x y k=>fn x.1 (fun q0=>k (.bool q0) [])
def o7 {R:Type} (fn:dH R):aF.Spec R→aF.Spec R:=bj kP kQ (oy fn)
abbrev dD (R:Type):Type:=Nat→aj→Int→Int→Bool→(Int→Option R)→(Bool→Int→Option R)→Option R
def eN {R:Type} (internal_strconv_lower:bP R):List (uI R) := [(176,true,(oQ internal_strconv_lower aZ))]
theorem vQ {R:Type}:eU (R:=R) Tryz.prog (eN internal_strconv_lower) := .p (rI R _ (aK _)) <| .n
def mv {R:Type} (internal_strconv_lower:bP R) (fC:aj→Int→Int→Bool→Option R) (pc:aj) (sA:Int) (lX:Int) (sB:Bool) (e0:Int→Option R) (e1:Bool→Int→Option R):Option R :=
 bif (decide (lX<(pc.length:Int)))then (cw (decide ((0:Int)≤lX)&&decide (lX<pc.length)) (bif (decide ((48:Int)≤((pc.getD lX.toNat 0).toNat:Int)))then (cw (decide ((0:Int)≤lX)&&decide (lX<pc.length)) (bif (decide (((pc.getD lX.toNat 0).toNat:Int)≤(57:Int)))then (fC pc 48 (IntKind.i64.wrap (lX+1)) sB)else (bif sB then (cw (decide ((0:Int)≤lX)&&decide (lX<pc.length)) (internal_strconv_lower ((pc.getD lX.toNat 0).toNat:Int) (fun PS=>bif (decide ((97:Int)≤PS))then (cw (decide ((0:Int)≤lX)&&decide (lX<pc.length)) (internal_strconv_lower ((pc.getD lX.toNat 0).toNat:Int) (fun Nb=>bif (decide (Nb≤(102:Int)))then (fC pc 48 (IntKind.i64.wrap (lX+1)) sB)else (cw (decide ((0:Int)≤lX)&&decide (lX<pc.length)) (bif (((pc.getD lX.toNat 0).toNat:Int)==95)then (bif (sA != 48)then (e1 false sA)else (fC pc 95 (IntKind.i64.wrap (lX+1)) sB))else (bif (sA==95)then (e1 false sA)else (fC pc 33 (IntKind.i64.wrap (lX+1)) sB)))))))else (cw (decide ((0:Int)≤lX)&&decide (lX<pc.length)) (bif (((pc.getD lX.toNat 0).toNat:Int)==95)then (bif (sA != 48)then (e1 false sA)else (fC pc 95 (IntKind.i64.wrap (lX+1)) sB))else (bif (sA==95)then (e1 false sA)else (fC pc 33 (IntKind.i64.wrap (lX+1)) sB)))))))else (cw (decide ((0:Int)≤lX)&&decide (lX<pc.length)) (bif (((pc.getD lX.toNat 0).toNat:Int)==95)then (bif (sA != 48)then (e1 false sA)else (fC pc 95 (IntKind.i64.wrap (lX+1)) sB))else (bif (sA==95)then (e1 false sA)else (fC pc 33 (IntKind.i64.wrap (lX+1)) sB)))))))else (bif sB then (cw (decide ((0:Int)≤lX)&&decide (lX<pc.length)) (internal_strconv_lower ((pc.getD lX.toNat 0).toNat:Int) (fun A7=>bif (decide ((97:Int)≤A7))then (cw (decide ((0:Int)≤lX)&&decide (lX<pc.length)) (internal_strconv_lower ((pc.getD lX.toNat 0).toNat:Int) (fun Tr=>bif (decide (Tr≤(102:Int)))then (fC pc 48 (IntKind.i64.wrap (lX+1)) sB)else (cw (decide ((0:Int)≤lX)&&decide (lX<pc.length)) (bif (((pc.getD lX.toNat 0).toNat:Int)==95)then (bif (sA != 48)then (e1 false sA)else (fC pc 95 (IntKind.i64.wrap (lX+1)) sB))else (bif (sA==95)then (e1 false sA)else (fC pc 33 (IntKind.i64.wrap (lX+1)) sB)))))))else (cw (decide ((0:Int)≤lX)&&decide (lX<pc.length)) (bif (((pc.getD lX.toNat 0).toNat:Int)==95)then (bif (sA != 48)then (e1 false sA)else (fC pc 95 (IntKind.i64.wrap (lX+1)) sB))else (bif (sA==95)then (e1 false sA)else (fC pc 33 (IntKind.i64.wrap (lX+1)) sB)))))))else (cw (decide ((0:Int)≤lX)&&decide (lX<pc.length)) (bif (((pc.getD lX.toNat 0).toNat:Int)==95)then (bif (sA != 48)then (e1 false sA)else (fC pc 95 (IntKind.i64.wrap (lX+1)) sB))else (bif (sA==95)then (e1 false sA)else (fC pc 33 (IntKind.i64.wrap (lX+1)) sB)))))))else (e0 sA)
def ax {R:Type}:dD R
 | 0,_,_,_,_,_,_=>none
 | n+1,kN,kO,lN,th,e0,e1=>mv internal_strconv_lower (fun kN kO lN th=>ax n kN kO lN th e0 e1) kN kO lN th e0 e1
def fP:Hint := { live := [0,3,4,5],own := [],rows := [],cells := [],drop := [],out := [2,3] }
abbrev cD:Type:=aj × Int × Int × Bool
def fB:cD→St:=fun d=>⟨.str d.1::U 2 (.int .i32 d.2.1 :: .int .i64 d.2.2.1 :: .bool d.2.2.2::U 88 ([])), []⟩
def iw {R:Type} (K:Ex→St→Option R) (q0:Int):Option R:=K (.exit 0) ⟨U 3 (.int .i32 q0::U 90 ([])), []⟩
def iz {R:Type} (K:Ex→St→Option R) (q0:Bool) (q1:Int):Option R:=K (.ret) ⟨U 2 (.bool q0 :: .int .i32 q1::U 90 ([])), []⟩
def iH {R:Type} (internal_strconv_lower:bP R) (K:Ex→St→Option R) (rc:cD→Option R) (d:cD):Option R:=mv internal_strconv_lower (fun z0 z1 z2 z3=>rc (z0,z1,z2,z3)) d.1 d.2.1 d.2.2.1 d.2.2.2 (iw K) (iz K)
def dL {R:Type} (K:Ex→St→Option R) (n:Nat) (d:cD):Option R:=ax n d.1 d.2.1 d.2.2.1 d.2.2.2 (iw K) (iz K)
abbrev cE:List ck := .leaf (.str)::PU 2 (.leaf (.int .i32) :: .leaf (.int .i64) :: .leaf (.bool)::PU 88 ([]))
abbrev cF:List aN := []
def iI (x:ck.aH cE) (y:aN.aH cF):Nat:=(List.length x.1+Int.natAbs x.2.2.2.1+Int.natAbs x.2.2.2.2.1+64)
def iJ (x:ck.aH cE) (y:aN.aH cF):cD:=(x.1,x.2.2.2.1,x.2.2.2.2.1,x.2.2.2.2.2.1)
def iA {R:Type} (L:dD R):ck.aH cE→aN.aH cF→(Ex→St→Option R)→Option R:=fun x y K=>L (iI x y) x.1 x.2.2.2.1 x.2.2.2.2.1 x.2.2.2.2.2.1 (iw K) (iz K)
def fH (R:Type) (ax:dD R):Nat→Option (Hint × eJ R):=fun i=>match i with
 | 10=>some (fP,(fQ cE cF (iA ax) pr))
 | _=>none

theorem rW {R:Type} (internal_strconv_lower:bP R) (ax:dD R) (K:Ex→St→Option R) (rc:St→Option R) (d:cD):roundOf tt (fV (eN internal_strconv_lower)) (fH R ax) 0 ((br (bb Tryz.f177)).getD 0 .skip) fP (fB d) rc K=iH internal_strconv_lower K (fun d=>rc (fB d)) d:=by kernel_rfl
theorem qH {R:Type} (K:Ex→St→Option R) (n:Nat) (d:cD):dL K (n+1) d=iH internal_strconv_lower K (dL K n) d:=by kernel_rfl
theorem qI {R:Type} (K:Ex→St→Option R) (d:cD):dL K 0 d=none:=by kernel_rfl
theorem rX (x:ck.aH cE) (y:aN.aH cF):(⟨ck.cz cE x,aN.cz cF y⟩:St)=fB (iJ x y):=by kernel_rfl
theorem rY {R:Type} (x:ck.aH cE) (y:aN.aH cF) (K:Ex→St→Option R):iA (ax) x y K=dL K (iI x y) (iJ x y):=by kernel_rfl
theorem sP {R:Type} (other:eJ R) (ho:oa tt (fV (eN internal_strconv_lower)) (fH R ax) 0 ((br (bb Tryz.f177)).getD 0 .skip) fP other):oa tt (fV (eN internal_strconv_lower)) (fH R ax) 0 ((br (bb Tryz.f177)).getD 0 .skip) fP (fQ cE cF (iA (ax)) other) :=
 gd (A:=dL) ho (jt fB (iH internal_strconv_lower) (dL) (qI) (rW internal_strconv_lower ax) (qH)) iI iJ rX (rY)

def o8 {R:Type} (internal_strconv_lower:bP R) (ax:dD R) (x1:aj) (k0:Bool→Option R):Option R :=
 let j46:=fun (z3:aj)=>bif (decide ((z3.length:Int)≥(2:Int)))then (cw (decide ((0:Int)<z3.length)) (bif (((z3.getD 0 0).toNat:Int)==48)then (cw (decide ((1:Int)<z3.length)) (internal_strconv_lower ((z3.getD 1 0).toNat:Int) (fun y4=>bif (y4==98)then (cw (decide ((1:Int)<z3.length)) (internal_strconv_lower ((z3.getD 1 0).toNat:Int) (fun y9=>ax (List.length z3+Int.natAbs 48+Int.natAbs 2+64) z3 48 2 (y9==120) (fun IU=>k0 (IU != 95)) (fun NC M9=>k0 NC))))else (cw (decide ((1:Int)<z3.length)) (internal_strconv_lower ((z3.getD 1 0).toNat:Int) (fun y5=>bif (y5==111)then (cw (decide ((1:Int)<z3.length)) (internal_strconv_lower ((z3.getD 1 0).toNat:Int) (fun xD=>ax (List.length z3+Int.natAbs 48+Int.natAbs 2+64) z3 48 2 (xD==120) (fun PN=>k0 (PN != 95)) (fun Na y33=>k0 Na))))else (cw (decide ((1:Int)<z3.length)) (internal_strconv_lower ((z3.getD 1 0).toNat:Int) (fun y6=>bif (y6==120)then (cw (decide ((1:Int)<z3.length)) (internal_strconv_lower ((z3.getD 1 0).toNat:Int) (fun vu=>ax (List.length z3+Int.natAbs 48+Int.natAbs 2+64) z3 48 2 (vu==120) (fun y34=>k0 (y34 != 95)) (fun y35 Xd=>k0 y35))))else (ax (List.length z3+Int.natAbs 94+Int.natAbs 0+64) z3 94 0 false (fun Tu=>k0 (Tu != 95)) (fun Wp Xe=>k0 Wp)))))))))))else (ax (List.length z3+Int.natAbs 94+Int.natAbs 0+64) z3 94 0 false (fun Xf=>k0 (Xf != 95)) (fun Xg Ov=>k0 Xg))))else (ax (List.length z3+Int.natAbs 94+Int.natAbs 0+64) z3 94 0 false (fun Rs=>k0 (Rs != 95)) (fun Rt Xh=>k0 Rt)); bif (decide ((x1.length:Int)≥(1:Int)))then (cw (decide ((0:Int)<x1.length)) (bif (((x1.getD 0 0).toNat:Int)==45)then (cw (decide ((0:Int)≤(x1.length:Int))&&decide ((x1.length:Int)≤x1.length)) (cw (decide ((1:Int)≤(x1.length:Int))) (j46 ((x1.drop 1).take ((x1.length:Int).toNat - 1)))))else (cw (decide ((0:Int)<x1.length)) (bif (((x1.getD 0 0).toNat:Int)==43)then (cw (decide ((0:Int)≤(x1.length:Int))&&decide ((x1.length:Int)≤x1.length)) (cw (decide ((1:Int)≤(x1.length:Int))) (j46 ((x1.drop 1).take ((x1.length:Int).toNat - 1)))))else (j46 x1)))))else (j46 x1)
def bm {R:Type}:dH R:=fun x1 k0=>o8 internal_strconv_lower ax x1 k0
theorem wF {R:Type} (internal_strconv_lower:bP R) (ax:dD R):gR (R:=R) tt (eN internal_strconv_lower) (fH R ax) false Tryz.f177 (bb Tryz.f177) kP kQ (oy (o8 internal_strconv_lower ax)):=fun x y k=>by kernel_rfl
theorem ui (R:Type):∀a∈br (bb Tryz.f177),lM tt (fV (eN internal_strconv_lower)) (fH R ax) 0 a:=by
 refine kZ 1 (by kernel_rfl) fun i hi => ?_
 match i,hi with
 | 0,_=>exact fm (by kernel_rfl) (sP _ ia)
 | n+1,hi=>omega
theorem ve (R:Type):rR Tryz.prog 177 (o7 (bm (R:=R))):=cQ TT mixed (vQ (R:=R)) rfl rfl rfl rfl (ui R) (wF internal_strconv_lower ax)

/-! ### internal/strconv.ParseUint -/
abbrev eZ (R:Type):Type:=aj→Int→Int→(Int→Option R)→(Int→Option R)→(Int→Option R)→(Int→Option R)→(Int→Option R)→Option R
abbrev mh:List ck := [.leaf (.str), .leaf (.int .i64), .leaf (.int .i64)]
abbrev mi:List aN := []
def p8 {R:Type} (fn:eZ R):ck.aH mh→aN.aH mi→(V→aG→Option R)→Option R:=fun x y k=>fn x.1 x.2.1 x.2.2.1 (fun q0=>k (.tuple [.int .u64 q0, .GC 184 .i64 2]) []) (fun q0=>k (.tuple [.int .u64 q0, .GC 184 .i64 3]) []) (fun q0=>k (.tuple [.int .u64 q0, .GC 184 .i64 4]) []) (fun q0=>k (.tuple [.int .u64 q0, .GC 184 .i64 1]) []) (fun q0=>k (.tuple [.int .u64 q0, .dv]) [])
def qJ {R:Type} (fn:eZ R):aF.Spec R→aF.Spec R:=bj mh mi (p8 fn)
abbrev dT (R:Type):Type:=Nat→Int→Bool→aj→Int→Int→Bool→Int→Nat→Int→Int→(List Int)→(aj→Bool→Int→Option R)→(Int→aj→Bool→Int→Option R)→(Int→aj→Bool→Int→Option R)→(Int→aj→Bool→Option R)→Option R
def ff {R:Type} (internal_strconv_lower:bP R) (bm:dH R):List (uI R) := [(176,true,(oQ internal_strconv_lower aZ)),(177,true,(o7 bm aZ))]
theorem xL {R:Type}:eU (R:=R) Tryz.prog (ff internal_strconv_lower bm) := .p (rI R _ (aK _)) <| .p (ve R _ (aK _)) <| .n
def dB {R:Type} (internal_strconv_lower:bP R) (fC:Int→Bool→aj→Int→Int→Bool→Int→Nat→Int→Int→(List Int)→Option R) (zG:Int) (x21:Bool) (x22:aj) (x23:Int) (Xi:Int) (Xj:Bool) (Qd:Int) (x27:Nat) (x28:Int) (Ip:Int) (UJ:List Int) (e0:aj→Bool→Int→Option R) (e1:Int→aj→Bool→Int→Option R) (e2:Int→aj→Bool→Int→Option R) (e3:Int→aj→Bool→Option R):Option R :=
 bif (decide (Ip<x28))then (cw (decide ((0:Int)≤Ip)&&decide (Ip<x27)) (cw (decide (Ip.toNat<UJ.length)) (let j42:=fun (z40:Int)=>bif (decide (z40≥(IntKind.u8.wrap zG)))then (e1 0 x22 Xj Qd)else (bif (decide (Qd≥x23))then (e2 Xi x22 Xj Qd)else (bif (decide ((IntKind.u64.wrap ((IntKind.u64.wrap (Qd*(IntKind.u64.wrap zG)))+(IntKind.u64.wrap z40)))<(IntKind.u64.wrap (Qd*(IntKind.u64.wrap zG)))))then (e2 Xi x22 Xj (IntKind.u64.wrap (Qd*(IntKind.u64.wrap zG))))else (bif (decide ((IntKind.u64.wrap ((IntKind.u64.wrap (Qd*(IntKind.u64.wrap zG)))+(IntKind.u64.wrap z40)))>Xi))then (e2 Xi x22 Xj (IntKind.u64.wrap (Qd*(IntKind.u64.wrap zG))))else (fC zG x21 x22 x23 Xi Xj (IntKind.u64.wrap ((IntKind.u64.wrap (Qd*(IntKind.u64.wrap zG)))+(IntKind.u64.wrap z40))) x27 x28 (IntKind.i64.wrap (Ip+1)) UJ)))); let j39:=fun (z31:Bool)=>bif z31 then (fC zG x21 x22 x23 Xi true Qd x27 x28 (IntKind.i64.wrap (Ip+1)) UJ)else (let j38:=fun (z32:Bool)=>bif z32 then (j42 (IntKind.u8.wrap ((UJ.getD Ip.toNat (Ty.bY (.int .u8))) - 48)))else (internal_strconv_lower (UJ.getD Ip.toNat (Ty.bY (.int .u8))) (fun y33=>bif (decide ((97:Int)≤y33))then (internal_strconv_lower (UJ.getD Ip.toNat (Ty.bY (.int .u8))) (fun y34=>bif (decide (y34≤(122:Int)))then (internal_strconv_lower (UJ.getD Ip.toNat (Ty.bY (.int .u8))) (fun Tu=>j42 (IntKind.u8.wrap ((IntKind.u8.wrap (Tu - 97))+10))))else (e1 0 x22 Xj Qd)))else (e1 0 x22 Xj Qd))); bif (decide ((48:Int)≤(UJ.getD Ip.toNat (Ty.bY (.int .u8)))))then (j38 (decide ((UJ.getD Ip.toNat (Ty.bY (.int .u8)))≤(57:Int))))else (j38 false)); bif ((UJ.getD Ip.toNat (Ty.bY (.int .u8)))==95)then (j39 x21)else (j39 false))))else (e0 x22 Xj Qd)
def aC {R:Type}:dT R
 | 0,_,_,_,_,_,_,_,_,_,_,_,_,_,_,_=>none
 | n+1,kN,kO,lN,th,BT,Dk,Ks,Kt,Ku,Kv,zh,e0,e1,e2,e3=>dB internal_strconv_lower (fun kN kO lN th BT Dk Ks Kt Ku Kv zh=>aC n kN kO lN th BT Dk Ks Kt Ku Kv zh e0 e1 e2 e3) kN kO lN th BT Dk Ks Kt Ku Kv zh e0 e1 e2 e3
def gn:Hint := { live := [1,8,9,10,11,12,13,99,100,101],own := [],rows := [],cells := [],drop := [],out := [6,7,9,12,13] }
abbrev cV:Type:=Int × Bool × aj × Int × Int × Bool × Int × Nat × Int × Int × (List Int)
def fX:cV→St:=fun d=>⟨.undef :: .int .i64 d.1::U 6 (.bool d.2.1 :: .str d.2.2.1 :: .int .u64 d.2.2.2.1 :: .int .u64 d.2.2.2.2.1 :: .bool d.2.2.2.2.2.1 :: .int .u64 d.2.2.2.2.2.2.1::U 85 (.row 0 d.2.2.2.2.2.2.2.1 :: .int .i64 d.2.2.2.2.2.2.2.2.1 :: .int .i64 d.2.2.2.2.2.2.2.2.2.1::U 70 ([]))), [.row (.int .u8) d.2.2.2.2.2.2.2.2.2.2]⟩
def jl {R:Type} (K:Ex→St→Option R) (q0:aj) (q1:Bool) (q2:Int):Option R:=K (.exit 3) ⟨U 9 (.str q0::U 2 (.bool q1 :: .int .u64 q2::U 158 ([]))), []⟩
def jm {R:Type} (K:Ex→St→Option R) (q0:Int) (q1:aj) (q2:Bool) (q3:Int):Option R:=K (.ret) ⟨U 6 (.int .u64 q0 :: .GC 184 .i64 2 :: .undef :: .str q1::U 2 (.bool q2 :: .int .u64 q3::U 158 ([]))), []⟩
def jn {R:Type} (K:Ex→St→Option R) (q0:Int) (q1:aj) (q2:Bool) (q3:Int):Option R:=K (.ret) ⟨U 6 (.int .u64 q0 :: .GC 184 .i64 1 :: .undef :: .str q1::U 2 (.bool q2 :: .int .u64 q3::U 158 ([]))), []⟩
def jq {R:Type} (K:Ex→St→Option R) (q0:Int) (q1:aj) (q2:Bool):Option R:=K (.ret) ⟨U 6 (.int .u64 q0 :: .GC 184 .i64 1 :: .undef :: .str q1::U 2 (.bool q2::U 159 ([]))), []⟩
def jR {R:Type} (internal_strconv_lower:bP R) (K:Ex→St→Option R) (rc:cV→Option R) (d:cV):Option R:=dB internal_strconv_lower (fun z0 z1 z2 z3 z4 z5 z6 z7 z8 z9 PT=>rc (z0,z1,z2,z3,z4,z5,z6,z7,z8,z9,PT)) d.1 d.2.1 d.2.2.1 d.2.2.2.1 d.2.2.2.2.1 d.2.2.2.2.2.1 d.2.2.2.2.2.2.1 d.2.2.2.2.2.2.2.1 d.2.2.2.2.2.2.2.2.1 d.2.2.2.2.2.2.2.2.2.1 d.2.2.2.2.2.2.2.2.2.2 (jl K) (jm K) (jn K) (jq K)
def ef {R:Type} (K:Ex→St→Option R) (n:Nat) (d:cV):Option R:=aC n d.1 d.2.1 d.2.2.1 d.2.2.2.1 d.2.2.2.2.1 d.2.2.2.2.2.1 d.2.2.2.2.2.2.1 d.2.2.2.2.2.2.2.1 d.2.2.2.2.2.2.2.2.1 d.2.2.2.2.2.2.2.2.2.1 d.2.2.2.2.2.2.2.2.2.2 (jl K) (jm K) (jn K) (jq K)
abbrev cW:List ck := .leaf (.undef) :: .leaf (.int .i64)::PU 6 (.leaf (.bool) :: .leaf (.str) :: .leaf (.int .u64) :: .leaf (.int .u64) :: .leaf (.bool) :: .leaf (.int .u64)::PU 85 (.leaf (.row 0) :: .leaf (.int .i64) :: .leaf (.int .i64)::PU 70 ([])))
abbrev cX:List aN := [.row (.int .u8)]
def jS (x:ck.aH cW) (y:aN.aH cX):Nat:=(Int.natAbs x.2.1+List.length x.2.2.2.2.2.2.2.2.2.1+Int.natAbs x.2.2.2.2.2.2.2.2.2.2.1+Int.natAbs x.2.2.2.2.2.2.2.2.2.2.2.1+Int.natAbs x.2.2.2.2.2.2.2.2.2.2.2.2.2.1+Int.natAbs x.2.2.2.2.2.2.2.2.2.2.2.2.2.2.2.2.2.2.2.2.2.2.2.2.2.2.2.2.2.2.2.2.2.2.2.2.2.2.2.2.2.2.2.2.2.2.2.2.2.2.2.2.2.2.2.2.2.2.2.2.2.2.2.2.2.2.2.2.2.2.2.2.2.2.2.2.2.2.2.2.2.2.2.2.2.2.2.2.2.2.2.2.2.2.2.2.2.2.2.2.1+Int.natAbs x.2.2.2.2.2.2.2.2.2.2.2.2.2.2.2.2.2.2.2.2.2.2.2.2.2.2.2.2.2.2.2.2.2.2.2.2.2.2.2.2.2.2.2.2.2.2.2.2.2.2.2.2.2.2.2.2.2.2.2.2.2.2.2.2.2.2.2.2.2.2.2.2.2.2.2.2.2.2.2.2.2.2.2.2.2.2.2.2.2.2.2.2.2.2.2.2.2.2.2.2.2.1+List.length y.1+64)
def jT (x:ck.aH cW) (y:aN.aH cX):cV:=(x.2.1,x.2.2.2.2.2.2.2.2.1,x.2.2.2.2.2.2.2.2.2.1,x.2.2.2.2.2.2.2.2.2.2.1,x.2.2.2.2.2.2.2.2.2.2.2.1,x.2.2.2.2.2.2.2.2.2.2.2.2.1,x.2.2.2.2.2.2.2.2.2.2.2.2.2.1,x.2.2.2.2.2.2.2.2.2.2.2.2.2.2.2.2.2.2.2.2.2.2.2.2.2.2.2.2.2.2.2.2.2.2.2.2.2.2.2.2.2.2.2.2.2.2.2.2.2.2.2.2.2.2.2.2.2.2.2.2.2.2.2.2.2.2.2.2.2.2.2.2.2.2.2.2.2.2.2.2.2.2.2.2.2.2.2.2.2.2.2.2.2.2.2.2.2.2.2.1,x.2.2.2.2.2.2.2.2.2.2.2.2.2.2.2.2.2.2.2.2.2.2.2.2.2.2.2.2.2.2.2.2.2.2.2.2.2.2.2.2.2.2.2.2.2.2.2.2.2.2.2.2.2.2.2.2.2.2.2.2.2.2.2.2.2.2.2.2.2.2.2.2.2.2.2.2.2.2.2.2.2.2.2.2.2.2.2.2.2.2.2.2.2.2.2.2.2.2.2.2.1,x.2.2.2.2.2.2.2.2.2.2.2.2.2.2.2.2.2.2.2.2.2.2.2.2.2.2.2.2.2.2.2.2.2.2.2.2.2.2.2.2.2.2.2.2.2.2.2.2.2.2.2.2.2.2.2.2.2.2.2.2.2.2.2.2.2.2.2.2.2.2.2.2.2.2.2.2.2.2.2.2.2.2.2.2.2.2.2.2.2.2.2.2.2.2.2.2.2.2.2.2.2.1,y.1)
def jr {R:Type} (L:dT R):ck.aH cW→aN.aH cX→(Ex→St→Option R)→Option R:=fun x y K=>L (jS x y) x.2.1 x.2.2.2.2.2.2.2.2.1 x.2.2.2.2.2.2.2.2.2.1 x.2.2.2.2.2.2.2.2.2.2.1 x.2.2.2.2.2.2.2.2.2.2.2.1 x.2.2.2.2.2.2.2.2.2.2.2.2.1 x.2.2.2.2.2.2.2.2.2.2.2.2.2.1 x.2.2.2.2.2.2.2.2.2.2.2.2.2.2.2.2.2.2.2.2.2.2.2.2.2.2.2.2.2.2.2.2.2.2.2.2.2.2.2.2.2.2.2.2.2.2.2.2.2.2.2.2.2.2.2.2.2.2.2.2.2.2.2.2.2.2.2.2.2.2.2.2.2.2.2.2.2.2.2.2.2.2.2.2.2.2.2.2.2.2.2.2.2.2.2.2.2.2.2.1 x.2.2.2.2.2.2.2.2.2.2.2.2.2.2.2.2.2.2.2.2.2.2.2.2.2.2.2.2.2.2.2.2.2.2.2.2.2.2.2.2.2.2.2.2.2.2.2.2.2.2.2.2.2.2.2.2.2.2.2.2.2.2.2.2.2.2.2.2.2.2.2.2.2.2.2.2.2.2.2.2.2.2.2.2.2.2.2.2.2.2.2.2.2.2.2.2.2.2.2.2.1 x.2.2.2.2.2.2.2.2.2.2.2.2.2.2.2.2.2.2.2.2.2.2.2.2.2.2.2.2.2.2.2.2.2.2.2.2.2.2.2.2.2.2.2.2.2.2.2.2.2.2.2.2.2.2.2.2.2.2.2.2.2.2.2.2.2.2.2.2.2.2.2.2.2.2.2.2.2.2.2.2.2.2.2.2.2.2.2.2.2.2.2.2.2.2.2.2.2.2.2.2.2.1 y.1 (jl K) (jm K) (jn K) (jq K)
def gm (R:Type) (aC:dT R):Nat→Option (Hint × eJ R):=fun i=>match i with
 | 36=>some (gn,(fQ cW cX (jr aC) pr))
 | _=>none

theorem tH {R:Type} (internal_strconv_lower:bP R) (bm:dH R) (aC:dT R) (K:Ex→St→Option R) (rc:St→Option R) (d:cV):roundOf tt (fV (ff internal_strconv_lower bm)) (gm R aC) 0 ((br (bb Tryz.f169)).getD 0 .skip) gn (fX d) rc K=jR internal_strconv_lower K (fun d=>rc (fX d)) d:=by kernel_rfl
theorem sj {R:Type} (K:Ex→St→Option R) (n:Nat) (d:cV):ef K (n+1) d=jR internal_strconv_lower K (ef K n) d:=by kernel_rfl
theorem sk {R:Type} (K:Ex→St→Option R) (d:cV):ef K 0 d=none:=by kernel_rfl
theorem tI (x:ck.aH cW) (y:aN.aH cX):(⟨ck.cz cW x,aN.cz cX y⟩:St)=fX (jT x y):=by kernel_rfl
theorem tJ {R:Type} (x:ck.aH cW) (y:aN.aH cX) (K:Ex→St→Option R):jr (aC) x y K=ef K (jS x y) (jT x y):=by kernel_rfl
theorem vf {R:Type} (other:eJ R) (ho:oa tt (fV (ff internal_strconv_lower bm)) (gm R aC) 0 ((br (bb Tryz.f169)).getD 0 .skip) gn other):oa tt (fV (ff internal_strconv_lower bm)) (gm R aC) 0 ((br (bb Tryz.f169)).getD 0 .skip) gn (fQ cW cX (jr (aC)) other) :=
 gd (A:=ef) ho (jt fX (jR internal_strconv_lower) (ef) (sk) (tH internal_strconv_lower bm aC) (sj)) jS jT tI (tJ)

def jf {R:Type} (internal_strconv_lower:bP R) (bm:dH R) (aC:dT R) (x1:aj) (x2:Int) (x3:Int) (k0:Int→Option R) (k1:Int→Option R) (k2:Int→Option R) (k3:Int→Option R) (k4:Int→Option R):Option R :=
 bif (x1==([]:aj))then (k0 0)else (let j63:=fun (z15:aj) (z16:Int)=>let j62:=fun (z18:Int)=>let j61:=fun (Qc:Int)=>cw (decide ((0:Int)≤(IntKind.u64.wrap z18))) (aC (Int.natAbs z16+List.length x1+Int.natAbs Qc+Int.natAbs (IntKind.u64.wrap ((IntKind.u64.wrap (1*2 ^ (min ((IntKind.u64.wrap z18).toNat) IntKind.u64.bits))) - 1))+Int.natAbs 0+Int.natAbs (z15.length:Int)+Int.natAbs 0+List.length (gD z15)+64) z16 (x2==0) x1 Qc (IntKind.u64.wrap ((IntKind.u64.wrap (1*2 ^ (min ((IntKind.u64.wrap z18).toNat) IntKind.u64.bits))) - 1)) false 0 z15.length (z15.length:Int) 0 (gD z15) (fun Xh Wq NI=>bif Wq then (bm Xh (fun Tv=>bif (!Tv)then (k0 0)else (k4 NI)))else (k4 NI)) (fun Xk Zo Zp Zq=>k0 Xk) (fun Xl Zr Zs y55=>k3 Xl) (fun Wr Ws Wu=>k3 Wr)); bif (z16==10)then (j61 1844674407370955162)else (bif (z16==16)then (j61 1152921504606846976)else (cw (!decide ((IntKind.u64.wrap z16)=0)) (j61 (IntKind.u64.wrap ((IntKind.u64.wrap (Int.tdiv 18446744073709551615 (IntKind.u64.wrap z16)))+1))))); bif (x3==0)then (j62 64)else (bif (decide (x3<(0:Int)))then (k2 0)else (bif (decide (x3>(64:Int)))then (k2 0)else (j62 x3))); let j14:=fun (z4:Bool)=>bif z4 then (j63 x1 x2)else (bif (x2==0)then (cw (decide ((0:Int)<x1.length)) (bif (((x1.getD 0 0).toNat:Int)==48)then (let j13:=fun (z6:Bool)=>bif z6 then (cw (decide ((0:Int)≤(x1.length:Int))&&decide ((x1.length:Int)≤x1.length)) (cw (decide ((2:Int)≤(x1.length:Int))) (j63 ((x1.drop 2).take ((x1.length:Int).toNat - 2)) 2)))else (let j12:=fun (z8:Bool)=>bif z8 then (cw (decide ((0:Int)≤(x1.length:Int))&&decide ((x1.length:Int)≤x1.length)) (cw (decide ((2:Int)≤(x1.length:Int))) (j63 ((x1.drop 2).take ((x1.length:Int).toNat - 2)) 8)))else (let j11:=fun (PT:Bool)=>bif PT then (cw (decide ((0:Int)≤(x1.length:Int))&&decide ((x1.length:Int)≤x1.length)) (cw (decide ((2:Int)≤(x1.length:Int))) (j63 ((x1.drop 2).take ((x1.length:Int).toNat - 2)) 16)))else (cw (decide ((0:Int)≤(x1.length:Int))&&decide ((x1.length:Int)≤x1.length)) (cw (decide ((1:Int)≤(x1.length:Int))) (j63 ((x1.drop 1).take ((x1.length:Int).toNat - 1)) 8))); bif (decide ((x1.length:Int)≥(3:Int)))then (cw (decide ((1:Int)<x1.length)) (internal_strconv_lower ((x1.getD 1 0).toNat:Int) (fun y9=>j11 (y9==120))))else (j11 false)); bif (decide ((x1.length:Int)≥(3:Int)))then (cw (decide ((1:Int)<x1.length)) (internal_strconv_lower ((x1.getD 1 0).toNat:Int) (fun y7=>j12 (y7==111))))else (j12 false)); bif (decide ((x1.length:Int)≥(3:Int)))then (cw (decide ((1:Int)<x1.length)) (internal_strconv_lower ((x1.getD 1 0).toNat:Int) (fun y5=>j13 (y5==98))))else (j13 false))else (j63 x1 10)))else (k1 0)); bif (decide ((2:Int)≤x2))then (j14 (decide (x2≤(36:Int))))else (j14 false))
def cx {R:Type}:eZ R:=fun x1 x2 x3 k0 k1 k2 k3 k4=>jf internal_strconv_lower bm aC x1 x2 x3 k0 k1 k2 k3 k4
theorem yC {R:Type} (internal_strconv_lower:bP R) (bm:dH R) (aC:dT R):gR (R:=R) tt (ff internal_strconv_lower bm) (gm R aC) false Tryz.f169 (bb Tryz.f169) mh mi (p8 (jf internal_strconv_lower bm aC)):=fun x y k=>by kernel_rfl
theorem wG (R:Type):∀a∈br (bb Tryz.f169),lM tt (fV (ff internal_strconv_lower bm)) (gm R aC) 0 a:=by
 refine kZ 1 (by kernel_rfl) fun i hi => ?_
 match i,hi with
 | 0,_=>exact fm (by kernel_rfl) (vf _ ia)
 | n+1,hi=>omega
theorem w6 (R:Type):rR Tryz.prog 169 (qJ (cx (R:=R))):=cQ TT mixed (xL (R:=R)) rfl rfl rfl rfl (wG R) (yC internal_strconv_lower bm aC)

/-! ### strconv.ParseUint -/
abbrev jA (R:Type):Type:=aj→Int→Int→(Int→Option R)→(Int→Option R)→Option R
abbrev tK:List ck := [.leaf (.str), .leaf (.int .i64), .leaf (.int .i64)]
abbrev tL:List aN := []
def yD {R:Type} (fn:jA R):ck.aH tK→aN.aH tL→(V→aG→Option R)→Option R:=fun x y k=>fn x.1 x.2.1 x.2.2.1 (fun q0=>k (.tuple [.int .u64 q0, .iface]) []) (fun q0=>k (.tuple [.int .u64 q0, .dv]) [])
def zK {R:Type} (fn:jA R):aF.Spec R→aF.Spec R:=bj tK tL (yD fn)
def zM {R:Type} (cx:eZ R):List (uI R) := [(136,true,(toErr_S R 184)),(169,true,(qJ cx aZ))]
theorem Ef {R:Type}:eU (R:=R) Tryz.prog (zM cx) := .p (toErr_ok) <| .p (w6 R _ (aK _)) <| .n
def pn {R:Type} (cx:eZ R) (x1:aj) (x2:Int) (x3:Int) (k0:Int→Option R) (k1:Int→Option R):Option R :=
 cx x1 x2 x3 (fun y4=>cw (Nat.beq 184 184&&(2==2||2==1)) (cw (decide (x1.length≤281474976710656)) (k0 y4))) (fun y5=>cw (Nat.beq 184 184&&(3==2||3==1)) (cw (decide (x1.length≤281474976710656)) (k0 y5))) (fun y6=>cw (Nat.beq 184 184&&(4==2||4==1)) (cw (decide (x1.length≤281474976710656)) (k0 y6))) (fun y7=>cw (Nat.beq 184 184&&(1==2||1==1)) (cw (decide (x1.length≤281474976710656)) (k0 y7))) (fun y8=>k1 y8)
def eB {R:Type}:jA R:=fun x1 x2 x3 k0 k1=>pn cx x1 x2 x3 k0 k1
theorem Fh {R:Type} (cx:eZ R):gR (R:=R) tt (zM cx) xw false Tryz.f172 (bb Tryz.f172) tK tL (yD (pn cx)):=fun x y k=>by kernel_rfl
theorem Dq (R:Type):rR Tryz.prog 172 (zK (eB (R:=R))):=cQ TT mixed (Ef (R:=R)) rfl rfl rfl rfl dV (Fh cx)

end Go.Proofs.YtmlkkgfenfdndaaGreatDoor

/-
 Functions of the program as pure Lean functions, and the ties; printed by wip/tools/emit.py.
-/
set_option maxRecDepth 100000
namespace Go.Proofs.YtmlkkgfenfdndaaGreatDoor
open Go Go.aF

/-! ### (*humpyard/quote.reader).unit -/
abbrev fZ (R:Type):Type:=aj→(Int→aj→Option R)→Option R
abbrev oR:List ck := [.leaf (.ptr 0 0)]
abbrev oS:List aN := [.cells [.str]]
def s5 {R:Type} (fn:fZ R):ck.aH oR→aN.aH oS→(V→aG→Option R)→Option R:=fun x y k=>fn y.1.1 (fun q0 q1=>k (.int .i32 q0) [.cells [.str q1]])
def uj {R:Type} (fn:fZ R):aF.Spec R→aF.Spec R:=bj oR oS (s5 fn)
def uk {R:Type} (eB:jA R):List (uI R) := [(172,true,(zK eB aZ)),(173,true,(L7 R))]
theorem AU {R:Type}:eU (R:=R) Tryz.prog (uk eB) := .p (Dq R _ (aK _)) <| .p (Wi) <| .n
def lF {R:Type} (eB:jA R) (x1:aj) (k0:Int→aj→Option R):Option R :=
 bif (decide ((x1.length:Int)<(4:Int)))then (k0 (-1) x1)else (cw (decide ((4:Int)≤x1.length)) (eB ((x1.drop 0).take (4 - 0)) 16 16 (fun y2=>k0 (-1) x1) (fun y3=>cw (sY ((x1.drop 0).take (4 - 0))&&sY ([43,45,95]:aj)&&decide (((x1.drop 0).take (4 - 0)).length<4294967281)&&decide (([43,45,95]:aj).length<4294967281)) (bif (L6 ((x1.drop 0).take (4 - 0)) ([43,45,95]:aj))then (k0 (-1) x1)else (cw (decide ((0:Int)≤(x1.length:Int))&&decide ((x1.length:Int)≤x1.length)) (cw (decide ((4:Int)≤(x1.length:Int))) (k0 (IntKind.i32.wrap y3) ((x1.drop 4).take ((x1.length:Int).toNat - 4)))))))))
def cJ {R:Type}:fZ R:=fun x1 k0=>lF eB x1 k0
theorem Bg {R:Type} (eB:jA R):gR (R:=R) tt (uk eB) xw false Tryz.f157 (bb Tryz.f157) oR oS (s5 (lF eB)):=fun x y k=>by kernel_rfl
theorem Ac (R:Type):rR Tryz.prog 157 (uj (cJ (R:=R))):=cQ TT mixed (AU (R:=R)) rfl rfl rfl rfl dV (Bg eB)

/-! ### (*humpyard/quote.reader).long -/
abbrev ga (R:Type):Type:=aj→(Int→aj→Option R)→Option R
abbrev oT:List ck := [.leaf (.ptr 0 0)]
abbrev oU:List aN := [.cells [.str]]
def s6 {R:Type} (fn:ga R):ck.aH oT→aN.aH oU→(V→aG→Option R)→Option R:=fun x y k=>fn y.1.1 (fun q0 q1=>k (.int .i32 q0) [.cells [.str q1]])
def um {R:Type} (fn:ga R):aF.Spec R→aF.Spec R:=bj oT oU (s6 fn)
def uo {R:Type} (aA:cL R) (cJ:fZ R):List (uI R) := [(107,false,(oN aA aZ)),(157,false,(uj cJ aZ))]
theorem AV {R:Type}:eU (R:=R) Tryz.prog (uo aA cJ) := .f (rH R _ (aK _)) rfl <| .f (Ac R _ (aK _)) rfl <| .n
def lG {R:Type} (aA:cL R) (cJ:fZ R) (x1:aj) (k0:Int→aj→Option R):Option R :=
 cJ x1 (fun y2 y3=>bif (decide (y2<(55296:Int)))then (k0 y2 y3)else (bif (decide (y2≥(57344:Int)))then (k0 y2 y3)else (bif (decide (y2≥(56320:Int)))then (k0 (-1) y3)else (aA ([92,117]:aj) y3 (fun y5 y6=>bif (!y5)then (k0 (-1) y6)else (cJ y6 (fun y9 xD=>bif (decide (y9<(56320:Int)))then (k0 (-1) xD)else (bif (decide (y9≥(57344:Int)))then (k0 (-1) xD)else (k0 (IntKind.i32.wrap ((IntKind.i32.wrap ((IntKind.i32.wrap (65536+(IntKind.i32.wrap ((IntKind.i32.wrap (y2 - 55296))*2 ^ (min 10 IntKind.i32.bits)))))+y9)) - 56320)) xD)))))))))
def cu {R:Type}:ga R:=fun x1 k0=>lG aA cJ x1 k0
theorem Bh {R:Type} (aA:cL R) (cJ:fZ R):gR (R:=R) tt (uo aA cJ) xw false Tryz.f138 (bb Tryz.f138) oT oU (s6 (lG aA cJ)):=fun x y k=>by kernel_rfl
theorem Ad (R:Type):rR Tryz.prog 138 (um (cu (R:=R))):=cQ TT mixed (AV (R:=R)) rfl rfl rfl rfl dV (Bh aA cJ)

/-! ### (*humpyard/quote.reader).escaped -/
abbrev dN (R:Type):Type:=aj→(Int→aj→Option R)→Option R
abbrev mC:List ck := [.leaf (.ptr 0 0)]
abbrev mD:List aN := [.cells [.str]]
def qK {R:Type} (fn:dN R):ck.aH mC→aN.aH mD→(V→aG→Option R)→Option R:=fun x y k=>fn y.1.1 (fun q0 q1=>k (.int .i32 q0) [.cells [.str q1]])
def rJ {R:Type} (fn:dN R):aF.Spec R→aF.Spec R:=bj mC mD (qK fn)
def rK {R:Type} (cu:ga R):List (uI R) := [(138,false,(um cu aZ))]
theorem yE {R:Type}:eU (R:=R) Tryz.prog (rK cu) := .f (Ad R _ (aK _)) rfl <| .n
def jO {R:Type} (cu:ga R) (x1:aj) (k0:Int→aj→Option R):Option R :=
 bif (x1==([]:aj))then (k0 (-1) x1)else (cw (decide ((0:Int)<x1.length)) (cw (decide ((0:Int)≤(x1.length:Int))&&decide ((x1.length:Int)≤x1.length)) (cw (decide ((1:Int)≤(x1.length:Int))) (let j5:=fun (z2:Bool)=>bif z2 then (k0 (IntKind.i32.wrap ((x1.getD 0 0).toNat:Int)) ((x1.drop 1).take ((x1.length:Int).toNat - 1)))else (bif (((x1.getD 0 0).toNat:Int)==98)then (k0 8 ((x1.drop 1).take ((x1.length:Int).toNat - 1)))else (bif (((x1.getD 0 0).toNat:Int)==102)then (k0 12 ((x1.drop 1).take ((x1.length:Int).toNat - 1)))else (bif (((x1.getD 0 0).toNat:Int)==110)then (k0 10 ((x1.drop 1).take ((x1.length:Int).toNat - 1)))else (bif (((x1.getD 0 0).toNat:Int)==114)then (k0 13 ((x1.drop 1).take ((x1.length:Int).toNat - 1)))else (bif (((x1.getD 0 0).toNat:Int)==116)then (k0 9 ((x1.drop 1).take ((x1.length:Int).toNat - 1)))else (bif (((x1.getD 0 0).toNat:Int)==117)then (cu ((x1.drop 1).take ((x1.length:Int).toNat - 1)) (fun y3 y4=>k0 y3 y4))else (k0 (-1) ((x1.drop 1).take ((x1.length:Int).toNat - 1))))))))); bif (((x1.getD 0 0).toNat:Int)==34)then (j5 (((x1.getD 0 0).toNat:Int)==34))else (bif (((x1.getD 0 0).toNat:Int)==92)then (j5 (((x1.getD 0 0).toNat:Int)==92))else (j5 (((x1.getD 0 0).toNat:Int)==47)))))))
def aX {R:Type}:dN R:=fun x1 k0=>jO cu x1 k0
theorem zi {R:Type} (cu:ga R):gR (R:=R) tt (rK cu) xw false Tryz.f109 (bb Tryz.f109) mC mD (qK (jO cu)):=fun x y k=>by kernel_rfl
theorem xM (R:Type):rR Tryz.prog 109 (rJ (aX (R:=R))):=cQ TT mixed (yE (R:=R)) rfl rfl rfl rfl dV (zi cu)

/-! ### (*humpyard/quote.reader).plain -/
abbrev eh (R:Type):Type:=aj→(Int→aj→Option R)→Option R
abbrev nU:List ck := [.leaf (.ptr 0 0)]
abbrev nV:List aN := [.cells [.str]]
def sn {R:Type} (fn:eh R):ck.aH nU→aN.aH nV→(V→aG→Option R)→Option R:=fun x y k=>fn y.1.1 (fun q0 q1=>k (.int .i32 q0) [.cells [.str q1]])
def s7 {R:Type} (fn:eh R):aF.Spec R→aF.Spec R:=bj nU nV (sn fn)
def s8 {R:Type}:List (uI R) := [(130,true,(Y3 R))]
theorem Ae {R:Type}:eU (R:=R) Tryz.prog (s8 (R:=R)) := .p (dec_ok) <| .n
def kX {R:Type} (x1:aj) (k0:Int→aj→Option R):Option R :=
 let j3:=cw (decide ((0:Int)≤(x1.length:Int))&&decide ((x1.length:Int)≤x1.length)) (cw (decide ((0:Int)≤((nG x1).2:Int))&&decide (((nG x1).2:Int)≤(x1.length:Int))) (k0 ((nG x1).1:Int) ((x1.drop ((nG x1).2:Int).toNat).take ((x1.length:Int).toNat - ((nG x1).2:Int).toNat)))); bif (((nG x1).1:Int)==65533)then (bif (decide (((nG x1).2:Int)<(2:Int)))then (k0 (-1) x1)else (bif (decide (((nG x1).1:Int)<(32:Int)))then (k0 (-1) x1)else (j3)))else (bif (decide (((nG x1).1:Int)<(32:Int)))then (k0 (-1) x1)else (j3))
def bn {R:Type}:eh R:=fun x1 k0=>kX x1 k0
theorem AW {R:Type}:gR (R:=R) tt (s8 (R:=R)) xw false Tryz.f108 (bb Tryz.f108) nU nV (sn kX):=fun x y k=>by kernel_rfl
theorem zj (R:Type):rR Tryz.prog 108 (s7 (bn (R:=R))):=cQ TT mixed (Ae (R:=R)) rfl rfl rfl rfl dV (AW)

/-! ### humpyard/quote.Unquote -/
abbrev nc (R:Type):Type:=aj→(aj→Int→Bool→Option R)→Option R
abbrev zk:List ck := [.leaf (.str)]
abbrev zm:List aN := []
def CA {R:Type} (fn:nc R):ck.aH zk→aN.aH zm→(V→aG→Option R)→Option R:=fun x y k=>fn x.1 (fun q0 q1 q2=>k (.tuple [.str q0, .int .i64 q1, .bool q2]) [])
def DX {R:Type} (fn:nc R):aF.Spec R→aF.Spec R:=bj zk zm (CA fn)
abbrev jB (R:Type):Type:=Nat→aj→aj→(List Int)→(aj→aj→(List Int)→Option R)→(aj→aj→Int→Bool→aj→(List Int)→Option R)→Option R
def n8 {R:Type} (ai:bC R) (aA:cL R) (bn:eh R) (aX:dN R):List (uI R) := [(53,false,(kb ai aZ)),(39,false,(CZ R)),(107,false,(oN aA aZ)),(108,false,(s7 bn aZ)),(109,false,(rJ aX aZ))]
theorem Iq {R:Type}:eU (R:=R) Tryz.prog (n8 ai aA bn aX) := .f (mT R _ (aK _)) rfl <| .s (KS) FE <| .f (rH R _ (aK _)) rfl <| .f (zj R _ (aK _)) rfl <| .f (xM R _ (aK _)) rfl <| .n
def po {R:Type} (ai:bC R) (aA:cL R) (bn:eh R) (aX:dN R) (fC:aj→aj→(List Int)→Option R) (x4:aj) (x5:aj) (x6:List Int) (e0:aj→aj→(List Int)→Option R) (e1:aj→aj→Int→Bool→aj→(List Int)→Option R):Option R :=
 aA ([34]:aj) x5 (fun y7 y8=>bif (!y7)then (aA ([92]:aj) y8 (fun y9 xD=>bif y9 then (aX xD (fun vu yx=>bif (decide (vu<(0:Int)))then (e1 x4 ([]:aj) 0 false yx x6)else (ai vu x6 (fun DS zA=>fC x4 yx zA))))else (bn xD (fun FF FG=>bif (decide (FF<(0:Int)))then (e1 x4 ([]:aj) 0 false FG x6)else (ai FF x6 (fun JV Hj=>fC x4 FG Hj))))))else (e0 x4 y8 x6))
def bh {R:Type}:jB R
 | 0,_,_,_,_,_=>none
 | n+1,kN,kO,lN,e0,e1=>po ai aA bn aX (fun kN kO lN=>bh n kN kO lN e0 e1) kN kO lN e0 e1
def pq:Hint := { live := [0,5,6],own := [],rows := [],cells := [(1,1,(.int .u8),false)],drop := [],out := [0,2,3,4,5,6] }
abbrev gA:Type:=aj × aj × (List Int)
def nH:gA→St:=fun d=>⟨.str d.1::U 4 (.ptr 0 0 :: .ptr 1 0::U 32 ([])), [.cells [.str d.2.1], .lW (.sl (.int .u8) d.2.2 (.own 2)), .tok]⟩
def so {R:Type} (K:Ex→St→Option R) (q0:aj) (q1:aj) (q2:List Int):Option R:=K (.exit 0) ⟨.str q0::U 4 (.ptr 0 0 :: .ptr 1 0::U 32 ([])), [.cells [.str q1], .lW (.sl (.int .u8) q2 (.own 2)), .tok]⟩
def sq {R:Type} (K:Ex→St→Option R) (q0:aj) (q1:aj) (q2:Int) (q3:Bool) (q4:aj) (q5:List Int):Option R:=K (.ret) ⟨.str q0 :: .undef :: .str q1 :: .int .i64 q2 :: .bool q3 :: .ptr 0 0 :: .ptr 1 0::U 32 ([]), [.cells [.str q4], .lW (.sl (.int .u8) q5 (.own 2)), .tok]⟩
def tM {R:Type} (ai:bC R) (aA:cL R) (bn:eh R) (aX:dN R) (K:Ex→St→Option R) (rc:gA→Option R) (d:gA):Option R:=po ai aA bn aX (fun z0 z1 z2=>rc (z0,z1,z2)) d.1 d.2.1 d.2.2 (so K) (sq K)
def kF {R:Type} (K:Ex→St→Option R) (n:Nat) (d:gA):Option R:=bh n d.1 d.2.1 d.2.2 (so K) (sq K)
abbrev gB:List ck := .leaf (.str)::PU 4 (.leaf (.ptr 0 0) :: .leaf (.ptr 1 0)::PU 32 ([]))
abbrev gC:List aN := [.cells [.str], .lW (.M8 (.int .u8) 2), .tok]
def tN (x:ck.aH gB) (y:aN.aH gC):Nat:=(List.length x.1+List.length y.1.1+List.length y.2.1+64)
def tO (x:ck.aH gB) (y:aN.aH gC):gA:=(x.1,y.1.1,y.2.1)
def sr {R:Type} (L:jB R):ck.aH gB→aN.aH gC→(Ex→St→Option R)→Option R:=fun x y K=>L (tN x y) x.1 y.1.1 y.2.1 (so K) (sq K)
def qL (R:Type) (bh:jB R):Nat→Option (Hint × eJ R):=fun i=>match i with
 | 5=>some (pq,(fQ gB gC (sr bh) pr))
 | _=>none

theorem Dr {R:Type} (ai:bC R) (aA:cL R) (bn:eh R) (aX:dN R) (bh:jB R) (K:Ex→St→Option R) (rc:St→Option R) (d:gA):roundOf tt (fV (n8 ai aA bn aX)) (qL R bh) 0 ((br (bb Tryz.f70)).getD 0 .skip) pq (nH d) rc K=tM ai aA bn aX K (fun d=>rc (nH d)) d:=by kernel_rfl
theorem BX {R:Type} (K:Ex→St→Option R) (n:Nat) (d:gA):kF K (n+1) d=tM ai aA bn aX K (kF K n) d:=by kernel_rfl
theorem BY {R:Type} (K:Ex→St→Option R) (d:gA):kF K 0 d=none:=by kernel_rfl
theorem Ds (x:ck.aH gB) (y:aN.aH gC):(⟨ck.cz gB x,aN.cz gC y⟩:St)=nH (tO x y):=by kernel_rfl
theorem Dt {R:Type} (x:ck.aH gB) (y:aN.aH gC) (K:Ex→St→Option R):sr (bh) x y K=kF K (tN x y) (tO x y):=by kernel_rfl
theorem Fi {R:Type} (other:eJ R) (ho:oa tt (fV (n8 ai aA bn aX)) (qL R bh) 0 ((br (bb Tryz.f70)).getD 0 .skip) pq other):oa tt (fV (n8 ai aA bn aX)) (qL R bh) 0 ((br (bb Tryz.f70)).getD 0 .skip) pq (fQ gB gC (sr (bh)) other) :=
 gd (A:=kF) ho (jt nH (tM ai aA bn aX) (kF) (BY) (Dr ai aA bn aX bh) (BX)) tN tO Ds (Dt)

def uL {R:Type} (aA:cL R) (bh:jB R) (x1:aj) (k0:aj→Int→Bool→Option R):Option R :=
 aA ([34]:aj) x1 (fun y2 y3=>bif (!y2)then (k0 ([]:aj) 0 false)else (bh (List.length x1+List.length y3+List.length ([]:List Int)+64) x1 y3 ([]:List Int) (fun PS Nb A7=>k0 (r9 A7) (IntKind.i64.wrap ((PS.length:Int) - (Nb.length:Int))) true) (fun Tr Rn y24 IS Jr IT=>k0 Rn y24 IS)))
def eV {R:Type}:nc R:=fun x1 k0=>uL aA bh x1 k0
theorem Ju {R:Type} (ai:bC R) (aA:cL R) (bn:eh R) (aX:dN R) (bh:jB R):gR (R:=R) tt (n8 ai aA bn aX) (qL R bh) false Tryz.f70 (bb Tryz.f70) zk zm (CA (uL aA bh)):=fun x y k=>by kernel_rfl
theorem F0 (R:Type):∀a∈br (bb Tryz.f70),lM tt (fV (n8 ai aA bn aX)) (qL R bh) 0 a:=by
 refine kZ 1 (by kernel_rfl) fun i hi => ?_
 match i,hi with
 | 0,_=>exact fm (by kernel_rfl) (Fi _ ia)
 | n+1,hi=>omega
theorem G9 (R:Type):rR Tryz.prog 70 (DX (eV (R:=R))):=cQ TT mixed (Iq (R:=R)) rfl rfl rfl rfl (F0 R) (Ju ai aA bn aX bh)

/-! ### humpyard/lexer.next -/
abbrev mU (R:Type):Type:=aj→(Token→Int→Option R)→Option R
abbrev Du:List ck := [.leaf (.str)]
abbrev Dv:List aN := []
def Gu {R:Type} (fn:mU R):ck.aH Du→aN.aH Dv→(V→aG→Option R)→Option R:=fun x y k=>fn x.1 (fun q0 q1=>k (.tuple [.agg [.int .i64 q0.kind, .str q0.text, .int .i64 q0.num.aB, .int .i64 q0.num.exp, .int .i64 q0.at_], .int .i64 q1]) [])
def Ir {R:Type} (fn:mU R):aF.Spec R→aF.Spec R:=bj Du Dv (Gu fn)
def Iu {R:Type} (eV:nc R) (dE:na R) (bX:hP R):List (uI R) := [(70,true,(DX eV aZ)),(69,true,(DV dE aZ)),(71,true,(Uy R)),(47,true,(BW bX aZ))]
theorem Mt {R:Type}:eU (R:=R) Tryz.prog (Iu eV dE bX) := .p (G9 R _ (aK _)) <| .p (G8 R _ (aK _)) <| .p (Zc) <| .p (Cv R _ (aK _)) <| .n
def Af {R:Type} (eV:nc R) (dE:na R) (bX:hP R) (x1:aj) (k0:Token→Int→Option R):Option R :=
 cw (decide ((0:Int)<x1.length)) (let j23:=bX x1 ([97,98,99,100,101,102,103,104,105,106,107,108,109,110,111,112,113,114,115,116,117,118,119,120,121,122]:aj) (fun A7=>bif (A7==([116,114,117,101]:aj))then (k0 (⟨4,A7,⟨0,0⟩,0⟩:Token) (A7.length:Int))else (bif (A7==([102,97,108,115,101]:aj))then (k0 (⟨4,A7,⟨0,0⟩,0⟩:Token) (A7.length:Int))else (bif (!(A7==([110,117,108,108]:aj)))then (k0 (⟨0,([]:aj),⟨0,0⟩,0⟩:Token) 0)else (k0 (⟨4,A7,⟨0,0⟩,0⟩:Token) (A7.length:Int))))); bif (((x1.getD 0 0).toNat:Int)==45)then (bX x1 ([48,49,50,51,52,53,54,55,56,57,43,45,46,101,69]:aj) (fun y6=>dE y6 (fun y7 y8=>bif (!y8)then (k0 (⟨0,([]:aj),⟨0,0⟩,0⟩:Token) 0)else (k0 (⟨3,y6,⟨y7.aB,y7.exp⟩,0⟩:Token) (y6.length:Int)))))else (bif (decide (((x1.getD 0 0).toNat:Int)≥(48:Int)))then (bif (decide (((x1.getD 0 0).toNat:Int)≤(57:Int)))then (bX x1 ([48,49,50,51,52,53,54,55,56,57,43,45,46,101,69]:aj) (fun y9=>dE y9 (fun xD vu=>bif (!vu)then (k0 (⟨0,([]:aj),⟨0,0⟩,0⟩:Token) 0)else (k0 (⟨3,y9,⟨xD.aB,xD.exp⟩,0⟩:Token) (y9.length:Int)))))else (bif (((x1.getD 0 0).toNat:Int)==34)then (eV x1 (fun FF FG JV=>bif (!JV)then (k0 (⟨0,([]:aj),⟨0,0⟩,0⟩:Token) 0)else (k0 (⟨2,FF,⟨0,0⟩,0⟩:Token) FG)))else (bif (decide ((yg ([123,125,91,93,44,58]:aj) ((x1.getD 0 0).toNat:Int))≥(0:Int)))then (cw (decide ((1:Int)≤x1.length)) (k0 (⟨1,((x1.drop 0).take (1 - 0)),⟨0,0⟩,0⟩:Token) 1))else (j23))))else (bif (((x1.getD 0 0).toNat:Int)==34)then (eV x1 (fun Hj PS Nb=>bif (!Nb)then (k0 (⟨0,([]:aj),⟨0,0⟩,0⟩:Token) 0)else (k0 (⟨2,Hj,⟨0,0⟩,0⟩:Token) PS)))else (bif (decide ((yg ([123,125,91,93,44,58]:aj) ((x1.getD 0 0).toNat:Int))≥(0:Int)))then (cw (decide ((1:Int)≤x1.length)) (k0 (⟨1,((x1.drop 0).take (1 - 0)),⟨0,0⟩,0⟩:Token) 1))else (j23)))))
def eY {R:Type}:mU R:=fun x1 k0=>Af eV dE bX x1 k0
theorem NJ {R:Type} (eV:nc R) (dE:na R) (bX:hP R):gR (R:=R) tt (Iu eV dE bX) xw false Tryz.f48 (bb Tryz.f48) Du Dv (Gu (Af eV dE bX)):=fun x y k=>by kernel_rfl
theorem Kw (R:Type):rR Tryz.prog 48 (Ir (eY (R:=R))):=cQ TT mixed (Mt (R:=R)) rfl rfl rfl rfl dV (NJ eV dE bX)

end Go.Proofs.YtmlkkgfenfdndaaGreatDoor

set_option maxRecDepth 100000
namespace Go.Proofs.YtmlkkgfenfdndaaGreatDoor
open Go Go.aF Go.Lib

theorem UK {p q:Prop} [Decidable p] [Decidable q] (hp:p) (hq:q):(decide p&&decide q)=true:=by rw[bf hp,bf hq]; rfl

theorem Mu:∀(p s:aj),(s.take p.length==p)=p.isPrefixOf s
  | [],s=>by simp
  | a::p, []=>by simp
  | a::p,b::s=>by
    have:=Mu p s
    simp only[List.length_cons,List.take_succ_cons,List.isPrefixOf]
    rw[List.cons_beq_cons,this]
    congr 1
    exact Bool.beq_comm

theorem KT {R:Type} (p s:aj) (hp:p.length≤1000) (hs:s.length≤9000000000000000000) (k:Bool→aj→Option R) :
    aA p s k=if p.isPrefixOf s then k true (s.drop p.length)else k false s:=by
  have e1:∀f:aj→Bool→Option R,eA s p f=bR s p f:=fun _=>rfl
  show eA s p (fun y3 y4=>k y4 y3)=_
  rw[e1]
  show gN bJ s p (fun y3 y4=>k y4 y3)=_
  unfold gN
  have e2:∀f:Bool→Option R,bJ s p f=f (p.isPrefixOf s):=by
    intro f
    show gM s p f=_
    unfold gM
    by_cases h:p.length≤s.length
    · rw[bf (show (s.length:Int)≥(p.length:Int) by omega),cond_true,aL (by rw[bf (show (0:Int)≤(p.length:Int) by omega)]; rfl),aL (bf (by omega))]
      rw[List.drop_zero,Int.toNat_natCast,Nat.sub_zero,Mu]
    · rw[cI (show ¬(s.length:Int)≥(p.length:Int) by omega),cond_false]
      congr 1
      rw[←Mu]
      symm
      rw[beq_eq_false_iff_ne]
      intro e
      have:=congrArg List.length e
      rw[List.length_take]at this
      omega
  rw[e2]
  cases hp2:p.isPrefixOf s with
  | false=>simp
  | true =>
    have hle:p.length≤s.length:=(List.IsPrefix.length_le (List.isPrefixOf_iff_prefix.1 hp2))
    rw[Bool.not_true,cond_false,aL (UK (by omega) (by omega)),aL (UK (by omega) (by omega))]
    simp only[Int.toNat_natCast,if_true]
    rw[List.take_of_length_le (by rw[List.length_drop]; exact Nat.le_refl _)]

theorem Tw {s:aj} (h:s ≠ []):nG s=decodeL s:=by
  unfold nG
  have:s.isEmpty=false:=by cases s with|nil=>exact (h rfl).elim|cons _ _=>rfl
  rw[this]
  rfl

def Dw (s:aj):Option (Nat × aj) :=
  if s = []then none else if (decodeL s).1=65533∧(decodeL s).2=1 then none else if (decodeL s).1<32 then none else some ((decodeL s).1,s.drop (decodeL s).2)

theorem Zt {R:Type} (s:aj) (hs:s.length≤9000000000000000000) (k:Int→aj→Option R) :
    bn s k=match Dw s with|some (c,r)=>k (c:Int) r|none=>k (-1) s:=by
  show kX s k=_
  unfold kX
  by_cases h0:s = []
  · subst h0; rfl
  rw[Tw h0]
  have hw:=decodeL_width s
  have hle:=decodeL_le s h0
  have hj:(cw (decide ((0:Int)≤(s.length:Int))&&decide ((s.length:Int)≤s.length)) (cw (decide ((0:Int)≤((decodeL s).2:Int))&&decide (((decodeL s).2:Int)≤(s.length:Int))) (k ((decodeL s).1:Int) ((s.drop ((decodeL s).2:Int).toNat).take ((s.length:Int).toNat - ((decodeL s).2:Int).toNat)))))=k ((decodeL s).1:Int) (s.drop (decodeL s).2):=by
    rw[aL (UK (by omega) (by omega)),aL (UK (by omega) (by omega)),Int.toNat_natCast,Int.toNat_natCast,List.take_of_length_le (by rw[List.length_drop]; exact Nat.le_refl _)]
  simp only[hj]
  unfold Dw
  rw[if_neg h0]
  by_cases h1:(decodeL s).1=65533
  · have e1:(((decodeL s).1:Int)==65533)=true:=by rw[h1]; rfl
    rw[e1,cond_true]
    by_cases h2:(decodeL s).2=1
    · rw[bf (show ((decodeL s).2:Int)<2 by omega),cond_true,if_pos ⟨h1,h2⟩]
    · rw[cI (show ¬((decodeL s).2:Int)<2 by omega),cond_false,cI (show ¬((decodeL s).1:Int)<32 by omega),cond_false,if_neg (fun h=>h2 h.2),if_neg (by omega)]
  · have e1:(((decodeL s).1:Int)==65533)=false:=by rw[beq_eq_false_iff_ne]; omega
    rw[e1,cond_false,if_neg (fun h=>h1 h.1)]
    by_cases h3:(decodeL s).1<32
    · rw[bf (show ((decodeL s).1:Int)<32 by omega),cond_true,if_pos h3]
    · rw[cI (show ¬((decodeL s).1:Int)<32 by omega),cond_false,if_neg h3]

def Kx (b:UInt8):Option Nat :=
  let n:=b.toNat
  if 48≤n∧n≤57 then some (n - 48)else if 65≤n∧n≤70 then some (n - 55)else if 97≤n∧n≤102 then some (n - 87)else none
def Iv:aj→Nat→Option Nat
  | [],v=>some v
  | b::t,v=>match Kx b with|some d=>Iv t (16*v+d)|none=>none

def yF (b:Int):Int:=IntKind.u8.wrap ((BitVec.ofInt IntKind.u8.bits b ||| BitVec.ofInt IntKind.u8.bits 32).toNat:Int)

def hexB (b:Nat):Bool :=
  (!(decide (48≤b)&&decide (b≤57))||decide (IntKind.u8.wrap ((b:Int) - 48)=((b - 48:Nat):Int))) &&
  (!(decide ((97:Int)≤yF b)&&decide (yF b≤122))||(!(decide (48≤b)&&decide (b≤57))&&decide (b≠95)&&decide (IntKind.u8.wrap ((IntKind.u8.wrap (yF b - 97))+10)=yF b - 87) &&
    (!decide (yF b - 87<16)||((decide (65≤b)&&decide (b≤70)&&decide (yF b - 87=((b - 55:Nat):Int)))||(decide (97≤b)&&decide (b≤102)&&decide (yF b - 87=((b - 87:Nat):Int))))) &&
    (!decide (16≤yF b - 87)||(!(decide (65≤b)&&decide (b≤70)) && !(decide (97≤b)&&decide (b≤102)))))) &&
  ((decide ((97:Int)≤yF b)&&decide (yF b≤122))||(!(decide (65≤b)&&decide (b≤70)) && !(decide (97≤b)&&decide (b≤102))))
theorem Zu:∀b:Fin 256,hexB b.val=true:=by decide +kernel
theorem Zv (b:Nat) (hb:b<256) :
    ((48≤b∧b≤57)→IntKind.u8.wrap ((b:Int) - 48)=((b - 48:Nat):Int)) ∧
    ((97:Int)≤yF b→yF b≤122→¬(48≤b∧b≤57)∧b≠95∧IntKind.u8.wrap ((IntKind.u8.wrap (yF b - 97))+10)=yF b - 87 ∧
      (yF b - 87<16→((65≤b∧b≤70)∧yF b - 87=((b - 55:Nat):Int))∨((97≤b∧b≤102)∧yF b - 87=((b - 87:Nat):Int))) ∧
      (16≤yF b - 87→¬(65≤b∧b≤70)∧¬(97≤b∧b≤102))) ∧
    (¬((97:Int)≤yF b∧yF b≤122)→¬(65≤b∧b≤70)∧¬(97≤b∧b≤102)):=by
  have h:=Zu ⟨b,hb⟩
  unfold hexB at h
  generalize yF (b:Int)=l at *
  simp only[Bool.and_eq_true,Bool.or_eq_true,Bool.not_eq_true',Bool.and_eq_false_iff,decide_eq_true_eq,decide_eq_false_iff_not]at h
  obtain ⟨⟨h1,h2⟩,h3⟩:=h
  refine ⟨fun q => ?_,fun q1 q2 => ?_,fun q => ?_⟩
  · rcases h1 with h1|h1
    · omega
    · exact h1
  · rcases h2 with h2|⟨⟨⟨⟨g1,g2⟩,g3⟩,g4⟩,g5⟩
    · omega
    · refine ⟨by omega,g2,g3,fun q => ?_,fun q => ?_⟩
      · rcases g4 with g4|g4
        · omega
        · rcases g4 with ⟨⟨k1,k2⟩,k3⟩|⟨⟨k1,k2⟩,k3⟩
          · exact .inl ⟨⟨k1,k2⟩,k3⟩
          · exact .inr ⟨⟨k1,k2⟩,k3⟩
      · rcases g5 with g5|⟨k1,k2⟩
        · omega
        · exact ⟨by omega,by omega⟩
  · rcases h3 with h3|⟨k1,k2⟩
    · omega
    · exact ⟨by omega,by omega⟩

theorem UL {b:UInt8} {d:Nat} (h:Kx b=some d):d<16:=by
  unfold Kx at h
  simp only at h
  split at h
  · cases h; omega
  · split at h
    · cases h; omega
    · split at h
      · cases h; omega
      · cases h

theorem u64w {n:Int} (h0:0≤n) (h:n≤18446744073709551615):IntKind.u64.wrap n=n:=by
  simp only[IntKind.wrap,IntKind.bits,IntKind.signed]
  simp
  omega

theorem Tx {R:Type} {s x22:aj} {i v:Nat} (hi:i<s.length) (hs:s.length≤1000) (hv:v<4096) (fC:Int→Bool→aj→Int→Int→Bool→Int→Nat→Int→Int→(List Int)→Option R) (e0:aj→Bool→Int→Option R) (e1 e2:Int→aj→Bool→Int→Option R) (e3:Int→aj→Bool→Option R) :
    dB internal_strconv_lower fC 16 false x22 1152921504606846976 65535 false (v:Int) s.length (s.length:Int) (i:Int) (gD s) e0 e1 e2 e3 =
      match Kx (s[i])with
      | some d=>fC 16 false x22 1152921504606846976 65535 false ((16*v+d:Nat):Int) s.length (s.length:Int) ((i+1:Nat):Int) (gD s)
      | none=>e1 0 x22 false (v:Int):=by
  unfold dB
  have Ps:∀(n:Int) (f:Int→Option R),internal_strconv_lower n f=f (yF n):=fun _ _=>rfl
  have yR:(gD s).getD (i:Int).toNat (Ty.bY (.int .u8))=(s[i].toNat:Int):=by
    rw[Int.toNat_natCast]
    show (s.map fun b=>(b.toNat:Int)).getD i _=_
    simp[List.getD,hi]
    rfl
  rw[bf (show (i:Int)<(s.length:Int) by omega),cond_true,aL (by rw[bf (show (0:Int)≤(i:Int) by omega)]; rfl),
    aL (bf (by rw[Int.toNat_natCast,Cs,Dg]; exact hi))]
  simp only[yR,Ps]
  obtain ⟨f1,f2,f3⟩:=Zv s[i].toNat (UInt8.toNat_lt _)
  have hb:=UInt8.toNat_lt s[i]
  generalize hbn:s[i].toNat=b at *
  have hw16:IntKind.u8.wrap 16=16:=by decide
  have hw64:IntKind.u64.wrap 16=16:=by decide
  have hi1:IntKind.i64.wrap ((i:Int)+1)=((i+1:Nat):Int):=by rw[dx (by omega) (by omega)]; omega
  -- a digit's value, if it is below 16
  have fit:∀d:Nat,d<16→∀z:Int,z=(d:Int)→(bif (decide (z≥(IntKind.u8.wrap 16)))then (e1 0 x22 false (v:Int))else (bif (decide ((v:Int)≥1152921504606846976))then (e2 65535 x22 false (v:Int))else (bif (decide ((IntKind.u64.wrap ((IntKind.u64.wrap ((v:Int)*(IntKind.u64.wrap 16)))+(IntKind.u64.wrap z)))<(IntKind.u64.wrap ((v:Int)*(IntKind.u64.wrap 16)))))then (e2 65535 x22 false (IntKind.u64.wrap ((v:Int)*(IntKind.u64.wrap 16))))else (bif (decide ((IntKind.u64.wrap ((IntKind.u64.wrap ((v:Int)*(IntKind.u64.wrap 16)))+(IntKind.u64.wrap z)))>65535))then (e2 65535 x22 false (IntKind.u64.wrap ((v:Int)*(IntKind.u64.wrap 16))))else (fC 16 false x22 1152921504606846976 65535 false (IntKind.u64.wrap ((IntKind.u64.wrap ((v:Int)*(IntKind.u64.wrap 16)))+(IntKind.u64.wrap z))) s.length (s.length:Int) (IntKind.i64.wrap ((i:Int)+1)) (gD s)))))) =
      fC 16 false x22 1152921504606846976 65535 false ((16*v+d:Nat):Int) s.length (s.length:Int) ((i+1:Nat):Int) (gD s):=by
    intro d hd z hz
    subst hz
    have k1:IntKind.u64.wrap ((v:Int)*16)=(v:Int)*16:=u64w (by omega) (by omega)
    have k2:IntKind.u64.wrap (d:Int)=d:=u64w (by omega) (by omega)
    have k3:IntKind.u64.wrap ((v:Int)*16+(d:Int))=(v:Int)*16+(d:Int):=u64w (by omega) (by omega)
    rw[hw16,hw64,k1,k2,k3,hi1,cI (show ¬(d:Int)≥16 by omega),cond_false,cI (show ¬(v:Int)≥1152921504606846976 by omega),cond_false,cI (show ¬(v:Int)*16+(d:Int)<(v:Int)*16 by omega),cond_false,
      cI (show ¬(v:Int)*16+(d:Int)>65535 by omega),cond_false]
    have:(v:Int)*16+(d:Int)=((16*v+d:Nat):Int):=by omega
    rw[this]
  rw[cond_false,Bool.cond_self]
  unfold Kx
  simp only[hbn]
  by_cases h1:48≤b∧b≤57
  · rw[bf (show (48:Int)≤(b:Int) by omega),cond_true,bf (show (b:Int)≤57 by omega),cond_true,if_pos h1]
    exact fit (b - 48) (by omega) _ (f1 h1)
  · rw[if_neg h1]
    have Xm:∀x z:Option R,(bif (decide ((48:Int)≤(b:Int)))then (bif (decide ((b:Int)≤(57:Int)))then x else z)else z)=z:=by
      intro x z
      by_cases h:(48:Int)≤(b:Int)
      · rw[bf h,cond_true,cI (show ¬(b:Int)≤57 by omega),cond_false]
      · rw[cI h,cond_false]
    simp only[cond_false]
    rw[Xm]
    by_cases h2:(97:Int)≤yF b
    · rw[bf h2,cond_true]
      by_cases h3:yF b≤122
      · rw[bf h3,cond_true]
        obtain ⟨_,_,g1,g2,g3⟩:=f2 h2 h3
        rw[g1]
        by_cases h4:yF b - 87<16
        · rcases g2 h4 with ⟨q1,q2⟩|⟨q1,q2⟩
          · rw[if_pos q1]
            exact fit (b - 55) (by omega) _ q2
          · rw[if_neg (by omega),if_pos q1]
            exact fit (b - 87) (by omega) _ q2
        · obtain ⟨q1,q2⟩:=g3 (by omega)
          rw[hw16,bf (show yF b - 87≥16 by omega),cond_true,if_neg q1,if_neg q2]
      · rw[cI h3,cond_false]
        obtain ⟨q1,q2⟩:=f3 (by omega)
        rw[if_neg q1,if_neg q2]
    · rw[cI h2,cond_false]
      obtain ⟨q1,q2⟩:=f3 (by omega)
      rw[if_neg q1,if_neg q2]

theorem Wv (s:aj) (i v:Nat) (hi:i<s.length):Iv (s.drop i) v=match Kx s[i]with|some d=>Iv (s.drop (i+1)) (16*v+d)|none=>none:=by
  rw[List.drop_eq_getElem_cons hi]
  rfl

theorem Ww {R:Type} {s x22:aj} (hs:s.length≤4) (e0:aj→Bool→Int→Option R) (e1 e2:Int→aj→Bool→Int→Option R) (e3:Int→aj→Bool→Option R):∀(n i v:Nat),s.length - i<n→i≤s.length→v<16 ^ i →
    (match Iv (s.drop i) v with
     | some u=>aC n 16 false x22 1152921504606846976 65535 false (v:Int) s.length (s.length:Int) (i:Int) (gD s) e0 e1 e2 e3=e0 x22 false (u:Int)
     | none=>∃w,aC n 16 false x22 1152921504606846976 65535 false (v:Int) s.length (s.length:Int) (i:Int) (gD s) e0 e1 e2 e3=e1 0 x22 false w):=by
  intro n
  induction n with
  | zero=>intro i v h; omega
  | succ n ih =>
    intro i v h hi hv
    by_cases jb:i<s.length
    · have VV:v<4096:=by
        have:16 ^ i≤16 ^ 3:=Nat.pow_le_pow_right (by omega) (by omega)
        have e:(16:Nat) ^ 3=4096:=rfl
        omega
      have hr:=Tx (R:=R) (x22:=x22) jb (by omega) VV (fun kN kO lN th BT Dk Ks Kt Ku Kv zh=>aC n kN kO lN th BT Dk Ks Kt Ku Kv zh e0 e1 e2 e3) e0 e1 e2 e3
      have hL:aC (n+1) 16 false x22 1152921504606846976 65535 false (v:Int) s.length (s.length:Int) (i:Int) (gD s) e0 e1 e2 e3 =
        dB internal_strconv_lower (fun kN kO lN th BT Dk Ks Kt Ku Kv zh=>aC n kN kO lN th BT Dk Ks Kt Ku Kv zh e0 e1 e2 e3) 16 false x22 1152921504606846976 65535 false (v:Int) s.length (s.length:Int) (i:Int) (gD s) e0 e1 e2 e3:=rfl
      rw[hL,hr,Wv s i v jb]
      cases hx:Kx s[i]with
      | none=>exact ⟨_,rfl⟩
      | some d =>
        have hd:=UL hx
        have:(16:Nat) ^ (i+1)=16 ^ i*16:=Nat.pow_succ ..
        exact ih (i+1) (16*v+d) (by omega) (by omega) (by omega)
    · have e:s.drop i = []:=List.drop_eq_nil_of_le (by omega)
      rw[e]
      simp only[Iv]
      show dB internal_strconv_lower _ 16 false x22 1152921504606846976 65535 false (v:Int) s.length (s.length:Int) (i:Int) (gD s) e0 e1 e2 e3=_
      unfold dB
      rw[cI (show ¬(i:Int)<(s.length:Int) by omega),cond_false]


theorem parse4 {R:Type} {s:aj} (hs:s.length=4) (k0 k1:Int→Option R):eB s 16 16 k0 k1=match Iv s 0 with|some u=>k1 (u:Int)|none=>k0 0:=by
 show pn cx s 16 16 k0 k1=_
 unfold pn
 show jf internal_strconv_lower bm aC s 16 16 _ _ _ _ _=_
 unfold jf
 have h1:(s==([]:aj))=false:=by rw[beq_eq_false_iff_ne]; rintro rfl; simp at hs
 rw[h1,cond_false]
 have c1:decide ((2:Int)≤16)=true:=by decide
 have c2:decide ((16:Int)≤36)=true:=by decide
 have c3:((16:Int)==0)=false:=by decide
 have c4:decide ((16:Int)<0)=false:=by decide
 have c5:decide ((16:Int)>64)=false:=by decide
 have c6:((16:Int)==10)=false:=by decide
 have c7:((16:Int)==16)=true:=by decide
 have c8:decide ((0:Int)≤IntKind.u64.wrap 16)=true:=by decide
 have c9:(IntKind.u64.wrap ((IntKind.u64.wrap (1*2 ^ (min ((IntKind.u64.wrap 16).toNat) IntKind.u64.bits))) - 1))=65535:=by decide +kernel
 dsimp only
 rw[c1,cond_true,c2,cond_true,c3,cond_false,c4,cond_false,c5,cond_false,c6,cond_false,c7,cond_true]
 rw[c8,aL rfl,c9]
 have hb:decide (s.length≤281474976710656)=true:=bf (by omega)
 have key:=fun (n:Nat) (hn:4<n) (e0:aj→Bool→Int→Option R) (e1 e2:Int→aj→Bool→Int→Option R) (e3:Int→aj→Bool→Option R)=>Ww (R:=R) (s:=s) (x22:=s) (by omega) e0 e1 e2 e3 n 0 0 (by omega) (by omega) (by omega)
 have z0:(((0:Nat):Int))=0:=rfl
 simp only[List.drop_zero,z0]at key
 cases hx:Iv s 0 with
 | some u =>
  simp only[hx]at key
  rw[key _ (by omega)]
  rfl
 | none =>
  simp only[hx]at key
  generalize hF:(Int.natAbs 16+List.length s+Int.natAbs 1152921504606846976+Int.natAbs 65535+Int.natAbs 0+Int.natAbs (s.length:Int)+Int.natAbs 0+List.length (gD s)+64)=F at *
  obtain ⟨w,hw⟩:=key F (by rw[←hF]; omega) _ _ _ _
  rw[hw,aL (by rfl),hb,aL rfl]

theorem Mv:∀(l:aj) (v u:Nat),Iv l v=some u→u<(v+1)*16 ^ l.length
 | [],v,u,h=>by cases h; simp
 | b::t,v,u,h=>by
  simp only[Iv]at h
  cases hx:Kx b with
  | none=>rw[hx]at h; cases h
  | some d =>
   rw[hx]at h
   have h1:=Mv t _ _ h
   have hd:=UL hx
   have h2:(16*v+d+1)*16 ^ t.length≤((v+1)*16)*16 ^ t.length:=Nat.mul_le_mul_right _ (by omega)
   rw[List.length_cons,Nat.pow_succ]
   have h3:(v+1)*16*16 ^ t.length=(v+1)*(16 ^ t.length*16):=by rw[Nat.mul_assoc,Nat.mul_comm 16]
   omega
theorem Ru:∀(l:aj) (v u:Nat),Iv l v=some u→∀b∈l,(Kx b).isSome=true
 | [],v,u,h=>by simp
 | b::t,v,u,h=>by
  simp only[Iv]at h
  cases hx:Kx b with
  | none=>rw[hx]at h; cases h
  | some d =>
   rw[hx]at h
   intro c hc
   rcases List.mem_cons.1 hc with rfl|hc
   ·rw[hx]; rfl
   ·exact Ru t _ _ h c hc
theorem Rv {b:UInt8} (h:(Kx b).isSome=true):b.toNat<128∧b.toNat≠43∧b.toNat≠45∧b.toNat≠95:=by
 unfold Kx at h
 simp only at h
 revert h
 (repeat' split) <;> intro h <;> first|omega|cases h

theorem Rw (cs:aj):∀s:aj,(∀b∈s,cs.contains b=false)→L6 s cs=false:=by
 have key:∀s:aj,(∀b∈s,cs.contains b=false)→indexAny s cs = -1:=by
  intro s
  induction s with
  | nil=>intro _; rfl
  | cons b s ih =>
   intro h
   unfold indexAny
   rw[h b (by simp)]
   have:=ih fun x hx=>h x (by simp[hx])
   simp[this]
 intro s h
 unfold L6 containsAny
 rw[key s h]
 rfl

def DY (s:aj):Option (Nat × aj):=if s.length<4 then none else match Iv (s.take 4) 0 with|some v=>some (v,s.drop 4)|none=>none
theorem AX {s r:aj} {v:Nat} (h:DY s=some (v,r)):v<65536∧4≤s.length∧r=s.drop 4:=by
 unfold DY at h
 split at h
 ·cases h
 ·rename_i hl
  split at h
  ·rename_i u hu
   cases h
   have:=Mv _ _ _ hu
   rw[List.length_take,Nat.min_eq_left (by omega)]at this
   exact ⟨by omega,by omega,rfl⟩
  ·cases h

theorem FH {n:Nat} (h:n<1114112):IntKind.i32.wrap (n:Int)=(n:Int):=On (by omega) (by omega)

theorem UM {R:Type} (s:aj) (hs:s.length≤9000000000000000000) (k:Int→aj→Option R) :
  cJ s k=match DY s with|some (v,r)=>k (v:Int) r|none=>k (-1) s:=by
 show lF eB s k=_
 unfold lF
 by_cases hl:s.length<4
 ·rw[bf (show (s.length:Int)<4 by omega),cond_true]
  unfold DY
  rw[if_pos hl]
 ·rw[cI (show ¬(s.length:Int)<4 by omega),cond_false,aL (bf (by omega))]
  have h4:(s.drop 0).take (4 - 0)=s.take 4:=rfl
  rw[h4,parse4 (by rw[List.length_take]; omega)]
  unfold DY
  rw[if_neg hl]
  cases hu:Iv (s.take 4) 0 with
  | none=>rfl
  | some v =>
   have wY:=Ru _ _ _ hu
   have To:sY (s.take 4)=true:=List.all_eq_true.2 fun b hb=>bf (Rv (wY b hb)).1
   have hno:L6 (s.take 4) [43,45,95]=false:=Rw _ _ fun b hb=>by
    obtain ⟨_,g1,g2,g3⟩:=Rv (wY b hb)
    have e:∀x:UInt8,b.toNat≠x.toNat→(b==x)=false:=fun x hx=>by
     rw[beq_eq_false_iff_ne]; rintro rfl; exact hx rfl
    simp only[List.contains_cons,List.contains_nil,e 43 g1,e 45 g2,e 95 g3]
    rfl
   have hv:=(AX (s:=s) (r:=s.drop 4) (v:=v) (by unfold DY; rw[if_neg hl,hu])).1
   have KN:sY ([43,45,95]:aj)=true:=by decide
   simp only
   rw[aL (by rw[To,KN,bf (show (s.take 4).length<4294967281 by rw[List.length_take]; omega)]; rfl),hno,cond_false,aL (by rw[bf (show (0:Int)≤(s.length:Int) by omega),bf (show (s.length:Int)≤s.length by omega)]; rfl),aL (bf (by omega))]
   rw[FH (by omega),Int.toNat_natCast,List.take_of_length_le (by rw[List.length_drop]; exact Nat.le_refl _)]

def Iw (s:aj):Option (Nat × aj) :=
 match DY s with
 | none=>none
 | some (v,r) =>
  if v<55296∨57344≤v then some (v,r)else if 56320≤v then none
  else if ([92,117]:aj).isPrefixOf r then
   match DY (r.drop 2)with
   | none=>none
   | some (w,r2)=>if 56320≤w∧w<57344 then some (65536+(v - 55296)*1024+(w - 56320),r2)else none
  else none

theorem shl10 (n:Nat) (h:n<1024):IntKind.i32.wrap ((n:Int)*2 ^ (min 10 IntKind.i32.bits))=((n*1024:Nat):Int):=by
 have e:(n:Int)*2 ^ (min 10 IntKind.i32.bits)=((n*1024:Nat):Int):=by
  show (n:Int)*2 ^ 10=_
  omega
 rw[e,FH (by omega)]

theorem long_ok {R:Type} (s:aj) (hs:s.length≤9000000000000000000) (k:Int→aj→Option R) :
  match Iw s with|some (c,r)=>cu s k=k (c:Int) r|none=>∃r,cu s k=k (-1) r:=by
 have e0:cu s k=lG aA cJ s k:=rfl
 rw[e0]
 unfold lG
 rw[UM s hs]
 unfold Iw
 cases hu:DY s with
 | none =>
  simp only
  exact ⟨s,by rw[bf (show (-1:Int)<55296 by omega),cond_true]⟩
 | some p =>
  obtain ⟨v,r⟩:=p
  obtain ⟨hv,hl,hr⟩:=AX hu
  have hrl:r.length≤9000000000000000000:=by rw[hr,List.length_drop]; omega
  simp only
  by_cases h1:v<55296
  ·rw[if_pos (.inl h1),bf (show (v:Int)<55296 by omega)]
   simp only[cond_true]
  rw[cI (show ¬(v:Int)<55296 by omega),cond_false]
  by_cases h2:57344≤v
  ·rw[if_pos (.inr h2),bf (show (v:Int)≥57344 by omega)]
   simp only[cond_true]
  rw[if_neg (by omega),cI (show ¬(v:Int)≥57344 by omega),cond_false]
  by_cases h3:56320≤v
  ·rw[if_pos h3]
   exact ⟨r,by rw[bf (show (v:Int)≥56320 by omega),cond_true]⟩
  rw[if_neg h3,cI (show ¬(v:Int)≥56320 by omega),cond_false,KT _ _ (by simp) hrl]
  cases hp:([92,117]:aj).isPrefixOf r with
  | false =>
   simp only[Bool.false_eq_true,if_false]
   exact ⟨r,rfl⟩
  | true =>
   simp only[if_true]
   have hrl2:(r.drop 2).length≤9000000000000000000:=by rw[List.length_drop]; omega
   have e2:r.drop ([92,117]:aj).length=r.drop 2:=rfl
   rw[Bool.not_true,cond_false,e2,UM _ hrl2]
   cases R3:DY (r.drop 2)with
   | none =>
    simp only
    exact ⟨r.drop 2,by rw[bf (show (-1:Int)<56320 by omega),cond_true]⟩
   | some q =>
    obtain ⟨w,r2⟩:=q
    obtain ⟨hw,O8,hr2⟩:=AX R3
    simp only
    by_cases h4:56320≤w∧w<57344
    ·rw[if_pos h4]
     simp only
     rw[cI (show ¬(w:Int)<56320 by omega),cond_false,cI (show ¬(w:Int)≥57344 by omega),cond_false]
     have k1:IntKind.i32.wrap ((v:Int) - 55296)=((v - 55296:Nat):Int):=by
      have:(v:Int) - 55296=((v - 55296:Nat):Int):=by omega
      rw[this,FH (by omega)]
     rw[k1,shl10 _ (by omega)]
     have k2:IntKind.i32.wrap (65536+(((v - 55296)*1024:Nat):Int))=((65536+(v - 55296)*1024:Nat):Int):=by
      have:65536+(((v - 55296)*1024:Nat):Int)=((65536+(v - 55296)*1024:Nat):Int):=by omega
      rw[this,FH (by omega)]
     have k3:IntKind.i32.wrap (((65536+(v - 55296)*1024:Nat):Int)+(w:Int))=((65536+(v - 55296)*1024+w:Nat):Int):=by
      have:((65536+(v - 55296)*1024:Nat):Int)+(w:Int)=((65536+(v - 55296)*1024+w:Nat):Int):=by omega
      rw[this]
      simp only[IntKind.wrap,IntKind.bits,IntKind.signed]
      simp
      omega
     have k4:IntKind.i32.wrap (((65536+(v - 55296)*1024+w:Nat):Int) - 56320)=((65536+(v - 55296)*1024+(w - 56320):Nat):Int):=by
      have:((65536+(v - 55296)*1024+w:Nat):Int) - 56320=((65536+(v - 55296)*1024+(w - 56320):Nat):Int):=by omega
      rw[this,FH (by omega)]
     rw[k2,k3,k4]
    ·rw[if_neg h4]
     refine ⟨r2,?_⟩
     by_cases h5:w<56320
     ·rw[bf (show (w:Int)<56320 by omega),cond_true]
     ·rw[cI (show ¬(w:Int)<56320 by omega),cond_false,bf (show (w:Int)≥57344 by omega),cond_true]

def Rx:aj→Option (Nat × aj)
 | []=>none
 | b::t =>
  if b.toNat=34∨b.toNat=92∨b.toNat=47 then some (b.toNat,t)else if b.toNat=98 then some (8,t)else if b.toNat=102 then some (12,t)else if b.toNat=110 then some (10,t)
  else if b.toNat=114 then some (13,t)else if b.toNat=116 then some (9,t)else if b.toNat=117 then Iw t else none

theorem esc_ok {R:Type} (s:aj) (hs:s.length≤9000000000000000000) (k:Int→aj→Option R) :
  match Rx s with|some (c,r)=>aX s k=k (c:Int) r|none=>∃r,aX s k=k (-1) r:=by
 have e0:aX s k=jO cu s k:=rfl
 rw[e0]
 unfold jO
 cases s with
 | nil=>exact ⟨[],rfl⟩
 | cons b t =>
  have jc:((b::t:aj)==([]:aj))=false:=rfl
  simp only[List.length_cons]at hs
  have ht:(((b::t:aj).drop 1).take (((b::t:aj).length:Int).toNat - 1))=t:=by
   rw[Int.toNat_natCast,List.drop_succ_cons,List.drop_zero,List.length_cons,Nat.add_sub_cancel,List.take_length]
  have hg:((b::t:aj).getD 0 0).toNat=b.toNat:=rfl
  rw[jc,cond_false,aL (bf (show (0:Int)<((b::t:aj).length:Int) by simp only[List.length_cons]; omega)),
   aL (by rw[bf (show (0:Int)≤((b::t:aj).length:Int) by omega),bf (show ((b::t:aj).length:Int)≤(b::t:aj).length by omega)]; rfl),
   aL (bf (show (1:Int)≤((b::t:aj).length:Int) by simp only[List.length_cons]; omega))]
  simp only[ht,hg]
  have hb:=UInt8.toNat_lt b
  simp only[Rx]
  generalize b.toNat=n at *
  have q:∀m:Nat,((n:Int)==(m:Int))=decide (n=m):=fun m=>by
   by_cases h:n=m
   ·subst h; simp
   ·have:¬((n:Int)=(m:Int)):=by omega
    simp[h,this]
  have q34:((n:Int)==34)=decide (n=34):=q 34
  have q92:((n:Int)==92)=decide (n=92):=q 92
  have q47:((n:Int)==47)=decide (n=47):=q 47
  have q98:((n:Int)==98)=decide (n=98):=q 98
  have q102:((n:Int)==102)=decide (n=102):=q 102
  have q110:((n:Int)==110)=decide (n=110):=q 110
  have q114:((n:Int)==114)=decide (n=114):=q 114
  have q116:((n:Int)==116)=decide (n=116):=q 116
  have q117:((n:Int)==117)=decide (n=117):=q 117
  simp only[q34,q92,q47,q98,q102,q110,q114,q116,q117,FH (show n<1114112 by omega)]
  by_cases Gv:n=34
  ·subst Gv; simp
  by_cases PV:n=92
  ·subst PV; simp
  by_cases h47:n=47
  ·subst h47; simp
  simp only[Gv,PV,h47,decide_false,cond_false,or_self,if_false]
  by_cases h98:n=98
  ·subst h98; simp
  by_cases h102:n=102
  ·subst h102; simp
  by_cases h110:n=110
  ·subst h110; simp
  by_cases h114:n=114
  ·subst h114; simp
  by_cases h116:n=116
  ·subst h116; simp
  by_cases h117:n=117
  ·subst h117
   have:=long_ok (R:=R) t (by omega) k
   simp only[decide_true,decide_false,cond_true,cond_false,if_true,show ¬((117:Nat)=98) by decide,show ¬((117:Nat)=102) by decide,show ¬((117:Nat)=110) by decide,show ¬((117:Nat)=114) by decide,show ¬((117:Nat)=116) by decide,if_false]
   exact this
  simp only[h98,h102,h110,h114,h116,h117,decide_false,cond_false,if_false]
  exact ⟨t,rfl⟩

def Eg:aj := [48,49,50,51,52,53,54,55,56,57,97,98,99,100,101,102]
def oV (c:Nat):Nat:=if c=34∨c=92 then c else if c=8 then 98 else if c=12 then 102 else if c=10 then 110 else if c=13 then 114 else if c=9 then 116 else 0
def qc (c:Nat):aj:=if oV c≠0 then [92,UInt8.ofNat (oV c)]else if c<32 then [92,117,48,48,Eg.getD (c / 16) 0,Eg.getD (c % 16) 0]else enc c
def Ix (rs:List Nat):aj:=rs.flatMap qc
def qt (rs:List Nat):aj:=34::(Ix rs ++ [34])

theorem Wx (c:Nat):oV c<256:=by unfold oV; (repeat' split) <;> omega
theorem Zw {R:Type} (c:Nat) (k:Int→Option R):dM (c:Int) k=k (oV c:Int):=by
 show yj (c:Int) k=_
 unfold yj oV
 have b:∀n:Nat,((c:Int)==(n:Int))=decide (c=n):=fun n=>by
  by_cases h:c=n
  ·subst h; simp
  ·have:¬((c:Int)=(n:Int)):=by omega
   simp[h,this]
 have b34:((c:Int)==34)=decide (c=34):=b 34
 have b92:((c:Int)==92)=decide (c=92):=b 92
 have b8:((c:Int)==8)=decide (c=8):=b 8
 have b12:((c:Int)==12)=decide (c=12):=b 12
 have b10:((c:Int)==10)=decide (c=10):=b 10
 have b13:((c:Int)==13)=decide (c=13):=b 13
 have b9:((c:Int)==9)=decide (c=9):=b 9
 rw[b34,b92,b8,b12,b10,b13,b9]
 have w:IntKind.u8.wrap (c:Int)=((c % 256:Nat):Int):=Zg c
 by_cases Gv:c=34
 ·subst Gv; rfl
 by_cases PV:c=92
 ·subst PV; rfl
 simp only[Gv,PV,decide_false,cond_false,or_self,if_false]
 by_cases h8:c=8
 ·subst h8; rfl
 by_cases h12:c=12
 ·subst h12; rfl
 by_cases h10:c=10
 ·subst h10; rfl
 by_cases h13:c=13
 ·subst h13; rfl
 by_cases h9:c=9
 ·subst h9; rfl
 simp[h8,h12,h10,h13,h9]

theorem Ry (s:aj) (pos:Nat):lI s pos=decodeL (s.drop pos):=by
 unfold lI
 exact (decodeL_drop ⟨s.toArray⟩ pos).symm

theorem Rz (rs:List Nat) (c:Nat) (t:List Nat):cz (rs++c::t)=cz rs++(enc c++cz t):=by simp[cz]

theorem hexdig:∀c:Fin 32,(Int.fdiv (c.val:Int) (2 ^ (min 4 IntKind.i32.bits)))=((c.val / 16:Nat):Int)∧IntKind.i32.wrap ((BitVec.ofInt IntKind.i32.bits (c.val:Int) &&& BitVec.ofInt IntKind.i32.bits 15).toNat:Int)=((c.val % 16:Nat):Int):=by decide +kernel

theorem Zx {c:Nat} (hv:vr c):(qc c).length≤6:=by
 unfold qc
 split
 ·simp
 ·split
  ·simp
  ·have:=zT hv; omega

theorem RA {R:Type} {x:aj} {pos c:Nat} (hp:pos<x.length) {t:aj} (hd:x.drop pos=enc c++t) (hv:vr c) (o:aj) (ho:o.length≤90000000000) (fC:List Int→aj→Nat→Option R) (e0:List Int→Option R) :
  ke ad dM ae ai fC (zs o) x pos e0=fC (zs (o++qc c)) x (pos+(enc c).length):=by
 unfold ke
 have hr:lI x pos=(c,(enc c).length):=by rw[Ry,hd,HQ hv]
 rw[hr,bf hp,cond_true]
 simp only
 rw[Zw]
 have Pc:∀z:aj,z.length≤10→Ib (o++z):=fun z hz=>by unfold Ib; rw[List.length_append]; omega
 have Zy:Ib o:=by unfold Ib; omega
 by_cases hs:oV c≠0
 ·have e:((oV c:Int) != 0)=true:=by
   exact bne_iff_ne.2 (by omega)
  rw[e,cond_true]
  have PV:(92:Int)=((92:UInt8).toNat:Int):=rfl
  rw[PV,wb _ o Zy]
  have h2:(oV c:Int)=((UInt8.ofNat (oV c)).toNat:Int):=by rw[gf _ (Wx c)]
  rw[h2,wb _ _ (Pc [92] (by simp))]
  have:qc c = [92,UInt8.ofNat (oV c)]:=by unfold qc; rw[if_pos hs]
  rw[this,List.append_assoc]
  rfl
 ·have hs0:oV c=0:=by omega
  have e:((oV c:Int) != 0)=false:=by rw[hs0]; rfl
  rw[e,cond_false]
  by_cases Zz:c<32
  ·rw[bf (show (c:Int)<32 by omega),cond_true,ws _ o (by simp) Zy]
   obtain ⟨k1,k2⟩:=hexdig ⟨c,Zz⟩
   simp only at k1 k2
   rw[k1,k2,aL (by rw[bf (by omega),bf (by omega)]; rfl)]
   rw[Int.toNat_natCast,Int.toNat_natCast,wb _ _ (Pc [92,117,48,48] (by simp)),aL (by rw[bf (by omega),bf (by omega)]; rfl)]
   rw[List.append_assoc o,wb _ _ (Pc _ (by simp))]
   have:qc c = [92,117,48,48,Eg.getD (c / 16) 0,Eg.getD (c % 16) 0]:=by unfold qc; rw[if_neg hs,if_pos Zz]
   rw[this,List.append_assoc o]
   rfl
  ·rw[cI (show ¬(c:Int)<32 by omega),cond_false]
   obtain ⟨n,hn⟩:=wr hv o Zy (fun zA FF=>fC FF x (pos+(enc c).length))
   rw[hn]
   have:qc c=enc c:=by unfold qc; rw[if_neg hs,if_neg Zz]
   rw[this]

theorem Tz {R:Type} (rs:List Nat):∀(n:Nat) (done:List Nat) (o:aj),rs.length<n→(∀c∈rs,vr c)→(∀c∈done,vr c)→o.length+6*rs.length≤80000000000→∀e0:List Int→Option R,
  bW n (zs o) (cz (done++rs)) (cz done).length e0=e0 (zs (o++Ix rs)):=by
 induction rs with
 | nil =>
  intro n done o hn _ _ _ e0
  obtain ⟨m,rfl⟩:∃m,n=m+1:=⟨n - 1,by simp at hn; omega⟩
  show ke ad dM ae ai _ (zs o) (cz (done ++ [])) (cz done).length e0=_
  unfold ke
  rw[List.append_nil,cI (Nat.lt_irrefl _),cond_false]
  simp[Ix]
 | cons c rs ih =>
  intro n done o hn hr hd hl e0
  obtain ⟨m,rfl⟩:∃m,n=m+1:=⟨n - 1,by simp at hn; omega⟩
  have hv:=hr c (by simp)
  have he:=zT hv
  have hq:=Zx hv
  simp only[List.length_cons]at hn hl
  show ke ad dM ae ai (fun kN kO lN=>bW m kN kO lN e0) (zs o) (cz (done++c::rs)) (cz done).length e0=_
  rw[RA (c:=c) (t:=cz rs) (by rw[Rz,List.length_append,List.length_append]; omega) (by rw[Rz,List.drop_left]) hv o (by omega)]
  have e1:done++c::rs=(done ++ [c])++rs:=by simp
  have e2:(cz done).length+(enc c).length=(cz (done ++ [c])).length:=by rw[Jl,List.length_append]
  rw[e1,e2,ih m (done ++ [c]) (o++qc c) (by omega) (fun x hx=>hr x (by simp[hx])) (fun x hx=>by
   rcases List.mem_append.1 hx with h|h
   ·exact hd x h
   ·simp at h; subst h; exact hv) (by rw[List.length_append]; omega)]
  rw[List.append_assoc]
  rfl

theorem Ha:∀(rs:List Nat),(∀c∈rs,vr c)→rs.length≤(cz rs).length∧(cz rs).length≤4*rs.length
 | [],_=>by simp[cz]
 | c::rs,h=>by
  have h1:=zT (h c (by simp))
  have h2:=Ha rs (fun x hx=>h x (by simp[hx]))
  have:cz (c::rs)=enc c++cz rs:=by simp[cz]
  rw[this,List.length_append,List.length_cons]
  omega
theorem Ow:∀(rs:List Nat),(∀c∈rs,vr c)→(Ix rs).length≤6*rs.length
 | [],_=>by simp[Ix]
 | c::rs,h=>by
  have h1:=Zx (h c (by simp))
  have h2:=Ow rs (fun x hx=>h x (by simp[hx]))
  have:Ix (c::rs)=qc c++Ix rs:=by simp[Ix]
  rw[this,List.length_append,List.length_cons]
  omega

theorem ZA {R:Type} (rs:List Nat) (hr:∀c∈rs,vr c) (hl:rs.length≤10000000000) (k:aj→Bool→Option R):cd (cz rs) k=k (qt rs) true:=by
 have hc:=Ha rs hr
 have hq:=Ow rs hr
 have hw:gE (cz rs)=true:=Co.2 ⟨rs,hr,rfl⟩
 show qU bp ah ad bW (cz rs) k=_
 unfold qU
 have q:∀(x:aj) (f:Bool→Option R),bp x f=f (gE x):=fun _ _=>rfl
 have q2:∀(x:Int) (f:List Int→Option R),ah x f=f [x]:=fun _ _=>rfl
 rw[q,hw,Bool.not_true,cond_false,q2]
 have e34:([34]:List Int)=zs [34]:=rfl
 rw[e34]
 have:=Tz (R:=R) rs (List.length (zs [34])+List.length (cz rs)+64) [] [34] (by omega) hr (by simp) (by simp; omega)
 rw[List.nil_append]at this
 have e0:(cz []).length=0:=rfl
 rw[e0]at this
 rw[this]
 have Gv:(34:Int)=((34:UInt8).toNat:Int):=rfl
 rw[Gv,wb _ _ (by unfold Ib; rw[List.length_append]; simp; omega),rE]
 rfl

theorem Wy {R:Type} (s:aj) (h:gE s=false) (k:aj→Bool→Option R):cd s k=k [] false:=by
 show qU bp ah ad bW s k=_
 unfold qU
 have q:∀(x:aj) (f:Bool→Option R),bp x f=f (gE x):=fun _ _=>rfl
 rw[q,h]
 rfl

def Iy (s:aj):Option (Nat × aj):=if ([92]:aj).isPrefixOf s then Rx (s.drop 1)else Dw s
def uq:Nat→aj→aj→Option (aj × aj)
  | 0,_,_=>none
  | n+1,s,o=>if ([34]:aj).isPrefixOf s then some (o,s.drop 1)else match Iy s with|none=>none|some (c,r)=>uq n r (o++enc c)

theorem ZB {s r:aj} {c:Nat} (h:Iw s=some (c,r)):vr c∧r.length+4≤s.length:=by
  unfold Iw at h
  split at h
  · cases h
  · rename_i v r1 hu
    obtain ⟨hv,hl,hr⟩:=AX hu
    split at h
    · cases h
      refine ⟨by unfold vr; omega,?_⟩
      rw[hr,List.length_drop]; omega
    · split at h
      · cases h
      · split at h
        · split at h
          · cases h
          · rename_i w r2 R3
            obtain ⟨hw,O8,hr2⟩:=AX R3
            split at h
            · simp only[Option.some.injEq,Prod.mk.injEq]at h
              obtain ⟨hc,rfl⟩:=h
              refine ⟨by unfold vr; omega,?_⟩
              rw[hr2,hr]
              simp only[List.length_drop]
              rw[hr]at O8
              simp only[List.length_drop]at O8
              omega
            · cases h
        · cases h

theorem UN {s r:aj} {c:Nat} (h:Rx s=some (c,r)):vr c∧r.length<s.length:=by
  cases s with
  | nil=>cases h
  | cons b t =>
    simp only[Rx]at h
    have hb:=UInt8.toNat_lt b
    split at h
    · cases h; exact ⟨by unfold vr; omega,by simp⟩
    split at h
    · cases h; exact ⟨by unfold vr; omega,by simp⟩
    split at h
    · cases h; exact ⟨by unfold vr; omega,by simp⟩
    split at h
    · cases h; exact ⟨by unfold vr; omega,by simp⟩
    split at h
    · cases h; exact ⟨by unfold vr; omega,by simp⟩
    split at h
    · cases h; exact ⟨by unfold vr; omega,by simp⟩
    split at h
    · obtain ⟨h1,h2⟩:=ZB h
      exact ⟨h1,by simp only[List.length_cons]; omega⟩
    · cases h

theorem Ox {s r:aj} {c:Nat} (h:Dw s=some (c,r)):vr c∧r.length<s.length:=by
  unfold Dw at h
  split at h
  · cases h
  · rename_i jc
    split at h
    · cases h
    · split at h
      · cases h
      · cases h
        have h1:=decodeL_width s
        have h2:0<s.length:=List.length_pos_iff.2 jc
        exact ⟨Tl s,by rw[List.length_drop]; omega⟩

theorem RB {s r:aj} {c:Nat} (h:Iy s=some (c,r)):vr c∧r.length<s.length:=by
  unfold Iy at h
  split at h
  · obtain ⟨h1,h2⟩:=UN h
    exact ⟨h1,by rw[List.length_drop]at h2; omega⟩
  · exact Ox h

theorem UO:∀(n m:Nat) (s o:aj),s.length<n→s.length<m→uq n s o=uq m s o
  | 0,_,_,_,h,_=>by omega
  | _+1,0,_,_,_,h=>by omega
  | n+1,m+1,s,o,hn,hm=>by
    unfold uq
    split
    · rfl
    · cases hs:Iy s with
      | none=>rfl
      | some p =>
        obtain ⟨c,r⟩:=p
        obtain ⟨_,h2⟩:=RB hs
        exact UO n m r _ (by omega) (by omega)

theorem ZC {R:Type} (x:aj) (e0:aj→aj→List Int→Option R) (e1:aj→aj→Int→Bool→aj→List Int→Option R):∀(n:Nat) (s o:aj),s.length<n→o.length+4*s.length≤90000000000 →
    (match uq n s o with
     | some (o',r)=>bh n x s (zs o) e0 e1=e0 x r (zs o')
     | none=>∃a b,bh n x s (zs o) e0 e1=e1 x [] 0 false a b):=by
  intro n
  induction n with
  | zero=>intro s o h; omega
  | succ n ih =>
    intro s o h hb
    have hL:bh (n+1) x s (zs o) e0 e1=po ai aA bn aX (fun kN kO lN=>bh n kN kO lN e0 e1) x s (zs o) e0 e1:=rfl
    rw[hL]
    unfold po
    rw[KT _ _ (by simp) (by omega)]
    simp only[uq]
    have Pc:Ib o:=by unfold Ib; omega
    by_cases Gv:([34]:aj).isPrefixOf s=true
    · rw[if_pos Gv,if_pos Gv]
      rfl
    · rw[if_neg Gv,if_neg Gv,Bool.not_false,cond_true,KT _ _ (by simp) (by omega)]
      have fin:∀(c:Nat) (r:aj),vr c→r.length<s.length →
          (match uq n r (o++enc c)with
           | some (o',r')=>bh n x r (zs (o++enc c)) e0 e1=e0 x r' (zs o')
           | none=>∃a b,bh n x r (zs (o++enc c)) e0 e1=e1 x [] 0 false a b):=fun c r hv hr=>by
        have:=zT hv
        exact ih r (o++enc c) (by omega) (by rw[List.length_append]; omega)
      unfold Iy
      by_cases PV:([92]:aj).isPrefixOf s=true
      · rw[if_pos PV,if_pos PV]
        have Ug:s.drop ([92]:aj).length=s.drop 1:=rfl
        rw[Ug,cond_true]
        have hk:=esc_ok (R:=R) (s.drop 1) (by rw[List.length_drop]; omega) (fun vu yx=>bif (decide (vu<(0:Int)))then (e1 x ([]:aj) 0 false yx (zs o))else (ai vu (zs o) (fun DS zA=>bh n x yx zA e0 e1)))
        cases he:Rx (s.drop 1)with
        | none =>
          rw[he]at hk
          obtain ⟨r,hk⟩:=hk
          exact ⟨r,zs o,hk.trans (by rw[bf (show (-1:Int)<0 by omega),cond_true])⟩
        | some p =>
          obtain ⟨c,r⟩:=p
          rw[he]at hk
          obtain ⟨hv,hr⟩:=UN he
          rw[List.length_drop]at hr
          simp only at hk ⊢
          rw[hk,cI (show ¬(c:Int)<0 by omega),cond_false]
          obtain ⟨q,hq⟩:=wr hv o Pc (fun DS zA=>bh n x r zA e0 e1)
          rw[hq]
          exact fin c r hv (by omega)
      · rw[if_neg PV,if_neg PV,cond_false]
        have hk:=Zt (R:=R) s (by omega) (fun FF FG=>bif (decide (FF<(0:Int)))then (e1 x ([]:aj) 0 false FG (zs o))else (ai FF (zs o) (fun JV Hj=>bh n x FG Hj e0 e1)))
        cases he:Dw s with
        | none =>
          rw[he]at hk
          simp only at hk ⊢
          exact ⟨s,zs o,hk.trans (by rw[bf (show (-1:Int)<0 by omega),cond_true])⟩
        | some p =>
          obtain ⟨c,r⟩:=p
          rw[he]at hk
          obtain ⟨hv,hr⟩:=Ox he
          simp only at hk ⊢
          rw[hk,cI (show ¬(c:Int)<0 by omega),cond_false]
          obtain ⟨q,hq⟩:=wr hv o Pc (fun JV Hj=>bh n x r Hj e0 e1)
          rw[hq]
          exact fin c r hv (by omega)

def ZD (s:aj):Option (aj × aj):=if ([34]:aj).isPrefixOf s then uq (s.length+1) (s.drop 1) []else none

theorem TA {R:Type} (s:aj) (hs:s.length≤20000000000) (k:aj→Int→Bool→Option R) :
    eV s k=match ZD s with|some (o,r)=>k o (IntKind.i64.wrap ((s.length:Int) - (r.length:Int))) true|none=>k [] 0 false:=by
  have e:eV s k=uL aA bh s k:=rfl
  rw[e]
  unfold uL ZD
  rw[KT _ _ (by simp) (by omega)]
  by_cases Gv:([34]:aj).isPrefixOf s=true
  · rw[if_pos Gv,if_pos Gv,Bool.not_true,cond_false]
    have e1:s.drop ([34]:aj).length=s.drop 1:=rfl
    rw[e1]
    have hd:(s.drop 1).length≤s.length:=by rw[List.length_drop]; omega
    have key:=ZC (R:=R) s (fun PS Nb A7=>k (r9 A7) (IntKind.i64.wrap ((PS.length:Int) - (Nb.length:Int))) true) (fun Tr Rn y24 IS Jr IT=>k Rn y24 IS) (List.length s+List.length (s.drop 1)+List.length ([]:List Int)+64) (s.drop 1) [] (by omega) (by simp only[List.length_nil]; omega)
    rw[UO _ (s.length+1) (s.drop 1) [] (by omega) (by omega)]at key
    cases hu:uq (s.length+1) (s.drop 1) []with
    | none =>
      rw[hu]at key
      obtain ⟨a,b,key⟩:=key
      exact key
    | some p =>
      obtain ⟨o,r⟩:=p
      rw[hu]at key
      simp only at key ⊢
      refine Eq.trans key ?_
      rw[rE]
  · rw[if_neg Gv,if_neg Gv]
    rfl

theorem Mw (a b:UInt8) (t:aj):([a]:aj).isPrefixOf (b::t)=(a==b):=by
  simp[List.isPrefixOf]

theorem ZE:∀c:Fin 32,Iv [48,48,Eg.getD (c.val / 16) 0,Eg.getD (c.val % 16) 0] 0=some c.val:=by decide +kernel

theorem u8_ne {b:UInt8} {n:Nat} (hn:n<256) (h:b.toNat≠n):((UInt8.ofNat n)==b)=false:=by
  rw[beq_eq_false_iff_ne]
  rintro rfl
  rw[gf n hn]at h
  exact h rfl

theorem Wz {c:Nat} (hv:vr c) (h:32≤c) (Gv:c≠34) (PV:c≠92):∃b t,enc c=b::t∧b.toNat≠34∧b.toNat≠92:=by
  have jb:=Om hv
  rcases Cn hv with ⟨h1,e⟩|⟨h0,h1,e⟩|⟨h0,h1,e⟩|⟨h0,e⟩
  · exact ⟨_,_,e,by rw[gf _ (by omega)]; exact Gv,by rw[gf _ (by omega)]; exact PV⟩
  · exact ⟨_,_,e,by rw[gf _ (by omega)]; omega,by rw[gf _ (by omega)]; omega⟩
  · exact ⟨_,_,e,by rw[gf _ (by omega)]; omega,by rw[gf _ (by omega)]; omega⟩
  · exact ⟨_,_,e,by rw[gf _ (by omega)]; omega,by rw[gf _ (by omega)]; omega⟩

theorem PW (c:Nat):(oV c=0∧c≠34∧c≠92)∨c=34∨c=92∨c=8∨c=12∨c=10∨c=13∨c=9:=by
  unfold oV
  by_cases h1:c=34 <;> by_cases h2:c=92 <;> by_cases h3:c=8 <;> by_cases h4:c=12 <;> by_cases h5:c=10 <;> by_cases h6:c=13 <;> by_cases h7:c=9 <;> simp[h1,h2,h3,h4,h5,h6,h7]

theorem qc_hex {c:Nat} (h0:oV c=0) (h:c<32):qc c = [92,117,48,48,Eg.getD (c / 16) 0,Eg.getD (c % 16) 0]:=by unfold qc; rw[if_neg (by omega),if_pos h]
theorem PX {c:Nat} (h0:oV c=0) (h:¬c<32):qc c=enc c:=by unfold qc; rw[if_neg (by omega),if_neg h]

theorem step_qc {c:Nat} (hv:vr c) (t:aj):([34]:aj).isPrefixOf (qc c++t)=false∧Iy (qc c++t)=some (c,t):=by
  rcases PW c with ⟨h0,Gv,PV⟩|rfl|rfl|rfl|rfl|rfl|rfl|rfl
  · by_cases Zz:c<32
    · rw[qc_hex h0 Zz]
      refine ⟨rfl,?_⟩
      have hb:=ZE ⟨c,Zz⟩
      simp only at hb
      show Iw (48::48::Eg.getD (c / 16) 0::Eg.getD (c % 16) 0::t)=some (c,t)
      have hu:DY (48::48::Eg.getD (c / 16) 0::Eg.getD (c % 16) 0::t)=some (c,t):=by
        unfold DY
        rw[if_neg (by simp only[List.length_cons]; omega)]
        have e:List.take 4 (48::48::Eg.getD (c / 16) 0::Eg.getD (c % 16) 0::t) = [48,48,Eg.getD (c / 16) 0,Eg.getD (c % 16) 0]:=rfl
        rw[e,hb]
        rfl
      unfold Iw
      rw[hu]
      simp only
      rw[if_pos (.inl (by omega))]
    · rw[PX h0 Zz]
      obtain ⟨b,u,e,g1,g2⟩:=Wz hv (by omega) Gv PV
      have e2:enc c++t=b::(u++t):=by rw[e]; rfl
      refine ⟨?_,?_⟩
      · rw[e2,Mw]
        exact u8_ne (n:=34) (by omega) g1
      · unfold Iy
        have:([92]:aj).isPrefixOf (enc c++t)=false:=by
          rw[e2,Mw]
          exact u8_ne (n:=92) (by omega) g2
        rw[this]
        simp only[Bool.false_eq_true,if_false]
        unfold Dw
        rw[if_neg (Y6 hv t),HQ hv t]
        simp only
        have hg:=Rg hv t
        unfold Tj at hg
        rw[HQ hv t]at hg
        simp only at hg
        rw[if_neg hg,if_neg Zz,List.drop_left]
  · exact ⟨rfl,rfl⟩
  · exact ⟨rfl,rfl⟩
  · exact ⟨rfl,rfl⟩
  · exact ⟨rfl,rfl⟩
  · exact ⟨rfl,rfl⟩
  · exact ⟨rfl,rfl⟩
  · exact ⟨rfl,rfl⟩

theorem uq_qc:∀(rs:List Nat),(∀c∈rs,vr c)→∀(n:Nat) (o more:aj),rs.length<n→uq n (Ix rs++34::more) o=some (o++cz rs,more)
  | [],_,n,o,more,hn=>by
    obtain ⟨m,rfl⟩:∃m,n=m+1:=⟨n - 1,by simp at hn; omega⟩
    have:Ix []++34::more=34::more:=rfl
    rw[this]
    simp[uq,List.isPrefixOf,cz]
  | c::rs,hr,n,o,more,hn=>by
    obtain ⟨m,rfl⟩:∃m,n=m+1:=⟨n - 1,by simp at hn; omega⟩
    have hv:=hr c (by simp)
    have e:Ix (c::rs)++34::more=qc c++(Ix rs++34::more):=by simp[Ix]
    obtain ⟨h1,h2⟩:=step_qc hv (Ix rs++34::more)
    rw[e]
    simp only[uq,h1,h2,Bool.false_eq_true,if_false]
    rw[uq_qc rs (fun x hx=>hr x (by simp[hx])) m (o++enc c) more (by simp at hn; omega)]
    simp[cz]

theorem qc_pos {c:Nat} (hv:vr c):1≤(qc c).length:=by
  unfold qc
  split
  · simp
  · split
    · simp
    · exact (zT hv).1
theorem UP:∀(rs:List Nat),(∀c∈rs,vr c)→rs.length≤(Ix rs).length
  | [],_=>by simp[Ix]
  | c::rs,h=>by
    have h1:=qc_pos (h c (by simp))
    have h2:=UP rs (fun x hx=>h x (by simp[hx]))
    have:Ix (c::rs)=qc c++Ix rs:=by simp[Ix]
    rw[this,List.length_append,List.length_cons]
    omega

theorem ZF (rs:List Nat) (hr:∀c∈rs,vr c) (more:aj):ZD (qt rs++more)=some (cz rs,more):=by
  have e:qt rs++more=34::(Ix rs++34::more):=by unfold qt; simp
  have hq:=UP rs hr
  rw[e]
  unfold ZD
  rw[Mw]
  simp only[BEq.rfl,if_true,List.drop_succ_cons,List.drop_zero]
  have:=uq_qc rs hr ((34::(Ix rs++34::more)).length+1) [] more (by simp only[List.length_cons,List.length_append]; omega)
  rw[this]
  rfl

theorem RC {R:Type} (x:aj) (f:Bool→Option R):bp x f=f (gE x):=rfl

theorem Oy {R:Type} (s:aj) (hl:s.length≤10000000000):(∃rs:List Nat,(∀c∈rs,vr c)∧rs.length≤s.length∧s=cz rs∧gE s=true∧∀k:aj→Bool→Option R,cd s k=k (qt rs) true) ∨
  (gE s=false∧∀k:aj→Bool→Option R,cd s k=k [] false):=by
 cases h:gE s with
 | true =>
  obtain ⟨rs,hr,rfl⟩:=Co.1 h
  have:=Ha rs hr
  exact .inl ⟨rs,hr,this.1,rfl,rfl,fun k=>ZA rs hr (by omega) k⟩
 | false=>exact .inr ⟨rfl,fun k=>Wy s h k⟩


end Go.Proofs.YtmlkkgfenfdndaaGreatDoor

/-
 Functions of the program as pure Lean functions, and the ties; printed by wip/tools/emit.py.
-/
set_option maxRecDepth 100000
namespace Go.Proofs.YtmlkkgfenfdndaaGreatDoor
open Go Go.aF

end Go.Proofs.YtmlkkgfenfdndaaGreatDoor

/-
 Functions of the program as pure Lean functions, and the ties; printed by wip/tools/emit.py.
-/
set_option maxRecDepth 100000
namespace Go.Proofs.YtmlkkgfenfdndaaGreatDoor
open Go Go.aF

end Go.Proofs.YtmlkkgfenfdndaaGreatDoor

/-
 Functions of the program as pure Lean functions, and the ties; printed by wip/tools/emit.py.
-/
set_option maxRecDepth 100000
namespace Go.Proofs.YtmlkkgfenfdndaaGreatDoor
open Go Go.aF

end Go.Proofs.YtmlkkgfenfdndaaGreatDoor

set_option maxRecDepth 100000
namespace Go.Proofs.YtmlkkgfenfdndaaGreatDoor
open Go Go.aF Go.Lib

def tail (low v n:Nat):Nat:=if v<low∨1114111<v∨(55296≤v∧v≤57343)then 0 else n

end Go.Proofs.YtmlkkgfenfdndaaGreatDoor

/-
 Functions of the program as pure Lean functions, and the ties; printed by wip/tools/emit.py.
-/
set_option maxRecDepth 100000
namespace Go.Proofs.YtmlkkgfenfdndaaGreatDoor
open Go Go.aF

end Go.Proofs.YtmlkkgfenfdndaaGreatDoor

set_option maxRecDepth 100000
namespace Go.Proofs.YtmlkkgfenfdndaaGreatDoor
open Go Go.aF Go.Lib

theorem eqI (n m:Nat):((n:Int)==(m:Int))=decide (n=m):=by
 by_cases h:n=m
 ·subst h; simp
 ·have:¬((n:Int)=(m:Int)):=by omega
  simp[h,this]

def qb (b:UInt8):aj :=
 if b.toNat=34∨b.toNat=92 then [92,b]else if b.toNat=8 then [92,98]else if b.toNat=9 then [92,116]else if b.toNat=10 then [92,110]else if b.toNat=12 then [92,102]else if b.toNat=13 then [92,114]
 else if b.toNat<32 then [92,117,48,48,Eg.getD (b.toNat / 16) 0,Eg.getD (b.toNat % 16) 0]else [b]

theorem qb_len (b:UInt8):(qb b).length≤6:=by unfold qb; (repeat' split) <;> simp

theorem Ag {b:UInt8} (h:128≤b.toNat):qb b = [b]:=by
 unfold qb
 rw[if_neg (by omega),if_neg (by omega),if_neg (by omega),if_neg (by omega),if_neg (by omega),if_neg (by omega),if_neg (by omega)]

theorem qb_enc {c:Nat} (hv:vr c):(enc c).flatMap qb=qc c:=by
 have jb:=Om hv
 rcases Cn hv with ⟨h1,e⟩|⟨h0,h1,e⟩|⟨h0,h1,e⟩|⟨h0,e⟩
 ·rw[e]
  simp only[List.flatMap_cons,List.flatMap_nil,List.append_nil]
  have hu:=gf c (by omega)
  unfold qb qc oV
  rw[hu]
  by_cases Gv:c=34
  ·subst Gv; rfl
  by_cases PV:c=92
  ·subst PV; rfl
  by_cases h8:c=8
  ·subst h8; rfl
  by_cases h9:c=9
  ·subst h9; rfl
  by_cases h10:c=10
  ·subst h10; rfl
  by_cases h12:c=12
  ·subst h12; rfl
  by_cases h13:c=13
  ·subst h13; rfl
  simp only[Gv,PV,h8,h9,h10,h12,h13,or_self,if_false,ne_eq,not_true_eq_false]
  by_cases Zz:c<32
  ·simp only[Zz,if_true]
  ·simp only[Zz,if_false]
   rw[e]
 ·have hq:qc c=enc c:=PX (by unfold oV; rw[if_neg (by omega),if_neg (by omega),if_neg (by omega),if_neg (by omega),if_neg (by omega),if_neg (by omega)]) (by omega)
  rw[hq,e]
  simp only[List.flatMap_cons,List.flatMap_nil,List.append_nil]
  rw[Ag (by rw[gf _ (by omega)]; omega),Ag (by rw[gf _ (by omega)]; omega)]; rfl
 ·have hq:qc c=enc c:=PX (by unfold oV; rw[if_neg (by omega),if_neg (by omega),if_neg (by omega),if_neg (by omega),if_neg (by omega),if_neg (by omega)]) (by omega)
  rw[hq,e]
  simp only[List.flatMap_cons,List.flatMap_nil,List.append_nil]
  rw[Ag (by rw[gf _ (by omega)]; omega),Ag (by rw[gf _ (by omega)]; omega),Ag (by rw[gf _ (by omega)]; omega)]; rfl
 ·have hq:qc c=enc c:=PX (by unfold oV; rw[if_neg (by omega),if_neg (by omega),if_neg (by omega),if_neg (by omega),if_neg (by omega),if_neg (by omega)]) (by omega)
  rw[hq,e]
  simp only[List.flatMap_cons,List.flatMap_nil,List.append_nil]
  rw[Ag (by rw[gf _ (by omega)]; omega),Ag (by rw[gf _ (by omega)]; omega),Ag (by rw[gf _ (by omega)]; omega),Ag (by rw[gf _ (by omega)]; omega)]; rfl

theorem UQ:∀(rs:List Nat),(∀c∈rs,vr c)→(cz rs).flatMap qb=Ix rs
 | [],_=>rfl
 | c::rs,h=>by
  have e:cz (c::rs)=enc c++cz rs:=by simp[cz]
  have e2:Ix (c::rs)=qc c++Ix rs:=by simp[Ix]
  rw[e,e2,List.flatMap_append,qb_enc (h c (by simp)),UQ rs (fun x hx=>h x (by simp[hx]))]

theorem unz (s:aj):(List.map (fun n:Int=>UInt8.ofNat n.toNat) (zs s):aj)=s:=rE s


end Go.Proofs.YtmlkkgfenfdndaaGreatDoor

/-
 Functions of the program as pure Lean functions, and the ties; printed by wip/tools/emit.py.
-/
set_option maxRecDepth 100000
namespace Go.Proofs.YtmlkkgfenfdndaaGreatDoor
open Go Go.aF

end Go.Proofs.YtmlkkgfenfdndaaGreatDoor

set_option maxRecDepth 100000
namespace Go.Proofs.YtmlkkgfenfdndaaGreatDoor
open Go Go.aF Go.Lib


theorem dec_all (u:Nat):∀b∈decDigits u,48≤b.toNat∧b.toNat≤57:=by
 induction u using Nat.strongRecOn with
 | _ u ih =>
  intro b hb
  by_cases h:u<10
  ·rw[decDigits,dif_pos h]at hb
   simp only[List.mem_cons,List.not_mem_nil,or_false]at hb
   subst hb
   rw[gf _ (by omega)]; omega
  ·rw[decDigits,dif_neg h]at hb
   rcases List.mem_append.1 hb with hb|hb
   ·exact ih (u / 10) (by omega) b hb
   ·simp only[List.mem_cons,List.not_mem_nil,or_false]at hb
    subst hb
    rw[gf _ (by omega)]; omega
theorem Oz (u:Nat) (hu:0<u):∃b t,decDigits u=b::t∧b.toNat≠48:=by
 induction u using Nat.strongRecOn with
 | _ u ih =>
  by_cases h:u<10
  ·exact ⟨_, [],by rw[decDigits,dif_pos h],by rw[gf _ (by omega)]; omega⟩
  ·obtain ⟨b,t,e,hb⟩:=ih (u / 10) (by omega) (by omega)
   exact ⟨b,t ++ [UInt8.ofNat (48+u % 10)],by rw[decDigits,dif_neg h,e]; rfl,hb⟩
theorem ZG (u:Nat):∃l,decDigits u=l ++ [UInt8.ofNat (48+u % 10)]:=by
 by_cases h:u<10
 ·exact ⟨[],by rw[decDigits,dif_pos h,Nat.mod_eq_of_lt h]; rfl⟩
 ·exact ⟨decDigits (u / 10),by rw[decDigits,dif_neg h]⟩

theorem ZH {m:Int} (h:Int.tmod m 10≠0):m.natAbs % 10≠0:=by
 intro h2
 apply h
 have e:m=(m / 10)*10:=by omega
 rw[e]
 exact Int.mul_tmod_left _ _


theorem KU (c:UInt8):∀l:aj,Go.Lib.indexByte l c<0↔l.contains c=false
 | []=>by simp[Go.Lib.indexByte]
 | x::l=>by
  have ih:=KU c l
  have hg:=Go.Lib.indexByte_ge l c
  unfold Go.Lib.indexByte
  rw[List.contains_cons]
  by_cases h:x=c
  ·subst h; simp
  ·have h2:(c==x)=false:=by rw[beq_eq_false_iff_ne]; exact fun e=>h e.symm
   rw[h2,Bool.false_or,←ih]
   split
   ·rename_i h3; exact (h (beq_iff_eq.1 h3)).elim
   ·split
    ·rename_i h4
     have:=beq_iff_eq.1 h4
     omega
    ·rename_i h4
     have:¬Go.Lib.indexByte l c = -1:=fun e=>h4 (beq_iff_eq.2 e)
     omega

def pJ (CB s:aj):Nat × aj:=match s with | []=>(0, [])|b::t=>if CB.contains b then (b.toNat,t)else (0,b::t)

theorem Ah {R:Type} (CB s:aj) (hs:s.length≤4000000000) (k:Int→aj→Option R):aS CB s k=k ((pJ CB s).1:Int) (pJ CB s).2:=by
 have e:aS CB s k=kg CB s k:=rfl
 rw[e]
 unfold kg
 cases s with
 | nil=>rfl
 | cons b t =>
  simp only[List.length_cons]at hs
  have jc:((b::t:aj)==([]:aj))=false:=rfl
  have hg:((b::t:aj).getD 0 0)=b:=rfl
  have hd:((b::t:aj).drop 1).take (((b::t:aj).length:Int).toNat - 1)=t:=by
   rw[Int.toNat_natCast,List.drop_succ_cons,List.drop_zero,List.length_cons,Nat.add_sub_cancel,List.take_length]
  have hi:yg CB ((b.toNat:Nat):Int)=Go.Lib.indexByte CB b:=by
   unfold yg
   rw[Int.toNat_natCast]
   simp
  have hl:(b::t:aj).length=t.length+1:=rfl
  rw[jc,cond_false,hg,hd,hi,hl,aL (bf (by omega))]
  unfold pJ
  cases hc:CB.contains b with
  | false =>
   rw[bf ((KU b CB).2 hc),cond_true]
   simp only[hc,Bool.false_eq_true,if_false]
   rfl
  | true =>
   have:¬Go.Lib.indexByte CB b<0:=fun h=>by rw[(KU b CB).1 h]at hc; cases hc
   rw[cI this,cond_false,aL (bf (by omega)),aL (by rw[bf (show (0:Int)≤((t.length+1:Nat):Int) by omega),bf (by omega)]; rfl),aL (bf (by omega))]
   simp only[hc,if_true]

def ZI:aj := [48,49,50,51,52,53,54,55,56,57]
def nB (b:UInt8):Prop:=48≤b.toNat∧b.toNat≤57
theorem ZJ:∀n:Fin 256,ZI.contains (UInt8.ofNat n.val)=decide (48≤n.val∧n.val≤57):=by decide +kernel
theorem PY (b:UInt8):ZI.contains b=decide (48≤b.toNat∧b.toNat≤57):=by
 have:=ZJ ⟨b.toNat,UInt8.toNat_lt b⟩
 simpa using this

theorem FI (p:UInt8→Bool):∀(a r:aj),(∀x∈a,p x=true)→(a++r).dropWhile p=r.dropWhile p
 | [],r,_=>rfl
 | x::a,r,h=>by
  rw[List.cons_append,List.dropWhile_cons,h x (by simp),if_pos rfl]
  exact FI p a r fun y hy=>h y (by simp[hy])
theorem Hb (p:UInt8→Bool) (r:aj) (h:∀b t,r=b::t→p b=false):r.dropWhile p=r:=by
 cases r with
 | nil=>rfl
 | cons b t=>rw[List.dropWhile_cons,h b t rfl]; rfl

theorem Jv {R:Type} (a r:aj) (ha:∀x∈a,nB x) (hr:∀b t,r=b::t→¬nB b) (hl:(a++r).length≤4000000000) (k:aj→aj→Option R):aM (a++r) k=k a r:=by
 have e:aM (a++r) k=je (a++r) k:=rfl
 rw[e]
 unfold je
 have ht:bG (a++r) ([48,49,50,51,52,53,54,55,56,57]:aj)=r:=by
  unfold bG
  have h1:=FI (fun x=>ZI.contains x) a r (fun x hx=>by rw[PY]; exact bf (ha x hx))
  have h2:=Hb (fun x=>ZI.contains x) r (fun b t hb=>by rw[PY]; exact cI (hr b t hb))
  exact h1.trans h2
 rw[ht]
 have hlen:(a++r).length=a.length+r.length:=List.length_append
 have hw:IntKind.i64.wrap (((a++r).length:Int) - (r.length:Int))=(a.length:Int):=by rw[hlen,dx (by omega) (by omega)]; omega
 rw[hw,aL (by rfl),aL (by rw[bf (by omega),bf (by omega)]; rfl),aL (bf (by omega)),List.drop_zero,Int.toNat_natCast,Nat.sub_zero,List.take_left]

theorem ZK {R:Type} (neg:Bool) (I F X:aj) (pt:Bool) (ev:Int) (hI:∀x∈I,nB x) (hI0:I ≠ []) (hI1:1<I.length→(I.getD 0 0).toNat≠48) (hF:∀x∈F,nB x) (hF0:pt=true→F ≠ []) (hF1:pt=false→F = [])
  (hX:(X = []∧ev=0)∨∃b Y,X=b::Y∧(b=101∨b=69)∧∀f:Int→Bool→aj→Option R,bq Y f=f ev true []) (hev : -1000000≤ev∧ev≤1000000)
  (hlen:((if neg then [45]else [])++(I++((if pt then 46::F else [])++X))).length≤400)
  (hsh:(cN (bG (I++F) [48]) [48]).length≤18) (k:iC→Bool→Option R) :
  dE ((if neg then [45]else [])++(I++((if pt then 46::F else [])++X))) k =
   bK (if neg then IntKind.i64.wrap (0 - ej (48::cN (bG (I++F) [48]) [48]))else ej (48::cN (bG (I++F) [48]) [48])) (-(F.length:Int)+ev+(((bG (I++F) [48]).length:Int) - ((cN (bG (I++F) [48]) [48]).length:Int))) k:=by
 generalize hS:(if neg then [45]else [])++(I++((if pt then 46::F else [])++X))=s at *
 have e:dE s k=n7 bK aS aM bq s k:=rfl
 rw[e]
 unfold n7
 -- the pieces
 obtain ⟨i0,It,hIe⟩:∃b t,I=b::t:=by cases I with|nil=>exact (hI0 rfl).elim|cons b t=>exact ⟨b,t,rfl⟩
 have hi0:=hI i0 (by rw[hIe]; simp)
 have hXh:∀b t,X=b::t→¬nB b∧b.toNat≠46:=by
  intro b t hb
  rcases hX with ⟨rfl,_⟩|⟨c,Y,rfl,hc,_⟩
  ·cases hb
  ·cases hb
   rcases hc with rfl|rfl <;> exact ⟨by unfold nB; decide,by decide⟩
 have hs1:pJ [45] s=(if neg then 45 else 0,I++((if pt then 46::F else [])++X)):=by
  rw[←hS]
  cases neg with
  | true=>rfl
  | false =>
   rw[hIe]
   have:([45]:aj).contains i0=false:=by
    have:i0≠45:=by rintro rfl; exact absurd hi0.1 (by decide)
    simp[this]
   simp only[Bool.false_eq_true,if_false,List.nil_append,List.cons_append,pJ,this]
 have hsl:s.length≤400:=hlen
 have CP:s.length=(if neg then 1 else 0)+(I.length+((if pt then F.length+1 else 0)+X.length)):=by
  rw[←hS]
  cases neg <;> cases pt <;> simp <;> omega
 have hFl:F.length≤400:=by
  cases pt with
  | true=>simp at CP; omega
  | false=>rw[hF1 rfl]; simp
 have hIl:I.length≤400:=by omega
 have hXl:X.length≤400:=by omega
 rw[Ah _ _ (by omega),hs1]
 simp only
 have hPh:∀b t,(if pt then 46::F else [])++X=b::t→¬nB b:=by
  intro b t hb
  cases pt with
  | true=>simp at hb; rw[←hb.1]; unfold nB; decide
  | false=>exact (hXh b t (by simpa using hb)).1
 have O8:(I++((if pt then 46::F else [])++X)).length≤4000000000:=by
  have:(I++((if pt then 46::F else [])++X)).length=I.length+((if pt then F.length+1 else 0)+X.length):=by cases pt <;> simp <;> omega
  omega
 rw[Jv I _ hI hPh O8]
 have jc:(I==([]:aj))=false:=by rw[beq_eq_false_iff_ne]; exact hI0
 rw[cI (show ¬(s.length:Int)>400 by omega),cond_false,jc,cond_false]
 have q48:(((I.getD 0 0).toNat:Int)==48)=decide ((I.getD 0 0).toNat=48):=eqI _ 48
 -- the rest, behind the first test
 have drop1:∀x:Option R,(bif (decide ((I.length:Int)>1))then (cw (decide ((0:Int)<I.length)) (bif (((I.getD 0 0).toNat:Int)==48)then (k ⟨0,0⟩ false)else x))else x)=x:=by
  intro x
  by_cases h:1<I.length
  ·rw[bf (show (I.length:Int)>1 by omega),cond_true,aL (bf (by omega)),q48,cI (hI1 h),cond_false]
  ·rw[cI (show ¬(I.length:Int)>1 by omega),cond_false]
 rw[drop1]
 generalize hA:I++F=all at *
 have wY:all.length≤800:=by rw[←hA,List.length_append]; omega
 have htl:(bG all [48]).length≤all.length:=yh _ _
 have lone:([48]:aj).length=1:=rfl
 have hc:(([48]:aj)++(cN (bG all ([48]:aj)) ([48]:aj)))=48::cN (bG all [48]) [48]:=rfl
 have hbe:((([]:aj)==([]:aj)))=true:=rfl
 have UR:decide ((48::cN (bG all [48]) [48]:aj).length≤281474976710656)=true:=bf (by simp only[List.length_cons]; omega)
 have w0:IntKind.i64.wrap (((bG all [48]).length:Int) - ((cN (bG all [48]) [48]).length:Int))=((bG all [48]).length:Int) - ((cN (bG all [48]) [48]).length:Int):=dx (by omega) (by omega)
 have q1:decide (1+(cN (bG all [48]) [48]).length≤9223372036854775807)=true:=bf (by omega)
 have q2:decide (((cN (bG all [48]) [48]).length:Int)>18)=false:=cI (by omega)
 have q3:(sY ([48]:aj)&&decide (([48]:aj).length<4294967281))=true:=rfl
 have qn:(((if neg then 45 else 0:Nat):Int) != 0)=neg:=by cases neg <;> rfl
 have sX:pJ [101,69] X=match X with | []=>(0, [])|b::Y=>(b.toNat,Y):=by
  rcases hX with ⟨rfl,_⟩|⟨b,Y,rfl,hb,_⟩
  ·rfl
  ·rcases hb with rfl|rfl <;> rfl
 cases pt with
 | false =>
  have hFe:=hF1 rfl
  subst hFe
  rw[List.append_nil]at hA
  subst hA
  have s46:pJ [46] X=(0,X):=by
   rcases hX with ⟨rfl,_⟩|⟨b,Y,rfl,hb,_⟩
   ·rfl
   ·rcases hb with rfl|rfl <;> rfl
  simp only[Bool.false_eq_true,if_false,List.nil_append]
  rw[Ah _ _ (by omega),s46]
  have z0:(((0:Nat):Int) != 0)=false:=rfl
  simp only[z0,cond_false]
  rw[Ah _ _ (by omega),sX]
  rcases hX with ⟨rfl,rfl⟩|⟨b,Y,rfl,hb,hE⟩
  ·simp only[z0,cond_false,q3,aL rfl,hbe,Bool.not_true,q2,q1,hc,UR,Bool.cond_self,w0,qn]
   rw[dx (n:=0+(((bG I [48]).length:Int) - ((cN (bG I [48]) [48]).length:Int))) (by omega) (by omega)]
   have e0 : -((([]:aj).length:Nat):Int)+0=0:=rfl
   rw[e0]
   cases neg <;> rfl
  ·have zb:((b.toNat:Int) != 0)=true:=by rcases hb with rfl|rfl <;> rfl
   simp only[zb,cond_true,hE,Bool.not_true,cond_false,q3,aL rfl,hbe,q2,q1,hc,UR,Bool.cond_self,w0,qn]
   rw[dx (n:=0+ev) (by omega) (by omega),dx (n:=0+ev+(((bG I [48]).length:Int) - ((cN (bG I [48]) [48]).length:Int))) (by omega) (by omega)]
   have e0 : -((([]:aj).length:Nat):Int)+ev=0+ev:=rfl
   rw[e0]
   cases neg <;> rfl
 | true =>
  have hFe:=hF0 rfl
  simp only[if_true,List.cons_append,List.nil_append]
  have s46:pJ [46] (46::(F++X))=(46,F++X):=rfl
  have lFX:(F++X).length=F.length+X.length:=List.length_append
  rw[Ah _ _ (by simp only[List.length_cons]; omega),s46]
  have z46:(((46:Nat):Int) != 0)=true:=rfl
  have z0:(((0:Nat):Int) != 0)=false:=rfl
  simp only[z46,cond_true]
  rw[Jv F X hF (fun b t hb=>(hXh b t hb).1) (by omega)]
  have hFn:(F==([]:aj))=false:=by rw[beq_eq_false_iff_ne]; exact hFe
  rw[hFn,cond_false,aL (bf (by omega)),hA,dx (n:=0 - (F.length:Int)) (by omega) (by omega)]
  rw[Ah _ _ (by omega),sX]
  rcases hX with ⟨rfl,rfl⟩|⟨b,Y,rfl,hb,hE⟩
  ·simp only[z0,cond_false,q3,aL rfl,hbe,Bool.not_true,q2,q1,hc,UR,Bool.cond_self,w0,qn]
   rw[dx (n:=0 - (F.length:Int)+(((bG all [48]).length:Int) - ((cN (bG all [48]) [48]).length:Int))) (by omega) (by omega)]
   have e0 : -(F.length:Int)+0=0 - (F.length:Int):=by omega
   rw[e0]
   cases neg <;> rfl
  ·have zb:((b.toNat:Int) != 0)=true:=by rcases hb with rfl|rfl <;> rfl
   simp only[zb,cond_true,hE,Bool.not_true,cond_false,q3,aL rfl,hbe,q2,q1,hc,UR,Bool.cond_self,w0,qn]
   rw[dx (n:=0 - (F.length:Int)+ev) (by omega) (by omega),dx (n:=0 - (F.length:Int)+ev+(((bG all [48]).length:Int) - ((cN (bG all [48]) [48]).length:Int))) (by omega) (by omega)]
   have e0 : -(F.length:Int)+ev=0 - (F.length:Int)+ev:=by omega
   rw[e0]
   cases neg <;> rfl

theorem RD:∀(l r:aj) (acc v:Nat),parseUint10 acc l = .ok v→parseUint10 acc (l++r)=parseUint10 v r
 | [],r,acc,v,h=>by
  simp only[parseUint10]at h
  injection h with h
  subst h
  rfl
 | c::l,r,acc,v,h=>by
  simp only[parseUint10,List.cons_append]at h ⊢
  split at h
  ·rename_i h1
   rw[if_pos h1]
   split at h
   ·cases h
   ·rename_i h2
    rw[if_neg h2]
    split at h
    ·cases h
    ·rename_i h3
     rw[if_neg h3]
     exact RD l r _ v h
  ·cases h

theorem ZL (u:Nat) (hu:u<1000000000000000000):parseUint10 0 (decDigits u) = .ok u:=by
 induction u using Nat.strongRecOn with
 | _ u ih =>
  by_cases h:u<10
  ·rw[decDigits,dif_pos h]
   simp only[parseUint10,gf (48+u) (by omega)]
   rw[if_pos (by omega),if_neg (by omega),if_neg (by omega)]
   congr 1
   omega
  ·rw[decDigits,dif_neg h,RD _ _ _ _ (ih (u / 10) (by omega) (by omega))]
   simp only[parseUint10,gf (48+u % 10) (by omega)]
   rw[if_pos (by omega),if_neg (by omega),if_neg (by omega)]
   congr 1
   omega

theorem ZM (u:Nat) (hu:u<1000000000000000000):ej (48::decDigits u)=(u:Int):=by
 have h1:parseMag (48::decDigits u) = .ok u:=by
  unfold parseMag
  rw[if_neg (by simp)]
  have:=ZL u hu
  simp only[parseUint10]
  exact this
 have h2:atoiAll (48::decDigits u) = .ok (u:Int):=by
  unfold atoiAll
  simp only
  have e:(if (48:UInt8).toNat=43∨(48:UInt8).toNat=45 then decDigits u else 48::decDigits u)=48::decDigits u:=if_neg (by decide)
  rw[e,h1]
  simp only
  rw[if_neg (by omega),if_neg (fun h=>absurd h.1 (by decide)),if_neg (by decide)]
 unfold ej
 rw[h2]

theorem trimL_z (n:Nat) (r:aj) (hr:∀b t,r=b::t→b≠48):bG (ja n++r) [48]=r:=by
 unfold bG
 rw[FI _ _ _ (fun x hx=>by have:=List.eq_of_mem_replicate hx; subst this; rfl)]
 exact Hb _ _ fun b t hb=>by simp[hr b t hb]

theorem trimR_z (l:aj) (n:Nat) (b:UInt8) (hb:b≠48):cN (l ++ [b]++ja n) [48]=l ++ [b]:=by
 unfold cN
 rw[List.reverse_append,List.reverse_append]
 have e:(ja n).reverse=ja n:=List.reverse_replicate
 rw[e,FI _ _ _ (fun x hx=>by have:=List.eq_of_mem_replicate hx; subst this; rfl)]
 have:List.dropWhile (fun x=>([48]:aj).contains x) (([b]:aj).reverse++l.reverse) = [b]++l.reverse:=Hb _ _ fun c t hc=>by
  have:b=c:=by
   have:=congrArg List.head? hc
   simpa using this
  subst this
  simp[hb]
 rw[this,List.reverse_append,List.reverse_reverse]
 rfl

theorem trims {u:Nat} (hu:u % 10≠0) (a b:Nat):bG (ja a++(decDigits u++ja b)) [48]=decDigits u++ja b∧cN (decDigits u++ja b) [48]=decDigits u:=by
 obtain ⟨x,t,e,hx⟩:=Oz u (by omega)
 obtain ⟨l,hl⟩:=ZG u
 constructor
 ·apply trimL_z
  intro c t' hc
  rw[e]at hc
  have:x=c:=by
   have:=congrArg List.head? hc
   simpa using this
  subst this
  rintro rfl
  exact hx rfl
 ·rw[hl]
  apply trimR_z
  intro h
  have:=congrArg UInt8.toNat h
  rw[gf _ (by omega)]at this
  have e48:(48:UInt8).toNat=48:=rfl
  omega

theorem Jw (d:iC) (hd:Fm d) (h0:d.aB≠0):∃(I F:aj) (pt:Bool) (a b:Nat),Nc d=(if decide (d.aB<0)then [45]else [])++(I++(if pt then 46::F else [])) ∧
  I++F=ja a++(decDigits d.aB.natAbs++ja b)∧I ≠ []∧(1<I.length→(I.getD 0 0).toNat≠48)∧(pt=true→F ≠ [])∧(pt=false→F = [])∧(F.length:Int)=(b:Int) - d.exp∧I.length+F.length≤40∧(∀x∈I,nB x)∧(∀x∈F,nB x):=by
 have bd:=hd.bounds
 have wY:=dec_all d.aB.natAbs
 have hlen:(decDigits d.aB.natAbs).length≤16:=by rw[decDigits_length]; exact Ms (by omega)
 have Hq:1≤(decDigits d.aB.natAbs).length:=by rw[decDigits_length]; exact nDigits_pos _
 obtain ⟨x0,t0,TB,hx0⟩:=Oz d.aB.natAbs (by omega)
 have hsg:(if d.aB<0 then ([45]:aj)else [])=if decide (d.aB<0)then [45]else []:=by by_cases h:d.aB<0 <;> simp[h]
 unfold Nc
 rw[hsg]
 generalize decDigits d.aB.natAbs=L at *
 by_cases he:0≤d.exp
 ·refine ⟨L++ja d.exp.toNat, [],false,0,d.exp.toNat,?_,by simp[ja],?_,fun _ => ?_,by simp,by simp,by simp; omega,?_,?_,by simp⟩
  ·unfold body; rw[if_pos he]; simp
  ·rw[TB]; simp
  ·rw[TB]; exact hx0
  ·rw[List.length_append,pI,List.length_nil]; omega
  ·intro x hx
   rcases List.mem_append.1 hx with hx|hx
   ·exact wY x hx
   ·have:=List.eq_of_mem_replicate hx
    subst this; unfold nB; decide
 ·have hz:∃z:Nat,(max 0 (1 - d.exp - (L.length:Int))).toNat=z:=⟨_,rfl⟩
  obtain ⟨z,hz⟩:=hz
  have tl:(ja z++L).length=z+L.length:=by rw[List.length_append,pI]
  have M7:(((ja z++L).length:Int)+d.exp).toNat=(ja z++L).length - d.exp.natAbs:=by omega
  have h1:d.exp.natAbs+1≤(ja z++L).length:=by omega
  have tdig:∀x∈ja z++L,nB x:=by
   intro x hx
   rcases List.mem_append.1 hx with hx|hx
   ·have:=List.eq_of_mem_replicate hx
    subst this; unfold nB; decide
   ·exact wY x hx
  have tfirst:z=0→((ja z++L).getD 0 0).toNat≠48:=by
   rintro rfl
   rw[TB]
   exact hx0
  refine ⟨(ja z++L).take ((ja z++L).length - d.exp.natAbs),(ja z++L).drop ((ja z++L).length - d.exp.natAbs),true,z,0,?_,?_,?_,?_,fun _ => ?_,(fun h=>by cases h),?_,?_,?_,?_⟩
  ·unfold body
   rw[if_neg he]
   simp only[hz,M7,if_true]
   simp
  ·rw[List.take_append_drop]; simp[ja]
  ·intro e
   have:=congrArg List.length e
   rw[List.length_take,List.length_nil]at this
   omega
  ·intro hI
   rw[List.length_take]at hI
   have e:((ja z++L).take ((ja z++L).length - d.exp.natAbs)).getD 0 0=(ja z++L).getD 0 0:=by
    have:=(Rh (s:=(ja z++L).take ((ja z++L).length - d.exp.natAbs)) (t:=(ja z++L).drop ((ja z++L).length - d.exp.natAbs)) (i:=0) (by rw[List.length_take]; omega)).symm
    rw[List.take_append_drop]at this
    exact this
   rw[e]
   exact tfirst (by omega)
  ·intro e
   have:=congrArg List.length e
   rw[List.length_drop,List.length_nil]at this
   omega
  ·rw[List.length_drop]; omega
  ·rw[List.length_take,List.length_drop]; omega
  ·intro x hx; exact tdig x (List.mem_of_mem_take hx)
  ·intro x hx; exact tdig x (List.mem_of_mem_drop hx)

theorem TC {R:Type} (k:iC→Bool→Option R):dE [48] k=k ⟨0,0⟩ true:=by kernel_rfl
theorem Mx:Nc ⟨0,0⟩ = [48]:=by
 show []++body (decDigits 0) 0 = [48]
 rw[decDigits_one (by omega)]
 rfl

theorem WA {R:Type} {d:iC} (hd:Fm d) (h0:d.aB≠0) (X:aj) (ev:Int) (hX:(X = []∧ev=0)∨∃b Y,X=b::Y∧(b=101∨b=69)∧∀f:Int→Bool→aj→Option R,bq Y f=f ev true [])
  (hev : -1000000≤ev∧ev≤1000000) (hXl:X.length≤100) (k:iC→Bool→Option R):dE (Nc d++X) k=bK d.aB (d.exp+ev) k:=by
 have bd:=hd.bounds
 obtain ⟨I,F,pt,a,b,e1,e2,i0,i1,f0,f1,fl,il,iD,fD⟩:=Jw d hd h0
 obtain ⟨t1,t2⟩:=trims (u:=d.aB.natAbs) (ZH (hd.nz h0)) a b
 have hlen:(decDigits d.aB.natAbs).length≤16:=by rw[decDigits_length]; exact Ms (by omega)
 have key:=ZK (R:=R) (decide (d.aB<0)) I F X pt ev iD i0 i1 fD f0 f1 hX hev (by
  cases Xz:decide (d.aB<0) <;> cases pt <;> simp <;> omega) (by rw[e2,t1,t2]; omega) k
 have e3:Nc d++X=(if decide (d.aB<0)then [45]else [])++(I++((if pt then 46::F else [])++X)):=by rw[e1]; simp only[List.append_assoc]
 rw[e3,key,e2,t1,t2,ZM _ (by omega)]
 have e4:(if decide (d.aB<0)=true then IntKind.i64.wrap (0 - (d.aB.natAbs:Int))else (d.aB.natAbs:Int))=d.aB:=by
  by_cases h:d.aB<0
  ·rw[if_pos (by rw[bf h]),dx (by omega) (by omega)]; omega
  ·rw[if_neg (by rw[cI h]; simp)]; omega
 have e5 : -(F.length:Int)+ev+(((decDigits d.aB.natAbs++ja b).length:Int) - ((decDigits d.aB.natAbs).length:Int))=d.exp+ev:=by
  rw[List.length_append,pI]
  omega
 rw[e4,e5]

theorem WB {R:Type} {d:iC} (hd:Fm d) (h0:d.aB≠0) (k:iC→Bool→Option R):bK d.aB d.exp k=k d true:=by
 have bd:=hd.bounds
 obtain ⟨r,hr,hm⟩:=Zm (R:=R) d.aB d.exp (by unfold Cp; omega) (by omega) (by omega)
 have e5:d.aB=d.aB*10 ^ 0:=by simp
 rw[e5]at hr
 rw[hm,Wo hd h0 (j:=0) (x:=d.exp) (by omega) hr]



abbrev isD (b:UInt8):Bool:=ZI.contains b
theorem ZN (b:UInt8):isD b=decide (48≤b.toNat∧b.toNat≤57):=PY b
abbrev takeD (s:aj):aj:=s.takeWhile isD
abbrev Fj (s:aj):aj:=s.dropWhile isD

theorem Iz (s:aj):∀x∈takeD s,nB x:=fun x hx=>by
 have h:=List.all_takeWhile (l:=s) (p:=isD)
 have:=List.all_eq_true.1 h x hx
 rw[ZN]at this
 exact of_decide_eq_true (p:=48≤x.toNat∧x.toNat≤57) this
theorem ZO (s:aj):∀b t,Fj s=b::t→¬nB b:=fun b t h hb=>by
 have h2:isD b=false:=by
  have:=List.head?_dropWhile_not isD s
  have e:s.dropWhile isD=b::t:=h
  rw[e]at this
  simpa using this
 rw[ZN,bf (p:=48≤b.toNat∧b.toNat≤57) hb]at h2
 cases h2
theorem PZ (s:aj):(takeD s).length≤s.length:=by
 have:=congrArg List.length (List.takeWhile_append_dropWhile (p:=isD) (l:=s))
 rw[List.length_append]at this
 unfold takeD
 omega
theorem RE (s:aj):(Fj s).length≤s.length:=yh _ _
theorem Hc {R:Type} (s:aj) (hl:s.length≤4000000000) (k:aj→aj→Option R):aM s k=k (takeD s) (Fj s):=by
 have e:takeD s++Fj s=s:=List.takeWhile_append_dropWhile
 have h:=Jv (R:=R) (takeD s) (Fj s) (Iz s) (ZO s) (by rw[e]; exact hl) k
 rw[e]at h
 exact h
theorem IA (g s:aj):(pJ g s).2.length≤s.length:=by
 unfold pJ
 cases s with
 | nil=>simp
 | cons b t=>simp only; split <;> simp

def qZ:aj→Nat→Nat
 | [],v=>v
 | b::s,v=>qZ s (10*v+(b.toNat - 48))
theorem RF:∀(a b:aj) (v:Nat),qZ (a++b) v=qZ b (qZ a v)
 | [],_,_=>rfl
 | x::a,b,v=>RF a b _
theorem P0:∀(s:aj) (v:Nat),v*10 ^ s.length≤qZ s v
 | [],v=>by simp[qZ]
 | b::s,v=>by
  have:=P0 s (10*v+(b.toNat - 48))
  have h2:10*v*10 ^ s.length≤(10*v+(b.toNat - 48))*10 ^ s.length:=Nat.mul_le_mul_right _ (by omega)
  have e:v*10 ^ (b::s).length=10*v*10 ^ s.length:=by rw[List.length_cons,Nat.pow_succ,Nat.mul_comm 10,Nat.mul_assoc,Nat.mul_comm 10]
  simp only[qZ]
  omega
theorem WC (s:aj) (v:Nat):v≤qZ s v:=Nat.le_trans (Nat.le_mul_of_pos_right _ (Nat.pos_of_ne_zero (by simp))) (P0 s v)
theorem US:∀(s:aj) (v:Nat),(∀x∈s,nB x)→qZ s v<(v+1)*10 ^ s.length
 | [],v,_=>by simp[qZ]
 | b::s,v,h=>by
  have hb:=h b (by simp)
  unfold nB at hb
  have:=US s (10*v+(b.toNat - 48)) fun x hx=>h x (by simp[hx])
  have h2:(10*v+(b.toNat - 48)+1)*10 ^ s.length≤((v+1)*10)*10 ^ s.length:=Nat.mul_le_mul_right _ (by omega)
  have e:(v+1)*10 ^ (b::s).length=((v+1)*10)*10 ^ s.length:=by rw[List.length_cons,Nat.pow_succ,Nat.mul_assoc,Nat.mul_comm 10]
  simp only[qZ]
  omega

theorem RG:∀(D:aj) (acc:Nat),(∀x∈D,nB x) →
  (qZ D acc<18446744073709551616→parseUint10 acc D = .ok (qZ D acc))∧(acc<18446744073709551616→18446744073709551616≤qZ D acc→parseUint10 acc D = .range)
 | [],acc,_=>⟨fun _=>rfl,fun h1 h2=>by simp only[qZ]at h2; omega⟩
 | b::D,acc,h=>by
  have hb:=h b (by simp)
  unfold nB at hb
  obtain ⟨i1,i2⟩:=RG D (10*acc+(b.toNat - 48)) fun x hx=>h x (by simp[hx])
  have hs:=WC D (10*acc+(b.toNat - 48))
  have e:acc*10+(b.toNat - 48)=10*acc+(b.toNat - 48):=by omega
  simp only[qZ,parseUint10]
  rw[if_pos hb,e]
  refine ⟨fun h1 => ?_,fun h1 h2 => ?_⟩
  ·rw[if_neg (by omega),if_neg (by omega)]
   exact i1 h1
  ·by_cases g1:1844674407370955162≤acc
   ·rw[if_pos g1]
   ·rw[if_neg g1]
    by_cases g2:18446744073709551616≤10*acc+(b.toNat - 48)
    ·rw[if_pos g2]
    ·rw[if_neg g2]
     exact i2 (by omega) h2

theorem RH (D:aj) (hD:∀x∈D,nB x) (h0:D ≠ []) :
  (qZ D 0<9223372036854775808→atoiAll D = .ok (qZ D 0:Int))∧(9223372036854775808≤qZ D 0→atoiAll D = .range):=by
 obtain ⟨i1,i2⟩:=RG D 0 hD
 cases D with
 | nil=>exact (h0 rfl).elim
 | cons b D =>
  have hb:=hD b (by simp)
  unfold nB at hb
  have e:(if b.toNat=43∨b.toNat=45 then D else b::D)=b::D:=if_neg (by omega)
  have m:parseMag (b::D)=parseUint10 0 (b::D):=by unfold parseMag; rw[if_neg (by simp)]
  unfold atoiAll
  simp only
  rw[e,m]
  refine ⟨fun h => ?_,fun h => ?_⟩
  ·rw[i1 (by omega)]
   simp only
   rw[if_neg (by omega),if_neg (fun h2=>absurd h2.1 (by omega)),if_neg (by omega)]
  ·by_cases h2:qZ (b::D) 0<18446744073709551616
   ·rw[i1 h2]
    simp only
    rw[if_pos ⟨by omega,h⟩]
   ·rw[i2 (by omega) (by omega)]

def My (X:aj):Int × Bool × aj :=
 let q:=pJ [43,45] X
 let v:Int:=min (qZ (takeD q.2) 0:Int) 1000000
 (if q.1=45 then -v else v, !(takeD q.2 == []),Fj q.2)

theorem exp_any {R:Type} (X:aj) (hl:X.length≤4000000000) (k:Int→Bool→aj→Option R):bq X k=k (My X).1 (My X).2.1 (My X).2.2:=by
 have e:bq X k=iv aS aM X k:=rfl
 rw[e]
 unfold iv
 have h1:=IA [43,45] X
 rw[Ah _ _ hl]
 unfold My
 simp only
 generalize pJ [43,45] X=q at *
 rw[Hc _ (by omega)]
 have h2:=PZ q.2
 have hD:=Iz q.2
 generalize takeD q.2=D at *
 generalize Fj q.2=r at *
 have q45:((q.1:Int)==45)=decide (q.1=45):=eqI _ 45
 rw[aL (bf (by omega)),q45]
 by_cases h0:D = []
 ·subst h0
  have a1:sa []=false:=rfl
  have a2:ej []=0:=rfl
  rw[a1,a2]
  simp only[cond_false,qZ]
  by_cases hq:q.1=45
  ·rw[bf hq,if_pos hq]; rfl
  ·rw[cI hq,if_neg hq]; rfl
 ·have jc:(D==([]:aj))=false:=by rw[beq_eq_false_iff_ne]; exact h0
  obtain ⟨i1,i2⟩:=RH D hD h0
  rw[jc]
  simp only[Bool.not_false,cond_true]
  by_cases hv:qZ D 0<9223372036854775808
  ·have a1:sa D=true:=by unfold sa; rw[i1 hv]
   have a2:ej D=(qZ D 0:Int):=by unfold ej; rw[i1 hv]
   rw[a1,a2,cond_true]
   by_cases hb:(qZ D 0:Int)>1000000
   ·rw[bf hb,cond_true,Int.min_eq_right (by omega)]
    by_cases hq:q.1=45
    ·rw[bf hq,if_pos hq]; rfl
    ·rw[cI hq,if_neg hq]; rfl
   ·rw[cI hb,cond_false,Int.min_eq_left (by omega),dx (by omega) (by omega)]
    by_cases hq:q.1=45
    ·rw[bf hq,if_pos hq,cond_true]; congr 1; omega
    ·rw[cI hq,if_neg hq,cond_false]
  ·have a1:sa D=false:=by unfold sa; rw[i2 (by omega)]
   rw[a1,cond_false,Int.min_eq_right (by omega)]
   by_cases hq:q.1=45
   ·rw[bf hq,if_pos hq]; rfl
   ·rw[cI hq,if_neg hq]; rfl

theorem TE (a:aj):∀b t,bG a [48]=b::t→b≠48:=fun b t h hb=>by
 have h2:=List.head?_dropWhile_not (([48]:aj).contains ·) a
 have e:a.dropWhile (([48]:aj).contains ·)=b::t:=h
 rw[e]at h2
 subst hb
 exact absurd (show (([48]:aj).contains 48)=false from h2) (by decide)
theorem WD (a:aj):∀x∈bG a [48],x∈a:=fun x hx=>(List.dropWhile_sublist _).subset hx
theorem RI (a:aj):cN a [48] = []∨∃l b,cN a [48]=l ++ [b]∧b≠48:=by
 unfold cN
 have h2:=List.head?_dropWhile_not (([48]:aj).contains ·) a.reverse
 cases h:a.reverse.dropWhile (([48]:aj).contains ·)with
 | nil=>exact .inl rfl
 | cons b t =>
  rw[h]at h2
  refine .inr ⟨t.reverse,b,by simp,fun hb => ?_⟩
  subst hb
  exact absurd (show (([48]:aj).contains 48)=false from h2) (by decide)
theorem OA (a:aj):∃n,a=cN a [48]++ja n:=by
 have h:=List.takeWhile_append_dropWhile (p:=(([48]:aj).contains ·)) (l:=a.reverse)
 have h2:=congrArg List.reverse h
 rw[List.reverse_append,List.reverse_reverse]at h2
 refine ⟨(a.reverse.takeWhile (([48]:aj).contains ·)).length,?_⟩
 have hz:(a.reverse.takeWhile (([48]:aj).contains ·)).reverse=ja (a.reverse.takeWhile (([48]:aj).contains ·)).length:=by
  unfold ja
  rw[List.eq_replicate_iff]
  refine ⟨List.length_reverse,fun x hx => ?_⟩
  have h3:=List.all_takeWhile (l:=a.reverse) (p:=(([48]:aj).contains ·))
  have:=List.all_eq_true.1 h3 x (List.mem_reverse.1 hx)
  simpa using this
 rw[←hz]
 exact h2.symm

def ZP (neg:Bool) (all:aj) (x:Int):iC × Bool :=
 if cN (bG all [48]) [48] = []then (⟨0,0⟩,true)
 else Wn (if neg then -(qZ (cN (bG all [48]) [48]) 0:Int)else (qZ (cN (bG all [48]) [48]) 0:Int)) (x+(((bG all [48]).length:Int) - ((cN (bG all [48]) [48]).length:Int)))

theorem ZQ {R:Type} (m x:Int) (k:iC→Bool→Option R):bK m x k=bK m (min x 1000000) k:=by
 have e:∀x,bK m x k=nA aW bu m x k:=fun _=>rfl
 rw[e,e]
 unfold nA
 have:min (min x 1000000) 1000000=min x 1000000:=by omega
 rw[this]
theorem mkD_min (u x:Int):Wn u (min x 1000000)=Wn u x:=by
 unfold Wn
 by_cases h:x≤1000000
 ·rw[Int.min_eq_left h]
 ·rw[if_neg (by omega),if_neg (by omega)]
theorem OB {R:Type} (u x:Int) (hu:Int.tmod u 10≠0) (hb:Cp u) (hx : -9223372036854775808≤x) (k:iC→Bool→Option R):bK u x k=k (Wn u x).1 (Wn u x).2:=by
 rw[ZQ,←mkD_min u x]
 have:=UI (R:=R) u 0 (min x 1000000) hu (by simpa using hb) (by omega) (by omega) k
 simpa using this

theorem RJ (all:aj) (h:∀x∈all,nB x) (h0:cN (bG all [48]) [48] ≠ []) :
  (∀x∈cN (bG all [48]) [48],nB x)∧qZ (cN (bG all [48]) [48]) 0 % 10≠0∧10 ^ ((cN (bG all [48]) [48]).length - 1)≤qZ (cN (bG all [48]) [48]) 0:=by
 obtain ⟨n,hn⟩:=OA (bG all [48])
 have hd:∀x∈cN (bG all [48]) [48],nB x:=fun x hx=>h x (WD _ _ (by rw[hn]; simp[hx]))
 refine ⟨hd,?_,?_⟩
 ·rcases RI (bG all [48])with e|⟨l,b,e,hb⟩
  ·exact (h0 e).elim
  ·have hbd:=hd b (by rw[e]; simp)
   rw[e,RF]
   simp only[qZ]
   unfold nB at hbd
   have:b.toNat≠48:=fun h=>hb (UInt8.toNat_inj.1 h)
   omega
 ·cases e:cN (bG all [48]) [48]with
  | nil=>exact (h0 e).elim
  | cons b t =>
   have hb:b≠48:=TE all b (t++ja n) (by rw[hn,e]; rfl)
   have hbd:=hd b (by rw[e]; simp)
   unfold nB at hbd
   have Xm:b.toNat≠48:=fun h=>hb (UInt8.toNat_inj.1 h)
   have:=P0 t (10*0+(b.toNat - 48))
   have h2:1*10 ^ t.length≤(10*0+(b.toNat - 48))*10 ^ t.length:=Nat.mul_le_mul_right _ (by omega)
   simp only[qZ,List.length_cons,Nat.add_sub_cancel]
   omega

theorem mkD_far {u:Int} (x:Int) (h:1000000000000000<u.natAbs):Wn u x=(⟨0,0⟩,false):=by
 unfold Wn
 rw[if_neg (by omega)]

theorem ZR {R:Type} (y2:Int) (vb:aj) (Qc:Int) (z20:aj) (h:∀x∈vb,nB x) (hl:vb.length≤1000) (hx : -2000000≤Qc∧Qc≤2000000) (k0:iC→Bool→Option R) :
  (cw (sY ([48]:aj)&&decide (([48]:aj).length<4294967281)) (cw (sY ([48]:aj)&&decide (([48]:aj).length<4294967281)) (bif (!(z20==([]:aj)))then (k0 (⟨0,0⟩:iC) false)else (bif (decide (((cN (bG vb ([48]:aj)) ([48]:aj)).length:Int)>(18:Int)))then (k0 (⟨0,0⟩:iC) false)else (cw (decide (1+(cN (bG vb ([48]:aj)) ([48]:aj)).length≤9223372036854775807)) (cw (decide ((([48]:aj)++(cN (bG vb ([48]:aj)) ([48]:aj))).length≤281474976710656)) (bif sa (([48]:aj)++(cN (bG vb ([48]:aj)) ([48]:aj)))then (bif (y2 != 0)then (bK (IntKind.i64.wrap (0 - (ej (([48]:aj)++(cN (bG vb ([48]:aj)) ([48]:aj)))))) (IntKind.i64.wrap (Qc+(IntKind.i64.wrap (((bG vb ([48]:aj)).length:Int) - ((cN (bG vb ([48]:aj)) ([48]:aj)).length:Int))))) (fun IS Jr=>k0 IS Jr))else (bK (ej (([48]:aj)++(cN (bG vb ([48]:aj)) ([48]:aj)))) (IntKind.i64.wrap (Qc+(IntKind.i64.wrap (((bG vb ([48]:aj)).length:Int) - ((cN (bG vb ([48]:aj)) ([48]:aj)).length:Int))))) (fun IT IU=>k0 IT IU)))else (bif (y2 != 0)then (bK (IntKind.i64.wrap (0 - (ej (([48]:aj)++(cN (bG vb ([48]:aj)) ([48]:aj)))))) (IntKind.i64.wrap (Qc+(IntKind.i64.wrap (((bG vb ([48]:aj)).length:Int) - ((cN (bG vb ([48]:aj)) ([48]:aj)).length:Int))))) (fun IS Jr=>k0 IS Jr))else (bK (ej (([48]:aj)++(cN (bG vb ([48]:aj)) ([48]:aj)))) (IntKind.i64.wrap (Qc+(IntKind.i64.wrap (((bG vb ([48]:aj)).length:Int) - ((cN (bG vb ([48]:aj)) ([48]:aj)).length:Int))))) (fun IT IU=>k0 IT IU)))))))))) =
  if z20 = []then k0 (ZP (y2 != 0) vb Qc).1 (ZP (y2 != 0) vb Qc).2 else k0 ⟨0,0⟩ false:=by
 have q3:(sY ([48]:aj)&&decide (([48]:aj).length<4294967281))=true:=rfl
 have htl:(bG vb [48]).length≤vb.length:=yh _ _
 obtain ⟨n,hn⟩:=OA (bG vb [48])
 have htr:(bG vb [48]).length=(cN (bG vb [48]) [48]).length+n:=by have:=congrArg List.length hn; rw[List.length_append,pI]at this; exact this
 rw[q3,aL rfl,aL rfl]
 by_cases hz:z20 = []
 ·subst hz
  have hbe:((([]:aj)==([]:aj)))=true:=rfl
  rw[hbe,if_pos rfl]
  simp only[Bool.not_true,cond_false]
  have w0:IntKind.i64.wrap (((bG vb [48]).length:Int) - ((cN (bG vb [48]) [48]).length:Int))=((bG vb [48]).length:Int) - ((cN (bG vb [48]) [48]).length:Int):=dx (by omega) (by omega)
  have w1:IntKind.i64.wrap (Qc+(((bG vb [48]).length:Int) - ((cN (bG vb [48]) [48]).length:Int)))=Qc+(((bG vb [48]).length:Int) - ((cN (bG vb [48]) [48]).length:Int)):=dx (by omega) (by omega)
  rw[w0,w1,aL (bf (by omega)),aL (bf (by simp only[List.length_append,List.length_cons,List.length_nil]; omega)),Bool.cond_self]
  unfold ZP
  have hc:(([48]:aj)++(cN (bG vb ([48]:aj)) ([48]:aj)))=48::cN (bG vb [48]) [48]:=rfl
  rw[hc]
  by_cases h0:cN (bG vb [48]) [48] = []
  ·rw[h0,if_pos rfl]
   have a0:ej (48::([]:aj))=0:=by decide +kernel
   have a1:decide (((([]:aj)).length:Int)>18)=false:=rfl
   have a2:IntKind.i64.wrap (0 - 0)=0:=by decide
   rw[a0,a1,cond_false,a2,Ou,Bool.cond_self]
  ·rw[if_neg h0]
   obtain ⟨f1,f2,f3⟩:=RJ vb h h0
   have hX : -3000000≤Qc+(((bG vb [48]).length:Int) - ((cN (bG vb [48]) [48]).length:Int)):=by omega
   generalize cN (bG vb [48]) [48]=sh at *
   generalize (Qc+(((bG vb [48]).length:Int) - (sh.length:Int)))=X at *
   have Hq:1≤sh.length:=by cases sh with|nil=>exact (h0 rfl).elim|cons _ _=>simp
   by_cases h18:sh.length≤18
   ·rw[cI (show ¬(sh.length:Int)>18 by omega),cond_false]
    have jb:=US sh 0 f1
    have hp:(10:Nat) ^ sh.length≤10 ^ 18:=Nat.pow_le_pow_right (by omega) h18
    have e18:(10:Nat) ^ 18=1000000000000000000:=rfl
    have v48:qZ (48::sh) 0=qZ sh 0:=rfl
    have ha:ej (48::sh)=(qZ sh 0:Int):=by
     obtain ⟨i1,_⟩:=RH (48::sh) (fun x hx=>by rcases List.mem_cons.1 hx with rfl|hx; (unfold nB; decide); exact f1 x hx) (by simp)
     unfold ej
     rw[i1 (by rw[v48]; omega),v48]
    rw[ha]
    have hm:Int.tmod (qZ sh 0:Int) 10≠0:=by rw[Int.tmod_eq_emod_of_nonneg (by omega)]; omega
    cases hy:(y2 != 0)with
    | true =>
     rw[cond_true,if_pos rfl,dx (by omega) (by omega)]
     have e0:(0 - (qZ sh 0:Int)) = -(qZ sh 0:Int):=by omega
     rw[e0]
     exact OB _ _ (tmod_neg hm) (by unfold Cp; omega) (by omega) _
    | false =>
     rw[cond_false,if_neg (by simp)]
     exact OB _ _ hm (by unfold Cp; omega) (by omega) _
   ·rw[bf (show (sh.length:Int)>18 by omega),cond_true]
    have hp:(10:Nat) ^ 18≤10 ^ (sh.length - 1):=Nat.pow_le_pow_right (by omega) (by omega)
    have e18:(10:Nat) ^ 18=1000000000000000000:=rfl
    rw[mkD_far _ (by split <;> omega)]
 ·have hbe:(z20==([]:aj))=false:=by rw[beq_eq_false_iff_ne]; exact hz
  rw[hbe,if_neg hz]
  rfl

def noD:iC × Bool:=(⟨0,0⟩,false)
def tailD (neg:Bool) (all:aj) (x:Int) (X:aj):iC × Bool :=
 if (pJ [101,69] X).1=0 then (if (pJ [101,69] X).2 = []then ZP neg all x else noD)
 else if (My (pJ [101,69] X).2).2.1=false then noD
 else if (My (pJ [101,69] X).2).2.2 = []then ZP neg all (x+(My (pJ [101,69] X).2).1)else noD

def AY (s:aj):iC × Bool :=
 let q:=pJ [45] s
 let I:=takeD q.2
 let r:=Fj q.2
 if 400<s.length then noD else if I = []then noD else if 1<I.length∧(I.getD 0 0).toNat=48 then noD
 else if (pJ [46] r).1=0 then tailD (q.1 != 0) I 0 (pJ [46] r).2
 else if takeD (pJ [46] r).2 = []then noD
 else tailD (q.1 != 0) (I++takeD (pJ [46] r).2) (-((takeD (pJ [46] r).2).length:Int)) (Fj (pJ [46] r).2)

theorem ZS (X:aj) : -1000000≤(My X).1∧(My X).1≤1000000:=by
 unfold My
 simp only
 split <;> omega

theorem neN (n:Nat):(((n:Nat):Int) != 0)=(n != 0):=by
 cases n with
 | zero=>rfl
 | succ n=>rw[bne_iff_ne.2 (by omega),bne_iff_ne.2 (by omega)]

theorem RL {R:Type} (q:Nat) (all:aj) (x:Int) (X:aj) (ha:∀c∈all,nB c) (hl:all.length≤900) (h1 : -1000≤x) (h2:x≤0) (hX:X.length≤1000) (k:iC→Bool→Option R) :
  aS ([101,69]:aj) X (fun zA FF=>bif (zA != 0)then (bq FF (fun FG JV Hj=>bif (!JV)then (k (⟨0,0⟩:iC) false)else (cw (sY ([48]:aj)&&decide (([48]:aj).length<4294967281)) (cw (sY ([48]:aj)&&decide (([48]:aj).length<4294967281)) (bif (!(Hj==([]:aj)))then (k (⟨0,0⟩:iC) false)else (bif (decide (((cN (bG all ([48]:aj)) ([48]:aj)).length:Int)>(18:Int)))then (k (⟨0,0⟩:iC) false)else (cw (decide (1+(cN (bG all ([48]:aj)) ([48]:aj)).length≤9223372036854775807)) (cw (decide ((([48]:aj)++(cN (bG all ([48]:aj)) ([48]:aj))).length≤281474976710656)) (bif sa (([48]:aj)++(cN (bG all ([48]:aj)) ([48]:aj)))then (bif ((q:Int) != 0)then (bK (IntKind.i64.wrap (0 - (ej (([48]:aj)++(cN (bG all ([48]:aj)) ([48]:aj)))))) (IntKind.i64.wrap ((IntKind.i64.wrap (x+FG))+(IntKind.i64.wrap (((bG all ([48]:aj)).length:Int) - ((cN (bG all ([48]:aj)) ([48]:aj)).length:Int))))) (fun IS Jr=>k IS Jr))else (bK (ej (([48]:aj)++(cN (bG all ([48]:aj)) ([48]:aj)))) (IntKind.i64.wrap ((IntKind.i64.wrap (x+FG))+(IntKind.i64.wrap (((bG all ([48]:aj)).length:Int) - ((cN (bG all ([48]:aj)) ([48]:aj)).length:Int))))) (fun IT IU=>k IT IU)))else (bif ((q:Int) != 0)then (bK (IntKind.i64.wrap (0 - (ej (([48]:aj)++(cN (bG all ([48]:aj)) ([48]:aj)))))) (IntKind.i64.wrap ((IntKind.i64.wrap (x+FG))+(IntKind.i64.wrap (((bG all ([48]:aj)).length:Int) - ((cN (bG all ([48]:aj)) ([48]:aj)).length:Int))))) (fun IS Jr=>k IS Jr))else (bK (ej (([48]:aj)++(cN (bG all ([48]:aj)) ([48]:aj)))) (IntKind.i64.wrap ((IntKind.i64.wrap (x+FG))+(IntKind.i64.wrap (((bG all ([48]:aj)).length:Int) - ((cN (bG all ([48]:aj)) ([48]:aj)).length:Int))))) (fun IT IU=>k IT IU))))))))))))else (cw (sY ([48]:aj)&&decide (([48]:aj).length<4294967281)) (cw (sY ([48]:aj)&&decide (([48]:aj).length<4294967281)) (bif (!(FF==([]:aj)))then (k (⟨0,0⟩:iC) false)else (bif (decide (((cN (bG all ([48]:aj)) ([48]:aj)).length:Int)>(18:Int)))then (k (⟨0,0⟩:iC) false)else (cw (decide (1+(cN (bG all ([48]:aj)) ([48]:aj)).length≤9223372036854775807)) (cw (decide ((([48]:aj)++(cN (bG all ([48]:aj)) ([48]:aj))).length≤281474976710656)) (bif sa (([48]:aj)++(cN (bG all ([48]:aj)) ([48]:aj)))then (bif ((q:Int) != 0)then (bK (IntKind.i64.wrap (0 - (ej (([48]:aj)++(cN (bG all ([48]:aj)) ([48]:aj)))))) (IntKind.i64.wrap (x+(IntKind.i64.wrap (((bG all ([48]:aj)).length:Int) - ((cN (bG all ([48]:aj)) ([48]:aj)).length:Int))))) (fun IS Jr=>k IS Jr))else (bK (ej (([48]:aj)++(cN (bG all ([48]:aj)) ([48]:aj)))) (IntKind.i64.wrap (x+(IntKind.i64.wrap (((bG all ([48]:aj)).length:Int) - ((cN (bG all ([48]:aj)) ([48]:aj)).length:Int))))) (fun IT IU=>k IT IU)))else (bif ((q:Int) != 0)then (bK (IntKind.i64.wrap (0 - (ej (([48]:aj)++(cN (bG all ([48]:aj)) ([48]:aj)))))) (IntKind.i64.wrap (x+(IntKind.i64.wrap (((bG all ([48]:aj)).length:Int) - ((cN (bG all ([48]:aj)) ([48]:aj)).length:Int))))) (fun IS Jr=>k IS Jr))else (bK (ej (([48]:aj)++(cN (bG all ([48]:aj)) ([48]:aj)))) (IntKind.i64.wrap (x+(IntKind.i64.wrap (((bG all ([48]:aj)).length:Int) - ((cN (bG all ([48]:aj)) ([48]:aj)).length:Int))))) (fun IT IU=>k IT IU)))))))))))=k (tailD (q != 0) all x X).1 (tailD (q != 0) all x X).2:=by
 rw[Ah _ _ (by omega)]
 unfold tailD
 have l5:=IA [101,69] X
 generalize pJ [101,69] X=g at *
 rw[neN]
 by_cases hg:g.1=0
 ·rw[if_pos hg,hg]
  simp only[bne_self_eq_false,cond_false]
  rw[ZR _ _ _ _ ha (by omega) (by omega),neN]
  split <;> rfl
 ·rw[if_neg hg,bne_iff_ne.2 hg,cond_true,exp_any _ (by omega)]
  have Pc:=ZS g.2
  generalize My g.2=z at *
  rw[dx (n:=x+z.1) (by omega) (by omega)]
  cases hz:z.2.1 with
  | false=>rfl
  | true =>
   rw[Bool.not_true,cond_false,ZR _ _ _ _ ha (by omega) (by omega),neN,if_neg (show ¬(true=false) by simp)]
   split <;> rfl

theorem OC {R:Type} (s:aj) (hs:s.length≤4000000000) (k:iC→Bool→Option R):dE s k=k (AY s).1 (AY s).2:=by
 have e:dE s k=n7 bK aS aM bq s k:=rfl
 rw[e]
 unfold n7
 have l1:=IA [45] s
 rw[Ah _ _ hs]
 unfold AY
 simp only
 generalize pJ [45] s=q at *
 rw[Hc _ (by omega)]
 have l2:=PZ q.2
 have l3:=RE q.2
 have dI:=Iz q.2
 generalize takeD q.2=I at *
 generalize Fj q.2=r at *
 by_cases h400:400<s.length
 ·rw[bf (show (s.length:Int)>400 by omega),cond_true,if_pos h400]
  rfl
 rw[cI (show ¬(s.length:Int)>400 by omega),cond_false,if_neg h400]
 by_cases hI:I = []
 ·subst hI
  rw[if_pos rfl]
  rfl
 have jc:(I==([]:aj))=false:=by rw[beq_eq_false_iff_ne]; exact hI
 rw[jc,cond_false,if_neg hI]
 have Hq:1≤I.length:=by cases I with|nil=>exact (hI rfl).elim|cons _ _=>simp
 have q48:(((I.getD 0 0).toNat:Int)==48)=decide ((I.getD 0 0).toNat=48):=eqI _ 48
 rw[aL (bf (show (0:Int)<I.length by omega)),q48]
 by_cases Xm:1<I.length∧(I.getD 0 0).toNat=48
 ·rw[if_pos Xm,bf (show (I.length:Int)>1 by omega),bf Xm.2]
  rfl
 rw[if_neg Xm]
 have cut:∀x:Option R,(bif decide ((I.length:Int)>1)then (bif decide ((I.getD 0 0).toNat=48)then k ⟨0,0⟩ false else x)else x)=x:=fun x=>by
  by_cases h1:1<I.length
  ·rw[bf (show (I.length:Int)>1 by omega),cI (fun h=>Xm ⟨h1,h⟩)]; rfl
  ·rw[cI (show ¬(I.length:Int)>1 by omega)]; rfl
 rw[cut]
 rw[Ah _ _ (by omega)]
 have l4:=IA [46] r
 generalize pJ [46] r=p at *
 rw[neN]
 by_cases hp:p.1=0
 ·rw[if_pos hp,hp]
  simp only[bne_self_eq_false,cond_false]
  exact RL q.1 I 0 p.2 dI (by omega) (by omega) (by omega) (by omega) k
 ·rw[if_neg hp,bne_iff_ne.2 hp,cond_true,Hc _ (by omega)]
  have l5:=PZ p.2
  have l6:=RE p.2
  have dF:=Iz p.2
  generalize takeD p.2=F at *
  generalize Fj p.2=Y at *
  by_cases hF:F = []
  ·subst hF
   rw[if_pos rfl]
   rfl
  have jc:(F==([]:aj))=false:=by rw[beq_eq_false_iff_ne]; exact hF
  rw[jc,cond_false,if_neg hF,aL (bf (by omega)),dx (n:=0 - (F.length:Int)) (by omega) (by omega)]
  have e0:(0:Int) - (F.length:Int) = -(F.length:Int):=by omega
  rw[e0]
  exact RL q.1 (I++F) (-(F.length:Int)) Y (fun c hc=>(List.mem_append.1 hc).elim (dI c) (dF c)) (by rw[List.length_append]; omega) (by omega) (by omega) (by omega) k

theorem WE {s r:aj} {c:Nat} (h:Iw s=some (c,r)):r <:+ s:=by
 unfold Iw at h
 split at h
 ·cases h
 ·rename_i v r1 hu
  obtain ⟨_,_,hr⟩:=AX hu
  have s1:r1 <:+ s:=by rw[hr]; exact List.drop_suffix _ _
  split at h
  ·cases h; exact s1
  ·split at h
   ·cases h
   ·split at h
    ·split at h
     ·cases h
     ·rename_i w r2 R3
      obtain ⟨_,_,hr2⟩:=AX R3
      split at h
      ·simp only[Option.some.injEq,Prod.mk.injEq]at h
       obtain ⟨_,rfl⟩:=h
       rw[hr2]
       exact ((List.drop_suffix _ _).trans (List.drop_suffix _ _)).trans s1
      ·cases h
    ·cases h
theorem ZT {s r:aj} {c:Nat} (h:Rx s=some (c,r)):r <:+ s:=by
 cases s with
 | nil=>cases h
 | cons b t =>
  have st:t <:+ b::t:=List.suffix_cons b t
  simp only[Rx]at h
  split at h
  ·cases h; exact st
  split at h
  ·cases h; exact st
  split at h
  ·cases h; exact st
  split at h
  ·cases h; exact st
  split at h
  ·cases h; exact st
  split at h
  ·cases h; exact st
  split at h
  ·exact (WE h).trans st
  ·cases h
theorem TF {s r:aj} {c:Nat} (h:Dw s=some (c,r)):r <:+ s:=by
 unfold Dw at h
 split at h
 ·cases h
 split at h
 ·cases h
 split at h
 ·cases h
 simp only[Option.some.injEq,Prod.mk.injEq]at h
 rw[←h.2]
 exact List.drop_suffix _ _
theorem WG {s r:aj} {c:Nat} (h:Iy s=some (c,r)):r <:+ s:=by
 unfold Iy at h
 split at h
 ·exact (ZT h).trans (List.drop_suffix _ _)
 ·exact TF h
theorem ZU:∀(n:Nat) (s o o' r:aj),uq n s o=some (o',r)→r <:+ s∧r.length<s.length∧∃rs:List Nat,(∀c∈rs,vr c)∧o'=o++cz rs
 | 0,_,_,_,_,h=>by cases h
 | n+1,s,o,o',r,h=>by
  simp only[uq]at h
  split at h
  ·rename_i Gv
   simp only[Option.some.injEq,Prod.mk.injEq]at h
   obtain ⟨rfl,rfl⟩:=h
   refine ⟨List.drop_suffix _ _,?_, [],by simp,by simp[cz]⟩
   cases s with
   | nil=>cases Gv
   | cons b t=>simp
  ·split at h
   ·cases h
   ·rename_i c r1 hs
    obtain ⟨h1,h2,rs,h3,h4⟩:=ZU n r1 (o++enc c) o' r h
    obtain ⟨hv,hl⟩:=RB hs
    refine ⟨h1.trans (WG hs),by omega,c::rs,fun x hx => ?_,?_⟩
    ·rcases List.mem_cons.1 hx with rfl|hx
     ·exact hv
     ·exact h3 x hx
    ·rw[h4]; simp[cz]
theorem UT {s o r:aj} (h:ZD s=some (o,r)):r <:+ s∧r.length+1<s.length∧∃rs:List Nat,(∀c∈rs,vr c)∧o=cz rs:=by
 unfold ZD at h
 split at h
 ·rename_i Gv
  obtain ⟨h1,h2,rs,h3,h4⟩:=ZU _ _ _ _ _ h
  refine ⟨h1.trans (List.drop_suffix _ _),?_,rs,h3,by simpa using h4⟩
  rw[List.length_drop]at h2
  omega
 ·cases h
theorem ZV {s r:aj} (h:r <:+ s):r=s.drop (s.length - r.length):=by
 obtain ⟨t,rfl⟩:=h
 rw[List.length_append,Nat.add_sub_cancel,List.drop_left]

def numS:aj := [48,49,50,51,52,53,54,55,56,57,43,45,46,101,69]
def letS:aj := [97,98,99,100,101,102,103,104,105,106,107,108,109,110,111,112,113,114,115,116,117,118,119,120,121,122]
def blaS:aj := [32,9,10,13]
def TG:aj := [123,125,91,93,44,58]
def zn (b:UInt8):Bool:=numS.contains b
def yG (b:UInt8):Bool:=letS.contains b
def qp (b:UInt8):Bool:=blaS.contains b
def Hd (b:UInt8):Bool:=TG.contains b
def rL:aj := [116,114,117,101]
def kl:aj := [102,97,108,115,101]
def oz:aj := [110,117,108,108]

def tokS (s:aj):Option (Token × aj) :=
 match s with
 | []=>none
 | c::t =>
  if c.toNat=45∨(48≤c.toNat∧c.toNat≤57)then
   (if (AY (s.takeWhile zn)).2 then some (⟨3,s.takeWhile zn,(AY (s.takeWhile zn)).1,0⟩,s.dropWhile zn)else none)
  else if c.toNat=34 then (match ZD s with|some (o,r)=>some (⟨2,o,⟨0,0⟩,0⟩,r)|none=>none)
  else if Hd c then some (⟨1, [c],⟨0,0⟩,0⟩,t)
  else if s.takeWhile yG=rL∨s.takeWhile yG=kl∨s.takeWhile yG=oz then some (⟨4,s.takeWhile yG,⟨0,0⟩,0⟩,s.dropWhile yG)
  else none

theorem ZW {p:UInt8→Bool} {c:UInt8} {t:aj} (h:p c=true):((c::t).dropWhile p).length<(c::t:aj).length:=by
 rw[List.dropWhile_cons,if_pos h]
 have:=yh p t
 simp only[List.length_cons]
 omega

theorem tokS_sfx {s r:aj} {t:Token} (h:tokS s=some (t,r)):r <:+ s∧r.length<s.length:=by
 cases s with
 | nil=>cases h
 | cons c u =>
  simp only[tokS]at h
  split at h
  ·rename_i hc
   split at h
   ·simp only[Option.some.injEq,Prod.mk.injEq]at h
    rw[←h.2]
    refine ⟨List.dropWhile_suffix _,ZW ?_⟩
    have all:∀n:Fin 256,(n.val=45∨(48≤n.val∧n.val≤57))→zn (UInt8.ofNat n.val)=true:=by decide +kernel
    have:=all ⟨c.toNat,UInt8.toNat_lt c⟩ hc
    simpa using this
   ·cases h
  ·split at h
   ·split at h
    ·rename_i o q hq
     simp only[Option.some.injEq,Prod.mk.injEq]at h
     obtain ⟨_,rfl⟩:=h
     obtain ⟨h1,h2,_⟩:=UT hq
     exact ⟨h1,by omega⟩
    ·cases h
   ·split at h
    ·simp only[Option.some.injEq,Prod.mk.injEq]at h
     rw[←h.2]
     exact ⟨List.suffix_cons _ _,by simp⟩
    ·split at h
     ·rename_i hw
      simp only[Option.some.injEq,Prod.mk.injEq]at h
      rw[←h.2]
      refine ⟨List.dropWhile_suffix _,ZW ?_⟩
      cases hl:yG c with
      | true=>rfl
      | false =>
       have e:(c::u).takeWhile yG = []:=by rw[List.takeWhile_cons,hl]; rfl
       rw[e]at hw
       rcases hw with hw|hw|hw <;> cases hw
     ·cases h

def putT (t:Token) (n:Int):Token:=⟨t.kind,t.text,t.num,n⟩

def vy:Nat→Nat→aj→List Token→List Token × Int × Int
 | 0,_,_,_=>([],0,0)
 | n+1,p,s,out =>
  if s.dropWhile qp = []then (out ++ [⟨5, [],⟨0,0⟩,((p+(s.takeWhile qp).length:Nat):Int)⟩],0,0)
  else match tokS (s.dropWhile qp)with
   | none=>([],30,((p+(s.takeWhile qp).length:Nat):Int))
   | some (t,r)=>vy n (p+(s.length - r.length)) r (out ++ [putT t ((p+(s.takeWhile qp).length:Nat):Int)])

def s9 (s:aj):List Token × Int × Int:=if 20000<s.length then ([],30,0)else vy (s.length+1) 0 s []

theorem Mz:∀(n m p:Nat) (s:aj) (out:List Token),s.length<n→s.length<m→vy n p s out=vy m p s out
 | 0,_,_,_,_,h,_=>by omega
 | _,0,_,_,_,_,h=>by omega
 | n+1,m+1,p,s,out,h1,h2=>by
  simp only[vy]
  split
  ·rfl
  ·split
   ·rfl
   ·rename_i t r hr
    have h3:=(tokS_sfx hr).2
    have h4:=yh qp s
    exact Mz n m _ r _ (by omega) (by omega)

abbrev oA:=aj × aj × Token
def qq:List oA→aj→aj
 | [],z=>z
 | x::l,z=>x.1++(x.2.1++qq l z)
def okW:List oA→aj→Prop
 | [],_=>True
 | x::l,z=>(∀b∈x.1,qp b=true)∧(∃c u,x.2.1=c::u∧qp c=false)∧tokS (x.2.1++qq l z)=some (x.2.2,qq l z)∧okW l z
def tokW:Nat→List oA→List Token
 | _, [] => []
 | p,x::l=>putT x.2.2 ((p+x.1.length:Nat):Int)::tokW (p+x.1.length+x.2.1.length) l
def Fk:List oA→Nat
 | []=>0
 | x::l=>x.1.length+x.2.1.length+Fk l
theorem MA:∀(l:List oA) (z:aj),(qq l z).length=Fk l+z.length
 | [],z=>by simp[qq,Fk]
 | x::l,z=>by simp only[qq,Fk,List.length_append,MA l z]; omega

theorem TH:∀(g r:aj),(∀b∈g,qp b=true)→(∃c u,r=c::u∧qp c=false)∨r = []→(g++r).takeWhile qp=g∧(g++r).dropWhile qp=r
 | [],r,_,h=>by
  rcases h with ⟨c,u,rfl,hc⟩|rfl
  ·exact ⟨by rw[List.nil_append,List.takeWhile_cons,hc]; rfl,by rw[List.nil_append,List.dropWhile_cons,hc]; rfl⟩
  ·exact ⟨rfl,rfl⟩
 | b::g,r,hg,h=>by
  have hb:=hg b (by simp)
  obtain ⟨h1,h2⟩:=TH g r (fun x hx=>hg x (by simp[hx])) h
  refine ⟨?_,?_⟩
  ·rw[List.cons_append,List.takeWhile_cons,hb,if_pos rfl,h1]
  ·rw[List.cons_append,List.dropWhile_cons,hb,if_pos rfl,h2]

theorem MB:∀(l:List oA) (z:aj) (n p:Nat) (out:List Token),okW l z→l.length<n→vy n p (qq l z) out=vy (n - l.length) (p+Fk l) z (out++tokW p l)
 | [],z,n,p,out,_,_=>by simp[qq,Fk,tokW]
 | x::l,z,n,p,out,h,hn=>by
  obtain ⟨h1,⟨c,u,h2,h3⟩,h4,h5⟩:=h
  obtain ⟨n,rfl⟩:∃m,n=m+1:=⟨n - 1,by omega⟩
  simp only[List.length_cons]at hn
  obtain ⟨t1,t2⟩:=TH x.1 (x.2.1++qq l z) h1 (.inl ⟨c,u++qq l z,by rw[h2]; rfl,h3⟩)
  have ZX:qq (x::l) z=x.1++(x.2.1++qq l z):=rfl
  have jc:¬(x.2.1++qq l z = []):=by rw[h2]; simp
  have hw:0<x.2.1.length:=by rw[h2]; simp
  simp only[vy]
  rw[ZX,t1,t2,if_neg jc,h4]
  simp only
  have e1:(x.1++(x.2.1++qq l z)).length - (qq l z).length=x.1.length+x.2.1.length:=by simp only[List.length_append]; omega
  rw[e1,MB l z n _ _ h5 (by omega)]
  have e2:n+1 - (x::l).length=n - l.length:=by simp
  have e3:p+(x.1.length+x.2.1.length)+Fk l=p+Fk (x::l):=by simp only[Fk]; omega
  have e4:p+(x.1.length+x.2.1.length)=p+x.1.length+x.2.1.length:=by omega
  rw[e2,e3]
  simp only[tokW,List.append_assoc,List.singleton_append]
  rw[e4]

theorem ZY {g:aj} (hg:∀b∈g,qp b=true) (n p:Nat) (out:List Token):vy (n+1) p g out=(out ++ [⟨5, [],⟨0,0⟩,((p+g.length:Nat):Int)⟩],0,0):=by
 obtain ⟨t1,t2⟩:=TH g [] hg (.inr rfl)
 rw[List.append_nil]at t1 t2
 simp only[vy]
 rw[t1,t2,if_pos rfl]
theorem RM (l:List oA) (g:aj) (hg:∀b∈g,qp b=true) (h:okW l g) (hl:Fk l+g.length≤20000):s9 (qq l g)=(tokW 0 l ++ [⟨5, [],⟨0,0⟩,((Fk l+g.length:Nat):Int)⟩],0,0):=by
 unfold s9
 have hlen:=MA l g
 rw[if_neg (by omega)]
 have hcount:l.length≤Fk l:=by
  clear hl hlen
  induction l with
  | nil=>simp[Fk]
  | cons x l ih =>
   obtain ⟨_,⟨c,u,h2,_⟩,_,h5⟩:=h
   have:=ih h5
   have hw:0<x.2.1.length:=by rw[h2]; simp
   simp only[Fk,List.length_cons]
   omega
 rw[MB l g _ 0 [] h (by omega),hlen]
 obtain ⟨m,hm⟩:∃m,Fk l+g.length+1 - l.length=m+1:=⟨Fk l+g.length - l.length,by omega⟩
 rw[hm,ZY hg]
 simp

def Gw (r:aj):Prop:=r = []∨∃b u,r=b::u∧zn b=false∧yG b=false
def Word (w:aj) (t:Token):Prop:=(∃c u,w=c::u∧qp c=false)∧∀r,Gw r→tokS (w++r)=some (t,r)

theorem P1 {p:UInt8→Bool}:∀(w r:aj),(∀b∈w,p b=true)→(r = []∨∃b u,r=b::u∧p b=false)→(w++r).takeWhile p=w∧(w++r).dropWhile p=r
 | [],r,_,h=>by
  rcases h with rfl|⟨b,u,rfl,hb⟩
  ·exact ⟨rfl,rfl⟩
  ·exact ⟨by rw[List.nil_append,List.takeWhile_cons,hb]; rfl,by rw[List.nil_append,List.dropWhile_cons,hb]; rfl⟩
 | b::w,r,hw,h=>by
  have hb:=hw b (by simp)
  obtain ⟨h1,h2⟩:=P1 w r (fun x hx=>hw x (by simp[hx])) h
  exact ⟨by rw[List.cons_append,List.takeWhile_cons,hb,if_pos rfl,h1],by rw[List.cons_append,List.dropWhile_cons,hb,if_pos rfl,h2]⟩
theorem ZZ {r:aj} (h:Gw r):r = []∨∃b u,r=b::u∧zn b=false:=h.imp id fun ⟨b,u,e,h1,_⟩=>⟨b,u,e,h1⟩
theorem Z0 {r:aj} (h:Gw r):r = []∨∃b u,r=b::u∧yG b=false:=h.imp id fun ⟨b,u,e,_,h1⟩=>⟨b,u,e,h1⟩

theorem WH (c:UInt8) (h:Hd c=true):Word [c] ⟨1, [c],⟨0,0⟩,0⟩:=by
 have all:∀n:Fin 256,Hd (UInt8.ofNat n.val)=true→qp (UInt8.ofNat n.val)=false∧¬(n.val=45∨(48≤n.val∧n.val≤57))∧¬n.val=34:=by decide +kernel
 obtain ⟨h1,h2,h3⟩:=all ⟨c.toNat,UInt8.toNat_lt c⟩ (by simpa using h)
 refine ⟨⟨c, [],rfl,by simpa using h1⟩,fun r _ => ?_⟩
 show tokS (c::r)=_
 simp only[tokS]
 rw[if_neg h2,if_neg h3,if_pos h]

theorem Aw {w:aj} (h:w=rL∨w=kl∨w=oz):Word w ⟨4,w,⟨0,0⟩,0⟩:=by
 have hl:∀b∈w,yG b=true:=by rcases h with rfl|rfl|rfl <;> decide
 have hc:∃c u,w=c::u∧qp c=false∧¬(c.toNat=45∨(48≤c.toNat∧c.toNat≤57))∧¬c.toNat=34∧Hd c=false:=by
  rcases h with rfl|rfl|rfl <;> exact ⟨_,_,rfl,by decide,by decide,by decide,by decide⟩
 obtain ⟨c,u,rfl,h1,h2,h3,h4⟩:=hc
 refine ⟨⟨c,u,rfl,h1⟩,fun r hr => ?_⟩
 obtain ⟨t1,t2⟩:=P1 (c::u) r hl (Z0 hr)
 show tokS (c::(u++r))=_
 have e:(c::(u++r):aj)=(c::u)++r:=rfl
 simp only[tokS]
 rw[if_neg h2,if_neg h3,h4,if_neg (by simp),e,t1,t2,if_pos h]

theorem WI {rs:List Nat} (hr:∀c∈rs,vr c):Word (qt rs) ⟨2,cz rs,⟨0,0⟩,0⟩:=by
 have e:qt rs=34::(Ix rs ++ [34]):=by unfold qt; simp
 refine ⟨⟨34,_,e,by decide⟩,fun r _ => ?_⟩
 have hu:=ZF rs hr r
 have e2:qt rs++r=34::(Ix rs ++ [34]++r):=by rw[e]; rfl
 rw[e2]at hu ⊢
 simp only[tokS]
 rw[if_neg (by decide),if_pos (by decide),hu]

theorem TJ {d:iC} (hd:Fm d):AY (Nc d)=(d,true):=by
 have key:∀k:iC→Bool→Option (iC × Bool),dE (Nc d) k=k d true:=fun k=>by
  by_cases h0:d.aB=0
  ·rw[hd.zero h0,Mx,TC]
  ·have:=WA hd h0 [] 0 (.inl ⟨rfl,rfl⟩) (by omega) (by simp) k
   rw[List.append_nil,Int.add_zero,WB hd h0]at this
   exact this
 have hl:(Nc d).length≤4000000000:=by
  by_cases h0:d.aB=0
  ·rw[hd.zero h0,Mx]; simp
  ·obtain ⟨I,F,pt,a,b,e1,e2,i0,i1,f0,f1,fl,il,iD,fD⟩:=Jw d hd h0
   rw[e1]
   cases hdn:decide (d.aB<0) <;> cases pt <;> simp <;> omega
 have h1:=OC (Nc d) hl (fun a b=>some (a,b))
 rw[key]at h1
 simp only[Option.some.injEq]at h1
 rw[h1]

theorem OD {d:iC} (hd:Fm d):(∀b∈Nc d,zn b=true)∧(∃c u,Nc d=c::u∧(c.toNat=45∨(48≤c.toNat∧c.toNat≤57)))∧(Nc d).length≤60:=by
 have dig:∀b:UInt8,nB b→zn b=true:=fun b hb=>by
  have all:∀n:Fin 256,(48≤n.val∧n.val≤57)→zn (UInt8.ofNat n.val)=true:=by decide +kernel
  have:=all ⟨b.toNat,UInt8.toNat_lt b⟩ hb
  simpa using this
 by_cases h0:d.aB=0
 ·rw[hd.zero h0,Mx]
  exact ⟨by decide,⟨48, [],rfl,by decide⟩,by simp⟩
 ·obtain ⟨I,F,pt,a,b,e1,e2,i0,i1,f0,f1,fl,il,iD,fD⟩:=Jw d hd h0
  rw[e1]
  refine ⟨fun x hx => ?_,?_,?_⟩
  ·rcases List.mem_append.1 hx with hx|hx
   ·split at hx
    ·simp at hx; subst hx; decide
    ·simp at hx
   ·rcases List.mem_append.1 hx with hx|hx
    ·exact dig x (iD x hx)
    ·split at hx
     ·rcases List.mem_cons.1 hx with rfl|hx
      ·decide
      ·exact dig x (fD x hx)
     ·simp at hx
  ·cases I with
   | nil=>exact (i0 rfl).elim
   | cons c I =>
    cases decide (d.aB<0)with
    | true=>exact ⟨45,_,rfl,by decide⟩
    | false=>exact ⟨c,_,rfl, .inr (iD c (by simp))⟩
  ·cases hdn:decide (d.aB<0) <;> cases pt <;> simp <;> omega

theorem RN {d:iC} (hd:Fm d):Word (Nc d) ⟨3,Nc d,d,0⟩:=by
 obtain ⟨h1,⟨c,u,h2,h3⟩,_⟩:=OD hd
 have hp:=TJ hd
 have hb:qp c=false:=by
  have all:∀n:Fin 256,(n.val=45∨(48≤n.val∧n.val≤57))→qp (UInt8.ofNat n.val)=false:=by decide +kernel
  have:=all ⟨c.toNat,UInt8.toNat_lt c⟩ h3
  simpa using this
 refine ⟨⟨c,u,h2,hb⟩,fun r hr => ?_⟩
 obtain ⟨t1,t2⟩:=P1 (Nc d) r h1 (ZZ hr)
 have e:Nc d++r=c::(u++r):=by rw[h2]; rfl
 rw[e]at t1 t2 ⊢
 simp only[tokS]
 rw[if_pos h3,t1,t2,hp]
 rfl
def sg (c:UInt8):oA:=([], [c],⟨1, [c],⟨0,0⟩,0⟩)
theorem yH:∀(a b:List oA) (z:aj),qq (a++b) z=qq a (qq b z)
 | [],_,_=>rfl
 | x::a,b,z=>by simp only[List.cons_append,qq,yH a b z]

theorem wH:∀(a b:List oA) (z:aj),okW (a++b) z↔okW a (qq b z)∧okW b z
 | [],b,z=>by simp[okW]
 | x::a,b,z=>by simp only[List.cons_append,okW,wH a b z,yH,and_assoc]

theorem yI {w:aj} {t:Token} (h:Word w t) {z:aj} (hz:Gw z):okW [([],w,t)] z:=⟨by simp,h.1,h.2 z hz,trivial⟩
theorem yJ {c:UInt8} (h:Hd c=true) (z:aj):okW [sg c] z:=by
 refine ⟨by simp[sg],(WH c h).1,?_,trivial⟩
 have all:∀n:Fin 256,Hd (UInt8.ofNat n.val)=true→¬(n.val=45∨(48≤n.val∧n.val≤57))∧¬n.val=34:=by decide +kernel
 obtain ⟨h2,h3⟩:=all ⟨c.toNat,UInt8.toNat_lt c⟩ (by simpa using h)
 show tokS (c::z)=some (⟨1, [c],⟨0,0⟩,0⟩,z)
 simp only[tokS]
 rw[if_neg h2,if_neg h3,if_pos h]
theorem FJ {c:UInt8} (h:Hd c=true) (z:aj):Gw (c::z):=by
 have all:∀n:Fin 256,Hd (UInt8.ofNat n.val)=true→zn (UInt8.ofNat n.val)=false∧yG (UInt8.ofNat n.val)=false:=by decide +kernel
 obtain ⟨h2,h3⟩:=all ⟨c.toNat,UInt8.toNat_lt c⟩ (by simpa using h)
 exact .inr ⟨c,z,rfl,by simpa using h2,by simpa using h3⟩

end Go.Proofs.YtmlkkgfenfdndaaGreatDoor

/-
 Functions of the program as pure Lean functions, and the ties; printed by wip/tools/emit.py.
-/
set_option maxRecDepth 100000
namespace Go.Proofs.YtmlkkgfenfdndaaGreatDoor
open Go Go.aF

end Go.Proofs.YtmlkkgfenfdndaaGreatDoor

set_option maxRecDepth 100000
namespace Go.Proofs.YtmlkkgfenfdndaaGreatDoor
open Go Go.aF Go.Lib

section
variable {R:Type} (k:iC→Bool→Option R) (s:aj) (hs:s.length≤4000000000) (sg:Int) (hsg:sg=1∨sg = -1) (all:aj) (x:Int) (ha:∀c∈all,nB c) (h0:all ≠ []) (hl:all.length≤900) (hx : -1000≤x∧x≤0)
include hs hsg ha h0 hl hx

end


def fmB (d:iC):Bool:=(d.aB==0&&d.exp==0)||(Int.tmod d.aB 10 != 0&&(decide (-1000000000000000≤d.aB)&&decide (d.aB≤1000000000000000)&&(decide (-9≤d.exp)&&decide (d.exp≤9))))
theorem FK {d:iC}:fmB d=true↔Fm d:=by
 unfold fmB Fm
 simp[and_assoc]

theorem OE {R:Type} (d:iC) (k:Bool→Option R):cj d k=k (fmB d):=by
 have e:cj d k=kK aW d k:=rfl
 rw[e]
 unfold kK fmB
 by_cases h0:d.aB=0
 ·rw[h0]
  have t0:((0:Int)==0)=true:=rfl
  have t1:(Int.tmod 0 10 != 0)=false:=rfl
  rw[t0,t1,cond_true,Bool.true_and,Bool.false_and,Bool.or_false]
 ·have e0:(d.aB==0)=false:=by rw[beq_eq_false_iff_ne]; exact h0
  rw[e0,cond_false,Bool.false_and,Bool.false_or]
  cases ht:(Int.tmod d.aB 10 != 0)with
  | false=>rfl
  | true =>
   rw[cond_true,Bool.true_and,Cz]
   cases (decide (-1000000000000000≤d.aB)&&decide (d.aB≤1000000000000000))with
   | false=>rfl
   | true=>rw[cond_true,Cz,Bool.true_and]


theorem WJ {R:Type} {d:iC} (hd:fmB d=false) (k:aj→Option R):bc d k=k []:=by
 have e:bc d k=nZ cj ah ae ag d k:=rfl
 rw[e]
 unfold nZ
 rw[OE,hd]
 rfl
def yK (d:iC):aj:=if fmB d then Nc d else []
theorem OF {R:Type} (d:iC) (k:aj→Option R):bc d k=k (yK d):=by
 unfold yK
 cases h:fmB d with
 | true=>rw[Zn (FK.1 h)]; rfl
 | false=>rw[WJ h]; rfl

def vz:List aj→List aj→Bool
 | _, []=>true
 | seen,n::l => !seen.contains n&&gE n&&vz (n::seen) l

mutual
def fI:Json→Int→Bool
 | ⟨k,n,t,ns,is⟩,d=>decide (d≤16)&&(decide (1≤k)&&decide (k≤7))&&(k==4||(n.aB==0&&n.exp==0))&&(k==5||t.isEmpty)&&(k==7||ns.isEmpty)&&(k==6||k==7||is.isEmpty) &&
   (if k=4 then fmB n else if k=5 then gE t else if k=7 then decide (ns.length=is.length)&&vz [] ns&&fJ is (d+1)else fJ is (d+1))
def fJ:List Json→Int→Bool
 | [],_=>true
 | x::l,d=>fI x d&&fJ l d
end

theorem He {d:Int}:∀ {l:List Json} {x:Json},fJ l d=true→x∈l→fI x d=true
 | y::l,x,h,hx=>by
  simp only[fJ,Bool.and_eq_true]at h
  rcases List.mem_cons.1 hx with rfl|hx
  ·exact h.1
  ·exact He h.2 hx

inductive Jx:Json→Int→Prop where
 | name (k:Int) (d:Int) (hd:d≤16) (hk:k=1∨k=2∨k=3):Jx ⟨k,⟨0,0⟩, [], [], []⟩ d
 | num (n:iC) (d:Int) (hd:d≤16) (hn:Fm n):Jx ⟨4,n, [], [], []⟩ d
 | text (t:aj) (d:Int) (hd:d≤16) (ht:gE t=true):Jx ⟨5,⟨0,0⟩,t, [], []⟩ d
 | arr (is:List Json) (d:Int) (hd:d≤16) (hi:fJ is (d+1)=true):Jx ⟨6,⟨0,0⟩, [], [],is⟩ d
 | obj (ns:List aj) (is:List Json) (d:Int) (hd:d≤16) (hl:ns.length=is.length) (hu:vz [] ns=true) (hi:fJ is (d+1)=true):Jx ⟨7,⟨0,0⟩, [],ns,is⟩ d

theorem lr {v:Json} {d:Int}:fI v d=true↔Jx v d:=by
 obtain ⟨k,⟨m,e⟩,t,ns,is⟩:=v
 constructor
 ·intro h
  simp only[fI,Bool.and_eq_true,Bool.or_eq_true,decide_eq_true_eq,beq_iff_eq,List.isEmpty_iff]at h
  obtain ⟨⟨⟨⟨⟨⟨hd,VO,Fw⟩,hn⟩,ht⟩,Hi⟩,J0⟩,hx⟩:=h
  have hk:k=1∨k=2∨k=3∨k=4∨k=5∨k=6∨k=7:=by omega
  rcases hk with rfl|rfl|rfl|rfl|rfl|rfl|rfl
  ·simp at hn ht Hi J0
   obtain ⟨rfl,rfl⟩:=hn
   subst ht Hi J0
   exact .name 1 d hd (by omega)
  ·simp at hn ht Hi J0
   obtain ⟨rfl,rfl⟩:=hn
   subst ht Hi J0
   exact .name 2 d hd (by omega)
  ·simp at hn ht Hi J0
   obtain ⟨rfl,rfl⟩:=hn
   subst ht Hi J0
   exact .name 3 d hd (by omega)
  ·simp at ht Hi J0 hx
   subst ht Hi J0
   exact .num _ d hd (FK.1 hx)
  ·simp at hn Hi J0 hx
   obtain ⟨rfl,rfl⟩:=hn
   subst Hi J0
   exact .text t d hd hx
  ·simp at hn ht Hi hx
   obtain ⟨rfl,rfl⟩:=hn
   subst ht Hi
   exact .arr is d hd hx
  ·simp at hn ht hx
   obtain ⟨rfl,rfl⟩:=hn
   subst ht
   exact .obj ns is d hd hx.1.1 hx.1.2 hx.2
 ·intro h
  cases h with
  | name _ _ hd hk=>rcases hk with rfl|rfl|rfl <;> simp[fI,fJ,hd]
  | num _ _ hd hn=>simp[fI,hd,FK.2 hn]
  | text _ _ hd ht=>simp[fI,hd,ht]
  | arr _ _ hd hi=>simp[fI,hd,hi]
  | obj _ _ _ hd hl hu hi=>simp[fI,hd,hl,hu,hi]

def MC (t:aj):aj:=34::(t.flatMap qb ++ [34])
theorem KV {rs:List Nat} (hr:∀c∈rs,vr c):MC (cz rs)=qt rs:=by unfold MC qt; rw[UQ rs hr]

mutual
def gk:Json→aj
 | ⟨k,n,t,ns,is⟩=>if k=1 then oz else if k=2 then kl else if k=3 then rL else if k=4 then yK n else if k=5 then MC t else if k=7 then 123::(lT ns is true ++ [125])else 91::(mj is true ++ [93])
def mj:List Json→Bool→aj
 | [],_ => []
 | x::l,first=>(if first then []else [44])++(gk x++mj l false)
def lT:List aj→List Json→Bool→aj
 | _, [],_ => []
 | ns,x::l,first=>(if first then []else [44])++(MC (ns.headD [])++(58::(gk x++lT ns.tail l false)))
end

def TK (t:aj):oA:=([],MC t,⟨2,t,⟨0,0⟩,0⟩)
mutual
def qs:Json→List oA
 | ⟨k,n,t,ns,is⟩=>if k=1 then [([],oz,⟨4,oz,⟨0,0⟩,0⟩)]else if k=2 then [([],kl,⟨4,kl,⟨0,0⟩,0⟩)]else if k=3 then [([],rL,⟨4,rL,⟨0,0⟩,0⟩)]
   else if k=4 then [([],yK n,⟨3,yK n,n,0⟩)]else if k=5 then [TK t]else if k=7 then sg 123::(ml ns is true ++ [sg 125])else sg 91::(oW is true ++ [sg 93])
def oW:List Json→Bool→List oA
 | [],_ => []
 | x::l,first=>(if first then []else [sg 44])++(qs x++oW l false)
def ml:List aj→List Json→Bool→List oA
 | _, [],_ => []
 | ns,x::l,first=>(if first then []else [sg 44])++(TK (ns.headD [])::sg 58::(qs x++ml ns.tail l false))
end

mutual
theorem FL:∀(v:Json) (z:aj),qq (qs v) z=gk v++z
 | ⟨k,n,t,ns,is⟩,z=>by
  have hL:=MD is true
  have hO:=ME ns is true
  simp only[qs,gk]
  split
  ·simp[qq]
  split
  ·simp[qq]
  split
  ·simp[qq]
  split
  ·simp[qq]
  split
  ·simp[qq,TK]
  split
  ·simp only[qq,sg,yH,hO]; simp[qq,sg]
  ·simp only[qq,sg,yH,hL]; simp[qq,sg]
theorem MD:∀(l:List Json) (first:Bool) (z:aj),qq (oW l first) z=mj l first++z
 | [],_,z=>rfl
 | x::l,first,z=>by
  have h1:=FL x
  have h2:=MD l false
  simp only[oW,mj]
  rw[yH,yH,h1,h2]
  cases first <;> simp[qq,sg]
theorem ME:∀(ns:List aj) (l:List Json) (first:Bool) (z:aj),qq (ml ns l first) z=lT ns l first++z
 | ns, [],_,z=>by simp[ml,lT,qq]
 | ns,x::l,first,z=>by
  have h1:=FL x
  have h2:=ME ns.tail l false
  simp only[ml,lT]
  rw[yH]
  simp only[qq,TK,sg,yH,h1,h2]
  cases first <;> simp[qq,sg]
end

theorem MF {t:aj} (ht:gE t=true) (z:aj):okW [TK t] z:=by
 obtain ⟨rs,hr,rfl⟩:=Co.1 ht
 have e:=KV hr
 have hw:=WI hr
 refine ⟨by simp[TK],by simp only[TK,e]; exact hw.1,?_,trivial⟩
 show tokS (MC (cz rs)++z)=some (⟨2,cz rs,⟨0,0⟩,0⟩,z)
 have e2:qt rs=34::(Ix rs ++ [34]):=by unfold qt; simp
 have hu:=ZF rs hr z
 have e3:qt rs++z=34::(Ix rs ++ [34]++z):=by rw[e2]; rfl
 rw[e,e3]
 rw[e3]at hu
 simp only[tokS]
 rw[if_neg (by decide),if_pos (by decide),hu]

mutual
theorem IB:∀(v:Json) (d:Int),fI v d=true→∀z,Gw z→okW (qs v) z
 | ⟨k,n,t,ns,is⟩,d,h,z,hz=>by
  have hL:=OG is
  have hO:=OH ns is
  cases lr.1 h with
  | name _ _ hd hk =>
   rcases hk with rfl|rfl|rfl
   ·exact yI (Aw (.inr (.inr rfl))) hz
   ·exact yI (Aw (.inr (.inl rfl))) hz
   ·exact yI (Aw (.inl rfl)) hz
  | num _ _ hd hn =>
   have e:yK n=Nc n:=by unfold yK; rw[FK.2 hn]; rfl
   show okW [([],yK n,⟨3,yK n,n,0⟩)] z
   rw[e]
   exact yI (RN hn) hz
  | text _ _ hd ht=>exact MF ht z
  | arr _ _ hd hi =>
   show okW ([sg 91]++(oW is true ++ [sg 93])) z
   rw[wH,wH]
   exact ⟨yJ (by decide) _,hL true (d+1) hi _ (FJ (by decide) _),yJ (by decide) _⟩
  | obj _ _ _ hd hl hu hi =>
   show okW ([sg 123]++(ml ns is true ++ [sg 125])) z
   rw[wH,wH]
   exact ⟨yJ (by decide) _,hO true (d+1) hi hl [] hu _ (FJ (by decide) _),yJ (by decide) _⟩
theorem OG:∀(l:List Json) (first:Bool) (d:Int),fJ l d=true→∀z,Gw z→okW (oW l first) z
 | [],_,_,_,_,_=>trivial
 | x::l,first,d,h,z,hz=>by
  simp only[fJ,Bool.and_eq_true]at h
  have h1:=IB x d h.1
  have h2:=OG l false d h.2 z hz
  simp only[oW]
  rw[wH,wH]
  refine ⟨?_,h1 _ ?_,h2⟩
  ·cases first
   ·exact yJ (by decide) _
   ·trivial
  ·cases l with
   | nil=>exact hz
   | cons y l =>
    simp only[oW]
    exact FJ (c:=44) (by decide) _
theorem OH:∀(ns:List aj) (l:List Json) (first:Bool) (d:Int),fJ l d=true→ns.length=l.length→∀seen,vz seen ns=true→∀z,Gw z→okW (ml ns l first) z
 | ns, [],_,_,_,_,_,_,_,_=>by simp[ml,okW]
 | [],_::_,_,_,_,hl,_,_,_,_=>by simp at hl
 | n::ns,x::l,first,d,h,hl,seen,hu,z,hz=>by
  simp only[fJ,Bool.and_eq_true]at h
  simp only[vz,Bool.and_eq_true]at hu
  have h1:=IB x d h.1
  have h2:=OH ns l false d h.2 (by simpa using hl) _ hu.2 z hz
  simp only[ml,List.headD_cons,List.tail_cons]
  show okW ((if first=true then []else [sg 44])++([TK n]++([sg 58]++(qs x++ml ns l false)))) z
  rw[wH,wH,wH,wH]
  refine ⟨?_,MF hu.1.2 _,yJ (by decide) _,h1 _ ?_,h2⟩
  ·cases first
   ·exact yJ (by decide) _
   ·trivial
  ·cases l with
   | nil=>simp only[ml,qq]; exact hz
   | cons y l =>
    simp only[ml]
    exact FJ (c:=44) (by decide) _
end

mutual
def IC:Json→Bool
 | ⟨_,_,t,ns,is⟩=>decide (ns.length≤1099511627776)&&decide (is.length≤1099511627776)&&ID is&&(decide (t.length≤10000000000)&&ns.all fun n=>decide (n.length≤10000000000))
def ID:List Json→Bool
 | []=>true
 | x::l=>IC x&&ID l
end
theorem Fl:∀ {l:List Json} {x:Json},ID l=true→x∈l→IC x=true
 | y::l,x,h,hx=>by
  simp only[ID,Bool.and_eq_true]at h
  rcases List.mem_cons.1 hx with rfl|hx
  ·exact h.1
  ·exact Fl h.2 hx
theorem ur {v:Json}:IC v=true↔v.names.length≤1099511627776∧v.items.length≤1099511627776∧ID v.items=true∧v.text.length≤10000000000∧∀n∈v.names,n.length≤10000000000:=by
 obtain ⟨k,n,t,ns,is⟩:=v
 simp[IC,and_assoc]

theorem CC (a b:aj):xc .str a b=(a==b):=rfl
def UU (m:List (aj × Bool)) (n:aj):Bool:=mw .str .bool n m
theorem Z1 (m:List (aj × Bool)) (a b:aj):UU (vT .str .bool a true m) b=((b==a)||UU m b):=by
 induction m with
 | nil =>
  show (bif xc .str b a then true else false)=_
  rw[CC]
  cases b==a <;> rfl
 | cons e m ih =>
  unfold UU at ih ⊢
  show mw .str .bool b (bif xc .str a e.1 then (a,true)::m else e::vT .str .bool a true m)=((b==a)||(bif xc .str b e.1 then e.2 else mw .str .bool b m))
  rw[CC,CC]
  by_cases h1:a=e.1
  ·have h1':(a==e.1)=true:=by simpa using h1
   rw[h1',cond_true]
   show (bif xc .str b a then true else mw .str .bool b m)=_
   rw[CC,←h1]
   cases b==a <;> rfl
  ·have h1':(a==e.1)=false:=by simpa using h1
   rw[h1',cond_false]
   show (bif xc .str b e.1 then e.2 else mw .str .bool b (vT .str .bool a true m))=_
   rw[CC,ih]
   by_cases h2:b=a
   ·have h3:(b==e.1)=false:=by rw[h2]; exact h1'
    rw[h3]
    rfl
   ·have h3:(b==a)=false:=by simpa using h2
    rw[h3]
    rfl

theorem RO {R:Type} (ns:List aj) (hl:ns.length≤1099511627776) (k:Bool→Option R):∀(F i:Nat) (m:List (aj × Bool)) (seen:List aj),i≤ns.length→ns.length - i<F→(∀n,UU m n=seen.contains n) →
  cq F ns (ns.length:Int) (i:Int) m (k true) k=k (vz seen (ns.drop i)):=by
 intro F
 induction F with
 | zero=>intro i m seen _ h; omega
 | succ F ih =>
  intro i m seen hi hF hm
  show rC bp (fun x0 x1 x2 x3=>cq F x0 x1 x2 x3 (k true) k) ns (ns.length:Int) (i:Int) m (k true) k=_
  unfold rC
  by_cases h:i<ns.length
  ·have h1:decide ((i:Int)<(ns.length:Int))=true:=by simp; omega
   have h2:(decide ((0:Int)≤(i:Int))&&true)=true:=by simp
   have hw:IntKind.i64.wrap ((i:Int)+1)=((i+1:Nat):Int):=by rw[dx (by omega) (by omega)]; omega
   have hg:ns.getD (i:Int).toNat (Ty.bY .str)=ns[i]:=getD_at h _
   have hsn:mw .str .bool ns[i] m=seen.contains ns[i]:=hm ns[i]
   rw[h1,cond_true,aL h2,hg,hsn,hw,RC,List.drop_eq_getElem_cons h]
   simp only[vz]
   cases seen.contains ns[i]with
   | true=>rfl
   | false =>
    cases gE ns[i]with
    | false=>rfl
    | true =>
     simp only[cond_false,Bool.not_true,Bool.not_false,Bool.true_and]
     refine ih (i+1) _ (ns[i]::seen) (by omega) (by omega) fun n => ?_
     rw[Z1,hm]
     simp only[List.contains_cons]
  ·have h1:decide ((i:Int)<(ns.length:Int))=false:=by simp; omega
   rw[h1,cond_false,List.drop_eq_nil_of_le (by omega)]
   rfl

theorem TL {R:Type} (ns:List aj) (hl:ns.length≤1099511627776) (k:Bool→Option R):iO ns k=k (vz [] ns):=by
 have:=RO ns hl k (List.length ns+Int.natAbs (ns.length:Int)+Int.natAbs 0+List.length ([]:List (aj × Bool))+64) 0 [] [] (by omega) (by omega) fun n=>rfl
 rw[List.drop_zero]at this
 exact this

theorem RP {R:Type} (f:bT R) (is:List Json) (hl:is.length≤1099511627776) (d:Int) (hd:0≤d∧d≤16) (hf:∀x∈is,∀k:Bool→Option R,f x (d+1) k=k (fI x (d+1))) (k:Bool→Int→Option R):∀(F i:Nat),i≤is.length→is.length - i<F →
  aJ f F is (is.length:Int) (i:Int) d (fun y=>k (decide ((-1:Int)≥0)) y) (fun x y=>k (decide (x≥0)) y)=k (!fJ (is.drop i) (d+1)) d:=by
 intro F
 induction F with
 | zero=>intro i _ h; omega
 | succ F ih =>
  intro i hi hF
  show fN (bV f) (fun x0 x1 x2 x3=>aJ f F x0 x1 x2 x3 _ _) is (is.length:Int) (i:Int) d _ _=_
  unfold fN
  by_cases h:i<is.length
  ·have h1:decide ((i:Int)<(is.length:Int))=true:=by simp; omega
   have h2:(decide ((0:Int)≤(i:Int))&&true)=true:=by simp
   have hw:IntKind.i64.wrap ((i:Int)+1)=((i+1:Nat):Int):=by rw[dx (by omega) (by omega)]; omega
   have hwd:IntKind.i64.wrap (d+1)=d+1:=dx (by omega) (by omega)
   have hg:is.getD (i:Int).toNat (Ty.bY .json)=is[i]:=getD_at h _
   have hj:(decide ((i:Int)≥0))=true:=by simp
   have he:∀(x:Json) (q:Bool→Int→Option R),bV f x d q=f x (IntKind.i64.wrap (d+1)) fun y=>q (!y) d:=fun x q=>by
    show pj f x d q=_
    unfold pj
    simp only[Json.eta]
   rw[h1,cond_true,aL h2,hg,Json.eta,he,hwd,hf _ (List.getElem_mem h),List.drop_eq_getElem_cons h]
   simp only[fJ]
   cases fI is[i] (d+1)with
   | false=>simp only[Bool.not_false,cond_true,Bool.false_and,hj]
   | true =>
    simp only[Bool.not_true,cond_false,Bool.true_and]
    rw[hw]
    exact ih (i+1) (by omega) (by omega)
  ·have h1:decide ((i:Int)<(is.length:Int))=false:=by simp; omega
   rw[h1,cond_false,List.drop_eq_nil_of_le (by omega)]
   rfl

theorem P2 {R:Type} (f:bT R) (is:List Json) (hl:is.length≤1099511627776) (d:Int) (hd:0≤d∧d≤16) (hf:∀x∈is,∀k:Bool→Option R,f x (d+1) k=k (fI x (d+1))) (k:Bool→Int→Option R) :
  aO f is d k=k (!fJ is (d+1)) d:=by
 have:=RP f is hl d hd hf k (List.length is+Int.natAbs (is.length:Int)+Int.natAbs 0+Int.natAbs d+64) 0 (by omega) (by omega)
 rw[List.drop_zero]at this
 exact this

theorem RQ {l:List Json} {y:Json} (h:y∈l):y.depth≤Json.AJ l:=by
 induction l with
 | nil=>cases h
 | cons a l ih =>
  simp only[Json.AJ]
  rcases List.mem_cons.1 h with rfl|h
  ·exact Nat.le_max_left _ _
  ·exact Nat.le_trans (ih h) (Nat.le_max_right _ _)
theorem WK (x:Json):x.depth=Json.AJ x.items+1:=by cases x; simp[Json.depth]
theorem Fo {x y:Json} (h:y∈x.items):y.depth<x.depth:=by rw[WK x]; exact Nat.lt_succ_of_le (RQ h)

theorem bare_eq {R:Type} (k n1 n2:Int) (t:aj) (ns:List aj) (is:List Json) (q:Json→Option R):mZ ⟨k,⟨n1,n2⟩,t,ns,is⟩ q =
  q ⟨k,if k=4 then ⟨0,0⟩else ⟨n1,n2⟩,if k=5 then []else t,if k=7 then []else ns,if k=6∨k=7 then []else is⟩:=by
 show Bx _ q=_
 unfold Bx
 simp only
 by_cases h4:k=4
 ·subst h4; rfl
 by_cases h5:k=5
 ·subst h5; rfl
 by_cases h7:k=7
 ·subst h7; rfl
 by_cases h6:k=6
 ·subst h6; rfl
 have e4:(k==4)=false:=by simpa using h4
 have e5:(k==5)=false:=by simpa using h5
 have e6:(k==6)=false:=by simpa using h6
 have e7:(k==7)=false:=by simpa using h7
 rw[e4,e5,e6,e7]
 simp[h4,h5,h6,h7]

theorem chain {R:Type} (k:Bool→Option R) {a b c:Bool} {x:Option R} {r:Bool} (hx:a=true→b=true→c=false→x=k r) (hr:(a=true∧b=true∧c=false)∨r=false) :
  (bif !a then k false else (bif !b then k false else (bif c then k false else x)))=k r:=by
 cases a with
 | false =>
  rcases hr with ⟨h,_⟩|rfl
  ·cases h
  ·rfl
 | true =>
  cases b with
  | false =>
   rcases hr with ⟨_,h,_⟩|rfl
   ·cases h
   ·rfl
  | true =>
   cases c with
   | true =>
    rcases hr with ⟨_,_,h⟩|rfl
    ·cases h
    ·rfl
   | false=>exact hx rfl rfl rfl

theorem right_N {R:Type}:∀(n:Nat) (v:Json) (d:Int),IC v=true→v.depth<n→0≤d→d≤17→∀k:Bool→Option R,eT n v d k=k (fI v d):=by
 intro n
 induction n with
 | zero=>intro v d _ h; omega
 | succ n ih =>
  intro v d hv hn hd0 hd1 k
  obtain ⟨Hi,J0,VH,_⟩:=ur.1 hv
  have he:eT (n+1) v d k=zU bp cj mZ iO (aO (eT n)) v d k:=rfl
  rw[he]
  have hcf:d≤16→∀q:Bool→Int→Option R,aO (eT n) v.items d q=q (!fJ v.items (d+1)) d:=fun RR q =>
   P2 _ _ J0 d ⟨hd0,RR⟩ (fun x hx k=>ih x (d+1) (Fl VH hx) (by have:=Fo hx; omega) (by omega) (by omega) k) q
  obtain ⟨kd,⟨n1,n2⟩,t,ns,is⟩:=v
  unfold zU
  simp only at Hi J0 hcf ⊢
  rw[bare_eq]
  simp only
  by_cases RR:d≤16
  rotate_left
  ·have e1:decide (d>16)=true:=by simp; omega
   rw[e1,cond_true]
   simp[fI,RR]
  have e1:decide (d>16)=false:=by simp; omega
  rw[e1,cond_false]
  by_cases VO:kd<1
  ·have e2:decide (kd<1)=true:=by simpa using VO
   have:¬1≤kd:=by omega
   rw[e2,cond_true]
   simp[fI,this]
  have e2:decide (kd<1)=false:=by simpa using VO
  rw[e2,cond_false]
  by_cases hk7:kd>7
  ·have e3:decide (kd>7)=true:=by simpa using hk7
   have:¬kd≤7:=by omega
   rw[e3,cond_true]
   simp[fI,this]
  have e3:decide (kd>7)=false:=by simpa using hk7
  rw[e3,cond_false]
  have hk:kd=1∨kd=2∨kd=3∨kd=4∨kd=5∨kd=6∨kd=7:=by omega
  have TM:∀a b:Nat,a≤1099511627776→b≤1099511627776→decide (IntKind.i64.wrap ((a:Int)+(b:Int))>0) = !(a==0&&b==0):=by
   intro a b ha hb
   rw[dx (by omega) (by omega)]
   rw[Bool.eq_iff_iff,decide_eq_true_eq]
   simp only[Bool.not_eq_true',Bool.and_eq_false_iff,beq_eq_false_iff_ne]
   omega
  have hie:∀l:List aj,(l.length==0)=l.isEmpty:=fun l=>by cases l <;> rfl
  have hje:∀l:List Json,(l.length==0)=l.isEmpty:=fun l=>by cases l <;> rfl
  have SE:∀l:aj,(l==([]:aj))=l.isEmpty:=fun l=>by cases l <;> rfl
  have xj:∀d:Int,fJ [] d=true:=fun _=>rfl
  have WL:∀a b:Int,((a==0)&&((b==0)&&true))=(a==0&&b==0):=fun a b=>by cases a==0 <;> cases b==0 <;> rfl
  have hcf0:∀q:Bool→Int→Option R,is.isEmpty=true→aO (eT n) is d q=q false d:=fun q h=>by
   rw[hcf RR]
   obtain rfl:is = []:=List.isEmpty_iff.1 h
   rfl
  have Z2:∀a b c:Bool,(a=true∧b=true∧(!c)=false)∨((a&&b)&&c)=false:=by decide
  have hb4:∀b c q:Bool,(true=true∧b=true∧(!c)=false)∨((b&&c)&&q)=false:=by decide
  have hb5:∀a c q:Bool,(a=true∧true=true∧(!c)=false)∨((a&&c)&&q)=false:=by decide
  have hb6:∀a b c q:Bool,(a=true∧b=true∧(!c)=false)∨(((a&&b)&&c)&&q)=false:=by decide
  have hb7:∀a b q:Bool,(a=true∧b=true∧false=false)∨((a&&b)&&q)=false:=by decide
  rcases hk with rfl|rfl|rfl|rfl|rfl|rfl|rfl
  ·have hr:fI ⟨1,⟨n1,n2⟩,t,ns,is⟩ d=(((n1==0&&n2==0)&&t.isEmpty)&&(ns.isEmpty&&is.isEmpty)):=by
    cases is <;> simp[fI,fJ,RR]
   simp only[Int.reduceEq,if_false,or_self,WL]
   rw[TM _ _ Hi J0,hie,hje,SE,hr]
   refine chain k (fun h1 h2 h3 => ?_) (Z2 _ _ _)
   have h4:ns.isEmpty=true∧is.isEmpty=true:=by simpa using h3
   rw[h1,h2,h4.1,h4.2]
   show aO (eT n) is d (fun DS zA=>k (!DS))=k true
   exact hcf0 _ h4.2
  ·have hr:fI ⟨2,⟨n1,n2⟩,t,ns,is⟩ d=(((n1==0&&n2==0)&&t.isEmpty)&&(ns.isEmpty&&is.isEmpty)):=by
    cases is <;> simp[fI,fJ,RR]
   simp only[Int.reduceEq,if_false,or_self,WL]
   rw[TM _ _ Hi J0,hie,hje,SE,hr]
   refine chain k (fun h1 h2 h3 => ?_) (Z2 _ _ _)
   have h4:ns.isEmpty=true∧is.isEmpty=true:=by simpa using h3
   rw[h1,h2,h4.1,h4.2]
   show aO (eT n) is d (fun DS zA=>k (!DS))=k true
   exact hcf0 _ h4.2
  ·have hr:fI ⟨3,⟨n1,n2⟩,t,ns,is⟩ d=(((n1==0&&n2==0)&&t.isEmpty)&&(ns.isEmpty&&is.isEmpty)):=by
    cases is <;> simp[fI,fJ,RR]
   simp only[Int.reduceEq,if_false,or_self,WL]
   rw[TM _ _ Hi J0,hie,hje,SE,hr]
   refine chain k (fun h1 h2 h3 => ?_) (Z2 _ _ _)
   have h4:ns.isEmpty=true∧is.isEmpty=true:=by simpa using h3
   rw[h1,h2,h4.1,h4.2]
   show aO (eT n) is d (fun DS zA=>k (!DS))=k true
   exact hcf0 _ h4.2
  ·have hr:fI ⟨4,⟨n1,n2⟩,t,ns,is⟩ d=((t.isEmpty&&(ns.isEmpty&&is.isEmpty))&&fmB ⟨n1,n2⟩):=by
    simp[fI,RR,Bool.and_assoc]
   simp only[Int.reduceEq,if_false,if_true,or_self]
   rw[TM _ _ Hi J0,hie,hje,SE,hr]
   refine chain k (a:=true) (b:=t.isEmpty) (c := !(ns.isEmpty&&is.isEmpty)) (fun h1 h2 h3 => ?_) (hb4 _ _ _)
   have h4:ns.isEmpty=true∧is.isEmpty=true:=by simpa using h3
   rw[h2,h4.1,h4.2]
   exact OE _ _
  ·have hr:fI ⟨5,⟨n1,n2⟩,t,ns,is⟩ d=(((n1==0&&n2==0)&&(ns.isEmpty&&is.isEmpty))&&gE t):=by
    simp[fI,RR,Bool.and_assoc]
   simp only[Int.reduceEq,if_false,if_true,or_self,WL]
   rw[TM _ _ Hi J0,hie,hje,hr]
   refine chain k (a:=(n1==0&&n2==0)) (b:=true) (c := !(ns.isEmpty&&is.isEmpty)) (fun h1 h2 h3 => ?_) (hb5 _ _ _)
   have h4:ns.isEmpty=true∧is.isEmpty=true:=by simpa using h3
   rw[h1,h4.1,h4.2]
   exact RC _ _
  ·have hr:fI ⟨6,⟨n1,n2⟩,t,ns,is⟩ d=((((n1==0&&n2==0)&&t.isEmpty)&&ns.isEmpty)&&fJ is (d+1)):=by
    simp[fI,RR,Bool.and_assoc]
   simp only[Int.reduceEq,if_false,if_true,true_or,WL]
   have UR:=TM ns.length 0 Hi (by omega)
   have hq:((0:Nat)==0)=true:=rfl
   rw[hq,Bool.and_true,hie]at UR
   rw[List.length_nil,UR,SE,hr]
   refine chain k (a:=(n1==0&&n2==0)) (b:=t.isEmpty) (c := !ns.isEmpty) (fun h1 h2 h3 => ?_) (hb6 _ _ _ _)
   have h4:ns.isEmpty=true:=by simpa using h3
   rw[h1,h2,h4]
   show aO (eT n) is d (fun DS zA=>k (!DS))=k (fJ is (d+1))
   rw[hcf RR,Bool.not_not]
  ·have hr:fI ⟨7,⟨n1,n2⟩,t,ns,is⟩ d=(((n1==0&&n2==0)&&t.isEmpty)&&(decide (ns.length=is.length)&&vz [] ns&&fJ is (d+1))):=by
    simp[fI,RR,Bool.and_assoc]
   simp only[Int.reduceEq,if_false,if_true,or_true,WL]
   have UR:=TM 0 0 (by omega) (by omega)
   rw[List.length_nil,List.length_nil,UR,SE,hr]
   refine chain k (a:=(n1==0&&n2==0)) (b:=t.isEmpty) (c:=false) (fun h1 h2 h3 => ?_) (hb7 _ _ _)
   rw[h1,h2]
   show (bif ((ns.length:Int) != (is.length:Int))then k false else iO ns (fun y7=>bif !y7 then k false else aO (eT n) is d (fun vu yx=>k (!vu))))=_
   by_cases hl:ns.length=is.length
   ·have e9:((ns.length:Int) != (is.length:Int))=false:=by rw[hl]; simp
    rw[e9,cond_false,TL ns Hi,hcf RR,Bool.not_not]
    cases vz [] ns <;> simp[hl]
   ·have e9:((ns.length:Int) != (is.length:Int))=true:=by simp; omega
    rw[e9,cond_true]
    simp[hl]

theorem TN {R:Type} (v:Json) (hv:IC v=true) (k:Bool→Option R):j1 v k=k (fI v 1):=by
 have e:j1 v k=zV la v k:=rfl
 rw[e]
 unfold zV
 simp only[Json.eta]
 exact right_N (v.depth+2) v 1 hv (by omega) (by omega) (by omega) k
end Go.Proofs.YtmlkkgfenfdndaaGreatDoor

/-
 Functions of the program as pure Lean functions, and the ties; printed by wip/tools/emit.py.
-/
set_option maxRecDepth 100000
namespace Go.Proofs.YtmlkkgfenfdndaaGreatDoor
open Go Go.aF

/-! ### humpyard/lexer.Scan -/
abbrev qW (R:Type):Type:=aj→((List Token)→Int→Int→Option R)→Option R
abbrev Dx:List ck := [.leaf (.str)]
abbrev Dy:List aN := []
def Gx {R:Type} (fn:qW R):ck.aH Dx→aN.aH Dy→(V→aG→Option R)→Option R:=fun x y k=>fn x.1 (fun q0 q1 q2=>k (.tuple [.sl .token q0 .no, .int .i64 q1, .int .i64 q2]) [])
def IE {R:Type} (fn:qW R):aF.Spec R→aF.Spec R:=bj Dx Dy (Gx fn)
abbrev mb (R:Type):Type:=Nat→aj→(List Token)→Int→((List Token)→Int→Int→Option R)→(Int→Int→Option R)→Option R
def sQ {R:Type} (eY:mU R) (bX:hP R):List (uI R) := [(48,true,(Ir eY aZ)),(47,true,(BW bX aZ))]
theorem MG {R:Type}:eU (R:=R) Tryz.prog (sQ eY bX) := .p (Kw R _ (aK _)) <| .p (Cv R _ (aK _)) <| .n
def xN {R:Type} (eY:mU R) (bX:hP R) (fC:aj→(List Token)→Int→Option R) (x2:aj) (x3:List Token) (x4:Int) (e0:(List Token)→Int→Int→Option R) (e1:Int→Int→Option R):Option R :=
 cw (decide ((0:Int)≤(x2.length:Int))&&decide ((x2.length:Int)≤x2.length)) (cw (decide ((0:Int)≤x4)&&decide (x4≤(x2.length:Int))) (bX ((x2.drop x4.toNat).take ((x2.length:Int).toNat - x4.toNat)) ([32,9,10,13]:aj) (fun y5=>bif ((IntKind.i64.wrap (x4+(y5.length:Int)))==(x2.length:Int))then (cw (decide ((x3.length+1)*48≤140737488355328)) (e0 (x3++([(⟨5,([]:aj),⟨0,0⟩,(IntKind.i64.wrap (x4+(y5.length:Int)))⟩:Token)]:List Token)) 0 0))else (cw (decide ((0:Int)≤(x2.length:Int))&&decide ((x2.length:Int)≤x2.length)) (cw (decide ((0:Int)≤(IntKind.i64.wrap (x4+(y5.length:Int))))&&decide ((IntKind.i64.wrap (x4+(y5.length:Int)))≤(x2.length:Int))) (eY ((x2.drop (IntKind.i64.wrap (x4+(y5.length:Int))).toNat).take ((x2.length:Int).toNat - (IntKind.i64.wrap (x4+(y5.length:Int))).toNat)) (fun y6 y7=>bif (y7==0)then (e1 30 (IntKind.i64.wrap (x4+(y5.length:Int))))else (cw (decide ((x3.length+1)*48≤140737488355328)) (fC x2 (x3++([(⟨y6.kind,y6.text,⟨y6.num.aB,y6.num.exp⟩,(IntKind.i64.wrap (x4+(y5.length:Int)))⟩:Token)]:List Token)) (IntKind.i64.wrap ((IntKind.i64.wrap (x4+(y5.length:Int)))+y7)))))))))))
def ct {R:Type}:mb R
 | 0,_,_,_,_,_=>none
 | n+1,kN,kO,lN,e0,e1=>xN eY bX (fun kN kO lN=>ct n kN kO lN e0 e1) kN kO lN e0 e1
def sR:Hint := { live := [0,2,4],own := [(2, .token)],rows := [],cells := [],drop := [],out := [2,3,4] }
abbrev jC:Type:=aj × (List Token) × Int
def qu:jC→St:=fun d=>⟨.str d.1 :: .undef :: .sl .token d.2.1 (.own 0) :: .undef :: .int .i64 d.2.2::U 40 ([]), [.tok]⟩
def wI {R:Type} (K:Ex→St→Option R) (q0:List Token) (q1:Int) (q2:Int):Option R:=K (.ret) ⟨U 2 (.sl .token q0 (.own 0) :: .int .i64 q1 :: .int .i64 q2::U 40 ([])), [.tok]⟩
def wJ {R:Type} (K:Ex→St→Option R) (q0:Int) (q1:Int):Option R:=K (.ret) ⟨U 2 (.cM :: .int .i64 q0 :: .int .i64 q1::U 40 ([])), []⟩
def xO {R:Type} (eY:mU R) (bX:hP R) (K:Ex→St→Option R) (rc:jC→Option R) (d:jC):Option R:=xN eY bX (fun z0 z1 z2=>rc (z0,z1,z2)) d.1 d.2.1 d.2.2 (wI K) (wJ K)
def nd {R:Type} (K:Ex→St→Option R) (n:Nat) (d:jC):Option R:=ct n d.1 d.2.1 d.2.2 (wI K) (wJ K)
abbrev jD:List ck := .leaf (.str) :: .leaf (.undef) :: .leaf (.M8 .token 0) :: .leaf (.undef) :: .leaf (.int .i64)::PU 40 ([])
abbrev jE:List aN := [.tok]
def xP (x:ck.aH jD) (y:aN.aH jE):Nat:=(List.length x.1+List.length x.2.2.1+Int.natAbs x.2.2.2.2.1+64)
def xQ (x:ck.aH jD) (y:aN.aH jE):jC:=(x.1,x.2.2.1,x.2.2.2.2.1)
def wK {R:Type} (L:mb R):ck.aH jD→aN.aH jE→(Ex→St→Option R)→Option R:=fun x y K=>L (xP x y) x.1 x.2.2.1 x.2.2.2.2.1 (wI K) (wJ K)
def wL (R:Type) (ct:mb R):Nat→Option (Hint × eJ R):=fun i=>match i with
 | 3=>some (sR,(fQ jD jE (wK ct) pr))
 | _=>none

theorem F1 {R:Type} (eY:mU R) (bX:hP R) (ct:mb R) (K:Ex→St→Option R) (rc:St→Option R) (d:jC):roundOf tt (fV (sQ eY bX)) (wL R ct) 0 ((br (bb Tryz.f25)).getD 0 .skip) sR (qu d) rc K=xO eY bX K (fun d=>rc (qu d)) d:=by kernel_rfl
theorem Eh {R:Type} (K:Ex→St→Option R) (n:Nat) (d:jC):nd K (n+1) d=xO eY bX K (nd K n) d:=by kernel_rfl
theorem Ei {R:Type} (K:Ex→St→Option R) (d:jC):nd K 0 d=none:=by kernel_rfl
theorem F2 (x:ck.aH jD) (y:aN.aH jE):(⟨ck.cz jD x,aN.cz jE y⟩:St)=qu (xQ x y):=by kernel_rfl
theorem F3 {R:Type} (x:ck.aH jD) (y:aN.aH jE) (K:Ex→St→Option R):wK (ct) x y K=nd K (xP x y) (xQ x y):=by kernel_rfl
theorem IF {R:Type} (other:eJ R) (ho:oa tt (fV (sQ eY bX)) (wL R ct) 0 ((br (bb Tryz.f25)).getD 0 .skip) sR other):oa tt (fV (sQ eY bX)) (wL R ct) 0 ((br (bb Tryz.f25)).getD 0 .skip) sR (fQ jD jE (wK (ct)) other) :=
 gd (A:=nd) ho (jt qu (xO eY bX) (nd) (Ei) (F1 eY bX ct) (Eh)) xP xQ F2 (F3)

def Ai {R:Type} (ct:mb R) (x1:aj) (k0:(List Token)→Int→Int→Option R):Option R :=
 bif (decide ((x1.length:Int)>(20000:Int)))then (k0 ([]:List Token) 30 0)else (ct (List.length x1+List.length ([]:List Token)+Int.natAbs 0+64) x1 ([]:List Token) 0 (fun y8 y9 xD=>k0 y8 y9 xD) (fun vu yx=>k0 ([]:List Token) vu yx))
def km {R:Type}:qW R:=fun x1 k0=>Ai ct x1 k0
theorem NK {R:Type} (eY:mU R) (bX:hP R) (ct:mb R):gR (R:=R) tt (sQ eY bX) (wL R ct) false Tryz.f25 (bb Tryz.f25) Dx Dy (Gx (Ai ct)):=fun x y k=>by kernel_rfl
theorem Jy (R:Type):∀a∈br (bb Tryz.f25),lM tt (fV (sQ eY bX)) (wL R ct) 0 a:=by
 refine kZ 1 (by kernel_rfl) fun i hi => ?_
 match i,hi with
 | 0,_=>exact fm (by kernel_rfl) (IF _ ia)
 | n+1,hi=>omega
theorem Ky (R:Type):rR Tryz.prog 25 (IE (km (R:=R))):=cQ TT mixed (MG (R:=R)) rfl rfl rfl rfl (Jy R) (NK eY bX ct)

/-! ### (*humpyard/json.parser).fail -/
abbrev bI (R:Type):Type:=Int→(List Token)→Int→((List Token)→Int→Option R)→Option R
abbrev pK:List ck := [.leaf (.ptr 0 0), .leaf (.int .i64)]
abbrev pL:List aN := [.cells [.sl .token, .int .i64]]
def uu {R:Type} (fn:bI R):ck.aH pK→aN.aH pL→(V→aG→Option R)→Option R:=fun x y k=>fn x.2.1 y.1.1 y.1.2.1 (fun q0 q1=>k (.tuple []) [.cells [.sl .token q0 .no, .int .i64 q1]])
def jF {R:Type} (fn:bI R):aF.Spec R→aF.Spec R:=bj pK pL (uu fn)
def vA {R:Type} (x1:Int) (x2:List Token) (x3:Int) (k0:(List Token)→Int→Option R):Option R :=
 bif (x3==0)then (k0 x2 x1)else (k0 x2 x3)
def ak {R:Type}:bI R:=fun x1 x2 x3 k0=>vA x1 x2 x3 k0
theorem BZ {R:Type}:gR (R:=R) (tt.mode [.json]) [] xw false Tryz.f43 (bb Tryz.f43) pK pL (uu vA):=fun x y k=>by kernel_rfl
theorem kn (R:Type):rR Tryz.prog 43 (jF (ak (R:=R))):=cQ (TT.mode [.json]) mixed .n rfl rfl rfl rfl dV (BZ)

/-! ### (*humpyard/json.parser).sign -/
abbrev cT (R:Type):Type:=aj→(List Token)→Int→(Bool→(List Token)→Int→Option R)→Option R
abbrev pM:List ck := [.leaf (.ptr 0 0), .leaf (.str)]
abbrev pN:List aN := [.cells [.sl .token, .int .i64]]
def uv {R:Type} (fn:cT R):ck.aH pM→aN.aH pN→(V→aG→Option R)→Option R:=fun x y k=>fn x.2.1 y.1.1 y.1.2.1 (fun q0 q1 q2=>k (.bool q0) [.cells [.sl .token q1 .no, .int .i64 q2]])
def pO {R:Type} (fn:cT R):aF.Spec R→aF.Spec R:=bj pM pN (uv fn)
def vB {R:Type} (x1:aj) (x2:List Token) (x3:Int) (k0:Bool→(List Token)→Int→Option R):Option R :=
 cw (decide ((0:Int)<x2.length)) (bif (x3 != 0)then (k0 false x2 x3)else (bif ((x2.getD 0 (Ty.bY .token)).kind != 1)then (k0 false x2 x3)else (bif (!((x2.getD 0 (Ty.bY .token)).text==x1))then (k0 false x2 x3)else (cw (decide ((1:Int)≤x2.length)) (k0 true (x2.drop 1) x3)))))
def aq {R:Type}:cT R:=fun x1 x2 x3 k0=>vB x1 x2 x3 k0
theorem B0 {R:Type}:gR (R:=R) (tt.mode [.json]) [] xw false Tryz.f122 (bb Tryz.f122) pM pN (uv vB):=fun x y k=>by kernel_rfl
theorem ss (R:Type):rR Tryz.prog 122 (pO (aq (R:=R))):=cQ (TT.mode [.json]) mixed .n rfl rfl rfl rfl dV (B0)

/-! ### slices.Index[[]string,string] -/
abbrev fg (R:Type):Type:=(List aj)→aj→(Int→Option R)→Option R
abbrev mE:List ck := [.leaf (.sl .str), .leaf (.str)]
abbrev mF:List aN := []
def qM {R:Type} (fn:fg R):ck.aH mE→aN.aH mF→(V→aG→Option R)→Option R:=fun x y k=>fn x.1 x.2.1 (fun q0=>k (.int .i64 q0) [])
def rM {R:Type} (fn:fg R):aF.Spec R→aF.Spec R:=bj mE mF (qM fn)
abbrev eC (R:Type):Type:=Nat→(List aj)→aj→Int→Int→(Option R)→(Int→Option R)→Option R
def gV {R:Type} (fC:(List aj)→aj→Int→Int→Option R) (x3:List aj) (x4:aj) (x5:Int) (x6:Int) (e0:Option R) (e1:Int→Option R):Option R :=
 bif (decide (x6<x5))then (cw (decide ((0:Int)≤x6)&&decide (x6<x3.length)) (bif (x4==(x3.getD x6.toNat (Ty.bY .str)))then (e1 x6)else (fC x3 x4 x5 (IntKind.i64.wrap (x6+1)))))else (e0)
def aU {R:Type}:eC R
 | 0,_,_,_,_,_,_=>none
 | n+1,kN,kO,lN,th,e0,e1=>gV (fun kN kO lN th=>aU n kN kO lN th e0 e1) kN kO lN th e0 e1
def gW:Hint := { live := [0,1,7,8],own := [],rows := [],cells := [],drop := [],out := [4] }
abbrev dk:Type:=(List aj) × aj × Int × Int
def gp:dk→St:=fun d=>⟨.sl .str d.1 .no :: .str d.2.1::U 5 (.int .i64 d.2.2.1 :: .int .i64 d.2.2.2::U 10 ([])), []⟩
def ko {R:Type} (K:Ex→St→Option R):Option R:=K (.exit 0) ⟨U 19 ([]), []⟩
def kq {R:Type} (K:Ex→St→Option R) (q0:Int):Option R:=K (.ret) ⟨U 4 (.int .i64 q0::U 14 ([])), []⟩
def kR {R:Type} (K:Ex→St→Option R) (rc:dk→Option R) (d:dk):Option R:=gV (fun z0 z1 z2 z3=>rc (z0,z1,z2,z3)) d.1 d.2.1 d.2.2.1 d.2.2.2 (ko K) (kq K)
def eO {R:Type} (K:Ex→St→Option R) (n:Nat) (d:dk):Option R:=aU n d.1 d.2.1 d.2.2.1 d.2.2.2 (ko K) (kq K)
abbrev dm:List ck := .leaf (.sl .str) :: .leaf (.str)::PU 5 (.leaf (.int .i64) :: .leaf (.int .i64)::PU 10 ([]))
abbrev dn:List aN := []
def kS (x:ck.aH dm) (y:aN.aH dn):Nat:=(List.length x.1+List.length x.2.1+Int.natAbs x.2.2.2.2.2.2.2.1+Int.natAbs x.2.2.2.2.2.2.2.2.1+64)
def kT (x:ck.aH dm) (y:aN.aH dn):dk:=(x.1,x.2.1,x.2.2.2.2.2.2.2.1,x.2.2.2.2.2.2.2.2.1)
def kr {R:Type} (L:eC R):ck.aH dm→aN.aH dn→(Ex→St→Option R)→Option R:=fun x y K=>L (kS x y) x.1 x.2.1 x.2.2.2.2.2.2.2.1 x.2.2.2.2.2.2.2.2.1 (ko K) (kq K)
def gO (R:Type) (aU:eC R):Nat→Option (Hint × eJ R):=fun i=>match i with
 | 2=>some (gW,(fQ dm dn (kr aU) pr))
 | _=>none

theorem vg {R:Type} (aU:eC R) (K:Ex→St→Option R) (rc:St→Option R) (d:dk):roundOf tt (fV []) (gO R aU) 0 ((br (bb Tryz.f142)).getD 0 .skip) gW (gp d) rc K=kR K (fun d=>rc (gp d)) d:=by kernel_rfl
theorem tP {R:Type} (K:Ex→St→Option R) (n:Nat) (d:dk):eO K (n+1) d=kR K (eO K n) d:=by kernel_rfl
theorem tQ {R:Type} (K:Ex→St→Option R) (d:dk):eO K 0 d=none:=by kernel_rfl
theorem vh (x:ck.aH dm) (y:aN.aH dn):(⟨ck.cz dm x,aN.cz dn y⟩:St)=gp (kT x y):=by kernel_rfl
theorem vi {R:Type} (x:ck.aH dm) (y:aN.aH dn) (K:Ex→St→Option R):kr (aU) x y K=eO K (kS x y) (kT x y):=by kernel_rfl
theorem wM {R:Type} (other:eJ R) (ho:oa tt (fV []) (gO R aU) 0 ((br (bb Tryz.f142)).getD 0 .skip) gW other):oa tt (fV []) (gO R aU) 0 ((br (bb Tryz.f142)).getD 0 .skip) gW (fQ dm dn (kr (aU)) other) :=
 gd (A:=eO) ho (jt gp (kR) (eO) (tQ) (vg aU) (tP)) kS kT vh (vi)

def rN {R:Type} (aU:eC R) (x1:List aj) (x2:aj) (k0:Int→Option R):Option R :=
 aU (List.length x1+List.length x2+Int.natAbs (x1.length:Int)+Int.natAbs 0+64) x1 x2 (x1.length:Int) 0 (k0 (-1)) (fun y7=>k0 y7)
def cZ {R:Type}:fg R:=fun x1 x2 k0=>rN aU x1 x2 k0
theorem zo {R:Type} (aU:eC R):gR (R:=R) tt [] (gO R aU) false Tryz.f142 (bb Tryz.f142) mE mF (qM (rN aU)):=fun x y k=>by kernel_rfl
theorem w7 (R:Type):∀a∈br (bb Tryz.f142),lM tt (fV []) (gO R aU) 0 a:=by
 refine kZ 1 (by kernel_rfl) fun i hi => ?_
 match i,hi with
 | 0,_=>exact fm (by kernel_rfl) (wM _ ia)
 | n+1,hi=>omega
theorem xR (R:Type):rR Tryz.prog 142 (rM (cZ (R:=R))):=cQ TT mixed .n rfl rfl rfl rfl (w7 R) (zo aU)

/-! ### slices.Contains[[]string,string] -/
abbrev eP (R:Type):Type:=(List aj)→aj→(Bool→Option R)→Option R
abbrev lu:List ck := [.leaf (.sl .str), .leaf (.str)]
abbrev lv:List aN := []
def o9 {R:Type} (fn:eP R):ck.aH lu→aN.aH lv→(V→aG→Option R)→Option R:=fun x y k=>fn x.1 x.2.1 (fun q0=>k (.bool q0) [])
def pP {R:Type} (fn:eP R):aF.Spec R→aF.Spec R:=bj lu lv (o9 fn)
def pQ {R:Type} (cZ:fg R):List (uI R) := [(142,true,(rM cZ aZ))]
theorem wN {R:Type}:eU (R:=R) Tryz.prog (pQ cZ) := .p (xR R _ (aK _)) <| .n
def pR {R:Type} (cZ:fg R) (x1:List aj) (x2:aj) (k0:Bool→Option R):Option R :=
 cZ x1 x2 (fun y3=>k0 (decide (y3≥(0:Int))))
def bS {R:Type}:eP R:=fun x1 x2 k0=>pR cZ x1 x2 k0
theorem w9 {R:Type} (cZ:fg R):gR (R:=R) tt (pQ cZ) xw false Tryz.f123 (bb Tryz.f123) lu lv (o9 (pR cZ)):=fun x y k=>by kernel_rfl
theorem vR (R:Type):rR Tryz.prog 123 (pP (bS (R:=R))):=cQ TT mixed (wN (R:=R)) rfl rfl rfl rfl dV (w9 cZ)

/-! ### (*humpyard/json.parser).name -/
abbrev gv (R:Type):Type:=(List aj)→(List Token)→Int→(aj→(List Token)→Int→Option R)→Option R
abbrev pS:List ck := [.leaf (.ptr 0 0), .leaf (.M8 .str 1)]
abbrev pT:List aN := [.cells [.sl .token, .int .i64], .tok]
def uw {R:Type} (fn:gv R):ck.aH pS→aN.aH pT→(V→aG→Option R)→Option R:=fun x y k=>fn x.2.1 y.1.1 y.1.2.1 (fun q0 q1 q2=>k (.str q0) [.cells [.sl .token q1 .no, .int .i64 q2], .tok])
def vC {R:Type} (fn:gv R):aF.Spec R→aF.Spec R:=bj pS pT (uw fn)
def vD {R:Type} (ak:bI R) (aq:cT R) (bS:eP R):List (uI R) := [(43,false,(jF ak aZ)),(122,false,(pO aq aZ)),(123,true,(pP bS aZ))]
theorem Bi {R:Type}:eU (R:=R) Tryz.prog (vD ak aq bS) := .f (kn R _ (aK _)) rfl <| .f (ss R _ (aK _)) rfl <| .p (vR R _ (aK _)) <| .n
def vE {R:Type} (ak:bI R) (aq:cT R) (bS:eP R) (x1:List aj) (x2:List Token) (x3:Int) (k0:aj→(List Token)→Int→Option R):Option R :=
 cw (decide ((0:Int)<x2.length)) (bif ((x2.getD 0 (Ty.bY .token)).kind != 2)then (ak 40 x2 x3 (fun y4 y5=>k0 ((x2.getD 0 (Ty.bY .token)).text) y4 y5))else (bS x1 ((x2.getD 0 (Ty.bY .token)).text) (fun y6=>bif y6 then (ak 42 x2 x3 (fun y7 y8=>k0 ((x2.getD 0 (Ty.bY .token)).text) y7 y8))else (cw (decide ((1:Int)≤x2.length)) (aq ([58]:aj) (x2.drop 1) x3 (fun y9 xD vu=>bif (!y9)then (ak 40 xD vu (fun yx DS=>k0 ((x2.getD 0 (Ty.bY .token)).text) yx DS))else (k0 ((x2.getD 0 (Ty.bY .token)).text) xD vu)))))))
def cG {R:Type}:gv R:=fun x1 x2 x3 k0=>vE ak aq bS x1 x2 x3 k0
theorem B1 {R:Type} (ak:bI R) (aq:cT R) (bS:eP R):gR (R:=R) (tt.mode [.json]) (vD ak aq bS) xw false Tryz.f90 (bb Tryz.f90) pS pT (uw (vE ak aq bS)):=fun x y k=>by kernel_rfl
theorem AZ (R:Type):rR Tryz.prog 90 (vC (cG (R:=R))):=cQ (TT.mode [.json]) mixed (Bi (R:=R)) rfl rfl rfl rfl dV (B1 ak aq bS)

end Go.Proofs.YtmlkkgfenfdndaaGreatDoor

set_option maxRecDepth 100000
namespace Go.Proofs.YtmlkkgfenfdndaaGreatDoor
open Go Go.aF Go.Lib

theorem CD (p:UInt8→Bool) (s:aj):(s.takeWhile p).length+(s.dropWhile p).length=s.length:=by
 have:=congrArg List.length (List.takeWhile_append_dropWhile (p:=p) (l:=s))
 rwa [List.length_append]at this
theorem take_tw (p:UInt8→Bool) (s:aj):s.take (s.takeWhile p).length=s.takeWhile p:=by
 have:=List.take_left (l₁:=s.takeWhile p) (l₂:=s.dropWhile p)
 rwa [List.takeWhile_append_dropWhile]at this
theorem drop_tw (p:UInt8→Bool) (s:aj):s.drop (s.takeWhile p).length=s.dropWhile p:=by
 have:=List.drop_left (l₁:=s.takeWhile p) (l₂:=s.dropWhile p)
 rwa [List.takeWhile_append_dropWhile]at this

theorem MH {R:Type} (s cs:aj) (hs:s.length≤4000000000) (h1:sY cs=true) (h2:cs.length<4294967281) (k:aj→Option R):bX s cs k=k (s.takeWhile (cs.contains ·)):=by
 have e:bX s cs k=yl s cs k:=rfl
 rw[e]
 unfold yl
 have hl:=CD (cs.contains ·) s
 have ht:(bG s cs).length=(s.dropWhile (cs.contains ·)).length:=rfl
 have hw:IntKind.i64.wrap ((s.length:Int) - ((bG s cs).length:Int))=((s.takeWhile (cs.contains ·)).length:Int):=by rw[ht,dx (by omega) (by omega)]; omega
 rw[hw,h1,aL (by rw[bf h2]; rfl),aL (by rw[bf (by omega),bf (by omega)]; rfl),aL (bf (by omega)),List.drop_zero,Nat.sub_zero,Int.toNat_natCast,take_tw]

theorem Z3 (c:UInt8):decide (yg TG (c.toNat:Int)≥0)=Hd c:=by
 have hi:yg TG (c.toNat:Int)=Go.Lib.indexByte TG c:=by
  unfold yg
  rw[Int.toNat_natCast]
  simp
 have h:=KU c TG
 rw[hi]
 unfold Hd
 cases hc:TG.contains c with
 | true =>
  apply bf
  have:¬Go.Lib.indexByte TG c<0:=fun g=>by rw[h.1 g]at hc; cases hc
  omega
 | false =>
  apply cI
  have:=h.2 hc
  omega

theorem next_ok {R:Type} (s:aj) (hs:s.length≤4000000000) (h0:s ≠ []) (k:Token→Int→Option R) :
  eY s k=match tokS s with|some (t,r)=>k t ((s.length - r.length:Nat):Int)|none=>k ⟨0, [],⟨0,0⟩,0⟩ 0:=by
 have e:eY s k=Af eV dE bX s k:=rfl
 rw[e]
 unfold Af
 cases s with
 | nil=>exact (h0 rfl).elim
 | cons c u =>
  have hlen:(c::u:aj).length=u.length+1:=rfl
  have hg:(c::u:aj).getD 0 0=c:=rfl
  simp only[List.length_cons]at hs
  rw[hg,aL (bf (by rw[hlen]; omega))]
  simp only
  have q45:((c.toNat:Int)==45)=decide (c.toNat=45):=eqI _ 45
  have q34:((c.toNat:Int)==34)=decide (c.toNat=34):=eqI _ 34
  have l48:decide ((c.toNat:Int)≥48)=decide (48≤c.toNat):=by
   by_cases h:48≤c.toNat
   ·rw[bf h,bf (by omega)]
   ·rw[cI h,cI (by omega)]
  have l57:decide ((c.toNat:Int)≤57)=decide (c.toNat≤57):=by
   by_cases h:c.toNat≤57
   ·rw[bf h,bf (by omega)]
   ·rw[cI h,cI (by omega)]
  have hsg:decide (yg ([123,125,91,93,44,58]:aj) (c.toNat:Int)≥0)=Hd c:=Z3 c
  have jb:∀p:UInt8→Bool,((c::u).takeWhile p).length≤(c::u).length:=fun p=>by have:=CD p (c::u); omega
  have num:∀k:Token→Int→Option R,bX (c::u) ([48,49,50,51,52,53,54,55,56,57,43,45,46,101,69]:aj) (fun y6=>dE y6 (fun y7 y8=>bif (!y8)then (k (⟨0,([]:aj),⟨0,0⟩,0⟩:Token) 0)else (k (⟨3,y6,⟨y7.aB,y7.exp⟩,0⟩:Token) (y6.length:Int)))) =
    (if (AY ((c::u).takeWhile zn)).2 then k ⟨3,(c::u).takeWhile zn,(AY ((c::u).takeWhile zn)).1,0⟩ (((c::u).length - ((c::u).dropWhile zn).length:Nat):Int)else k ⟨0, [],⟨0,0⟩,0⟩ 0):=fun k=>by
   rw[MH _ _ (by rw[hlen]; omega) rfl (by decide)]
   have e:(c::u).takeWhile (fun x=>List.contains [48,49,50,51,52,53,54,55,56,57,43,45,46,101,69] x)=(c::u).takeWhile zn:=rfl
   have hl:=jb zn
   have hd:=CD zn (c::u)
   rw[e,OC _ (by omega)]
   have el:(c::u).length - ((c::u).dropWhile zn).length=((c::u).takeWhile zn).length:=by omega
   rw[el]
   cases (AY ((c::u).takeWhile zn)).2 <;> rfl
  have txt:∀k:Token→Int→Option R,eV (c::u) (fun FF FG JV=>bif (!JV)then (k (⟨0,([]:aj),⟨0,0⟩,0⟩:Token) 0)else (k (⟨2,FF,⟨0,0⟩,0⟩:Token) FG)) =
    match ZD (c::u)with|some (o,r)=>k ⟨2,o,⟨0,0⟩,0⟩ (((c::u).length - r.length:Nat):Int)|none=>k ⟨0, [],⟨0,0⟩,0⟩ 0:=fun k=>by
   rw[TA _ (by rw[hlen]; omega)]
   cases hu:ZD (c::u)with
   | none=>rfl
   | some p =>
    obtain ⟨o,r⟩:=p
    obtain ⟨_,hr,_⟩:=UT hu
    simp only[Bool.not_true,cond_false]
    rw[dx (by omega) (by omega)]
    congr 1
    omega
  have nam:∀k:Token→Int→Option R,bX (c::u) ([97,98,99,100,101,102,103,104,105,106,107,108,109,110,111,112,113,114,115,116,117,118,119,120,121,122]:aj) (fun A7=>bif (A7==([116,114,117,101]:aj))then (k (⟨4,A7,⟨0,0⟩,0⟩:Token) (A7.length:Int))else (bif (A7==([102,97,108,115,101]:aj))then (k (⟨4,A7,⟨0,0⟩,0⟩:Token) (A7.length:Int))else (bif (!(A7==([110,117,108,108]:aj)))then (k (⟨0,([]:aj),⟨0,0⟩,0⟩:Token) 0)else (k (⟨4,A7,⟨0,0⟩,0⟩:Token) (A7.length:Int))))) =
    (if (c::u).takeWhile yG=rL∨(c::u).takeWhile yG=kl∨(c::u).takeWhile yG=oz then k ⟨4,(c::u).takeWhile yG,⟨0,0⟩,0⟩ (((c::u).length - ((c::u).dropWhile yG).length:Nat):Int)else k ⟨0, [],⟨0,0⟩,0⟩ 0):=fun k=>by
   rw[MH _ _ (by rw[hlen]; omega) rfl (by decide)]
   have e:(c::u).takeWhile (fun x=>List.contains [97,98,99,100,101,102,103,104,105,106,107,108,109,110,111,112,113,114,115,116,117,118,119,120,121,122] x)=(c::u).takeWhile yG:=rfl
   have hd:=CD yG (c::u)
   have el:(c::u).length - ((c::u).dropWhile yG).length=((c::u).takeWhile yG).length:=by omega
   rw[e,el]
   generalize (c::u).takeWhile yG=w
   have eq:∀a:aj,(w==a)=decide (w=a):=fun a=>by
    by_cases h:w=a
    ·rw[bf h]; exact beq_iff_eq.2 h
    ·rw[cI h]; exact beq_eq_false_iff_ne.2 h
   rw[eq,eq,eq]
   by_cases h1:w=rL
   ·rw[bf (show w = [116,114,117,101]from h1),if_pos (.inl h1)]; rfl
   ·by_cases h2:w=kl
    ·rw[cI (show ¬w = [116,114,117,101]from h1),bf (show w = [102,97,108,115,101]from h2),if_pos (.inr (.inl h2))]; rfl
    ·by_cases h3:w=oz
     ·rw[cI (show ¬w = [116,114,117,101]from h1),cI (show ¬w = [102,97,108,115,101]from h2),bf (show w = [110,117,108,108]from h3),if_pos (.inr (.inr h3))]; rfl
     ·rw[cI (show ¬w = [116,114,117,101]from h1),cI (show ¬w = [102,97,108,115,101]from h2),cI (show ¬w = [110,117,108,108]from h3),if_neg (by rintro (h|h|h); exact h1 h; exact h2 h; exact h3 h)]; rfl
  have sgn1:∀k:Token→Int→Option R,cw (decide ((1:Int)≤((c::u:aj).length:Int))) (k (⟨1,(((c::u:aj).drop 0).take (1 - 0)),⟨0,0⟩,0⟩:Token) 1)=k ⟨1, [c],⟨0,0⟩,0⟩ (((c::u).length - u.length:Nat):Int):=fun k=>by
   have e1:(c::u).length - u.length=1:=by rw[hlen]; omega
   rw[aL (bf (by rw[hlen]; omega)),e1]
   rfl
  simp only[tokS]
  rw[q45,q34,l48,l57,hsg]
  by_cases h45:c.toNat=45
  ·rw[bf h45,cond_true,if_pos (.inl h45)]
   refine (num k).trans ?_
   split <;> rfl
  ·rw[cI h45,cond_false]
   have rest:¬(48≤c.toNat∧c.toNat≤57)→(bif decide (c.toNat=34)then eV (c::u) (fun FF FG JV=>bif (!JV)then (k (⟨0,([]:aj),⟨0,0⟩,0⟩:Token) 0)else (k (⟨2,FF,⟨0,0⟩,0⟩:Token) FG))else (bif Hd c then cw (decide ((1:Int)≤((c::u:aj).length:Int))) (k (⟨1,(((c::u:aj).drop 0).take (1 - 0)),⟨0,0⟩,0⟩:Token) 1)else bX (c::u) ([97,98,99,100,101,102,103,104,105,106,107,108,109,110,111,112,113,114,115,116,117,118,119,120,121,122]:aj) (fun A7=>bif (A7==([116,114,117,101]:aj))then (k (⟨4,A7,⟨0,0⟩,0⟩:Token) (A7.length:Int))else (bif (A7==([102,97,108,115,101]:aj))then (k (⟨4,A7,⟨0,0⟩,0⟩:Token) (A7.length:Int))else (bif (!(A7==([110,117,108,108]:aj)))then (k (⟨0,([]:aj),⟨0,0⟩,0⟩:Token) 0)else (k (⟨4,A7,⟨0,0⟩,0⟩:Token) (A7.length:Int))))))) =
     match (if c.toNat=45∨(48≤c.toNat∧c.toNat≤57)then (if (AY ((c::u).takeWhile zn)).2 then some (⟨3,(c::u).takeWhile zn,(AY ((c::u).takeWhile zn)).1,0⟩,(c::u).dropWhile zn)else none)else if c.toNat=34 then (match ZD (c::u)with|some (o,r)=>some (⟨2,o,⟨0,0⟩,0⟩,r)|none=>none)else if Hd c then some ((⟨1, [c],⟨0,0⟩,0⟩:Token),u)else if (c::u).takeWhile yG=rL∨(c::u).takeWhile yG=kl∨(c::u).takeWhile yG=oz then some (⟨4,(c::u).takeWhile yG,⟨0,0⟩,0⟩,(c::u).dropWhile yG)else none)with
     | some (t,r)=>k t (((c::u).length - r.length:Nat):Int)|none=>k ⟨0, [],⟨0,0⟩,0⟩ 0:=by
    intro hd
    rw[if_neg (by rintro (h|h); exact h45 h; exact hd h)]
    by_cases Gv:c.toNat=34
    ·rw[bf Gv,cond_true,if_pos Gv,txt]
     cases ZD (c::u)with
     | none=>rfl
     | some p=>rfl
    ·rw[cI Gv,cond_false,if_neg Gv]
     cases hs':Hd c with
     | true=>rw[cond_true,sgn1,if_pos rfl]
     | false =>
      rw[cond_false,nam,if_neg (show ¬(false=true) by simp)]
      split <;> rfl
   by_cases Xm:48≤c.toNat
   ·rw[bf Xm,cond_true]
    by_cases h57:c.toNat≤57
    ·rw[bf h57,cond_true,if_pos (.inr ⟨Xm,h57⟩)]
     refine (num k).trans ?_
     split <;> rfl
    ·rw[cI h57,cond_false]
     exact rest (fun h=>h57 h.2)
   ·rw[cI Xm,cond_false]
    exact rest (fun h=>Xm h.1)

theorem WM {R:Type} (s:aj) (hs:s.length≤20000) (e0:List Token→Int→Int→Option R) (e1:Int→Int→Option R) (hz:∀a b,e0 [] a b=e1 a b):∀(n p:Nat) (out:List Token),s.length - p<n→p≤s.length→out.length≤p →
  ct n s out (p:Int) e0 e1=e0 (vy n p (s.drop p) out).1 (vy n p (s.drop p) out).2.1 (vy n p (s.drop p) out).2.2:=by
 intro n
 induction n with
 | zero=>intro p out h; omega
 | succ n ih =>
  intro p out h1 h2 h3
  rw[ct]
  unfold xN
  have hsub:∀q:Nat,(s.drop q).take ((s.length:Int).toNat - q)=s.drop q:=fun q=>List.take_of_length_le (by rw[List.length_drop,Int.toNat_natCast]; exact Nat.le_refl _)
  have hl:=CD qp (s.drop p)
  rw[List.length_drop]at hl
  have hdl:(s.drop p).length=s.length - p:=List.length_drop
  rw[aL (by rw[bf (by omega),bf (by omega)]; rfl),aL (by rw[bf (by omega),bf (by omega)]; rfl),Int.toNat_natCast p,hsub,MH _ _ (by omega) rfl (by decide)]
  have eb:(s.drop p).takeWhile (fun x=>List.contains [32,9,10,13] x)=(s.drop p).takeWhile qp:=rfl
  rw[eb]
  have hdd:s.drop (p+((s.drop p).takeWhile qp).length)=(s.drop p).dropWhile qp:=by rw[←drop_tw qp (s.drop p),List.drop_drop]
  have hw:IntKind.i64.wrap ((p:Int)+(((s.drop p).takeWhile qp).length:Int))=((p+((s.drop p).takeWhile qp).length:Nat):Int):=by rw[dx (by omega) (by omega)]; omega
  rw[hw]
  simp only[vy]
  generalize hq:p+((s.drop p).takeWhile qp).length=q at *
  by_cases Z4:(s.drop p).dropWhile qp = []
  ·have hqe:q=s.length:=by rw[Z4]at hl; simp at hl; omega
   have Ug:(((q:Nat):Int)==(s.length:Int))=true:=by rw[hqe]; simp
   rw[Ug,cond_true,aL (bf (by omega)),if_pos Z4]
  ·have Hq:0<((s.drop p).dropWhile qp).length:=List.length_pos_iff.2 Z4
   have Ug:(((q:Nat):Int)==(s.length:Int))=false:=by rw[beq_eq_false_iff_ne]; omega
   rw[Ug,cond_false,aL (by rw[bf (by omega),bf (by omega)]; rfl),aL (by rw[bf (by omega),bf (by omega)]; rfl),Int.toNat_natCast q,hsub,hdd,next_ok _ (by omega) Z4,if_neg Z4]
   cases ht:tokS ((s.drop p).dropWhile qp)with
   | none =>
    have e0':((0:Int)==0)=true:=rfl
    simp only
    rw[e0',cond_true,hz]
   | some x =>
    obtain ⟨t,r⟩:=x
    obtain ⟨f1,f2⟩:=tokS_sfx ht
    have hn:((((s.drop p).dropWhile qp).length - r.length:Nat):Int)≠0:=by omega
    simp only
    rw[beq_eq_false_iff_ne.2 hn,cond_false,aL (bf (by omega))]
    have Vb:IntKind.i64.wrap (((q:Nat):Int)+((((s.drop p).dropWhile qp).length - r.length:Nat):Int))=((p+((s.drop p).length - r.length):Nat):Int):=by rw[dx (by omega) (by omega)]; omega
    rw[Vb]
    have hr:s.drop (p+((s.drop p).length - r.length))=r:=by
     have:=ZV (f1.trans (List.dropWhile_suffix qp))
     rw[←List.drop_drop,←this]
    have key:=ih (p+((s.drop p).length - r.length)) (out ++ [putT t ((q:Nat):Int)]) (by omega) (by omega) (by simp; omega)
    rw[hr]at key
    exact key

theorem scan_ok {R:Type} (s:aj) (k:List Token→Int→Int→Option R):km s k=k (s9 s).1 (s9 s).2.1 (s9 s).2.2:=by
 have e:km s k=Ai ct s k:=rfl
 rw[e]
 unfold Ai s9
 by_cases h:20000<s.length
 ·rw[bf (show (s.length:Int)>20000 by omega),cond_true,if_pos h]
 ·rw[cI (show ¬(s.length:Int)>20000 by omega),cond_false,if_neg h]
  have key:=WM (R:=R) s (by omega) (fun y8 y9 xD=>k y8 y9 xD) (fun vu yx=>k [] vu yx) (fun _ _=>rfl) (List.length s+List.length ([]:List Token)+Int.natAbs 0+64) 0 [] (by omega) (by omega) (by simp)
  rw[List.drop_zero,Mz _ (s.length+1) 0 s [] (by omega) (by omega)]at key
  exact key
end Go.Proofs.YtmlkkgfenfdndaaGreatDoor

/-
 Functions of the program as pure Lean functions, and the ties; printed by wip/tools/emit.py.
-/
set_option maxRecDepth 100000
namespace Go.Proofs.YtmlkkgfenfdndaaGreatDoor
open Go Go.aF

/-! ### (*humpyard/json.parser).value -/
abbrev aw (R:Type):Type:=Int→(List Token)→Int→(Json→(List Token)→Int→Option R)→Option R
abbrev ca:List ck := [.leaf (.ptr 0 0), .leaf (.int .i64)]
abbrev cb:List aN := [.cells [.sl .token, .int .i64]]
def bB {R:Type} (fn:aw R):ck.aH ca→aN.aH cb→(V→aG→Option R)→Option R:=fun x y k=>fn x.2.1 y.1.1 y.1.2.1 (fun q0 q1 q2=>k (.agg [.int .i64 q0.kind, .int .i64 q0.num.aB, .int .i64 q0.num.exp, .str q0.text, .sl .str q0.names .no, .sl .json q0.items .no]) [.cells [.sl .token q1 .no, .int .i64 q2]])
def ux {R:Type} (fn:aw R):aF.Spec R→aF.Spec R:=bj ca cb (bB fn)
/-! ### (*humpyard/json.parser).parts$1 -/
abbrev dP (R:Type):Type:=Bool→Int→Int→Int→aj→(List aj)→Nat→Int→(List Json)→(List Token)→Int→(Bool→Int→Int→Int→aj→(List aj)→Nat→Int→(List Token)→Int→(List Json)→Option R)→(Bool→Int→Int→Int→aj→(List aj)→Nat→Int→(List Json)→(List Token)→Int→Option R)→(Bool→Int→Int→Int→aj→(List aj)→Nat→Int→(List Token)→Int→(List Json)→Option R)→(Bool→Int→Int→Int→aj→(List aj)→Nat→Int→(List Json)→(List Token)→Int→Option R)→Option R
abbrev nC:List ck := [.leaf (.ptr 0 0), .leaf (.ptr 1 0), .leaf (.ptr 2 0), .leaf (.ptr 3 0)]
abbrev nD:List aN := [.cells [.bool], .cells [.int .i64, .int .i64, .int .i64, .str, .M8 .str 4, .row 5], .cells [.ptr 6 0], .cells [.int .i64], .tok, .row .json, .cells [.sl .token, .int .i64]]
def rO {R:Type} (fn:dP R):ck.aH nC→aN.aH nD→(V→aG→Option R)→Option R:=fun x y k=>fn y.1.1 y.2.1.1 y.2.1.2.1 y.2.1.2.2.1 y.2.1.2.2.2.1 y.2.1.2.2.2.2.1 y.2.1.2.2.2.2.2.1 y.2.2.2.1.1 y.2.2.2.2.2.1 y.2.2.2.2.2.2.1.1 y.2.2.2.2.2.2.1.2.1 (fun q0 q1 q2 q3 q4 q5 q6 q7 q8 q9 WN=>k (.tuple []) [.cells [.bool q0], .cells [.int .i64 q1, .int .i64 q2, .int .i64 q3, .str q4, .sl .str q5 (.own 7), .row 8 q6], .cells [.ptr 6 0], .cells [.int .i64 q7], .dead, .dead, .cells [.sl .token q8 .no, .int .i64 q9], .tok, .row .json WN]) (fun q0 q1 q2 q3 q4 q5 q6 q7 q8 q9 WN=>k (.tuple []) [.cells [.bool q0], .cells [.int .i64 q1, .int .i64 q2, .int .i64 q3, .str q4, .sl .str q5 (.own 7), .row 5 q6], .cells [.ptr 6 0], .cells [.int .i64 q7], .dead, .row .json q8, .cells [.sl .token q9 .no, .int .i64 WN], .tok]) (fun q0 q1 q2 q3 q4 q5 q6 q7 q8 q9 WN=>k (.tuple []) [.cells [.bool q0], .cells [.int .i64 q1, .int .i64 q2, .int .i64 q3, .str q4, .sl .str q5 (.own 4), .row 7 q6], .cells [.ptr 6 0], .cells [.int .i64 q7], .tok, .dead, .cells [.sl .token q8 .no, .int .i64 q9], .row .json WN]) (fun q0 q1 q2 q3 q4 q5 q6 q7 q8 q9 WN=>k (.tuple []) [.cells [.bool q0], .cells [.int .i64 q1, .int .i64 q2, .int .i64 q3, .str q4, .sl .str q5 (.own 4), .row 5 q6], .cells [.ptr 6 0], .cells [.int .i64 q7], .tok, .row .json q8, .cells [.sl .token q9 .no, .int .i64 WN]])
def su {R:Type} (fn:dP R):aF.Spec R→aF.Spec R:=bj nC nD (rO fn)
def sv {R:Type} (cG:gv R) (af:aw R):List (uI R) := [(90,false,(vC cG aZ)),(42,false,(bj ca cb (bB af) aZ))]
theorem zp {R:Type} (af:aw R) (bE:aF.Spec.Ok Tryz.prog 42 (bj ca cb (bB af) aZ)):eU (R:=R) Tryz.prog (sv cG af) := .f (AZ R _ (aK _)) rfl <| .f bE rfl <| .n
def ei {R:Type} (cG:gv R) (af:aw R) (x1:Bool) (x2:Int) (x3:Int) (x4:Int) (x5:aj) (x6:List aj) (x7:Nat) (x8:Int) (x9:List Json) (BD:List Token) (WO:Int) (k0:Bool→Int→Int→Int→aj→(List aj)→Nat→Int→(List Token)→Int→(List Json)→Option R) (k1:Bool→Int→Int→Int→aj→(List aj)→Nat→Int→(List Json)→(List Token)→Int→Option R) (k2:Bool→Int→Int→Int→aj→(List aj)→Nat→Int→(List Token)→Int→(List Json)→Option R) (k3:Bool→Int→Int→Int→aj→(List aj)→Nat→Int→(List Json)→(List Token)→Int→Option R):Option R :=
 bif x1 then (cG x6 BD WO (fun yx DS zA=>cw (decide ((x6.length+1)*16≤140737488355328)) (bif (zA==0)then (af (IntKind.i64.wrap (x8+1)) DS zA (fun FF FG JV=>cw (decide ((x9.length+1)*88≤140737488355328)) (cw (decide ((0:Int)≤(x7:Int))&&decide ((x7:Int)<(x9.length+1))) (cw (decide ((x7:Int).toNat<(x9++([(⟨0,⟨0,0⟩,([]:aj),([]:List aj),([]:List Json)⟩:Json)]:List Json)).length)) (k0 x1 x2 x3 x4 x5 (x6++([yx]:List aj)) (x9.length+1) x8 FG JV ((x9++([(⟨0,⟨0,0⟩,([]:aj),([]:List aj),([]:List Json)⟩:Json)]:List Json)).set ((x7:Int).toNat) (⟨FF.kind,⟨FF.num.aB,FF.num.exp⟩,FF.text,FF.names,FF.items⟩:Json)))))))else (k1 x1 x2 x3 x4 x5 (x6++([yx]:List aj)) x7 x8 x9 DS zA))))else (bif (WO==0)then (af (IntKind.i64.wrap (x8+1)) BD WO (fun Hj PS Nb=>cw (decide ((x9.length+1)*88≤140737488355328)) (cw (decide ((0:Int)≤(x7:Int))&&decide ((x7:Int)<(x9.length+1))) (cw (decide ((x7:Int).toNat<(x9++([(⟨0,⟨0,0⟩,([]:aj),([]:List aj),([]:List Json)⟩:Json)]:List Json)).length)) (k2 x1 x2 x3 x4 x5 x6 (x9.length+1) x8 PS Nb ((x9++([(⟨0,⟨0,0⟩,([]:aj),([]:List aj),([]:List Json)⟩:Json)]:List Json)).set ((x7:Int).toNat) (⟨Hj.kind,⟨Hj.num.aB,Hj.num.exp⟩,Hj.text,Hj.names,Hj.items⟩:Json)))))))else (k3 x1 x2 x3 x4 x5 x6 x7 x8 x9 BD WO))
def aY {R:Type} (af:aw R):dP R:=fun x1 x2 x3 x4 x5 x6 x7 x8 x9 BD WO k0 k1 k2 k3=>ei cG af x1 x2 x3 x4 x5 x6 x7 x8 x9 BD WO k0 k1 k2 k3
theorem Aj {R:Type} (cG:gv R) (af:aw R):gR (R:=R) (tt.mode [.json]) (sv cG af) xw false Tryz.f89 (bb Tryz.f89) nC nD (rO (ei cG af)):=fun x y k=>by kernel_rfl
theorem yL (R:Type) (af:aw R) (bE:aF.Spec.Ok Tryz.prog 42 (bj ca cb (bB af) aZ)):rR Tryz.prog 89 (su (aY af)):=cQ (TT.mode [.json]) mixed (zp af bE) rfl rfl rfl rfl dV (Aj cG af)

/-! ### (*humpyard/json.parser).list -/
abbrev gw (R:Type):Type:=aj→(List Token)→Int→Bool→Int→Int→Int→aj→Int→((List Token)→Int→Bool→Int→Int→Int→aj→Int→Option R)→((List Token)→Int→Bool→Int→Int→Int→aj→(List aj)→Nat→Int→(List Json)→Option R)→Option R
abbrev pU:List ck := [.leaf (.ptr 0 0), .leaf (.str), .func 89 [] [.ptr 1 0, .ptr 2 0, .ptr 3 0, .ptr 4 0]]
abbrev pV:List aN := [.cells [.sl .token, .int .i64], .cells [.bool], .cells [.int .i64, .int .i64, .int .i64, .str, .cM, .cM], .cells [.ptr 0 0], .cells [.int .i64]]
def uy {R:Type} (fn:gw R):ck.aH pU→aN.aH pV→(V→aG→Option R)→Option R:=fun x y k=>fn x.2.1 y.1.1 y.1.2.1 y.2.1.1 y.2.2.1.1 y.2.2.1.2.1 y.2.2.1.2.2.1 y.2.2.1.2.2.2.1 y.2.2.2.2.1.1 (fun q0 q1 q2 q3 q4 q5 q6 q7=>k (.tuple []) [.cells [.sl .token q0 .no, .int .i64 q1], .cells [.bool q2], .cells [.int .i64 q3, .int .i64 q4, .int .i64 q5, .str q6, .cM, .cM], .cells [.ptr 0 0], .cells [.int .i64 q7]]) (fun q0 q1 q2 q3 q4 q5 q6 q7 q8 q9 WN=>k (.tuple []) [.cells [.sl .token q0 .no, .int .i64 q1], .cells [.bool q2], .cells [.int .i64 q3, .int .i64 q4, .int .i64 q5, .str q6, .sl .str q7 (.own 5), .row 6 q8], .cells [.ptr 0 0], .cells [.int .i64 q9], .tok, .row .json WN])
def vF {R:Type} (fn:gw R):aF.Spec R→aF.Spec R:=bj pU pV (uy fn)
abbrev fi (R:Type):Type:=Nat→aj→(List Token)→Int→Bool→Int→Int→Int→aj→(List aj)→Nat→Int→(List Json)→((List Token)→Int→Bool→Int→Int→Int→aj→(List aj)→Nat→Int→(List Json)→Option R)→Option R
def gU {R:Type} (ak:bI R) (aY:dP R) (aq:cT R):List (uI R) := [(43,false,(jF ak aZ)),(89,false,(su aY aZ)),(122,false,(pO aq aZ))]
theorem Bj {R:Type} (af:aw R) (bE:aF.Spec.Ok Tryz.prog 42 (bj ca cb (bB af) aZ)):eU (R:=R) Tryz.prog (gU ak (aY af) aq) := .f (kn R _ (aK _)) rfl <| .f (yL R af bE _ (aK _)) rfl <| .f (ss R _ (aK _)) rfl <| .n
def mG {R:Type} (ak:bI R) (aY:dP R) (aq:cT R) (fC:aj→(List Token)→Int→Bool→Int→Int→Int→aj→(List aj)→Nat→Int→(List Json)→Option R) (TO:aj) (UE:List Token) (pc:Int) (sA:Bool) (lX:Int) (sB:Int) (Bz:Int) (zG:aj) (x21:List aj) (x22:Nat) (x23:Int) (Xi:List Json) (e0:(List Token)→Int→Bool→Int→Int→Int→aj→(List aj)→Nat→Int→(List Json)→Option R):Option R :=
 aY sA lX sB Bz zG x21 x22 x23 Xi UE pc (fun IS Jr IT IU NC M9 PN Na y33 y34 y35=>bif (y34 != 0)then (e0 y33 y34 IS Jr IT IU NC M9 PN Na y35)else (aq TO y33 y34 (fun y69 y70 y71=>bif y69 then (e0 y70 y71 IS Jr IT IU NC M9 PN Na y35)else (aq ([44]:aj) y70 y71 (fun y75 y76 y77=>bif (!y75)then (ak 40 y76 y77 (fun y78 y79=>e0 y78 y79 IS Jr IT IU NC M9 PN Na y35))else (fC TO y76 y77 IS Jr IT IU NC M9 PN Na y35)))))) (fun Xd Tu Wp Xe Xf Xg Ov Rs Rt Xh Wq=>bif (Wq != 0)then (e0 Xh Wq Xd Tu Wp Xe Xf Xg Ov Rs Rt)else (aq TO Xh Wq (fun y80 y81 y82=>bif y80 then (e0 y81 y82 Xd Tu Wp Xe Xf Xg Ov Rs Rt)else (aq ([44]:aj) y81 y82 (fun y86 y87 y88=>bif (!y86)then (ak 40 y87 y88 (fun y89 y90=>e0 y89 y90 Xd Tu Wp Xe Xf Xg Ov Rs Rt))else (fC TO y87 y88 Xd Tu Wp Xe Xf Xg Ov Rs Rt)))))) (fun NI Xk Zo Zp Zq Xl Zr Zs y55 Wr Ws=>bif (Wr != 0)then (e0 y55 Wr NI Xk Zo Zp Zq Xl Zr Zs Ws)else (aq TO y55 Wr (fun y91 y92 y93=>bif y91 then (e0 y92 y93 NI Xk Zo Zp Zq Xl Zr Zs Ws)else (aq ([44]:aj) y92 y93 (fun y97 y98 y99=>bif (!y97)then (ak 40 y98 y99 (fun y100 y101=>e0 y100 y101 NI Xk Zo Zp Zq Xl Zr Zs Ws))else (fC TO y98 y99 NI Xk Zo Zp Zq Xl Zr Zs Ws)))))) (fun Wu Tv UB y61 y62 y63 y64 y65 y66 y67 y68=>bif (y68 != 0)then (e0 y67 y68 Wu Tv UB y61 y62 y63 y64 y65 y66)else (aq TO y67 y68 (fun y102 y103 y104=>bif y102 then (e0 y103 y104 Wu Tv UB y61 y62 y63 y64 y65 y66)else (aq ([44]:aj) y103 y104 (fun y108 y109 y110=>bif (!y108)then (ak 40 y109 y110 (fun y111 y112=>e0 y111 y112 Wu Tv UB y61 y62 y63 y64 y65 y66))else (fC TO y109 y110 Wu Tv UB y61 y62 y63 y64 y65 y66))))))
def aI {R:Type} (af:aw R):fi R
 | 0,_,_,_,_,_,_,_,_,_,_,_,_,_=>none
 | n+1,kN,kO,lN,th,BT,Dk,Ks,Kt,Ku,Kv,zh,Fp,e0=>mG ak (aY af) aq (fun kN kO lN th BT Dk Ks Kt Ku Kv zh Fp=>aI af n kN kO lN th BT Dk Ks Kt Ku Kv zh Fp e0) kN kO lN th BT Dk Ks Kt Ku Kv zh Fp e0
def jP:Hint := { live := [0,1,2],own := [],rows := [],cells := [(2,4, .str,false),(2,5, .json,true)],drop := [],out := [] }
abbrev dQ:Type:=aj × (List Token) × Int × Bool × Int × Int × Int × aj × (List aj) × Nat × Int × (List Json)
def iS:dQ→St:=fun d=>⟨.ptr 0 0 :: .str d.1 :: .func 89 [] [.ptr 1 0, .ptr 2 0, .ptr 3 0, .ptr 4 0]::U 23 ([]), [.cells [.sl .token d.2.1 .no, .int .i64 d.2.2.1], .cells [.bool d.2.2.2.1], .cells [.int .i64 d.2.2.2.2.1, .int .i64 d.2.2.2.2.2.1, .int .i64 d.2.2.2.2.2.2.1, .str d.2.2.2.2.2.2.2.1, .sl .str d.2.2.2.2.2.2.2.2.1 (.own 5), .row 6 d.2.2.2.2.2.2.2.2.2.1], .cells [.ptr 0 0], .cells [.int .i64 d.2.2.2.2.2.2.2.2.2.2.1], .tok, .row .json d.2.2.2.2.2.2.2.2.2.2.2]⟩
def mn {R:Type} (K:Ex→St→Option R) (q0:List Token) (q1:Int) (q2:Bool) (q3:Int) (q4:Int) (q5:Int) (q6:aj) (q7:List aj) (q8:Nat) (q9:Int) (WN:List Json):Option R:=K (.ret) ⟨U 26 ([]), [.cells [.sl .token q0 .no, .int .i64 q1], .cells [.bool q2], .cells [.int .i64 q3, .int .i64 q4, .int .i64 q5, .str q6, .sl .str q7 (.own 5), .row 6 q8], .cells [.ptr 0 0], .cells [.int .i64 q9], .tok, .row .json WN]⟩
def mH {R:Type} (ak:bI R) (aY:dP R) (aq:cT R) (K:Ex→St→Option R) (rc:dQ→Option R) (d:dQ):Option R:=mG ak aY aq (fun z0 z1 z2 z3 z4 z5 z6 z7 z8 z9 PT vb=>rc (z0,z1,z2,z3,z4,z5,z6,z7,z8,z9,PT,vb)) d.1 d.2.1 d.2.2.1 d.2.2.2.1 d.2.2.2.2.1 d.2.2.2.2.2.1 d.2.2.2.2.2.2.1 d.2.2.2.2.2.2.2.1 d.2.2.2.2.2.2.2.2.1 d.2.2.2.2.2.2.2.2.2.1 d.2.2.2.2.2.2.2.2.2.2.1 d.2.2.2.2.2.2.2.2.2.2.2 (mn K)
def fG {R:Type} (af:aw R) (K:Ex→St→Option R) (n:Nat) (d:dQ):Option R:=aI af n d.1 d.2.1 d.2.2.1 d.2.2.2.1 d.2.2.2.2.1 d.2.2.2.2.2.1 d.2.2.2.2.2.2.1 d.2.2.2.2.2.2.2.1 d.2.2.2.2.2.2.2.2.1 d.2.2.2.2.2.2.2.2.2.1 d.2.2.2.2.2.2.2.2.2.2.1 d.2.2.2.2.2.2.2.2.2.2.2 (mn K)
abbrev dR:List ck := .leaf (.ptr 0 0) :: .leaf (.str) :: .func 89 [] [.ptr 1 0, .ptr 2 0, .ptr 3 0, .ptr 4 0]::PU 23 ([])
abbrev dS:List aN := [.cells [.sl .token, .int .i64], .cells [.bool], .cells [.int .i64, .int .i64, .int .i64, .str, .M8 .str 5, .row 6], .cells [.ptr 0 0], .cells [.int .i64], .tok, .row .json]
def mI (x:ck.aH dR) (y:aN.aH dS):Nat:=(List.length x.2.1+List.length y.1.1+Int.natAbs y.1.2.1+Int.natAbs y.2.2.1.1+Int.natAbs y.2.2.1.2.1+Int.natAbs y.2.2.1.2.2.1+List.length y.2.2.1.2.2.2.1+List.length y.2.2.1.2.2.2.2.1+Int.natAbs y.2.2.2.2.1.1+List.length y.2.2.2.2.2.2.1+64)
def mJ (x:ck.aH dR) (y:aN.aH dS):dQ:=(x.2.1,y.1.1,y.1.2.1,y.2.1.1,y.2.2.1.1,y.2.2.1.2.1,y.2.2.1.2.2.1,y.2.2.1.2.2.2.1,y.2.2.1.2.2.2.2.1,y.2.2.1.2.2.2.2.2.1,y.2.2.2.2.1.1,y.2.2.2.2.2.2.1)
def mo {R:Type} (L:fi R):ck.aH dR→aN.aH dS→(Ex→St→Option R)→Option R:=fun x y K=>L (mI x y) x.2.1 y.1.1 y.1.2.1 y.2.1.1 y.2.2.1.1 y.2.2.1.2.1 y.2.2.1.2.2.1 y.2.2.1.2.2.2.1 y.2.2.1.2.2.2.2.1 y.2.2.1.2.2.2.2.2.1 y.2.2.2.2.1.1 y.2.2.2.2.2.2.1 (mn K)
def jG (R:Type) (aI:fi R):Nat→Option (Hint × eJ R):=fun i=>match i with
 | 1=>some (jP,(fQ dR dS (mo aI) pr))
 | _=>none

theorem xS {R:Type} (ak:bI R) (aY:dP R) (aq:cT R) (aI:fi R) (K:Ex→St→Option R) (rc:St→Option R) (d:dQ):roundOf (tt.mode [.json]) (fV (gU ak aY aq)) (jG R aI) 5 ((br (bb Tryz.f88)).getD 0 .skip) jP (iS d) rc K=mH ak aY aq K (fun d=>rc (iS d)) d:=by kernel_rfl
theorem wO {R:Type} (af:aw R) (K:Ex→St→Option R) (n:Nat) (d:dQ):fG af K (n+1) d=mH ak (aY af) aq K (fG af K n) d:=by kernel_rfl
theorem wP {R:Type} (af:aw R) (K:Ex→St→Option R) (d:dQ):fG af K 0 d=none:=by kernel_rfl
theorem xT (x:ck.aH dR) (y:aN.aH dS):(⟨ck.cz dR x,aN.cz dS y⟩:St)=iS (mJ x y):=by kernel_rfl
theorem xU {R:Type} (af:aw R) (x:ck.aH dR) (y:aN.aH dS) (K:Ex→St→Option R):mo (aI af) x y K=fG af K (mI x y) (mJ x y):=by kernel_rfl
theorem zq {R:Type} (af:aw R) (other:eJ R) (ho:oa (tt.mode [.json]) (fV (gU ak (aY af) aq)) (jG R (aI af)) 5 ((br (bb Tryz.f88)).getD 0 .skip) jP other):oa (tt.mode [.json]) (fV (gU ak (aY af) aq)) (jG R (aI af)) 5 ((br (bb Tryz.f88)).getD 0 .skip) jP (fQ dR dS (mo (aI af)) other) :=
 gd (A:=fG af) ho (jt iS (mH ak (aY af) aq) (fG af) (wP af) (xS ak (aY af) aq (aI af)) (wO af)) mI mJ xT (xU af)

def vG {R:Type} (aq:cT R) (aI:fi R) (x1:aj) (x2:List Token) (x3:Int) (x4:Bool) (x5:Int) (x6:Int) (x7:Int) (x8:aj) (x9:Int) (k0:(List Token)→Int→Bool→Int→Int→Int→aj→Int→Option R) (k1:(List Token)→Int→Bool→Int→Int→Int→aj→(List aj)→Nat→Int→(List Json)→Option R):Option R :=
 aq x1 x2 x3 (fun xD vu yx=>bif xD then (k0 vu yx x4 x5 x6 x7 x8 x9)else (aI (List.length x1+List.length vu+Int.natAbs yx+Int.natAbs x5+Int.natAbs x6+Int.natAbs x7+List.length x8+List.length ([]:List aj)+Int.natAbs x9+List.length ([]:List Json)+64) x1 vu yx x4 x5 x6 x7 x8 ([]:List aj) 0 x9 ([]:List Json) (fun y113 y114 y115 y116 y117 y118 y119 y120 y121 y122 y123=>k1 y113 y114 y115 y116 y117 y118 y119 y120 y121 y122 y123)))
def bH {R:Type} (af:aw R):gw R:=fun x1 x2 x3 x4 x5 x6 x7 x8 x9 k0 k1=>vG aq (aI af) x1 x2 x3 x4 x5 x6 x7 x8 x9 k0 k1
theorem B2 {R:Type} (ak:bI R) (aY:dP R) (aq:cT R) (aI:fi R):gR (R:=R) (tt.mode [.json]) (gU ak aY aq) (jG R aI) false Tryz.f88 (bb Tryz.f88) pU pV (uy (vG aq aI)):=fun x y k=>by kernel_rfl
theorem Ak (R:Type) (af:aw R) (bE:aF.Spec.Ok Tryz.prog 42 (bj ca cb (bB af) aZ)):∀a∈br (bb Tryz.f88),lM (tt.mode [.json]) (fV (gU ak (aY af) aq)) (jG R (aI af)) 5 a:=by
 refine kZ 1 (by kernel_rfl) fun i hi => ?_
 match i,hi with
 | 0,_=>exact fm (by kernel_rfl) (zq af _ ia)
 | n+1,hi=>omega
theorem A0 (R:Type) (af:aw R) (bE:aF.Spec.Ok Tryz.prog 42 (bj ca cb (bB af) aZ)):rR Tryz.prog 88 (vF (bH af)):=cQ (TT.mode [.json]) mixed (Bj af bE) rfl rfl rfl rfl (Ak R af bE) (B2 ak (aY af) aq (aI af))

/-! ### (*humpyard/json.parser).parts -/
abbrev gb (R:Type):Type:=Bool→Int→(List Token)→Int→(Json→(List Token)→Int→Option R)→Option R
abbrev oX:List ck := [.leaf (.ptr 0 0), .leaf (.bool), .leaf (.int .i64)]
abbrev oY:List aN := [.cells [.sl .token, .int .i64]]
def ta {R:Type} (fn:gb R):ck.aH oX→aN.aH oY→(V→aG→Option R)→Option R:=fun x y k=>fn x.2.1 x.2.2.1 y.1.1 y.1.2.1 (fun q0 q1 q2=>k (.agg [.int .i64 q0.kind, .int .i64 q0.num.aB, .int .i64 q0.num.exp, .str q0.text, .sl .str q0.names .no, .sl .json q0.items .no]) [.cells [.sl .token q1 .no, .int .i64 q2]])
def uz {R:Type} (fn:gb R):aF.Spec R→aF.Spec R:=bj oX oY (ta fn)
def uA {R:Type} (bH:gw R):List (uI R) := [(88,false,(vF bH aZ))]
theorem A1 {R:Type} (af:aw R) (bE:aF.Spec.Ok Tryz.prog 42 (bj ca cb (bB af) aZ)):eU (R:=R) Tryz.prog (uA (bH af)) := .f (A0 R af bE _ (aK _)) rfl <| .n
def uB {R:Type} (bH:gw R) (x1:Bool) (x2:Int) (x3:List Token) (x4:Int) (k0:Json→(List Token)→Int→Option R):Option R :=
 bif x1 then (bH ([125]:aj) x3 x4 x1 7 0 0 ([]:aj) x2 (fun y5 y6 y7 y8 y9 xD vu yx=>k0 (⟨y8,⟨y9,xD⟩,vu,([]:List aj),([]:List Json)⟩:Json) y5 y6) (fun DS zA FF FG JV Hj PS Nb A7 Tr Rn=>k0 (⟨FG,⟨JV,Hj⟩,PS,Nb,Rn⟩:Json) DS zA))else (bH ([93]:aj) x3 x4 x1 6 0 0 ([]:aj) x2 (fun y24 IS Jr IT IU NC M9 PN=>k0 (⟨IT,⟨IU,NC⟩,M9,([]:List aj),([]:List Json)⟩:Json) y24 IS) (fun Na y33 y34 y35 Xd Tu Wp Xe Xf Xg Ov=>k0 (⟨y35,⟨Xd,Tu⟩,Wp,Xe,Ov⟩:Json) Na y33))
def cv {R:Type} (af:aw R):gb R:=fun x1 x2 x3 x4 k0=>uB (bH af) x1 x2 x3 x4 k0
theorem Bk {R:Type} (bH:gw R):gR (R:=R) (tt.mode [.json]) (uA bH) xw false Tryz.f64 (bb Tryz.f64) oX oY (ta (uB bH)):=fun x y k=>by kernel_rfl
theorem Al (R:Type) (af:aw R) (bE:aF.Spec.Ok Tryz.prog 42 (bj ca cb (bB af) aZ)):rR Tryz.prog 64 (uz (cv af)):=cQ (TT.mode [.json]) mixed (A1 af bE) rfl rfl rfl rfl dV (Bk (bH af))

def uC {R:Type} (ak:bI R) (cv:gb R):List (uI R) := [(43,false,(jF ak aZ)),(64,false,(uz cv aZ))]
theorem A2 {R:Type} (af:aw R) (bE:aF.Spec.Ok Tryz.prog 42 (bj ca cb (bB af) aZ)):eU (R:=R) Tryz.prog (uC ak (cv af)) := .f (kn R _ (aK _)) rfl <| .f (Al R af bE _ (aK _)) rfl <| .n
def uD {R:Type} (ak:bI R) (cv:gb R) (x1:Int) (x2:List Token) (x3:Int) (k0:Json→(List Token)→Int→Option R):Option R :=
 cw (decide ((0:Int)<x2.length)) (let j20:=fun (z4:Bool)=>let j19:=fun (z9:List Token) (PT:Int)=>bif (PT != 0)then (k0 (⟨0,⟨0,0⟩,([]:aj),([]:List aj),([]:List Json)⟩:Json) z9 PT)else (cw (decide ((1:Int)≤z9.length)) (let j18:=bif ((x2.getD 0 (Ty.bY .token)).kind==3)then (k0 (⟨4,⟨(x2.getD 0 (Ty.bY .token)).num.aB,(x2.getD 0 (Ty.bY .token)).num.exp⟩,([]:aj),([]:List aj),([]:List Json)⟩:Json) (z9.drop 1) PT)else (k0 (⟨5,⟨0,0⟩,(x2.getD 0 (Ty.bY .token)).text,([]:List aj),([]:List Json)⟩:Json) (z9.drop 1) PT); let j17:=fun (vb:Bool)=>bif vb then (bif ((x2.getD 0 (Ty.bY .token)).kind==1)then (cv ((x2.getD 0 (Ty.bY .token)).text==([123]:aj)) x1 (z9.drop 1) PT (fun yx DS zA=>k0 (⟨yx.kind,⟨yx.num.aB,yx.num.exp⟩,yx.text,yx.names,yx.items⟩:Json) DS zA))else (j18))else (let j16:=fun (z15:Bool)=>bif z15 then (bif ((x2.getD 0 (Ty.bY .token)).kind==4)then (k0 (⟨((mw .str (.int .i64) ((x2.getD 0 (Ty.bY .token)).text) ([(([110,117,108,108]:aj),1),(([102,97,108,115,101]:aj),2),(([116,114,117,101]:aj),3)]:List (aj × Int))):Int),⟨0,0⟩,([]:aj),([]:List aj),([]:List Json)⟩:Json) (z9.drop 1) PT)else (j18))else (j18); bif ((x2.getD 0 (Ty.bY .token)).text==([110,117,108,108]:aj))then (j16 ((x2.getD 0 (Ty.bY .token)).text==([110,117,108,108]:aj)))else (bif ((x2.getD 0 (Ty.bY .token)).text==([102,97,108,115,101]:aj))then (j16 ((x2.getD 0 (Ty.bY .token)).text==([102,97,108,115,101]:aj)))else (j16 ((x2.getD 0 (Ty.bY .token)).text==([116,114,117,101]:aj))))); bif ((x2.getD 0 (Ty.bY .token)).text==([91]:aj))then (j17 ((x2.getD 0 (Ty.bY .token)).text==([91]:aj)))else (j17 ((x2.getD 0 (Ty.bY .token)).text==([123]:aj))))); bif (!z4)then (ak 40 x2 x3 (fun y5 y6=>j19 y5 y6))else (bif (decide (x1>(16:Int)))then (ak 41 x2 x3 (fun y7 y8=>j19 y7 y8))else (j19 x2 x3)); bif ((x2.getD 0 (Ty.bY .token)).kind==2)then (j20 true)else (bif ((x2.getD 0 (Ty.bY .token)).kind==3)then (j20 true)else (bif ((x2.getD 0 (Ty.bY .token)).kind==4)then (j20 true)else (bif ((x2.getD 0 (Ty.bY .token)).kind==1)then (bif ((x2.getD 0 (Ty.bY .token)).text==([91]:aj))then (j20 true)else (j20 ((x2.getD 0 (Ty.bY .token)).text==([123]:aj))))else (j20 false)))))
def oZ {R:Type} (af:aw R):aw R:=fun x1 x2 x3 k0=>uD ak (cv af) x1 x2 x3 k0
theorem Bl {R:Type} (ak:bI R) (cv:gb R):gR (R:=R) (tt.mode [.json]) (uC ak cv) xw false Tryz.f42 (bb Tryz.f42) ca cb (bB (uD ak cv)):=fun x y k=>by kernel_rfl
theorem zt (R:Type) (af:aw R) (bE:aF.Spec.Ok Tryz.prog 42 (bj ca cb (bB af) aZ)):rR Tryz.prog 42 (ux (oZ af)):=cQ (TT.mode [.json]) mixed (A2 af bE) rfl rfl rfl rfl dV (Bl ak (cv af))
def bx {R:Type}:Nat→aw R
 | 0,_,_,_,_=>none
 | n+1,kN,kO,lN,k0'=>oZ (bx n) kN kO lN k0'
theorem J1 {R:Type} (n:Nat):bx (R:=R) (n+1)=oZ (bx n):=by kernel_rfl
theorem Am (R:Type):∀n,aF.Spec.Ok Tryz.prog 42 (bj ca cb (bB (bx (R:=R) n)) aZ) :=
 vp (run:=fun n=>bB (bx (R:=R) n)) (fun x y k=>by kernel_rfl) fun n hyp=>zt R (bx n) hyp aZ (aK _)
def cK {R:Type}:aw R:=fun x1 x2 x3 k0=>bx 40 x1 x2 x3 k0
theorem An (R:Type):bB (R:=R) cK=fun x y k=>bB (bx 40) x y k:=by kernel_rfl
theorem Ao (R:Type) (other:aF.Spec R) (ho:aF.Spec.Ok Tryz.prog 42 other):aF.Spec.Ok Tryz.prog 42 (bj ca cb (bB cK) other) :=
 AK (Cl (run:=fun n=>bB (bx (R:=R) n)) (fun x y=>40) ho (Am R)) (An R)

end Go.Proofs.YtmlkkgfenfdndaaGreatDoor
end
